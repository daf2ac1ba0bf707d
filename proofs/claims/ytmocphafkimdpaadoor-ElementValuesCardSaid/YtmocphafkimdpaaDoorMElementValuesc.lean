/- A part of the proof of ElementValues's card: 'ElementValues' answers true for every input (the conditions: those of the given statement alone). Merged by a program (wip/merge.py) out of: GEv, Pf65, Pf77, Pf34, GAmt, GIdx, Pf78, Pf79, Pf80, Pf37, Pf36, GSums, GShelf. -/
import Derived.Test.YtmocphafkimdpaaDoorMElementValuesa
import Derived.WalkKit
import Derived.BigQuiet
import Derived.Lib.Hide
import Derived.Deep.LoopGhost
import Derived.Shelf.Small.Bits
import Derived.Shelf.Strconv.Itoa0
import Derived.Shelf.Strconv.Itoa1
import Derived.Shelf.LaysM
import Derived.Shelf.Strconv.Itoa2
import Derived.Shelf.Bits.Mul64
import Derived.Test.YtmocphafkimdpaaDoorProg

/- From some number of rounds on: how the printed functions, which count their rounds, are told without a count. -/
namespace Go.Proofs.YtmocphafkimdpaaDoor.P
open Go.RowKit Go.Proofs.YtmocphafkimdpaaDoorW.PrintWords Go.Proofs.YtmocphafkimdpaaDoorW.PrintLast Go.Proofs.YtmocphafkimdpaaDoorW.PrintMore

def Ev {α : Type} (f : Nat → Option α) (r : α) : Prop := ∃ k0, ∀ k, k0 ≤ k → f k = some r

theorem Ev.now {α : Type} {r : α} : Ev (fun _ => some r) r := ⟨0, fun _ _ => rfl⟩
theorem Ev.const {α : Type} {o : Option α} {r : α} (h : o = some r) : Ev (fun _ => o) r := ⟨0, fun _ _ => h⟩
theorem Ev.shift {α : Type} {f g : Nat → Option α} {r : α} (e : ∀ k, f (k + 1) = g k) (h : Ev g r) : Ev f r := by
  obtain ⟨k0, h⟩ := h
  refine ⟨k0 + 1, fun k hk => ?_⟩
  obtain ⟨k, rfl⟩ : ∃ m, k = m + 1 := ⟨k - 1, by omega⟩
  rw [e, h k (by omega)]
theorem Ev.bind {α β : Type} {f : Nat → Option α} {g : Nat → α → Option β} {a : α} {r : β} (h : Ev f a) (h2 : Ev (fun k => g k a) r) : Ev (fun k => (f k).bind (g k)) r := by
  obtain ⟨k0, h⟩ := h
  obtain ⟨k1, h2⟩ := h2
  refine ⟨max k0 k1, fun k hk => ?_⟩
  show (f k).bind (g k) = some r
  rw [h k (by omega), Option.bind_some]
  exact h2 k (by omega)
theorem Ev.bindc {α β : Type} {o : Option α} {g : Nat → α → Option β} {a : α} {r : β} (h : o = some a) (h2 : Ev (fun k => g k a) r) : Ev (fun k => o.bind (g k)) r := Ev.bind (Ev.const h) h2
theorem Ev.pos {α : Type} {c : Prop} [Decidable c] {f g : Nat → Option α} {r : α} (hc : c) (h : Ev f r) : Ev (fun k => if c then f k else g k) r := by
  obtain ⟨k0, h⟩ := h
  exact ⟨k0, fun k hk => by show (if c then f k else g k) = some r; rw [if_pos hc]; exact h k hk⟩
theorem Ev.neg {α : Type} {c : Prop} [Decidable c] {f g : Nat → Option α} {r : α} (hc : ¬c) (h : Ev g r) : Ev (fun k => if c then f k else g k) r := by
  obtain ⟨k0, h⟩ := h
  exact ⟨k0, fun k hk => by show (if c then f k else g k) = some r; rw [if_neg hc]; exact h k hk⟩
theorem Ev.congr {α : Type} {f g : Nat → Option α} {r : α} (e : ∀ k, f k = g k) (h : Ev g r) : Ev f r := by
  obtain ⟨k0, h⟩ := h
  exact ⟨k0, fun k hk => by rw [e, h k hk]⟩
theorem Ev.get {α : Type} {f : Nat → Option α} {r : α} (h : Ev f r) : ∃ k, f k = some r := h.elim fun k0 h => ⟨k0, h k0 (Nat.le_refl _)⟩
/-- Where more rounds never tell another thing. -/
theorem Ev.of_mono {α : Type} {f : Nat → Option α} {r : α} (m : ∀ k, LeO (f k) (f (k + 1))) {k : Nat} (h : f k = some r) : Ev f r := by
  refine ⟨k, fun j hj => ?_⟩
  obtain ⟨d, rfl⟩ : ∃ d, j = k + d := ⟨j - k, by omega⟩
  clear hj
  induction d with
  | zero => exact h
  | succ d ih => exact m (k + d) r ih
theorem Ev.res {α : Type} {f : Nat → Option α} {r r' : α} (h : Ev f r) (e : r = r') : Ev f r' := e ▸ h

theorem w64 {x : Int} (h0 : -9223372036854775808 ≤ x) (h1 : x ≤ 9223372036854775807) : wrap64 x = x := by unfold wrap64; omega
theorem rdt {xs : List S29} {i : Nat} {x : S29} (h : xs[i]? = some x) : rd_T29 xs (i : Int) = x := by
  unfold rd_T29
  rw [List.getD_eq_getElem?_getD, Int.toNat_natCast, h]
  rfl
theorem rdi {xs : List Int} {i : Nat} {x : Int} (h : xs[i]? = some x) : rd xs (i : Int) = x := by
  unfold rd
  rw [List.getD_eq_getElem?_getD, Int.toNat_natCast, h]
  rfl
theorem drop_cons_get {α : Type} {l : List α} {i : Nat} {a : α} {t : List α} (h : l.drop i = a :: t) : l[i]? = some a ∧ l.drop (i + 1) = t ∧ i < l.length := by
  have h1 : (l.drop i)[0]? = some a := by rw [h]; rfl
  rw [List.getElem?_drop] at h1
  have h2 : l.drop (i + 1) = t := by rw [← List.drop_drop, h]; rfl
  have h3 : i < l.length := by
    apply Classical.byContradiction
    intro hn
    rw [List.drop_eq_nil_of_le (by omega)] at h
    cases h
  exact ⟨by simpa using h1, h2, h3⟩
end Go.Proofs.YtmocphafkimdpaaDoor.P


-- written by a program (a patched copy of the kit's print: wip/mkprint.py); Lean checks it
namespace Go.Proofs.YtmocphafkimdpaaDoor.P
open Go.RowKit Go.Proofs.YtmocphafkimdpaaDoorW.PrintWords Go.Proofs.YtmocphafkimdpaaDoorW.PrintLast Go.Proofs.YtmocphafkimdpaaDoorW.PrintMore
attribute [local go_sem] max2_int min2_int max_two min_two max_three min_three max_four min_four   -- for this text's walks alone
set_option linter.unusedVariables false
set_option linter.unusedSimpArgs false

/-! ### money_Right: function 65 -/
def money_Right.l0 : Nat → List Int → Int → Int → Option (Bool)
 | 0, _, _, _ => none
 | k + 1, x5, x6, x7 => if x7 < x6 then (if 0 ≤ x7 then (if x7 < (x5.length : Int) then (if (rd x5 x7) > 100000000000 then (some false) else (if (rd x5 x7) < (-100000000000) then (some false) else (money_Right.l0 k x5 x6 (wrap64 (x7 + 1))))) else (none)) else (none)) else (some true)
def money_Right.f (k : Nat) (l0 : List Int) : Option (Bool) := money_Right.l0 k l0 (l0.length : Int) 0
theorem money_Right.mono_l : ∀ k, (∀ y0 y1 y2, LeO (money_Right.l0 k y0 y1 y2) (money_Right.l0 (k + 1) y0 y1 y2))
 | 0 => fun _ _ _ r h => by simp [money_Right.l0] at h
 | k + 1 => by
  have ih0 := money_Right.mono_l k
  ·intro y0 y1 y2
   unfold money_Right.l0
   repeat' first
   | (with_reducible exact ih0 _ _ _)
   | (with_reducible exact LeO.refl _)
   | (with_reducible exact LeO.none _)
   | (with_reducible refine LeO.ite ?_ ?_)
   | (with_reducible refine LeO.bind ?_ (fun _ => ?_))
   | exact ih0 _ _ _
   | exact LeO.none _
   | refine LeO.ite ?_ ?_
   | refine LeO.bind ?_ (fun _ => ?_)
theorem money_Right.mono : ∀ a0 k, LeO (money_Right.f k a0) (money_Right.f (k + 1) a0) := by
 intro a0 k
 have ih0 := money_Right.mono_l k
 unfold money_Right.f
 repeat' first
   | (with_reducible exact ih0 _ _ _)
   | (with_reducible exact LeO.refl _)
   | (with_reducible exact LeO.none _)
   | (with_reducible refine LeO.ite ?_ ?_)
   | (with_reducible refine LeO.bind ?_ (fun _ => ?_))
   | exact ih0 _ _ _
   | exact LeO.none _
   | refine LeO.ite ?_ ?_
   | refine LeO.bind ?_ (fun _ => ?_)
set_option maxHeartbeats 8000000 in
set_option maxRecDepth 100000 in
theorem money_Right.calls (k : Nat) (A0 : Option Addr) (c0 : Nat) (l0 : List Int) (r : Bool) (w : World) (hr0 : Kd.C (Kd.int .i64) w A0 l0.length l0) (hc0 : l0.length ≤ c0) (h : money_Right.f k l0 = some r) :
  Calls Tryd.prog 65 #[.slice A0 l0.length c0] w fun e w' => e = .returned (.bool r) ∧ Drawn0 w w' := by
 have HR0 := Aside0.mk hr0
 have HC0 := Aside0.mk hc0
 clear hr0 hc0
 have H : (money_Right.l0 k l0 (l0.length : Int) 0) = some r := h
 clear h
 have H' := Aside0.mk H
 clear H
 go_enter Tryd.func65, Tryd.ntmps65
 go_wp2
 go_loopg [7] k (fun kq v7 w' => ∃ (x7_1 : Int), v7 = .int .i64 x7_1 ∧ Aside0 (money_Right.l0 kq l0 (l0.length : Int) x7_1 = some r) ∧ Aside0 (kq ≤ k) ∧ Drawn0 w w')
 case atStart => exact ⟨(0), (by first | rfl | (simp; done) | (simp [*]; done)), H', ⟨Nat.le_refl _⟩, by repeat (first | exact Drawn0.refl _ | apply Drawn0.step)⟩
 case round =>
  clear H'
  obtain ⟨x7_1, rfl, HA, HK1, ⟨m1, rfl⟩⟩ := hrel
  cases gk with
  | zero => exact absurd HA.out (by simp [money_Right.l0])
  | succ k1 =>
   have H := HA.out
   clear HA
   simp only [money_Right.l0] at H
   by_cases c2 : x7_1 < (l0.length : Int)
   ·rw [if_pos c2] at H
    have c2b0 : decide (x7_1 < (l0.length : Int)) = true := decide_eq_true c2
    clear c2
    by_cases c3 : 0 ≤ x7_1
    ·rw [if_pos c3] at H
     have c3b0 : decide (0 ≤ x7_1) = true := decide_eq_true c3
     clear c3
     by_cases c4 : x7_1 < (l0.length : Int)
     ·rw [if_pos c4] at H
      have c4b0 : decide (x7_1 < (l0.length : Int)) = true := decide_eq_true c4
      clear c4
      by_cases c5 : (rd l0 x7_1) > 100000000000
      ·rw [if_pos c5] at H
       have c5b0 : decide (100000000000 < (rd l0 x7_1)) = true := decide_eq_true c5
       clear c5
       obtain rfl := Option.some.inj H
       have p101 : 0 ≤ (x7_1 : Int) := of_decide_eq_true (by first | (with_reducible assumption) | assumption)
       have q101 : x7_1 < (l0.length : Int) := of_decide_eq_true (by first | (with_reducible assumption) | assumption)
       obtain ⟨ad101, e101, hx101_0⟩ := Kd.at_int HR0.out x7_1 p101 q101
       cases e101
       replace p101 := eq_true p101
       replace q101 := eq_true q101
       go_wp2
       go_ret
       exact ⟨by first | rfl | (simp; done) | (simp [*]; done), by repeat (first | exact Drawn0.refl _ | apply Drawn0.step)⟩
      ·rw [if_neg c5] at H
       have c5b0 : decide (100000000000 < (rd l0 x7_1)) = false := decide_eq_false c5
       clear c5
       by_cases c6 : (rd l0 x7_1) < (-100000000000)
       ·rw [if_pos c6] at H
        have c6b0 : decide ((rd l0 x7_1) < (-100000000000)) = true := decide_eq_true c6
        clear c6
        obtain rfl := Option.some.inj H
        have p101 : 0 ≤ (x7_1 : Int) := of_decide_eq_true (by first | (with_reducible assumption) | assumption)
        have q101 : x7_1 < (l0.length : Int) := of_decide_eq_true (by first | (with_reducible assumption) | assumption)
        obtain ⟨ad101, e101, hx101_0⟩ := Kd.at_int HR0.out x7_1 p101 q101
        cases e101
        replace p101 := eq_true p101
        replace q101 := eq_true q101
        go_wp2
        go_ret
        exact ⟨by first | rfl | (simp; done) | (simp [*]; done), by repeat (first | exact Drawn0.refl _ | apply Drawn0.step)⟩
       ·rw [if_neg c6] at H
        have c6b0 : decide ((rd l0 x7_1) < (-100000000000)) = false := decide_eq_false c6
        clear c6
        have H' := Aside0.mk H
        clear H
        have p101 : 0 ≤ (x7_1 : Int) := of_decide_eq_true (by first | (with_reducible assumption) | assumption)
        have q101 : x7_1 < (l0.length : Int) := of_decide_eq_true (by first | (with_reducible assumption) | assumption)
        obtain ⟨ad101, e101, hx101_0⟩ := Kd.at_int HR0.out x7_1 p101 q101
        cases e101
        replace p101 := eq_true p101
        replace q101 := eq_true q101
        go_wp2
        go_roundg k1
        case measure => have := HK1.out; omega
        case rel => exact ⟨(wrap64 (x7_1 + 1)), (by first | rfl | (simp; done) | (simp [*]; done)), H', ⟨by have := HK1.out; omega⟩, by repeat (first | exact Drawn0.refl _ | apply Drawn0.step)⟩
     ·rw [if_neg c4] at H
      exact absurd H (by simp)
    ·rw [if_neg c3] at H
     exact absurd H (by simp)
   ·rw [if_neg c2] at H
    have c2b0 : decide (x7_1 < (l0.length : Int)) = false := decide_eq_false c2
    clear c2
    obtain rfl := Option.some.inj H
    go_wp2
    go_ret
    exact ⟨by first | rfl | (simp; done) | (simp [*]; done), by repeat (first | exact Drawn0.refl _ | apply Drawn0.step)⟩

end Go.Proofs.YtmocphafkimdpaaDoor.P


-- written by a program (a patched copy of the kit's print: wip/mkprint.py); Lean checks it
namespace Go.Proofs.YtmocphafkimdpaaDoor.P
open Go.RowKit Go.Proofs.YtmocphafkimdpaaDoorW.PrintWords Go.Proofs.YtmocphafkimdpaaDoorW.PrintLast Go.Proofs.YtmocphafkimdpaaDoorW.PrintMore
attribute [local go_sem] max2_int min2_int max_two min_two max_three min_three max_four min_four   -- for this text's walks alone
set_option linter.unusedVariables false
set_option linter.unusedSimpArgs false

/-! ### money_check: function 77 -/
def money_check.f (k : Nat) (a0 : Int) : Option (Int × Int) := (money_Right.f k (([a0] : List Int))).bind fun t105 => (if t105 = true then (some (a0, 0)) else (some (0, 10)))
theorem money_check.mono : ∀ a0 k, LeO (money_check.f k a0) (money_check.f (k + 1) a0) := by
 intro a0 k
 unfold money_check.f
 repeat' first
   | (with_reducible exact money_Right.mono _ _)
   | (with_reducible exact LeO.refl _)
   | (with_reducible exact LeO.none _)
   | (with_reducible refine LeO.ite ?_ ?_)
   | (with_reducible refine LeO.bind ?_ (fun _ => ?_))
   | exact money_Right.mono _ _
   | exact LeO.none _
   | refine LeO.ite ?_ ?_
   | refine LeO.bind ?_ (fun _ => ?_)
set_option maxHeartbeats 8000000 in
set_option maxRecDepth 100000 in
theorem money_check.calls (k : Nat) (a0 : Int) (r1 : Int) (r2 : Int) (w : World) (h : money_check.f k a0 = some (r1, r2)) :
  Calls Tryd.prog 77 #[.int .i64 a0] w fun e w' => e = .returned (.tuple #[.int .i64 r1, .int .i64 r2]) ∧ Below w.heap.size w w' := by
 have HB := Aside0.mk (Below.refl w.heap.size w)
 have H : ((money_Right.f k (([a0] : List Int))).bind fun t105 => (if t105 = true then (some (a0, 0)) else (some (0, 10)))) = some (r1, r2) := h
 clear h
 obtain ⟨y102, hy102⟩ : ∃ y_ : List Int, y_ = (([a0] : List Int)) := ⟨_, rfl⟩
 replace H : ((money_Right.f k y102).bind fun t105 => (if t105 = true then (some (a0, 0)) else (some (0, 10)))) = some (r1, r2) := by first | (rw [hy102]; with_reducible exact H) | (have H2_ := (Option.bind_some _ _).symm.trans H; rw [hy102]; with_reducible exact H2_) | (have H2_ := (Option.bind_some _ _).symm.trans H; with_reducible exact H2_) | with_reducible exact H | (rw [hy102]; exact H) | exact H
 have Ny102 := Aside0.mk hy102
 clear hy102
 replace H := Option.bind_eq_some_iff.mp H
 obtain ⟨t105, A20, H⟩ := H
 replace H : (if t105 = true then (some (a0, 0)) else (some (0, 10))) = some (r1, r2) := H
 have A2 := Aside0.mk A20
 clear A20
 by_cases c3 : t105 = true
 ·subst c3
  have H1 : (some (a0, 0)) = some (r1, r2) := by rw [if_pos rfl] at H; exact H
  clear H
  have H := H1
  clear H1
  simp only [Option.some.injEq, Prod.mk.injEq] at H
  obtain ⟨rfl, rfl⟩ := H
  go_enter Tryd.func77, Tryd.ntmps77
  go_wp2_with (first | ((with_reducible refine gate_dst (N := 5) rfl ?_); refine Kd.R_lit (Kd.int .i64) _ 2 ?hg (N := 5) ?hd (xs := ([a0] : List Int)) (inner := [.int .i64 a0]) (ok := fun _ => True) (okp := fun _ => True) ?hr ?hp (fun _ hk => hk) trivial (Below.refl _ _) (Nat.le_refl _) (by simp) ?_; (case hd => rfl); (case hg => rfl); (case hr => first | (go_simp; done) | (go_simp; rfl)); (case hp => exact (Reps.one (show Kd.M (Kd.int .i64) _ _ _ a0 [.int .i64 a0] from rfl) (Reps.none _ _))); intro v103 w4 ho5 hb hg_ hnew_; clear hg_ hnew_; (first | rw [← Ny102.out] at ho5 | (simp only [Int.reduceToNat] at ho5; rw [← Ny102.out] at ho5)); have n0_ := Aside0.mk (Kd.R_lower ho5 (below_size (by repeat (first | (with_reducible first | exact HB.out | apply below_alloc | apply pw_below_drewN | apply below_drew1) | exact HB.out)))); have n1_ := Aside0.mk (below_step (by repeat (first | (with_reducible first | exact HB.out | apply below_alloc | apply pw_below_drewN | apply below_drew1) | exact HB.out)) hb); clear HB; have HO104 := n0_; have HB := n1_; clear n0_ n1_; clear hb ho5; obtain ⟨Ao6, co6, eo6⟩ := Kd.R_slice HO104.out; subst eo6) | ((with_reducible refine gate_callee (f := 65) rfl ?_); refine goesL_ (some 6) rfl rfl Tryd.func65 (by kernel_rfl) rfl #[.slice Ao6 y102.length co6] rfl (by (try simp only [List.map_toArray, List.map_cons, List.map_nil]); first | done | rfl | (simp only [List.length_drop, List.length_take]; rfl)) ?_; (with_reducible refine (money_Right.calls k _ _ y102 true _ ?side1 ?side2 A2.out).mono ?_); (case side1 => repeat (first | exact (Kd.R_reads' HO104.out).2.2 | (with_reducible refine Kd.C_alloc ?_ _) | (with_reducible refine Kd.C_drewN ?_ _) | (with_reducible refine Kd.C_drew ?_))); (case side2 => exact (Kd.R_reads' HO104.out).2.1); rintro e w' ⟨rfl, ⟨nd, rfl⟩⟩; refine ⟨_, rfl, ?_⟩))
  go_ret2
  exact ⟨by first | rfl | (simp [errW_none, errW_some] <;> rfl) | (simp [*, errW_none, errW_some] <;> rfl), by repeat (first | (with_reducible first | exact HB.out | apply below_alloc | apply pw_below_drewN | apply below_drew1) | exact HB.out)⟩
 ·replace c3 := Bool.eq_false_iff.mpr c3
  subst c3
  have H1 : (some (0, 10)) = some (r1, r2) := by rw [if_neg (show ¬ (false = true) by decide)] at H; exact H
  clear H
  have H := H1
  clear H1
  simp only [Option.some.injEq, Prod.mk.injEq] at H
  obtain ⟨rfl, rfl⟩ := H
  go_enter Tryd.func77, Tryd.ntmps77
  go_wp2_with (first | ((with_reducible refine gate_dst (N := 5) rfl ?_); refine Kd.R_lit (Kd.int .i64) _ 2 ?hg (N := 5) ?hd (xs := ([a0] : List Int)) (inner := [.int .i64 a0]) (ok := fun _ => True) (okp := fun _ => True) ?hr ?hp (fun _ hk => hk) trivial (Below.refl _ _) (Nat.le_refl _) (by simp) ?_; (case hd => rfl); (case hg => rfl); (case hr => first | (go_simp; done) | (go_simp; rfl)); (case hp => exact (Reps.one (show Kd.M (Kd.int .i64) _ _ _ a0 [.int .i64 a0] from rfl) (Reps.none _ _))); intro v103 w7 ho8 hb hg_ hnew_; clear hg_ hnew_; (first | rw [← Ny102.out] at ho8 | (simp only [Int.reduceToNat] at ho8; rw [← Ny102.out] at ho8)); have n0_ := Aside0.mk (Kd.R_lower ho8 (below_size (by repeat (first | (with_reducible first | exact HB.out | apply below_alloc | apply pw_below_drewN | apply below_drew1) | exact HB.out)))); have n1_ := Aside0.mk (below_step (by repeat (first | (with_reducible first | exact HB.out | apply below_alloc | apply pw_below_drewN | apply below_drew1) | exact HB.out)) hb); clear HB; have HO104 := n0_; have HB := n1_; clear n0_ n1_; clear hb ho8; obtain ⟨Ao9, co9, eo9⟩ := Kd.R_slice HO104.out; subst eo9) | ((with_reducible refine gate_callee (f := 65) rfl ?_); refine goesL_ (some 6) rfl rfl Tryd.func65 (by kernel_rfl) rfl #[.slice Ao9 y102.length co9] rfl (by (try simp only [List.map_toArray, List.map_cons, List.map_nil]); first | done | rfl | (simp only [List.length_drop, List.length_take]; rfl)) ?_; (with_reducible refine (money_Right.calls k _ _ y102 false _ ?side1 ?side2 A2.out).mono ?_); (case side1 => repeat (first | exact (Kd.R_reads' HO104.out).2.2 | (with_reducible refine Kd.C_alloc ?_ _) | (with_reducible refine Kd.C_drewN ?_ _) | (with_reducible refine Kd.C_drew ?_))); (case side2 => exact (Kd.R_reads' HO104.out).2.1); rintro e w' ⟨rfl, ⟨nd, rfl⟩⟩; refine ⟨_, rfl, ?_⟩))
  go_ret2
  exact ⟨by first | rfl | (simp [errW_none, errW_some] <;> rfl) | (simp [*, errW_none, errW_some] <;> rfl), by repeat (first | (with_reducible first | exact HB.out | apply below_alloc | apply pw_below_drewN | apply below_drew1) | exact HB.out)⟩

end Go.Proofs.YtmocphafkimdpaaDoor.P


-- written by a program (a patched copy of the kit's print: wip/mkprint.py); Lean checks it
namespace Go.Proofs.YtmocphafkimdpaaDoor.P
open Go.RowKit Go.Proofs.YtmocphafkimdpaaDoorW.PrintWords Go.Proofs.YtmocphafkimdpaaDoorW.PrintLast Go.Proofs.YtmocphafkimdpaaDoorW.PrintMore
attribute [local go_sem] max2_int min2_int max_two min_two max_three min_three max_four min_four   -- for this text's walks alone
set_option linter.unusedVariables false
set_option linter.unusedSimpArgs false

/-! ### money_Add: function 34 -/
def money_Add.f (k : Nat) (a0 : Int) (a1 : Int) : Option (Int × Int) := (money_Right.f k (([a0, a1] : List Int))).bind fun t109 => (if t109 = true then ((money_check.f k (wrap64 (a0 + a1))).bind fun bt110 => (some (bt110.1, bt110.2))) else (some (0, 10)))
theorem money_Add.mono : ∀ a0 a1 k, LeO (money_Add.f k a0 a1) (money_Add.f (k + 1) a0 a1) := by
 intro a0 a1 k
 unfold money_Add.f
 repeat' first
   | (with_reducible exact money_Right.mono _ _)
   | (with_reducible exact money_check.mono _ _)
   | (with_reducible exact LeO.refl _)
   | (with_reducible exact LeO.none _)
   | (with_reducible refine LeO.ite ?_ ?_)
   | (with_reducible refine LeO.bind ?_ (fun _ => ?_))
   | exact money_Right.mono _ _
   | exact money_check.mono _ _
   | exact LeO.none _
   | refine LeO.ite ?_ ?_
   | refine LeO.bind ?_ (fun _ => ?_)
set_option maxHeartbeats 8000000 in
set_option maxRecDepth 100000 in
theorem money_Add.calls (k : Nat) (a0 : Int) (a1 : Int) (r1 : Int) (r2 : Int) (w : World) (h : money_Add.f k a0 a1 = some (r1, r2)) :
  Calls Tryd.prog 34 #[.int .i64 a0, .int .i64 a1] w fun e w' => e = .returned (.tuple #[.int .i64 r1, .int .i64 r2]) ∧ Below w.heap.size w w' := by
 have HB := Aside0.mk (Below.refl w.heap.size w)
 have H : ((money_Right.f k (([a0, a1] : List Int))).bind fun t109 => (if t109 = true then ((money_check.f k (wrap64 (a0 + a1))).bind fun bt110 => (some (bt110.1, bt110.2))) else (some (0, 10)))) = some (r1, r2) := h
 clear h
 obtain ⟨y106, hy106⟩ : ∃ y_ : List Int, y_ = (([a0, a1] : List Int)) := ⟨_, rfl⟩
 replace H : ((money_Right.f k y106).bind fun t109 => (if t109 = true then ((money_check.f k (wrap64 (a0 + a1))).bind fun bt110 => (some (bt110.1, bt110.2))) else (some (0, 10)))) = some (r1, r2) := by first | (rw [hy106]; with_reducible exact H) | (have H2_ := (Option.bind_some _ _).symm.trans H; rw [hy106]; with_reducible exact H2_) | (have H2_ := (Option.bind_some _ _).symm.trans H; with_reducible exact H2_) | with_reducible exact H | (rw [hy106]; exact H) | exact H
 have Ny106 := Aside0.mk hy106
 clear hy106
 replace H := Option.bind_eq_some_iff.mp H
 obtain ⟨t109, A30, H⟩ := H
 replace H : (if t109 = true then ((money_check.f k (wrap64 (a0 + a1))).bind fun bt110 => (some (bt110.1, bt110.2))) else (some (0, 10))) = some (r1, r2) := H
 have A3 := Aside0.mk A30
 clear A30
 by_cases c4 : t109 = true
 ·subst c4
  have H1 : ((money_check.f k (wrap64 (a0 + a1))).bind fun bt110 => (some (bt110.1, bt110.2))) = some (r1, r2) := by rw [if_pos rfl] at H; exact H
  clear H
  have H := H1
  clear H1
  replace H := Option.bind_eq_some_iff.mp H
  obtain ⟨⟨t110, t111⟩, A50, H⟩ := H
  replace H : (some (t110, t111)) = some (r1, r2) := H
  have A5 := Aside0.mk A50
  clear A50
  simp only [Option.some.injEq, Prod.mk.injEq] at H
  obtain ⟨rfl, rfl⟩ := H
  go_enter Tryd.func34, Tryd.ntmps34
  go_wp2_with (first | ((with_reducible refine gate_dst (N := 8) rfl ?_); refine Kd.R_lit (Kd.int .i64) _ 2 ?hg (N := 8) ?hd (xs := ([a0, a1] : List Int)) (inner := [.int .i64 a0, .int .i64 a1]) (ok := fun _ => True) (okp := fun _ => True) ?hr ?hp (fun _ hk => hk) trivial (Below.refl _ _) (Nat.le_refl _) (by simp) ?_; (case hd => rfl); (case hg => rfl); (case hr => first | (go_simp; done) | (go_simp; rfl)); (case hp => exact (Reps.one (show Kd.M (Kd.int .i64) _ _ _ a0 [.int .i64 a0] from rfl) (Reps.one (show Kd.M (Kd.int .i64) _ _ _ a1 [.int .i64 a1] from rfl) (Reps.none _ _)))); intro v107 w6 ho7 hb hg_ hnew_; clear hg_ hnew_; (first | rw [← Ny106.out] at ho7 | (simp only [Int.reduceToNat] at ho7; rw [← Ny106.out] at ho7)); have n0_ := Aside0.mk (Kd.R_lower ho7 (below_size (by repeat (first | (with_reducible first | exact HB.out | apply below_alloc | apply pw_below_drewN | apply below_drew1) | exact HB.out)))); have n1_ := Aside0.mk (below_step (by repeat (first | (with_reducible first | exact HB.out | apply below_alloc | apply pw_below_drewN | apply below_drew1) | exact HB.out)) hb); clear HB; have HO108 := n0_; have HB := n1_; clear n0_ n1_; clear hb ho7; obtain ⟨Ao8, co8, eo8⟩ := Kd.R_slice HO108.out; subst eo8) | ((with_reducible refine gate_callee (f := 65) rfl ?_); refine goesL_ (some 9) rfl rfl Tryd.func65 (by kernel_rfl) rfl #[.slice Ao8 y106.length co8] rfl (by (try simp only [List.map_toArray, List.map_cons, List.map_nil]); first | done | rfl | (simp only [List.length_drop, List.length_take]; rfl)) ?_; (with_reducible refine (money_Right.calls k _ _ y106 true _ ?side1 ?side2 A3.out).mono ?_); (case side1 => repeat (first | exact (Kd.R_reads' HO108.out).2.2 | (with_reducible refine Kd.C_alloc ?_ _) | (with_reducible refine Kd.C_drewN ?_ _) | (with_reducible refine Kd.C_drew ?_))); (case side2 => exact (Kd.R_reads' HO108.out).2.1); rintro e w' ⟨rfl, ⟨nd, rfl⟩⟩; refine ⟨_, rfl, ?_⟩) | ((with_reducible refine gate_callee (f := 77) rfl ?_); refine goesL_ (some 14) rfl rfl Tryd.func77 (by kernel_rfl) rfl #[.int .i64 (wrap64 (a0 + a1))] rfl (by (try simp only [List.map_toArray, List.map_cons, List.map_nil]); first | done | rfl | (simp only [List.length_drop, List.length_take]; rfl)) ?_; (with_reducible refine (money_check.calls k (wrap64 (a0 + a1)) t110 t111 _ A5.out).mono ?_); rintro e w9 ⟨rfl, hb⟩; refine ⟨_, rfl, ?_⟩; have n0_ := Aside0.mk (Kd.R_below (by (with_reducible repeat (first | apply Kd.R_alloc | apply Kd.R_drewN | apply Kd.R_drew)); exact HO108.out) hb); have n1_ := Aside0.mk (below_step (by repeat (first | (with_reducible first | exact HB.out | apply below_alloc | apply pw_below_drewN | apply below_drew1) | exact HB.out)) hb); clear HO108; clear HB; have HO108 := n0_; have HB := n1_; clear n0_ n1_; (try clear hb); (try clear hb2); (try clear hk); (try clear hi)))
  go_ret2
  exact ⟨by first | rfl | (simp [errW_none, errW_some] <;> rfl) | (simp [*, errW_none, errW_some] <;> rfl), by repeat (first | (with_reducible first | exact HB.out | apply below_alloc | apply pw_below_drewN | apply below_drew1) | exact HB.out)⟩
 ·replace c4 := Bool.eq_false_iff.mpr c4
  subst c4
  have H1 : (some (0, 10)) = some (r1, r2) := by rw [if_neg (show ¬ (false = true) by decide)] at H; exact H
  clear H
  have H := H1
  clear H1
  simp only [Option.some.injEq, Prod.mk.injEq] at H
  obtain ⟨rfl, rfl⟩ := H
  go_enter Tryd.func34, Tryd.ntmps34
  go_wp2_with (first | ((with_reducible refine gate_dst (N := 8) rfl ?_); refine Kd.R_lit (Kd.int .i64) _ 2 ?hg (N := 8) ?hd (xs := ([a0, a1] : List Int)) (inner := [.int .i64 a0, .int .i64 a1]) (ok := fun _ => True) (okp := fun _ => True) ?hr ?hp (fun _ hk => hk) trivial (Below.refl _ _) (Nat.le_refl _) (by simp) ?_; (case hd => rfl); (case hg => rfl); (case hr => first | (go_simp; done) | (go_simp; rfl)); (case hp => exact (Reps.one (show Kd.M (Kd.int .i64) _ _ _ a0 [.int .i64 a0] from rfl) (Reps.one (show Kd.M (Kd.int .i64) _ _ _ a1 [.int .i64 a1] from rfl) (Reps.none _ _)))); intro v107 w10 ho11 hb hg_ hnew_; clear hg_ hnew_; (first | rw [← Ny106.out] at ho11 | (simp only [Int.reduceToNat] at ho11; rw [← Ny106.out] at ho11)); have n0_ := Aside0.mk (Kd.R_lower ho11 (below_size (by repeat (first | (with_reducible first | exact HB.out | apply below_alloc | apply pw_below_drewN | apply below_drew1) | exact HB.out)))); have n1_ := Aside0.mk (below_step (by repeat (first | (with_reducible first | exact HB.out | apply below_alloc | apply pw_below_drewN | apply below_drew1) | exact HB.out)) hb); clear HB; have HO108 := n0_; have HB := n1_; clear n0_ n1_; clear hb ho11; obtain ⟨Ao12, co12, eo12⟩ := Kd.R_slice HO108.out; subst eo12) | ((with_reducible refine gate_callee (f := 65) rfl ?_); refine goesL_ (some 9) rfl rfl Tryd.func65 (by kernel_rfl) rfl #[.slice Ao12 y106.length co12] rfl (by (try simp only [List.map_toArray, List.map_cons, List.map_nil]); first | done | rfl | (simp only [List.length_drop, List.length_take]; rfl)) ?_; (with_reducible refine (money_Right.calls k _ _ y106 false _ ?side1 ?side2 A3.out).mono ?_); (case side1 => repeat (first | exact (Kd.R_reads' HO108.out).2.2 | (with_reducible refine Kd.C_alloc ?_ _) | (with_reducible refine Kd.C_drewN ?_ _) | (with_reducible refine Kd.C_drew ?_))); (case side2 => exact (Kd.R_reads' HO108.out).2.1); rintro e w' ⟨rfl, ⟨nd, rfl⟩⟩; refine ⟨_, rfl, ?_⟩))
  go_ret2
  exact ⟨by first | rfl | (simp [errW_none, errW_some] <;> rfl) | (simp [*, errW_none, errW_some] <;> rfl), by repeat (first | (with_reducible first | exact HB.out | apply below_alloc | apply pw_below_drewN | apply below_drew1) | exact HB.out)⟩

end Go.Proofs.YtmocphafkimdpaaDoor.P


/- Amounts: may they be, and two together, in plain words. -/
namespace Go.Proofs.YtmocphafkimdpaaDoor.P
open Go.RowKit Go.Proofs.YtmocphafkimdpaaDoorW.PrintWords Go.Proofs.YtmocphafkimdpaaDoorW.PrintLast Go.Proofs.YtmocphafkimdpaaDoorW.PrintMore

def okAmt (x : Int) : Bool := decide (-100000000000 ≤ x) && decide (x ≤ 100000000000)
theorem okAmt_iff (x : Int) : okAmt x = true ↔ -100000000000 ≤ x ∧ x ≤ 100000000000 := by simp [okAmt]

/-- money.Right: a list's amounts may all be. -/
theorem right_l0 (l : List Int) (hl : l.length < 1000) : ∀ (d i k : Nat), i + d = l.length → d < k → money_Right.l0 k l (l.length : Int) i = some ((l.drop i).all okAmt) := by
  intro d
  induction d with
  | zero =>
    intro i k hi hk
    obtain ⟨k, rfl⟩ : ∃ m, k = m + 1 := ⟨k - 1, by omega⟩
    simp only [money_Right.l0]
    rw [if_neg (by omega), List.drop_of_length_le (by omega)]
    rfl
  | succ d ih =>
    intro i k hi hk
    obtain ⟨k, rfl⟩ : ∃ m, k = m + 1 := ⟨k - 1, by omega⟩
    simp only [money_Right.l0]
    have hlt : i < l.length := by omega
    have hrd : rd l (i : Int) = l[i] := by simp [rd, hlt]
    have hw : wrap64 ((i : Int) + 1) = ((i + 1 : Nat) : Int) := by unfold wrap64; omega
    rw [if_pos (by omega), if_pos (by omega), if_pos (by omega), hrd, hw, List.drop_eq_getElem_cons hlt, List.all_cons]
    by_cases h1 : l[i] > 100000000000
    · rw [if_pos h1]
      have : okAmt l[i] = false := by simp [okAmt]; omega
      rw [this]; rfl
    · rw [if_neg h1]
      by_cases h2 : l[i] < -100000000000
      · rw [if_pos h2]
        have : okAmt l[i] = false := by simp [okAmt]; omega
        rw [this]; rfl
      · rw [if_neg h2, ih (i + 1) k (by omega) (by omega)]
        have : okAmt l[i] = true := by simp [okAmt]; omega
        rw [this]; rfl
theorem right_f (l : List Int) (hl : l.length < 1000) : money_Right.f 1001 l = some (l.all okAmt) := by
  unfold money_Right.f
  have := right_l0 l hl l.length 0 1001 (by omega) (by omega)
  simpa using this

theorem mright_ev (l : List Int) (hl : l.length < 1000) : Ev (fun k => money_Right.f k l) (l.all okAmt) := Ev.of_mono (money_Right.mono _) (right_f l hl)
theorem madd_ev (a b : Int) : Ev (fun k => money_Add.f k a b) (if (okAmt a && okAmt b && okAmt (a + b)) = true then (a + b, 0) else (0, 10)) := by
  unfold money_Add.f
  refine Ev.bind (mright_ev [a, b] (by simp)) ?_
  by_cases c : okAmt a = true ∧ okAmt b = true
  · obtain ⟨ha, hb⟩ := c
    have ha' := (okAmt_iff a).1 ha
    have hb' := (okAmt_iff b).1 hb
    refine Ev.pos (by simp [ha, hb]) ?_
    rw [w64 (x := a + b) (by omega) (by omega)]
    refine Ev.bind (a := if okAmt (a + b) = true then (a + b, 0) else (0, 10)) ?_ (Ev.const (by rw [ha, hb]; rfl))
    unfold money_check.f
    refine Ev.bind (mright_ev [a + b] (by simp)) ?_
    by_cases c : okAmt (a + b) = true
    · rw [if_pos c]
      exact Ev.pos (by simp [c]) Ev.now
    · rw [if_neg c]
      exact Ev.neg (by simp [c]) Ev.now
  · have : (okAmt a && okAmt b) = false := by
      rw [Bool.eq_false_iff]
      intro h
      exact c (Bool.and_eq_true_iff.1 h)
    refine Ev.neg (by simpa using this) ?_
    rw [this]
    exact Ev.now
theorem madd_ok (a b : Int) (ha : okAmt a = true) (hb : okAmt b = true) (hs : okAmt (a + b) = true) : Ev (fun k => money_Add.f k a b) (a + b, 0) := by
  have := madd_ev a b
  rwa [if_pos (by simp [ha, hb, hs])] at this
theorem madd_no (a b : Int) (h : ¬(okAmt a = true ∧ okAmt b = true ∧ okAmt (a + b) = true)) : Ev (fun k => money_Add.f k a b) (0, 10) := by
  have := madd_ev a b
  rwa [if_neg (by simp only [Bool.and_eq_true]; exact fun ⟨⟨a, b⟩, c⟩ => h ⟨a, b, c⟩)] at this

theorem add0 (a : Int) (ha : okAmt a = true) : Ev (fun k => money_Add.f k 0 a) (a, 0) := by
  have := madd_ok 0 a (by decide) ha (by rwa [Int.zero_add])
  rwa [Int.zero_add] at this
theorem add0_no (a : Int) (ha : ¬okAmt a = true) : Ev (fun k => money_Add.f k 0 a) (0, 10) := madd_no 0 a (fun h => ha h.2.1)
end Go.Proofs.YtmocphafkimdpaaDoor.P


/- Where a kind stands among the sums: slices.IndexFunc with the closure of Sums. -/
namespace Go.Proofs.YtmocphafkimdpaaDoor.P
open Go.RowKit Go.Proofs.YtmocphafkimdpaaDoorW.PrintWords Go.Proofs.YtmocphafkimdpaaDoorW.PrintLast Go.Proofs.YtmocphafkimdpaaDoorW.PrintMore

theorem sums_eq (X : Nat) (s kind : ByteArray) (v : Int) (W : World) (hX : W.cell? ⟨X, 0, none⟩ = some (.string kind)) :
    Calls Tryd.prog 92 #[.agg #[.string s, .int .i64 v], .pointer (some ⟨X, 0, none⟩)] W fun e w' => e = .returned (.bool (s.toList == kind.toList)) ∧ Below W.heap.size W w' := by
  have hlt : X < W.heap.size := by
    apply Classical.byContradiction
    intro hge
    unfold World.cell? at hX
    rw [Array.getElem?_eq_none (by simpa using hge)] at hX
    cases hX
  have hne : X ≠ W.heap.size := by omega
  have hu48 := Tryd.underlying48
  have hu76 := Tryd.underlying76
  go_enter Tryd.func92, Tryd.ntmps92
  go_wp2
  go_ret
  exact ⟨rfl, by repeat (first | exact Below.refl _ _ | apply below_alloc)⟩

/-- The first place from i on. -/
def idxFrom (kind : ByteArray) : List S76 → Nat → Int
  | [], _ => -1
  | a :: t, i => if (a.f0.toList == kind.toList) = true then (i : Int) else idxFrom kind t (i + 1)

set_option maxHeartbeats 4000000 in
theorem index_sums (X c : Nat) (A : Option Addr) (kind : ByteArray) (xs : List S76) (w : World) (hX : w.cell? ⟨X, 0, none⟩ = some (.string kind)) (hr : Kd.C k76 w A xs.length xs) (hl : xs.length < 1000) :
    Calls Tryd.prog 91 #[.slice A xs.length c, .func (.func 92) #[] #[.pointer (some ⟨X, 0, none⟩)]] w fun e w' => e = .returned (.int .i64 (idxFrom kind xs 0)) ∧ Below w.heap.size w w' := by
  have hlt : X < w.heap.size := by
    apply Classical.byContradiction
    intro hge
    unfold World.cell? at hX
    rw [Array.getElem?_eq_none (by simpa using hge)] at hX
    cases hX
  have HX : Hid (w.cell? ⟨X, 0, none⟩ = some (.string kind)) := hX
  have HR : Hid (Kd.C k76 w A xs.length xs) := hr
  clear hX hr
  have hu76 := Tryd.underlying76
  go_enter Tryd.func91, Tryd.ntmps91
  go_wp2
  go_loopg [8] xs.length (fun g v wr => ∃ (i : Nat), v = .int .i64 i ∧ i ≤ xs.length ∧ xs.length - i ≤ g ∧ Hid (Below w.heap.size w wr) ∧ Hid (idxFrom kind (xs.drop i) i = idxFrom kind xs 0))
  case atStart => exact ⟨0, rfl, by omega, by omega, Below.refl _ _, rfl⟩
  case round =>
    obtain ⟨i, rfl, hi, hg, HB, HI⟩ := hrel
    have HL := fun (a : S76) (t : List S76) (h : xs.drop i = a :: t) => drop_cons_get h
    by_cases c1 : i < xs.length
    · obtain ⟨a, t, ht⟩ : ∃ a t, xs.drop i = a :: t := by
        cases h : xs.drop i with
        | nil => have : xs.length ≤ i := by simpa using h
                 omega
        | cons a t => exact ⟨a, t, rfl⟩
      obtain ⟨h1, h2, _⟩ := HL a t ht
      clear HL
      have c1' : (i : Int) < (xs.length : Int) := by omega
      have p0 : (0 : Int) ≤ (i : Int) := by omega
      obtain ⟨ad, eA, f0, f1⟩ := at_T76 (Kd.C_below HR.out HB.out) (i : Int) p0 c1'
      have er : rd_T76 xs (i : Int) = a := by
        unfold rd_T76
        rw [List.getD_eq_getElem?_getD, Int.toNat_natCast, h1]
        rfl
      rw [er] at f0 f1
      rw [Int.toNat_natCast] at f0 f1
      rw [ht] at HI
      subst eA
      have hX' : wr.cell? ⟨X, 0, none⟩ = some (.string kind) := (HB.out.cell (p := ⟨X, 0, none⟩) hlt).trans HX.out
      have S := Lib.hid (sums_eq X a.f0 kind a.f1 wr hX')
      clear hX' h1
      by_cases c2 : (a.f0.toList == kind.toList) = true
      · rw [c2] at S
        have HE : Hid (idxFrom kind xs 0 = (i : Int)) := by
          show _ = _
          rw [← HI.out]
          simp only [idxFrom, if_pos c2]
        go_wp2_with fail
        refine S.out.mono ?_
        rintro e w' ⟨rfl, hb⟩
        have HB' : Hid (Below w.heap.size w w') := HB.out.trans (hb.mono HB.out.size)
        clear hb
        go_wp2
        go_ret
        rw [HE.out]
        exact ⟨rfl, HB'.out⟩
      · rw [Bool.eq_false_iff.2 c2] at S
        go_wp2_with fail
        refine S.out.mono ?_
        rintro e w' ⟨rfl, hb⟩
        have HB' : Hid (Below w.heap.size w w') := HB.out.trans (hb.mono HB.out.size)
        clear hb
        go_wp2
        go_roundg (xs.length - (i + 1))
        case measure => omega
        case rel => exact ⟨i + 1, by go_num, by omega, by omega, HB'.out, by show _ = _; rw [← HI.out, h2]; simp only [idxFrom, if_neg c2]⟩
    · have c1' : ¬(i : Int) < (xs.length : Int) := by omega
      have HE : Hid (idxFrom kind xs 0 = -1) := by
        show _ = _
        rw [← HI.out, List.drop_eq_nil_of_le (by omega)]
        rfl
      clear HL
      go_wp2
      go_ret
      rw [HE.out]
      exact ⟨rfl, HB.out⟩
end Go.Proofs.YtmocphafkimdpaaDoor.P


-- written by a program (a patched copy of the kit's print: wip/mkprint.py); Lean checks it
namespace Go.Proofs.YtmocphafkimdpaaDoor.P
open Go.RowKit Go.Proofs.YtmocphafkimdpaaDoorW.PrintWords Go.Proofs.YtmocphafkimdpaaDoorW.PrintLast Go.Proofs.YtmocphafkimdpaaDoorW.PrintMore
attribute [local go_sem] max2_int min2_int max_two min_two max_three min_three max_four min_four   -- for this text's walks alone
set_option linter.unusedVariables false
set_option linter.unusedSimpArgs false

/-! ### frac_Mode: function 78 -/
def frac_Mode.f (a0 : Int) : Option (Bool) := if a0 ≥ 1 then (some (decide (a0 ≤ 6))) else (some false)
set_option maxHeartbeats 8000000 in
set_option maxRecDepth 100000 in
theorem frac_Mode.calls (a0 : Int) (r : Bool) (w : World) (h : frac_Mode.f a0 = some r) :
  Calls Tryd.prog 78 #[.int .i64 a0] w fun e w' => e = .returned (.bool r) ∧ Drawn0 w w' := by
 have H : (if a0 ≥ 1 then (some (decide (a0 ≤ 6))) else (some false)) = some r := h
 clear h
 by_cases c2 : a0 ≥ 1
 ·rw [if_pos c2] at H
  have c2b0 : decide (1 ≤ a0) = true := decide_eq_true c2
  clear c2
  obtain rfl := Option.some.inj H
  go_enter Tryd.func78, Tryd.ntmps78
  go_wp2
  go_ret
  exact ⟨by first | rfl | (simp; done) | (simp [*]; done), by repeat (first | exact Drawn0.refl _ | apply Drawn0.step)⟩
 ·rw [if_neg c2] at H
  have c2b0 : decide (1 ≤ a0) = false := decide_eq_false c2
  clear c2
  obtain rfl := Option.some.inj H
  go_enter Tryd.func78, Tryd.ntmps78
  go_wp2
  go_ret
  exact ⟨by first | rfl | (simp; done) | (simp [*]; done), by repeat (first | exact Drawn0.refl _ | apply Drawn0.step)⟩

end Go.Proofs.YtmocphafkimdpaaDoor.P


-- written by a program (a patched copy of the kit's print: wip/mkprint.py); Lean checks it
namespace Go.Proofs.YtmocphafkimdpaaDoor.P
open Go.RowKit Go.Proofs.YtmocphafkimdpaaDoorW.PrintWords Go.Proofs.YtmocphafkimdpaaDoorW.PrintLast Go.Proofs.YtmocphafkimdpaaDoorW.PrintMore
attribute [local go_sem] max2_int min2_int max_two min_two max_three min_three max_four min_four   -- for this text's walks alone
set_option linter.unusedVariables false
set_option linter.unusedSimpArgs false

/-! ### frac_floor: function 79 -/
def frac_floor.f (a0 : Int) (a1 : Int) : Option (Int × Int) := if a1 = 0 then (none) else (if (Int.tmod a0 a1) < 0 then (some (wrap64 ((wrap64 (Int.tdiv a0 a1)) - 1), wrap64 ((Int.tmod a0 a1) + a1))) else (some (wrap64 (Int.tdiv a0 a1), Int.tmod a0 a1)))
set_option maxHeartbeats 8000000 in
set_option maxRecDepth 100000 in
theorem frac_floor.calls (a0 : Int) (a1 : Int) (r1 : Int) (r2 : Int) (w : World) (h : frac_floor.f a0 a1 = some (r1, r2)) :
  Calls Tryd.prog 79 #[.int .i64 a0, .int .i64 a1] w fun e w' => e = .returned (.tuple #[.int .i64 r1, .int .i64 r2]) ∧ Drawn0 w w' := by
 have H : (if a1 = 0 then (none) else (if (Int.tmod a0 a1) < 0 then (some (wrap64 ((wrap64 (Int.tdiv a0 a1)) - 1), wrap64 ((Int.tmod a0 a1) + a1))) else (some (wrap64 (Int.tdiv a0 a1), Int.tmod a0 a1)))) = some (r1, r2) := h
 clear h
 by_cases c3 : a1 = 0
 ·rw [if_pos c3] at H
  exact absurd H (by simp)
 ·rw [if_neg c3] at H
  have c3b0 : (a1 == 0) = false := beq_eq_false_iff_ne.mpr c3
  have c3b1 : (a1 != 0) = true := bne_iff_ne.mpr c3
  by_cases c4 : (Int.tmod a0 a1) < 0
  ·rw [if_pos c4] at H
   have c4b0 : decide ((Int.tmod a0 a1) < 0) = true := decide_eq_true c4
   clear c4
   simp only [Option.some.injEq, Prod.mk.injEq] at H
   obtain ⟨rfl, rfl⟩ := H
   go_enter Tryd.func79, Tryd.ntmps79
   go_wp2
   repeat (go_quiet (fail); try go_wp2)
   go_ret2
   exact ⟨by first | rfl | (simp; done) | (simp [*]; done), by repeat (first | exact Drawn0.refl _ | apply Drawn0.step)⟩
  ·rw [if_neg c4] at H
   have c4b0 : decide ((Int.tmod a0 a1) < 0) = false := decide_eq_false c4
   clear c4
   simp only [Option.some.injEq, Prod.mk.injEq] at H
   obtain ⟨rfl, rfl⟩ := H
   go_enter Tryd.func79, Tryd.ntmps79
   go_wp2
   repeat (go_quiet (fail); try go_wp2)
   go_ret2
   exact ⟨by first | rfl | (simp; done) | (simp [*]; done), by repeat (first | exact Drawn0.refl _ | apply Drawn0.step)⟩

end Go.Proofs.YtmocphafkimdpaaDoor.P


-- written by a program (a patched copy of the kit's print: wip/mkprint.py); Lean checks it
namespace Go.Proofs.YtmocphafkimdpaaDoor.P
open Go.RowKit Go.Proofs.YtmocphafkimdpaaDoorW.PrintWords Go.Proofs.YtmocphafkimdpaaDoorW.PrintLast Go.Proofs.YtmocphafkimdpaaDoorW.PrintMore
attribute [local go_sem] max2_int min2_int max_two min_two max_three min_three max_four min_four   -- for this text's walks alone
set_option linter.unusedVariables false
set_option linter.unusedSimpArgs false

/-! ### frac_nearer: function 80 -/
def frac_nearer.f (a0 : Int) (a1 : Int) (a2 : Int) (a3 : Int) : Option (Bool) := if a3 = 2 then (some (decide (a1 > 0))) else (if a3 = 3 then (if a1 > 0 then (some (decide (a0 < 0))) else (some false)) else (if a3 = 1 then (some false) else (if a1 = (wrap64 (a2 - a1)) then (if a3 = 4 then (some (decide (a0 ≥ 0))) else (if a3 = 6 then (some (decide (a0 < 0))) else (some ((Int.tmod a0 2) != 0)))) else (some (decide (a1 > (wrap64 (a2 - a1))))))))
set_option maxHeartbeats 8000000 in
set_option maxRecDepth 100000 in
theorem frac_nearer.calls (a0 : Int) (a1 : Int) (a2 : Int) (a3 : Int) (r : Bool) (w : World) (h : frac_nearer.f a0 a1 a2 a3 = some r) :
  Calls Tryd.prog 80 #[.int .i64 a0, .int .i64 a1, .int .i64 a2, .int .i64 a3] w fun e w' => e = .returned (.bool r) ∧ Drawn0 w w' := by
 have H : (if a3 = 2 then (some (decide (a1 > 0))) else (if a3 = 3 then (if a1 > 0 then (some (decide (a0 < 0))) else (some false)) else (if a3 = 1 then (some false) else (if a1 = (wrap64 (a2 - a1)) then (if a3 = 4 then (some (decide (a0 ≥ 0))) else (if a3 = 6 then (some (decide (a0 < 0))) else (some ((Int.tmod a0 2) != 0)))) else (some (decide (a1 > (wrap64 (a2 - a1))))))))) = some r := h
 clear h
 by_cases c5 : a3 = 2
 ·rw [if_pos c5] at H
  have c5b0 : (a3 == 2) = true := beq_iff_eq.mpr c5
  have c5b1 : (a3 != 2) = false := bne_eq_false_iff_eq.mpr c5
  clear c5
  obtain rfl := Option.some.inj H
  go_enter Tryd.func80, Tryd.ntmps80
  go_wp2
  go_ret
  exact ⟨by first | rfl | (simp; done) | (simp [*]; done), by repeat (first | exact Drawn0.refl _ | apply Drawn0.step)⟩
 ·rw [if_neg c5] at H
  have c5b0 : (a3 == 2) = false := beq_eq_false_iff_ne.mpr c5
  have c5b1 : (a3 != 2) = true := bne_iff_ne.mpr c5
  by_cases c6 : a3 = 3
  ·rw [if_pos c6] at H
   have c6b0 : (a3 == 3) = true := beq_iff_eq.mpr c6
   have c6b1 : (a3 != 3) = false := bne_eq_false_iff_eq.mpr c6
   clear c6
   by_cases c7 : a1 > 0
   ·rw [if_pos c7] at H
    have c7b0 : decide (0 < a1) = true := decide_eq_true c7
    clear c7
    obtain rfl := Option.some.inj H
    go_enter Tryd.func80, Tryd.ntmps80
    go_wp2
    go_ret
    exact ⟨by first | rfl | (simp; done) | (simp [*]; done), by repeat (first | exact Drawn0.refl _ | apply Drawn0.step)⟩
   ·rw [if_neg c7] at H
    have c7b0 : decide (0 < a1) = false := decide_eq_false c7
    clear c7
    obtain rfl := Option.some.inj H
    go_enter Tryd.func80, Tryd.ntmps80
    go_wp2
    go_ret
    exact ⟨by first | rfl | (simp; done) | (simp [*]; done), by repeat (first | exact Drawn0.refl _ | apply Drawn0.step)⟩
  ·rw [if_neg c6] at H
   have c6b0 : (a3 == 3) = false := beq_eq_false_iff_ne.mpr c6
   have c6b1 : (a3 != 3) = true := bne_iff_ne.mpr c6
   by_cases c8 : a3 = 1
   ·rw [if_pos c8] at H
    have c8b0 : (a3 == 1) = true := beq_iff_eq.mpr c8
    have c8b1 : (a3 != 1) = false := bne_eq_false_iff_eq.mpr c8
    clear c8
    obtain rfl := Option.some.inj H
    go_enter Tryd.func80, Tryd.ntmps80
    go_wp2
    go_ret
    exact ⟨by first | rfl | (simp; done) | (simp [*]; done), by repeat (first | exact Drawn0.refl _ | apply Drawn0.step)⟩
   ·rw [if_neg c8] at H
    have c8b0 : (a3 == 1) = false := beq_eq_false_iff_ne.mpr c8
    have c8b1 : (a3 != 1) = true := bne_iff_ne.mpr c8
    by_cases c9 : a1 = (wrap64 (a2 - a1))
    ·rw [if_pos c9] at H
     have c9b0 : (a1 == (wrap64 (a2 - a1))) = true := beq_iff_eq.mpr c9
     have c9b1 : (a1 != (wrap64 (a2 - a1))) = false := bne_eq_false_iff_eq.mpr c9
     clear c9
     by_cases c10 : a3 = 4
     ·rw [if_pos c10] at H
      have c10b0 : (a3 == 4) = true := beq_iff_eq.mpr c10
      have c10b1 : (a3 != 4) = false := bne_eq_false_iff_eq.mpr c10
      clear c10
      obtain rfl := Option.some.inj H
      go_enter Tryd.func80, Tryd.ntmps80
      go_wp2
      go_ret
      exact ⟨by first | rfl | (simp; done) | (simp [*]; done), by repeat (first | exact Drawn0.refl _ | apply Drawn0.step)⟩
     ·rw [if_neg c10] at H
      have c10b0 : (a3 == 4) = false := beq_eq_false_iff_ne.mpr c10
      have c10b1 : (a3 != 4) = true := bne_iff_ne.mpr c10
      by_cases c11 : a3 = 6
      ·rw [if_pos c11] at H
       have c11b0 : (a3 == 6) = true := beq_iff_eq.mpr c11
       have c11b1 : (a3 != 6) = false := bne_eq_false_iff_eq.mpr c11
       clear c11
       obtain rfl := Option.some.inj H
       go_enter Tryd.func80, Tryd.ntmps80
       go_wp2
       go_ret
       exact ⟨by first | rfl | (simp; done) | (simp [*]; done), by repeat (first | exact Drawn0.refl _ | apply Drawn0.step)⟩
      ·rw [if_neg c11] at H
       have c11b0 : (a3 == 6) = false := beq_eq_false_iff_ne.mpr c11
       have c11b1 : (a3 != 6) = true := bne_iff_ne.mpr c11
       obtain rfl := Option.some.inj H
       go_enter Tryd.func80, Tryd.ntmps80
       go_wp2
       go_ret
       exact ⟨by first | rfl | (simp; done) | (simp [*]; done), by repeat (first | exact Drawn0.refl _ | apply Drawn0.step)⟩
    ·rw [if_neg c9] at H
     have c9b0 : (a1 == (wrap64 (a2 - a1))) = false := beq_eq_false_iff_ne.mpr c9
     have c9b1 : (a1 != (wrap64 (a2 - a1))) = true := bne_iff_ne.mpr c9
     obtain rfl := Option.some.inj H
     go_enter Tryd.func80, Tryd.ntmps80
     go_wp2
     go_ret
     exact ⟨by first | rfl | (simp; done) | (simp [*]; done), by repeat (first | exact Drawn0.refl _ | apply Drawn0.step)⟩

end Go.Proofs.YtmocphafkimdpaaDoor.P


-- written by a program (a patched copy of the kit's print: wip/mkprint.py); Lean checks it
namespace Go.Proofs.YtmocphafkimdpaaDoor.P
open Go.RowKit Go.Proofs.YtmocphafkimdpaaDoorW.PrintWords Go.Proofs.YtmocphafkimdpaaDoorW.PrintLast Go.Proofs.YtmocphafkimdpaaDoorW.PrintMore
attribute [local go_sem] max2_int min2_int max_two min_two max_three min_three max_four min_four   -- for this text's walks alone
set_option linter.unusedVariables false
set_option linter.unusedSimpArgs false

/-! ### frac_Round: function 37 -/
def frac_Round.j0 : Nat → Int → Int → Int → Bool → Option (Int × Int)
 | 0, _, _, _, _ => none
 | k + 1, x0, x1, x2, x16 => if x16 = true then (some (0, 1)) else ((frac_floor.f x0 x1).bind fun bt265 => (if bt265.2 > 0 then ((frac_nearer.f bt265.1 bt265.2 x1 x2).bind fun t267 => (if t267 = true then (some (wrap64 (bt265.1 + 1), 0)) else (some (bt265.1, 0)))) else (some (bt265.1, 0))))
def frac_Round.f (k : Nat) (a0 : Int) (a1 : Int) (a2 : Int) : Option (Int × Int) := if a1 ≤ 0 then (frac_Round.j0 k a0 a1 a2 true) else ((frac_Mode.f a2).bind fun t264 => (frac_Round.j0 k a0 a1 a2 (!t264)))
theorem frac_Round.mono_l : ∀ k, (∀ y0 y1 y2 y3, LeO (frac_Round.j0 k y0 y1 y2 y3) (frac_Round.j0 (k + 1) y0 y1 y2 y3))
 | 0 => fun _ _ _ _ r h => by simp [frac_Round.j0] at h
 | k + 1 => by
  have ih0 := frac_Round.mono_l k
  ·intro y0 y1 y2 y3
   unfold frac_Round.j0
   repeat' first
   | (with_reducible exact ih0 _ _ _ _)
   | (with_reducible exact LeO.refl _)
   | (with_reducible exact LeO.none _)
   | (with_reducible refine LeO.ite ?_ ?_)
   | (with_reducible refine LeO.bind ?_ (fun _ => ?_))
   | exact ih0 _ _ _ _
   | exact LeO.none _
   | refine LeO.ite ?_ ?_
   | refine LeO.bind ?_ (fun _ => ?_)
theorem frac_Round.mono : ∀ a0 a1 a2 k, LeO (frac_Round.f k a0 a1 a2) (frac_Round.f (k + 1) a0 a1 a2) := by
 intro a0 a1 a2 k
 have ih0 := frac_Round.mono_l k
 unfold frac_Round.f
 repeat' first
   | (with_reducible exact ih0 _ _ _ _)
   | (with_reducible exact LeO.refl _)
   | (with_reducible exact LeO.none _)
   | (with_reducible refine LeO.ite ?_ ?_)
   | (with_reducible refine LeO.bind ?_ (fun _ => ?_))
   | exact ih0 _ _ _ _
   | exact LeO.none _
   | refine LeO.ite ?_ ?_
   | refine LeO.bind ?_ (fun _ => ?_)
set_option maxHeartbeats 8000000 in
set_option maxRecDepth 100000 in
theorem frac_Round.calls (k : Nat) (a0 : Int) (a1 : Int) (a2 : Int) (r1 : Int) (r2 : Int) (w : World) (h : frac_Round.f k a0 a1 a2 = some (r1, r2)) :
  Calls Tryd.prog 37 #[.int .i64 a0, .int .i64 a1, .int .i64 a2] w fun e w' => e = .returned (.tuple #[.int .i64 r1, .int .i64 r2]) ∧ Drawn0 w w' := by
 have H : (if a1 ≤ 0 then (frac_Round.j0 k a0 a1 a2 true) else ((frac_Mode.f a2).bind fun t264 => (frac_Round.j0 k a0 a1 a2 (!t264)))) = some (r1, r2) := h
 clear h
 have HC4 := Aside0.mk H
 clear H
 go_enter Tryd.func37, Tryd.ntmps37
 go_upto_region 1 with (fail)
 go_cut [16] (fun v16 wc => ∃ (kq : Nat) (x16_3 : Bool), v16 = .bool x16_3 ∧ Aside0 (frac_Round.j0 kq a0 a1 a2 x16_3 = some (r1, r2)) ∧ Aside0 (kq ≤ k) ∧ Drawn0 w wc)
 case first =>
  have H := HC4.out
  clear HC4
  by_cases c5 : a1 ≤ 0
  ·rw [if_pos c5] at H
   have c5b0 : decide (a1 ≤ 0) = true := decide_eq_true c5
   clear c5
   (first | rw [c5b0] | (simp only [i64_w, i32_w]; rw [c5b0]) | skip)
   have H' := Aside0.mk H
   clear H
   go_wp2
   go_meet
   case rel => exact ⟨_, (true), (by first | rfl | (simp; done) | (simp [*]; done)), H', ⟨by first | omega | exact Nat.le_refl _⟩, by repeat (first | exact Drawn0.refl _ | apply Drawn0.step)⟩
  ·rw [if_neg c5] at H
   have c5b0 : decide (a1 ≤ 0) = false := decide_eq_false c5
   clear c5
   (first | rw [c5b0] | (simp only [i64_w, i32_w]; rw [c5b0]) | skip)
   replace H := Option.bind_eq_some_iff.mp H
   obtain ⟨t264, A60, H⟩ := H
   replace H : (frac_Round.j0 k a0 a1 a2 (!t264)) = some (r1, r2) := H
   have A6 := Aside0.mk A60
   clear A60
   have H' := Aside0.mk H
   clear H
   go_wp2_with (first | (go_at_call 78; (with_reducible refine (frac_Mode.calls a2 t264 _ A6.out).mono ?_); rintro e w' ⟨rfl, ⟨nd, rfl⟩⟩))
   go_meet
   case rel => exact ⟨_, (!t264), (by first | rfl | (simp; done) | (simp [*]; done)), H', ⟨by first | omega | exact Nat.le_refl _⟩, by repeat (first | exact Drawn0.refl _ | apply Drawn0.step)⟩
 case rest =>
  clear HC4
  try clear p2
  try clear c3
  try clear c5
  try clear c5b0
  obtain ⟨kq, x16_3, rfl, HA, HJ3, ⟨mc3, rfl⟩⟩ := hcut
  cases kq with
  | zero => exact absurd HA.out (by simp [frac_Round.j0])
  | succ kj3 =>
   have H := HA.out
   clear HA
   simp only [frac_Round.j0] at H
   by_cases c7 : x16_3 = true
   ·subst c7
    have H1 : (some (0, 1)) = some (r1, r2) := by rw [if_pos rfl] at H; exact H
    clear H
    have H := H1
    clear H1
    simp only [Option.some.injEq, Prod.mk.injEq] at H
    obtain ⟨rfl, rfl⟩ := H
    go_wp2
    go_ret2
    exact ⟨by first | rfl | (simp; done) | (simp [*]; done), by repeat (first | exact Drawn0.refl _ | apply Drawn0.step)⟩
   ·replace c7 := Bool.eq_false_iff.mpr c7
    subst c7
    have H1 : ((frac_floor.f a0 a1).bind fun bt265 => (if bt265.2 > 0 then ((frac_nearer.f bt265.1 bt265.2 a1 a2).bind fun t267 => (if t267 = true then (some (wrap64 (bt265.1 + 1), 0)) else (some (bt265.1, 0)))) else (some (bt265.1, 0)))) = some (r1, r2) := by rw [if_neg (show ¬ (false = true) by decide)] at H; exact H
    clear H
    have H := H1
    clear H1
    replace H := Option.bind_eq_some_iff.mp H
    obtain ⟨⟨t265, t266⟩, A80, H⟩ := H
    replace H : (if t266 > 0 then ((frac_nearer.f t265 t266 a1 a2).bind fun t267 => (if t267 = true then (some (wrap64 (t265 + 1), 0)) else (some (t265, 0)))) else (some (t265, 0))) = some (r1, r2) := H
    have A8 := Aside0.mk A80
    clear A80
    by_cases c9 : t266 > 0
    ·rw [if_pos c9] at H
     have c9b0 : decide (0 < t266) = true := decide_eq_true c9
     clear c9
     replace H := Option.bind_eq_some_iff.mp H
     obtain ⟨t267, A100, H⟩ := H
     replace H : (if t267 = true then (some (wrap64 (t265 + 1), 0)) else (some (t265, 0))) = some (r1, r2) := H
     have A10 := Aside0.mk A100
     clear A100
     by_cases c11 : t267 = true
     ·subst c11
      have H1 : (some (wrap64 (t265 + 1), 0)) = some (r1, r2) := by rw [if_pos rfl] at H; exact H
      clear H
      have H := H1
      clear H1
      simp only [Option.some.injEq, Prod.mk.injEq] at H
      obtain ⟨rfl, rfl⟩ := H
      go_wp2_with (first | ((with_reducible refine gate_callee (f := 79) rfl ?_); refine goesL_ (some 20) rfl rfl Tryd.func79 (by kernel_rfl) rfl #[.int .i64 a0, .int .i64 a1] rfl (by (try simp only [List.map_toArray, List.map_cons, List.map_nil]); first | done | rfl | (simp only [List.length_drop, List.length_take]; rfl)) ?_; (with_reducible refine (frac_floor.calls a0 a1 t265 t266 _ A8.out).mono ?_); rintro e w' ⟨rfl, ⟨nd, rfl⟩⟩; refine ⟨_, rfl, ?_⟩) | (go_at_call 80; (with_reducible refine (frac_nearer.calls t265 t266 a1 a2 true _ A10.out).mono ?_); rintro e w' ⟨rfl, ⟨nd, rfl⟩⟩))
      go_ret2
      exact ⟨by first | rfl | (simp; done) | (simp [*]; done), by repeat (first | exact Drawn0.refl _ | apply Drawn0.step)⟩
     ·replace c11 := Bool.eq_false_iff.mpr c11
      subst c11
      have H1 : (some (t265, 0)) = some (r1, r2) := by rw [if_neg (show ¬ (false = true) by decide)] at H; exact H
      clear H
      have H := H1
      clear H1
      simp only [Option.some.injEq, Prod.mk.injEq] at H
      obtain ⟨rfl, rfl⟩ := H
      go_wp2_with (first | ((with_reducible refine gate_callee (f := 79) rfl ?_); refine goesL_ (some 20) rfl rfl Tryd.func79 (by kernel_rfl) rfl #[.int .i64 a0, .int .i64 a1] rfl (by (try simp only [List.map_toArray, List.map_cons, List.map_nil]); first | done | rfl | (simp only [List.length_drop, List.length_take]; rfl)) ?_; (with_reducible refine (frac_floor.calls a0 a1 t265 t266 _ A8.out).mono ?_); rintro e w' ⟨rfl, ⟨nd, rfl⟩⟩; refine ⟨_, rfl, ?_⟩) | (go_at_call 80; (with_reducible refine (frac_nearer.calls t265 t266 a1 a2 false _ A10.out).mono ?_); rintro e w' ⟨rfl, ⟨nd, rfl⟩⟩))
      go_ret2
      exact ⟨by first | rfl | (simp; done) | (simp [*]; done), by repeat (first | exact Drawn0.refl _ | apply Drawn0.step)⟩
    ·rw [if_neg c9] at H
     have c9b0 : decide (0 < t266) = false := decide_eq_false c9
     clear c9
     simp only [Option.some.injEq, Prod.mk.injEq] at H
     obtain ⟨rfl, rfl⟩ := H
     go_wp2_with (first | ((with_reducible refine gate_callee (f := 79) rfl ?_); refine goesL_ (some 20) rfl rfl Tryd.func79 (by kernel_rfl) rfl #[.int .i64 a0, .int .i64 a1] rfl (by (try simp only [List.map_toArray, List.map_cons, List.map_nil]); first | done | rfl | (simp only [List.length_drop, List.length_take]; rfl)) ?_; (with_reducible refine (frac_floor.calls a0 a1 t265 t266 _ A8.out).mono ?_); rintro e w' ⟨rfl, ⟨nd, rfl⟩⟩; refine ⟨_, rfl, ?_⟩))
     go_ret2
     exact ⟨by first | rfl | (simp; done) | (simp [*]; done), by repeat (first | exact Drawn0.refl _ | apply Drawn0.step)⟩

end Go.Proofs.YtmocphafkimdpaaDoor.P


-- written by a program (a patched copy of the kit's print: wip/mkprint.py); Lean checks it
namespace Go.Proofs.YtmocphafkimdpaaDoor.P
open Go.RowKit Go.Proofs.YtmocphafkimdpaaDoorW.PrintWords Go.Proofs.YtmocphafkimdpaaDoorW.PrintLast Go.Proofs.YtmocphafkimdpaaDoorW.PrintMore
attribute [local go_sem] max2_int min2_int max_two min_two max_three min_three max_four min_four   -- for this text's walks alone
set_option linter.unusedVariables false
set_option linter.unusedSimpArgs false

/-! ### element_Value: function 36 -/
def element_Value.j0 : Nat → Bool → ByteArray → Int → Int → Option (Int × Int)
 | 0, _, _, _, _ => none
 | k + 1, x18, x269000, x269001, x269002 => if x18 = true then (some (0, 1)) else ((frac_Round.f k (wrap64 (x269001 * x269002)) 100 4).bind fun bt273 => (if bt273.2 = 0 then ((money_Right.f k (([bt273.1] : List Int))).bind fun t278 => (if t278 = true then (some (bt273.1, 0)) else (some (0, 10)))) else (some (0, bt273.2))))
def element_Value.f (k : Nat) (a0_0 : ByteArray) (a0_1 : Int) (a0_2 : Int) : Option (Int × Int) := (money_Right.f k (([a0_1] : List Int))).bind fun t272 => (if t272 = true then (if a0_2 < 0 then (element_Value.j0 k true a0_0 a0_1 a0_2) else (element_Value.j0 k (decide (a0_2 > 100000)) a0_0 a0_1 a0_2)) else (some (0, 10)))
theorem element_Value.mono_l : ∀ k, (∀ y0 y1 y2 y3, LeO (element_Value.j0 k y0 y1 y2 y3) (element_Value.j0 (k + 1) y0 y1 y2 y3))
 | 0 => fun _ _ _ _ r h => by simp [element_Value.j0] at h
 | k + 1 => by
  have ih0 := element_Value.mono_l k
  ·intro y0 y1 y2 y3
   unfold element_Value.j0
   repeat' first
   | (with_reducible exact ih0 _ _ _ _)
   | (with_reducible exact frac_Round.mono _ _ _ _)
   | (with_reducible exact money_Right.mono _ _)
   | (with_reducible exact LeO.refl _)
   | (with_reducible exact LeO.none _)
   | (with_reducible refine LeO.ite ?_ ?_)
   | (with_reducible refine LeO.bind ?_ (fun _ => ?_))
   | exact ih0 _ _ _ _
   | exact frac_Round.mono _ _ _ _
   | exact money_Right.mono _ _
   | exact LeO.none _
   | refine LeO.ite ?_ ?_
   | refine LeO.bind ?_ (fun _ => ?_)
theorem element_Value.mono : ∀ a0 a1 a2 k, LeO (element_Value.f k a0 a1 a2) (element_Value.f (k + 1) a0 a1 a2) := by
 intro a0 a1 a2 k
 have ih0 := element_Value.mono_l k
 unfold element_Value.f
 repeat' first
   | (with_reducible exact ih0 _ _ _ _)
   | (with_reducible exact frac_Round.mono _ _ _ _)
   | (with_reducible exact money_Right.mono _ _)
   | (with_reducible exact LeO.refl _)
   | (with_reducible exact LeO.none _)
   | (with_reducible refine LeO.ite ?_ ?_)
   | (with_reducible refine LeO.bind ?_ (fun _ => ?_))
   | exact ih0 _ _ _ _
   | exact frac_Round.mono _ _ _ _
   | exact money_Right.mono _ _
   | exact LeO.none _
   | refine LeO.ite ?_ ?_
   | refine LeO.bind ?_ (fun _ => ?_)
set_option maxHeartbeats 8000000 in
set_option maxRecDepth 100000 in
theorem element_Value.calls (k : Nat) (a0_0 : ByteArray) (a0_1 : Int) (a0_2 : Int) (r1 : Int) (r2 : Int) (w : World) (h : element_Value.f k a0_0 a0_1 a0_2 = some (r1, r2)) :
  Calls Tryd.prog 36 #[.agg #[.string a0_0, .int .i64 a0_1, .int .i64 a0_2]] w fun e w' => e = .returned (.tuple #[.int .i64 r1, .int .i64 r2]) ∧ Below w.heap.size w w' := by
 have hu48 := Tryd.underlying48
 have HB := Aside0.mk (Below.refl w.heap.size w)
 have H : ((money_Right.f k (([a0_1] : List Int))).bind fun t272 => (if t272 = true then (if a0_2 < 0 then (element_Value.j0 k true a0_0 a0_1 a0_2) else (element_Value.j0 k (decide (a0_2 > 100000)) a0_0 a0_1 a0_2)) else (some (0, 10)))) = some (r1, r2) := h
 clear h
 obtain ⟨y269, hy269⟩ : ∃ y_ : List Int, y_ = (([a0_1] : List Int)) := ⟨_, rfl⟩
 replace H : ((money_Right.f k y269).bind fun t272 => (if t272 = true then (if a0_2 < 0 then (element_Value.j0 k true a0_0 a0_1 a0_2) else (element_Value.j0 k (decide (a0_2 > 100000)) a0_0 a0_1 a0_2)) else (some (0, 10)))) = some (r1, r2) := by first | (rw [hy269]; with_reducible exact H) | (have H2_ := (Option.bind_some _ _).symm.trans H; rw [hy269]; with_reducible exact H2_) | (have H2_ := (Option.bind_some _ _).symm.trans H; with_reducible exact H2_) | with_reducible exact H | (rw [hy269]; exact H) | exact H
 have Ny269 := Aside0.mk hy269
 clear hy269
 replace H := Option.bind_eq_some_iff.mp H
 obtain ⟨t272, A20, H⟩ := H
 replace H : (if t272 = true then (if a0_2 < 0 then (element_Value.j0 k true a0_0 a0_1 a0_2) else (element_Value.j0 k (decide (a0_2 > 100000)) a0_0 a0_1 a0_2)) else (some (0, 10))) = some (r1, r2) := H
 have A2 := Aside0.mk A20
 clear A20
 by_cases c3 : t272 = true
 ·subst c3
  have H1 : (if a0_2 < 0 then (element_Value.j0 k true a0_0 a0_1 a0_2) else (element_Value.j0 k (decide (a0_2 > 100000)) a0_0 a0_1 a0_2)) = some (r1, r2) := by rw [if_pos rfl] at H; exact H
  clear H
  have H := H1
  clear H1
  have HC4 := Aside0.mk H
  clear H
  go_enter Tryd.func36, Tryd.ntmps36
  go_upto_region 3 with (first | ((with_reducible refine gate_dst (N := 1) rfl ?_); refine box_event ?hg (N := 1) ?hd (cs := #[.string a0_0, .int .i64 a0_1, .int .i64 a0_2]) (t := 48) ?hr ?_; (case hd => rfl); (case hg => rfl); (case hr => first | (go_simp; done) | (go_simp; rfl)); intro gb268 hg w5 hbox hb; have n0_ := Aside0.mk (below_step (by repeat (first | (with_reducible first | exact HB.out | apply below_alloc | apply pw_below_drewN | apply below_drew1) | exact HB.out)) hb); have n1_ := Aside0.mk (hbox); have n2_ := Aside0.mk ((by rw [hg]; exact (below_size (by repeat (first | (with_reducible first | exact HB.out | apply below_alloc | apply pw_below_drewN | apply below_drew1) | exact HB.out))) : w.heap.size ≤ gb268)); have n3_ := Aside0.mk ((by rw [hg]; exact (below_size (by repeat (first | (with_reducible first | exact HB.out | apply below_alloc | apply pw_below_drewN | apply below_drew1) | exact HB.out))) : w.heap.size ≤ gb268)); clear HB; have HB := n0_; have BK268 := n1_; have GW268 := n2_; have GE268 := n3_; clear n0_ n1_ n2_ n3_; clear hb hbox hg; have hcz6_0 : w5.cell? ⟨gb268, 0, none⟩ = some (.string a0_0) := (blk_cell BK268.out 0).trans rfl; have hcz6_1 : w5.cell? ⟨gb268, 1, none⟩ = some (.int .i64 a0_1) := (blk_cell BK268.out 1).trans rfl; have hcz6_2 : w5.cell? ⟨gb268, 2, none⟩ = some (.int .i64 a0_2) := (blk_cell BK268.out 2).trans rfl; have hfz6_0 := blk_frozen BK268.out 0; have hfz6_1 := blk_frozen BK268.out 1; have hfz6_2 := blk_frozen BK268.out 2) | ((with_reducible refine gate_dst (N := 8) rfl ?_); refine Kd.R_lit (Kd.int .i64) _ 2 ?hg (N := 8) ?hd (xs := ([a0_1] : List Int)) (inner := [.int .i64 a0_1]) (ok := fun _ => True) (okp := fun _ => True) ?hr ?hp (fun _ hk => hk) trivial (Below.refl _ _) (Nat.le_refl _) (by simp) ?_; (case hd => rfl); (case hg => rfl); (case hr => first | (go_simp; done) | (go_simp; rfl)); (case hp => exact (Reps.one (show Kd.M (Kd.int .i64) _ _ _ a0_1 [.int .i64 a0_1] from rfl) (Reps.none _ _))); intro v270 w7 ho8 hb hg_ hnew_; clear hg_ hnew_; (first | rw [← Ny269.out] at ho8 | (simp only [Int.reduceToNat] at ho8; rw [← Ny269.out] at ho8)); have n0_ := Aside0.mk (Kd.R_lower ho8 (below_size (by repeat (first | (with_reducible first | exact HB.out | apply below_alloc | apply pw_below_drewN | apply below_drew1 | refine below_set ?_ GE268.out) | exact HB.out)))); have n1_ := Aside0.mk (blk_below (g := gb268) (o := .cells #[.string a0_0, .int .i64 a0_1, .int .i64 a0_2] 48 (0, 0)) (by (with_reducible repeat (first | refine blk_drewN ?_ _ | refine blk_drew ?_ | refine blk_alloc ?_ _)); exact BK268.out) hb); have n2_ := Aside0.mk (below_step (by repeat (first | (with_reducible first | exact HB.out | apply below_alloc | apply pw_below_drewN | apply below_drew1 | refine below_set ?_ GE268.out) | exact HB.out)) hb); clear BK268; clear HB; have HO271 := n0_; have BK268 := n1_; have HB := n2_; clear n0_ n1_ n2_; clear hb ho8; obtain ⟨Ao9, co9, eo9⟩ := Kd.R_slice HO271.out; subst eo9) | ((with_reducible refine gate_callee (f := 65) rfl ?_); refine goesL_ (some 9) rfl rfl Tryd.func65 (by kernel_rfl) rfl #[.slice Ao9 y269.length co9] rfl (by (try simp only [List.map_toArray, List.map_cons, List.map_nil]); first | done | rfl | (simp only [List.length_drop, List.length_take]; rfl)) ?_; (with_reducible refine (money_Right.calls k _ _ y269 true _ ?side1 ?side2 A2.out).mono ?_); (case side1 => repeat (first | exact (Kd.R_reads' HO271.out).2.2 | (with_reducible refine Kd.C_alloc ?_ _) | (with_reducible refine Kd.C_drewN ?_ _) | (with_reducible refine Kd.C_drew ?_))); (case side2 => exact (Kd.R_reads' HO271.out).2.1); rintro e w' ⟨rfl, ⟨nd, rfl⟩⟩; refine ⟨_, rfl, ?_⟩))
  (try simp only [Act.put, List.setIfInBounds_toArray, List.set_cons_zero, List.set_cons_succ])
  go_cut [18] (fun v18 wc => ∃ (kq : Nat) (x18_3 : Bool), v18 = .bool x18_3 ∧ Aside0 (element_Value.j0 kq x18_3 a0_0 a0_1 a0_2 = some (r1, r2)) ∧ Aside0 (kq ≤ k) ∧ Aside0 (wc.heap[gb268]? = some (.cells #[.string a0_0, .int .i64 a0_1, .int .i64 a0_2] 48 (0, 0))) ∧ Aside0 (Below w.heap.size w wc))
  case first =>
   have H := HC4.out
   clear HC4
   by_cases c10 : a0_2 < 0
   ·rw [if_pos c10] at H
    have c10b0 : decide (a0_2 < 0) = true := decide_eq_true c10
    clear c10
    (first | rw [c10b0] | (simp only [i64_w, i32_w]; rw [c10b0]) | skip)
    have H' := Aside0.mk H
    clear H
    have hcz11_0 : w7.cell? ⟨gb268, 0, none⟩ = some (.string a0_0) := (blk_cell BK268.out 0).trans rfl
    have hcz11_1 : w7.cell? ⟨gb268, 1, none⟩ = some (.int .i64 a0_1) := (blk_cell BK268.out 1).trans rfl
    have hcz11_2 : w7.cell? ⟨gb268, 2, none⟩ = some (.int .i64 a0_2) := (blk_cell BK268.out 2).trans rfl
    have hfz11_0 := blk_frozen BK268.out 0
    have hfz11_1 := blk_frozen BK268.out 1
    have hfz11_2 := blk_frozen BK268.out 2
    go_wp2
    go_meet
    case rel => exact ⟨_, (true), (by first | rfl | (simp; done) | (simp [*]; done)), H', ⟨by first | omega | exact Nat.le_refl _⟩, ⟨by (with_reducible repeat (first | refine blk_drewN ?_ _ | refine blk_drew ?_ | refine blk_alloc ?_ _)); exact BK268.out⟩, ⟨by repeat (first | (with_reducible first | exact HB.out | apply below_alloc | apply pw_below_drewN | apply below_drew1 | refine below_set ?_ GE268.out) | exact HB.out)⟩⟩
   ·rw [if_neg c10] at H
    have c10b0 : decide (a0_2 < 0) = false := decide_eq_false c10
    clear c10
    (first | rw [c10b0] | (simp only [i64_w, i32_w]; rw [c10b0]) | skip)
    have H' := Aside0.mk H
    clear H
    have hcz12_0 : w7.cell? ⟨gb268, 0, none⟩ = some (.string a0_0) := (blk_cell BK268.out 0).trans rfl
    have hcz12_1 : w7.cell? ⟨gb268, 1, none⟩ = some (.int .i64 a0_1) := (blk_cell BK268.out 1).trans rfl
    have hcz12_2 : w7.cell? ⟨gb268, 2, none⟩ = some (.int .i64 a0_2) := (blk_cell BK268.out 2).trans rfl
    have hfz12_0 := blk_frozen BK268.out 0
    have hfz12_1 := blk_frozen BK268.out 1
    have hfz12_2 := blk_frozen BK268.out 2
    go_wp2
    go_meet
    case rel => exact ⟨_, (decide (a0_2 > 100000)), (by first | rfl | (simp; done) | (simp [*]; done)), H', ⟨by first | omega | exact Nat.le_refl _⟩, ⟨by (with_reducible repeat (first | refine blk_drewN ?_ _ | refine blk_drew ?_ | refine blk_alloc ?_ _)); exact BK268.out⟩, ⟨by repeat (first | (with_reducible first | exact HB.out | apply below_alloc | apply pw_below_drewN | apply below_drew1 | refine below_set ?_ GE268.out) | exact HB.out)⟩⟩
  case rest =>
   clear HC4
   try clear c1
   try clear p2
   try clear c3
   try clear c6
   try clear c10
   try clear c10b0
   try clear hcz11_0
   try clear hcz11_1
   try clear hcz11_2
   try clear hcz12_0
   try clear hcz12_1
   try clear hcz12_2
   try clear hcz6_0
   try clear hcz6_1
   try clear hcz6_2
   try clear hfz11_0
   try clear hfz11_1
   try clear hfz11_2
   try clear hfz12_0
   try clear hfz12_1
   try clear hfz12_2
   try clear hfz6_0
   try clear hfz6_1
   try clear hfz6_2
   obtain ⟨kq, x18_3, rfl, HA, HJ3, BK268, HB⟩ := hcut
   cases kq with
   | zero => exact absurd HA.out (by simp [element_Value.j0])
   | succ kj3 =>
    have H := HA.out
    clear HA
    simp only [element_Value.j0] at H
    by_cases c13 : x18_3 = true
    ·subst c13
     have H1 : (some (0, 1)) = some (r1, r2) := by rw [if_pos rfl] at H; exact H
     clear H
     have H := H1
     clear H1
     simp only [Option.some.injEq, Prod.mk.injEq] at H
     obtain ⟨rfl, rfl⟩ := H
     go_wp2
     go_ret2
     exact ⟨by first | rfl | (simp [errW_none, errW_some] <;> rfl) | (simp [*, errW_none, errW_some] <;> rfl), by repeat (first | (with_reducible first | exact HB.out | apply below_alloc | apply pw_below_drewN | apply below_drew1 | refine below_set ?_ GE268.out) | exact HB.out)⟩
    ·replace c13 := Bool.eq_false_iff.mpr c13
     subst c13
     have H1 : ((frac_Round.f kj3 (wrap64 (a0_1 * a0_2)) 100 4).bind fun bt273 => (if bt273.2 = 0 then ((money_Right.f kj3 (([bt273.1] : List Int))).bind fun t278 => (if t278 = true then (some (bt273.1, 0)) else (some (0, 10)))) else (some (0, bt273.2)))) = some (r1, r2) := by rw [if_neg (show ¬ (false = true) by decide)] at H; exact H
     clear H
     have H := H1
     clear H1
     replace H := Option.bind_eq_some_iff.mp H
     obtain ⟨⟨t273, t274⟩, A140, H⟩ := H
     replace H : (if t274 = 0 then ((money_Right.f kj3 (([t273] : List Int))).bind fun t278 => (if t278 = true then (some (t273, 0)) else (some (0, 10)))) else (some (0, t274))) = some (r1, r2) := H
     have A14 := Aside0.mk A140
     clear A140
     by_cases c15 : t274 = 0
     ·rw [if_pos c15] at H
      have c15b0 : (t274 == 0) = true := beq_iff_eq.mpr c15
      have c15b1 : (t274 != 0) = false := bne_eq_false_iff_eq.mpr c15
      clear c15
      obtain ⟨y275, hy275⟩ : ∃ y_ : List Int, y_ = (([t273] : List Int)) := ⟨_, rfl⟩
      replace H : ((money_Right.f kj3 y275).bind fun t278 => (if t278 = true then (some (t273, 0)) else (some (0, 10)))) = some (r1, r2) := by first | (rw [hy275]; with_reducible exact H) | (have H2_ := (Option.bind_some _ _).symm.trans H; rw [hy275]; with_reducible exact H2_) | (have H2_ := (Option.bind_some _ _).symm.trans H; with_reducible exact H2_) | with_reducible exact H | (rw [hy275]; exact H) | exact H
      have Ny275 := Aside0.mk hy275
      clear hy275
      replace H := Option.bind_eq_some_iff.mp H
      obtain ⟨t278, A160, H⟩ := H
      replace H : (if t278 = true then (some (t273, 0)) else (some (0, 10))) = some (r1, r2) := H
      have A16 := Aside0.mk A160
      clear A160
      by_cases c17 : t278 = true
      ·subst c17
       have H1 : (some (t273, 0)) = some (r1, r2) := by rw [if_pos rfl] at H; exact H
       clear H
       have H := H1
       clear H1
       simp only [Option.some.injEq, Prod.mk.injEq] at H
       obtain ⟨rfl, rfl⟩ := H
       have hcz18_0 : wc.cell? ⟨gb268, 0, none⟩ = some (.string a0_0) := (blk_cell BK268.out 0).trans rfl
       have hcz18_1 : wc.cell? ⟨gb268, 1, none⟩ = some (.int .i64 a0_1) := (blk_cell BK268.out 1).trans rfl
       have hcz18_2 : wc.cell? ⟨gb268, 2, none⟩ = some (.int .i64 a0_2) := (blk_cell BK268.out 2).trans rfl
       have hfz18_0 := blk_frozen BK268.out 0
       have hfz18_1 := blk_frozen BK268.out 1
       have hfz18_2 := blk_frozen BK268.out 2
       go_wp2_with (first | ((with_reducible refine gate_callee (f := 37) rfl ?_); refine goesL_ (some 25) rfl rfl Tryd.func37 (by kernel_rfl) rfl #[.int .i64 (wrap64 (a0_1 * a0_2)), .int .i64 100, .int .i64 4] rfl (by (try simp only [List.map_toArray, List.map_cons, List.map_nil]); first | done | rfl | (simp only [List.length_drop, List.length_take]; rfl)) ?_; (with_reducible refine (frac_Round.calls kj3 (wrap64 (a0_1 * a0_2)) 100 4 t273 t274 _ A14.out).mono ?_); rintro e w' ⟨rfl, ⟨nd, rfl⟩⟩; refine ⟨_, rfl, ?_⟩) | ((with_reducible refine gate_dst (N := 32) rfl ?_); refine Kd.R_lit (Kd.int .i64) _ 2 ?hg (N := 32) ?hd (xs := ([t273] : List Int)) (inner := [.int .i64 t273]) (ok := fun _ => True) (okp := fun _ => True) ?hr ?hp (fun _ hk => hk) trivial (Below.refl _ _) (Nat.le_refl _) (by simp) ?_; (case hd => rfl); (case hg => rfl); (case hr => first | (go_simp; done) | (go_simp; rfl)); (case hp => exact (Reps.one (show Kd.M (Kd.int .i64) _ _ _ t273 [.int .i64 t273] from rfl) (Reps.none _ _))); intro v276 w19 ho20 hb hg_ hnew_; clear hg_ hnew_; (first | rw [← Ny275.out] at ho20 | (simp only [Int.reduceToNat] at ho20; rw [← Ny275.out] at ho20)); have n0_ := Aside0.mk (Kd.R_lower ho20 (below_size (by repeat (first | (with_reducible first | exact HB.out | apply below_alloc | apply pw_below_drewN | apply below_drew1 | refine below_set ?_ GE268.out) | exact HB.out)))); have n1_ := Aside0.mk (blk_below (g := gb268) (o := .cells #[.string a0_0, .int .i64 a0_1, .int .i64 a0_2] 48 (0, 0)) (by (with_reducible repeat (first | refine blk_drewN ?_ _ | refine blk_drew ?_ | refine blk_alloc ?_ _)); exact BK268.out) hb); have n2_ := Aside0.mk (below_step (by repeat (first | (with_reducible first | exact HB.out | apply below_alloc | apply pw_below_drewN | apply below_drew1 | refine below_set ?_ GE268.out) | exact HB.out)) hb); clear BK268; clear HB; have HO277 := n0_; have BK268 := n1_; have HB := n2_; clear n0_ n1_ n2_; clear hb ho20; obtain ⟨Ao21, co21, eo21⟩ := Kd.R_slice HO277.out; subst eo21) | ((with_reducible refine gate_callee (f := 65) rfl ?_); refine goesL_ (some 33) rfl rfl Tryd.func65 (by kernel_rfl) rfl #[.slice Ao21 y275.length co21] rfl (by (try simp only [List.map_toArray, List.map_cons, List.map_nil]); first | done | rfl | (simp only [List.length_drop, List.length_take]; rfl)) ?_; (with_reducible refine (money_Right.calls kj3 _ _ y275 true _ ?side1 ?side2 A16.out).mono ?_); (case side1 => repeat (first | exact (Kd.R_reads' HO277.out).2.2 | (with_reducible refine Kd.C_alloc ?_ _) | (with_reducible refine Kd.C_drewN ?_ _) | (with_reducible refine Kd.C_drew ?_))); (case side2 => exact (Kd.R_reads' HO277.out).2.1); rintro e w' ⟨rfl, ⟨nd, rfl⟩⟩; refine ⟨_, rfl, ?_⟩))
       go_ret2
       exact ⟨by first | rfl | (simp [errW_none, errW_some] <;> rfl) | (simp [*, errW_none, errW_some] <;> rfl), by repeat (first | (with_reducible first | exact HB.out | apply below_alloc | apply pw_below_drewN | apply below_drew1 | refine below_set ?_ GE268.out) | exact HB.out)⟩
      ·replace c17 := Bool.eq_false_iff.mpr c17
       subst c17
       have H1 : (some (0, 10)) = some (r1, r2) := by rw [if_neg (show ¬ (false = true) by decide)] at H; exact H
       clear H
       have H := H1
       clear H1
       simp only [Option.some.injEq, Prod.mk.injEq] at H
       obtain ⟨rfl, rfl⟩ := H
       have hcz22_0 : wc.cell? ⟨gb268, 0, none⟩ = some (.string a0_0) := (blk_cell BK268.out 0).trans rfl
       have hcz22_1 : wc.cell? ⟨gb268, 1, none⟩ = some (.int .i64 a0_1) := (blk_cell BK268.out 1).trans rfl
       have hcz22_2 : wc.cell? ⟨gb268, 2, none⟩ = some (.int .i64 a0_2) := (blk_cell BK268.out 2).trans rfl
       have hfz22_0 := blk_frozen BK268.out 0
       have hfz22_1 := blk_frozen BK268.out 1
       have hfz22_2 := blk_frozen BK268.out 2
       go_wp2_with (first | ((with_reducible refine gate_callee (f := 37) rfl ?_); refine goesL_ (some 25) rfl rfl Tryd.func37 (by kernel_rfl) rfl #[.int .i64 (wrap64 (a0_1 * a0_2)), .int .i64 100, .int .i64 4] rfl (by (try simp only [List.map_toArray, List.map_cons, List.map_nil]); first | done | rfl | (simp only [List.length_drop, List.length_take]; rfl)) ?_; (with_reducible refine (frac_Round.calls kj3 (wrap64 (a0_1 * a0_2)) 100 4 t273 t274 _ A14.out).mono ?_); rintro e w' ⟨rfl, ⟨nd, rfl⟩⟩; refine ⟨_, rfl, ?_⟩) | ((with_reducible refine gate_dst (N := 32) rfl ?_); refine Kd.R_lit (Kd.int .i64) _ 2 ?hg (N := 32) ?hd (xs := ([t273] : List Int)) (inner := [.int .i64 t273]) (ok := fun _ => True) (okp := fun _ => True) ?hr ?hp (fun _ hk => hk) trivial (Below.refl _ _) (Nat.le_refl _) (by simp) ?_; (case hd => rfl); (case hg => rfl); (case hr => first | (go_simp; done) | (go_simp; rfl)); (case hp => exact (Reps.one (show Kd.M (Kd.int .i64) _ _ _ t273 [.int .i64 t273] from rfl) (Reps.none _ _))); intro v276 w23 ho24 hb hg_ hnew_; clear hg_ hnew_; (first | rw [← Ny275.out] at ho24 | (simp only [Int.reduceToNat] at ho24; rw [← Ny275.out] at ho24)); have n0_ := Aside0.mk (Kd.R_lower ho24 (below_size (by repeat (first | (with_reducible first | exact HB.out | apply below_alloc | apply pw_below_drewN | apply below_drew1 | refine below_set ?_ GE268.out) | exact HB.out)))); have n1_ := Aside0.mk (blk_below (g := gb268) (o := .cells #[.string a0_0, .int .i64 a0_1, .int .i64 a0_2] 48 (0, 0)) (by (with_reducible repeat (first | refine blk_drewN ?_ _ | refine blk_drew ?_ | refine blk_alloc ?_ _)); exact BK268.out) hb); have n2_ := Aside0.mk (below_step (by repeat (first | (with_reducible first | exact HB.out | apply below_alloc | apply pw_below_drewN | apply below_drew1 | refine below_set ?_ GE268.out) | exact HB.out)) hb); clear BK268; clear HB; have HO277 := n0_; have BK268 := n1_; have HB := n2_; clear n0_ n1_ n2_; clear hb ho24; obtain ⟨Ao25, co25, eo25⟩ := Kd.R_slice HO277.out; subst eo25) | ((with_reducible refine gate_callee (f := 65) rfl ?_); refine goesL_ (some 33) rfl rfl Tryd.func65 (by kernel_rfl) rfl #[.slice Ao25 y275.length co25] rfl (by (try simp only [List.map_toArray, List.map_cons, List.map_nil]); first | done | rfl | (simp only [List.length_drop, List.length_take]; rfl)) ?_; (with_reducible refine (money_Right.calls kj3 _ _ y275 false _ ?side1 ?side2 A16.out).mono ?_); (case side1 => repeat (first | exact (Kd.R_reads' HO277.out).2.2 | (with_reducible refine Kd.C_alloc ?_ _) | (with_reducible refine Kd.C_drewN ?_ _) | (with_reducible refine Kd.C_drew ?_))); (case side2 => exact (Kd.R_reads' HO277.out).2.1); rintro e w' ⟨rfl, ⟨nd, rfl⟩⟩; refine ⟨_, rfl, ?_⟩))
       go_ret2
       exact ⟨by first | rfl | (simp [errW_none, errW_some] <;> rfl) | (simp [*, errW_none, errW_some] <;> rfl), by repeat (first | (with_reducible first | exact HB.out | apply below_alloc | apply pw_below_drewN | apply below_drew1 | refine below_set ?_ GE268.out) | exact HB.out)⟩
     ·rw [if_neg c15] at H
      have c15b0 : (t274 == 0) = false := beq_eq_false_iff_ne.mpr c15
      have c15b1 : (t274 != 0) = true := bne_iff_ne.mpr c15
      simp only [Option.some.injEq, Prod.mk.injEq] at H
      obtain ⟨rfl, rfl⟩ := H
      have hcz26_0 : wc.cell? ⟨gb268, 0, none⟩ = some (.string a0_0) := (blk_cell BK268.out 0).trans rfl
      have hcz26_1 : wc.cell? ⟨gb268, 1, none⟩ = some (.int .i64 a0_1) := (blk_cell BK268.out 1).trans rfl
      have hcz26_2 : wc.cell? ⟨gb268, 2, none⟩ = some (.int .i64 a0_2) := (blk_cell BK268.out 2).trans rfl
      have hfz26_0 := blk_frozen BK268.out 0
      have hfz26_1 := blk_frozen BK268.out 1
      have hfz26_2 := blk_frozen BK268.out 2
      go_wp2_with (first | ((with_reducible refine gate_callee (f := 37) rfl ?_); refine goesL_ (some 25) rfl rfl Tryd.func37 (by kernel_rfl) rfl #[.int .i64 (wrap64 (a0_1 * a0_2)), .int .i64 100, .int .i64 4] rfl (by (try simp only [List.map_toArray, List.map_cons, List.map_nil]); first | done | rfl | (simp only [List.length_drop, List.length_take]; rfl)) ?_; (with_reducible refine (frac_Round.calls kj3 (wrap64 (a0_1 * a0_2)) 100 4 t273 t274 _ A14.out).mono ?_); rintro e w' ⟨rfl, ⟨nd, rfl⟩⟩; refine ⟨_, rfl, ?_⟩))
      go_ret2
      exact ⟨by first | rfl | (simp [errW_none, errW_some] <;> rfl) | (simp [*, errW_none, errW_some] <;> rfl), by repeat (first | (with_reducible first | exact HB.out | apply below_alloc | apply pw_below_drewN | apply below_drew1 | refine below_set ?_ GE268.out) | exact HB.out)⟩
 ·replace c3 := Bool.eq_false_iff.mpr c3
  subst c3
  have H1 : (some (0, 10)) = some (r1, r2) := by rw [if_neg (show ¬ (false = true) by decide)] at H; exact H
  clear H
  have H := H1
  clear H1
  simp only [Option.some.injEq, Prod.mk.injEq] at H
  obtain ⟨rfl, rfl⟩ := H
  go_enter Tryd.func36, Tryd.ntmps36
  go_wp2_with (first | ((with_reducible refine gate_dst (N := 1) rfl ?_); refine box_event ?hg (N := 1) ?hd (cs := #[.string a0_0, .int .i64 a0_1, .int .i64 a0_2]) (t := 48) ?hr ?_; (case hd => rfl); (case hg => rfl); (case hr => first | (go_simp; done) | (go_simp; rfl)); intro gb268 hg w27 hbox hb; have n0_ := Aside0.mk (below_step (by repeat (first | (with_reducible first | exact HB.out | apply below_alloc | apply pw_below_drewN | apply below_drew1) | exact HB.out)) hb); have n1_ := Aside0.mk (hbox); have n2_ := Aside0.mk ((by rw [hg]; exact (below_size (by repeat (first | (with_reducible first | exact HB.out | apply below_alloc | apply pw_below_drewN | apply below_drew1) | exact HB.out))) : w.heap.size ≤ gb268)); have n3_ := Aside0.mk ((by rw [hg]; exact (below_size (by repeat (first | (with_reducible first | exact HB.out | apply below_alloc | apply pw_below_drewN | apply below_drew1) | exact HB.out))) : w.heap.size ≤ gb268)); clear HB; have HB := n0_; have BK268 := n1_; have GW268 := n2_; have GE268 := n3_; clear n0_ n1_ n2_ n3_; clear hb hbox hg; have hcz28_0 : w27.cell? ⟨gb268, 0, none⟩ = some (.string a0_0) := (blk_cell BK268.out 0).trans rfl; have hcz28_1 : w27.cell? ⟨gb268, 1, none⟩ = some (.int .i64 a0_1) := (blk_cell BK268.out 1).trans rfl; have hcz28_2 : w27.cell? ⟨gb268, 2, none⟩ = some (.int .i64 a0_2) := (blk_cell BK268.out 2).trans rfl; have hfz28_0 := blk_frozen BK268.out 0; have hfz28_1 := blk_frozen BK268.out 1; have hfz28_2 := blk_frozen BK268.out 2) | ((with_reducible refine gate_dst (N := 8) rfl ?_); refine Kd.R_lit (Kd.int .i64) _ 2 ?hg (N := 8) ?hd (xs := ([a0_1] : List Int)) (inner := [.int .i64 a0_1]) (ok := fun _ => True) (okp := fun _ => True) ?hr ?hp (fun _ hk => hk) trivial (Below.refl _ _) (Nat.le_refl _) (by simp) ?_; (case hd => rfl); (case hg => rfl); (case hr => first | (go_simp; done) | (go_simp; rfl)); (case hp => exact (Reps.one (show Kd.M (Kd.int .i64) _ _ _ a0_1 [.int .i64 a0_1] from rfl) (Reps.none _ _))); intro v270 w29 ho30 hb hg_ hnew_; clear hg_ hnew_; (first | rw [← Ny269.out] at ho30 | (simp only [Int.reduceToNat] at ho30; rw [← Ny269.out] at ho30)); have n0_ := Aside0.mk (Kd.R_lower ho30 (below_size (by repeat (first | (with_reducible first | exact HB.out | apply below_alloc | apply pw_below_drewN | apply below_drew1 | refine below_set ?_ GE268.out) | exact HB.out)))); have n1_ := Aside0.mk (blk_below (g := gb268) (o := .cells #[.string a0_0, .int .i64 a0_1, .int .i64 a0_2] 48 (0, 0)) (by (with_reducible repeat (first | refine blk_drewN ?_ _ | refine blk_drew ?_ | refine blk_alloc ?_ _)); exact BK268.out) hb); have n2_ := Aside0.mk (below_step (by repeat (first | (with_reducible first | exact HB.out | apply below_alloc | apply pw_below_drewN | apply below_drew1 | refine below_set ?_ GE268.out) | exact HB.out)) hb); clear BK268; clear HB; have HO271 := n0_; have BK268 := n1_; have HB := n2_; clear n0_ n1_ n2_; clear hb ho30; obtain ⟨Ao31, co31, eo31⟩ := Kd.R_slice HO271.out; subst eo31) | ((with_reducible refine gate_callee (f := 65) rfl ?_); refine goesL_ (some 9) rfl rfl Tryd.func65 (by kernel_rfl) rfl #[.slice Ao31 y269.length co31] rfl (by (try simp only [List.map_toArray, List.map_cons, List.map_nil]); first | done | rfl | (simp only [List.length_drop, List.length_take]; rfl)) ?_; (with_reducible refine (money_Right.calls k _ _ y269 false _ ?side1 ?side2 A2.out).mono ?_); (case side1 => repeat (first | exact (Kd.R_reads' HO271.out).2.2 | (with_reducible refine Kd.C_alloc ?_ _) | (with_reducible refine Kd.C_drewN ?_ _) | (with_reducible refine Kd.C_drew ?_))); (case side2 => exact (Kd.R_reads' HO271.out).2.1); rintro e w' ⟨rfl, ⟨nd, rfl⟩⟩; refine ⟨_, rfl, ?_⟩))
  go_ret2
  exact ⟨by first | rfl | (simp [errW_none, errW_some] <;> rfl) | (simp [*, errW_none, errW_some] <;> rfl), by repeat (first | (with_reducible first | exact HB.out | apply below_alloc | apply pw_below_drewN | apply below_drew1 | refine below_set ?_ GE268.out) | exact HB.out)⟩

end Go.Proofs.YtmocphafkimdpaaDoor.P


/- What the elements of each kind are worth: element.Sums, walked. -/
namespace Go.Proofs.YtmocphafkimdpaaDoor.P
set_option linter.unusedVariables false
open Go.RowKit Go.Proofs.YtmocphafkimdpaaDoorW.PrintWords Go.Proofs.YtmocphafkimdpaaDoorW.PrintLast Go.Proofs.YtmocphafkimdpaaDoorW.PrintMore

/-- The place that Sums takes for a kind, and the row as it stands then. -/
def sumsAt (kind : ByteArray) (out : List S76) : List S76 × Nat := if idxFrom kind out 0 < 0 then (out ++ [⟨kind, 0⟩], out.length) else (out, (idxFrom kind out 0).toNat)
def sumsGo : List S48 → List S76 → Option (List S76 × Int)
  | [], out => some (out, 0)
  | x :: t, out => (element_Value.f 100 x.f0 x.f1 x.f2).bind fun b => if b.2 = 0 then
      ((money_Add.f 100 ((sumsAt x.f0 out).1.getD (sumsAt x.f0 out).2 z76).f1 b.1).bind fun c => if c.2 = 0 then sumsGo t ((sumsAt x.f0 out).1.set (sumsAt x.f0 out).2 ⟨((sumsAt x.f0 out).1.getD (sumsAt x.f0 out).2 z76).f0, c.1⟩) else some ([], c.2)) else some ([], b.2)
def element_Sums.f (l0 : List S48) : Option (List S76 × Int) := if l0.length < 1000 then sumsGo l0 [] else none

theorem idx_lt (kind : ByteArray) : ∀ (xs : List S76) (i : Nat), idxFrom kind xs i = -1 ∨ ((i : Int) ≤ idxFrom kind xs i ∧ idxFrom kind xs i < i + xs.length)
  | [], i => .inl rfl
  | a :: t, i => by
    simp only [idxFrom]
    split
    · exact .inr ⟨by omega, by simp; omega⟩
    · rcases idx_lt kind t (i + 1) with h | ⟨h1, h2⟩
      · exact .inl h
      · exact .inr ⟨by omega, by simp; omega⟩

theorem own76 {W : World} {base : Nat} {ok : Nat → Prop} {v : Value} {xs : List S76} (h : Kd.R k76 76 W base ok v xs) (hn : 0 < xs.length) :
    ∃ g c, v = .slice (some ⟨g, 0, none⟩) xs.length c ∧ base ≤ g ∧ ∀ j, W.frozen? ⟨g, j, none⟩ = false := by
  obtain ⟨_, inner, ho, _⟩ := h
  rcases ho.2 with ⟨_, h0⟩ | ⟨g, cap, cur, hv, hb, hh, _⟩
  · omega
  · exact ⟨g, cap, hv, hb, fun j => blk_frozen hh j⟩
theorem at76 {W : World} {base : Nat} {ok : Nat → Prop} {g c : Nat} {xs : List S76} (h : Kd.R k76 76 W base ok (.slice (some ⟨g, 0, none⟩) xs.length c) xs) (j : Nat) (hj : j < xs.length) :
    W.cell? ⟨g, j * 2, none⟩ = some (.string (xs.getD j z76).f0) ∧ W.cell? ⟨g, j * 2 + 1, none⟩ = some (.int .i64 (xs.getD j z76).f1) := by
  obtain ⟨ad, eA, f0, f1⟩ := at_T76 (Kd.R_reads' h).2.2 (j : Int) (by omega) (by omega)
  obtain rfl := Option.some.inj eA
  rw [Int.toNat_natCast, add_plain] at f0 f1
  exact ⟨f0, f1⟩
theorem put76 {W : World} {base : Nat} {ok : Nat → Prop} {g c : Nat} {xs : List S76} (h : Kd.R k76 76 W base ok (.slice (some ⟨g, 0, none⟩) xs.length c) xs) (j : Nat) (hj : j < xs.length) (u : Int) :
    Kd.R k76 76 (W.setCell ⟨g, j * 2 + 1, none⟩ (.int .i64 u)) base ok (.slice (some ⟨g, 0, none⟩) xs.length c) (xs.set j ⟨(xs.getD j z76).f0, u⟩) := by
  obtain ⟨f0, f1⟩ := at76 h j hj
  have := (Kd.R_seg h (j : Int) (by omega) (by omega) (c := [.string (xs.getD j z76).f0, .int .i64 (xs.getD j z76).f1]) (seg := [.int .i64 u]) (j := 1) (okp := fun _ => False) rfl (by
    intro i v hi
    rw [Int.toNat_natCast]
    match i, hi with
    | 0, hi => cases hi; exact f0
    | 1, hi => cases hi; exact f1
    | n + 2, hi => cases hi) (Nat.le_refl 2) (x' := ⟨(xs.getD j z76).f0, u⟩) (k76_mkM _ _ _ (⟨(xs.getD j z76).f0, u⟩ : S76)) (fun _ hk => hk.elim)).1
  rw [Int.toNat_natCast] at this
  exact this

theorem frz76 {W : World} {base : Nat} {ok : Nat → Prop} {g c n : Nat} {xs : List S76} (h : Kd.R k76 76 W base ok (.slice (some ⟨g, 0, none⟩) n c) xs) (j : Nat) : W.frozen? ⟨g, j, none⟩ = false := by
  obtain ⟨_, inner, ho, _⟩ := h
  rcases ho.2 with ⟨hv, _⟩ | ⟨g', cap, cur, hv, hb, hh, _⟩
  · cases hv
  · injection hv with hv
    injection hv with hv
    injection hv with hv
    subst hv
    exact blk_frozen hh j
theorem app76 {W : World} {base : Nat} {ok : Nat → Prop} {v : Value} {xs : List S76} {y : S76} (h : Kd.R k76 76 W base ok v (xs ++ [y])) :
    ∃ g c, v = .slice (some ⟨g, 0, none⟩) (xs.length + 1) c ∧ base ≤ g ∧ W.frozen? ⟨g, xs.length * 2 + 1, none⟩ = false ∧ W.cell? ⟨g, xs.length * 2 + 1, none⟩ = some (.int .i64 y.f1) := by
  obtain ⟨g, c, rfl, hb, hf⟩ := own76 h (by simp)
  have hc := (at76 h xs.length (by simp)).2
  have e : (xs ++ [y]).getD xs.length z76 = y := by simp
  rw [e] at hc
  exact ⟨g, c, by rw [List.length_append]; rfl, hb, hf _, hc⟩

theorem app76_cell {W : World} {base : Nat} {ok : Nat → Prop} {g c : Nat} {xs : List S76} {y : S76} (h : Kd.R k76 76 W base ok (.slice (some ⟨g, 0, none⟩) (xs.length + 1) c) (xs ++ [y])) : W.cell? ⟨g, xs.length * 2 + 1, none⟩ = some (.int .i64 y.f1) := by
  have e0 : xs.length + 1 = (xs ++ [y]).length := by simp
  rw [e0] at h
  have hc := (at76 h xs.length (by simp)).2
  have e : (xs ++ [y]).getD xs.length z76 = y := by simp
  rwa [e] at hc
theorem app76_put {W : World} {base : Nat} {ok : Nat → Prop} {g c : Nat} {xs : List S76} {y : S76} (h : Kd.R k76 76 W base ok (.slice (some ⟨g, 0, none⟩) (xs.length + 1) c) (xs ++ [y])) (u : Int) :
    Kd.R k76 76 (W.setCell ⟨g, xs.length * 2 + 1, none⟩ (.int .i64 u)) base ok (.slice (some ⟨g, 0, none⟩) (xs.length + 1) c) (xs ++ [⟨y.f0, u⟩]) := by
  have e0 : xs.length + 1 = (xs ++ [y]).length := by simp
  rw [e0] at h ⊢
  have hc := put76 h xs.length (by simp) u
  have e : (xs ++ [y]).getD xs.length z76 = y := by simp
  have e3 : (xs ++ [y]).set xs.length ⟨y.f0, u⟩ = xs ++ [⟨y.f0, u⟩] := by simp
  rwa [e, e3] at hc

set_option maxRecDepth 100000 in
set_option maxHeartbeats 8000000 in
theorem element_Sums.calls (A0 : Option Addr) (c0 : Nat) (l0 : List S48) (r1 : List S76) (r2 : Int) (w : World) (hr0 : Kd.C k48 w A0 l0.length l0) (hc0 : l0.length ≤ c0) (h : element_Sums.f l0 = some (r1, r2)) :
    Calls Tryd.prog 48 #[.slice A0 l0.length c0] w fun e w' => ∃ v0_ : Value, e = .returned (.tuple #[v0_, .int .i64 r2]) ∧ Kd.R k76 76 w' w.heap.size (fun _ => True) v0_ r1 ∧ Below w.heap.size w w' := by
  unfold element_Sums.f at h
  split at h
  · rename_i hl
    have H0 : Hid (sumsGo l0 [] = some (r1, r2)) := h
    have HR : Hid (Kd.C k48 w A0 l0.length l0) := hr0
    clear h hr0
    have hu48 := Tryd.underlying48
    have hu76 := Tryd.underlying76
    go_enter Tryd.func48, Tryd.ntmps48
    go_wp2
    go_loopg [4, 12] l0.length (fun g v iv wr => ∃ (i : Nat) (out : List S76), iv = .int .i64 i ∧ i ≤ l0.length ∧ l0.length - i ≤ g ∧ out.length ≤ i ∧ Hid (Below w.heap.size w wr) ∧ Hid (Kd.R k76 76 wr w.heap.size (fun _ => True) v out) ∧ Hid (sumsGo (l0.drop i) out = some (r1, r2)))
    case atStart => exact ⟨0, [], rfl, by omega, by omega, by simp, Below.refl _ _, Kd.R_nil _ _ _ _ _, H0⟩
    case round =>
      obtain ⟨i, out, rfl, hi, hg, ho, HB, HO, HS⟩ := hrel
      clear H0
      by_cases c1 : i < l0.length
      · obtain ⟨a, t, ht⟩ : ∃ a t, l0.drop i = a :: t := by
          cases h : l0.drop i with
          | nil => have : l0.length ≤ i := by simpa using h
                   omega
          | cons a t => exact ⟨a, t, rfl⟩
        obtain ⟨h1, h2, _⟩ := drop_cons_get ht
        have c1' : (i : Int) < (l0.length : Int) := by omega
        have p0 : (0 : Int) ≤ (i : Int) := by omega
        obtain ⟨ad, eA, f0, f1, f2⟩ := at_T48 (Kd.C_below HR.out HB.out) (i : Int) p0 c1'
        have er : rd_T48 l0 (i : Int) = a := by
          unfold rd_T48
          rw [List.getD_eq_getElem?_getD, Int.toNat_natCast, h1]
          rfl
        rw [er, Int.toNat_natCast] at f0 f1 f2
        rw [ht] at HS
        subst eA
        obtain ⟨⟨v, e⟩, hv⟩ : ∃ b, element_Value.f 100 a.f0 a.f1 a.f2 = some b := by
          have := HS.out
          simp only [sumsGo] at this
          cases hh : element_Value.f 100 a.f0 a.f1 a.f2 with
          | none => rw [hh] at this; cases this
          | some b => exact ⟨b, rfl⟩
        have HS' : Hid ((if e = 0 then ((money_Add.f 100 ((sumsAt a.f0 out).1.getD (sumsAt a.f0 out).2 z76).f1 v).bind fun c => if c.2 = 0 then sumsGo t ((sumsAt a.f0 out).1.set (sumsAt a.f0 out).2 ⟨((sumsAt a.f0 out).1.getD (sumsAt a.f0 out).2 z76).f0, c.1⟩) else some ([], c.2)) else some ([], e)) = some (r1, r2)) := by
          have := HS.out
          simp only [sumsGo, hv, Option.bind_some] at this
          exact this
        clear HS er h1
        have V := Lib.hid (fun W => element_Value.calls 100 a.f0 a.f1 a.f2 v e W hv)
        clear hv
        obtain ⟨A, c, rfl, hcap, hOC⟩ := Kd.R_reads HO.out
        clear hOC
        by_cases ce : e = 0
        · subst ce
          have HS2 : Hid (((money_Add.f 100 ((sumsAt a.f0 out).1.getD (sumsAt a.f0 out).2 z76).f1 v).bind fun c => if c.2 = 0 then sumsGo t ((sumsAt a.f0 out).1.set (sumsAt a.f0 out).2 ⟨((sumsAt a.f0 out).1.getD (sumsAt a.f0 out).2 z76).f0, c.1⟩) else some ([], c.2)) = some (r1, r2)) := by
            have := HS'.out
            rw [if_pos rfl] at this
            exact this
          clear HS'
          go_wp2_with fail
          refine (V.out _).mono ?_
          rintro e' w2 ⟨rfl, hb2⟩
          obtain ⟨X, hX⟩ : ∃ X, X = wr.heap.size := ⟨_, rfl⟩
          have hXc : (wr.alloc (.cells #[.string a.f0, .int .i64 a.f1, .int .i64 a.f2] 48)).cell? ⟨X, 0, none⟩ = some (.string a.f0) := by
            rw [hX]
            simp
          have hX2 := (hb2.cell (p := ⟨X, 0, none⟩) (by rw [hX]; simp)).trans hXc
          have HO2 : Hid (Kd.R k76 76 w2 w.heap.size (fun k => k < X) (.slice A out.length c) out) := by
            have h := Kd.R_mono (Kd.R_bound HO.out) (ok' := fun k => k < X) (fun k hk => by rw [hX]; exact hk.2.2.1)
            exact Kd.R_below (Kd.R_alloc h (.cells #[.string a.f0, .int .i64 a.f1, .int .i64 a.f2] 48)) hb2
          have HB2 : Hid (Below w.heap.size w w2) := (HB.out.alloc HB.out.size (.cells #[.string a.f0, .int .i64 a.f1, .int .i64 a.f2] 48)).trans (hb2.mono (by simp; exact Nat.le_succ_of_le HB.out.size))
          have I := Lib.hid (index_sums X c A a.f0 out w2 hX2 (Kd.R_reads' HO2.out).2.2 (by omega))
          have HXw : Hid (w.heap.size ≤ X) := by show _ ≤ _; rw [hX]; exact HB.out.size
          rw [← hX]
          clear hb2 hXc hX V f0 f1 f2 HB HO hcap
          go_wp2_with fail
          refine I.out.mono ?_
          rintro e' w3 ⟨rfl, hb3⟩
          have HO3 : Hid (Kd.R k76 76 w3 w.heap.size (fun k => k < X) (.slice A out.length c) out) := Kd.R_below HO2.out hb3
          have HB3 : Hid (Below w.heap.size w w3) := HB2.out.trans (hb3.mono HB2.out.size)
          have hX3 : w3.cell? ⟨X, 0, none⟩ = some (.string a.f0) := (hb3.cell (p := ⟨X, 0, none⟩) (by have := hX2; apply Classical.byContradiction; intro hge; unfold World.cell? at this; rw [Array.getElem?_eq_none (by simpa using hge)] at this; cases this)).trans hX2
          have LX : Hid (X < w3.heap.size) := by
            show X < _
            have := hX3
            apply Classical.byContradiction
            intro hge
            unfold World.cell? at this
            rw [Array.getElem?_eq_none (by simpa using hge)] at this
            cases this
          clear hb3 hX2 HO2 HB2 I
          by_cases ci : idxFrom a.f0 out 0 < 0
          · have HS3 : Hid (((money_Add.f 100 0 v).bind fun c => if c.2 = 0 then sumsGo t (out ++ [⟨a.f0, c.1⟩]) else some ([], c.2)) = some (r1, r2)) := by
              have := HS2.out
              have e1 : sumsAt a.f0 out = (out ++ [⟨a.f0, 0⟩], out.length) := by unfold sumsAt; rw [if_pos ci]
              have e2 : (out ++ [(⟨a.f0, 0⟩ : S76)]).getD out.length z76 = ⟨a.f0, 0⟩ := by simp
              have e3 : ∀ y : S76, (out ++ [(⟨a.f0, 0⟩ : S76)]).set out.length y = out ++ [y] := fun y => by simp
              rw [e1] at this
              simp only [e2, e3] at this
              exact this
            clear HS2
            go_wp2_with (first | ((with_reducible refine gate_builtin (b := .append) (xs := #[.tmp 31, .tmp 35]) rfl ?_); at_builtin; refine Kd.R_append k76 (w0 := w) w.heap.size rfl (.tmp 31) (.tmp 35) 72 76 (.agg #[(.string ⟨#[]⟩), (.int .i64 0)]) 24 rfl Tryd.underlying72 info76 rfl (by decide) (by omega) (.slice A out.length c) out (⟨a.f0, 0⟩ : S76) [.string a.f0, .int .i64 0] (fun k => k ≠ X) (fun _ => False) rfl (by first | (go_simp; done) | (go_simp; rfl)) ?aP (fun _ hk => hk.elim) ?aF ?aO ?aB ?aS ?aL ?_; (case aP => exact k76_mkM _ _ _ (⟨a.f0, 0⟩ : S76)); (case aB => exact HB3.out); (case aF => exact (fun k hk => Nat.ne_of_gt (Nat.lt_of_lt_of_le LX.out hk))); (case aO => exact Kd.R_mono HO3.out (fun k hk => Nat.ne_of_lt hk)); (case aS => exact HB3.out.size); (case aL => omega); intro v4 w4 ho4 hb4 hg4 hat4; have hx := app76 ho4; obtain ⟨g, c4, rfl, hbg, ez, f1⟩ := hx; have HO4 := Lib.hid ho4; have HB4 := Lib.hid hb4; have HG := Lib.hid hbg; have q0 : (0 : Int) ≤ (out.length : Int) := (by omega); have q1 : (out.length : Int) < ((out.length + 1 : Nat) : Int) := (by omega); clear ho4 hb4 hbg hg4 hat4))
            obtain ⟨⟨u, e2⟩, hu⟩ : ∃ b, money_Add.f 100 0 v = some b := by
              have := HS3.out
              cases hh : money_Add.f 100 0 v with
              | none => rw [hh] at this; cases this
              | some b => exact ⟨b, rfl⟩
            have HS4 : Hid ((if e2 = 0 then sumsGo t (out ++ [⟨a.f0, u⟩]) else some ([], e2)) = some (r1, r2)) := by
              have := HS3.out
              rw [hu, Option.bind_some] at this
              exact this
            refine (money_Add.calls 100 _ _ _ _ _ hu).mono ?_
            rintro e' w5 ⟨rfl, hb5⟩
            have HO5 : Hid (Kd.R k76 76 w5 w.heap.size (fun _ => True) (.slice (some ⟨g, 0, none⟩) (out.length + 1) c4) (out ++ [⟨a.f0, 0⟩])) := Kd.R_mono (Kd.R_below HO4.out hb5) (fun _ _ => trivial)
            have HB5 : Hid (Below w.heap.size w w5) := HB4.out.trans (hb5.mono HB4.out.size)
            clear hb5 hu HS3 HO4 HB4 ez f1
            have ez : w5.frozen? ⟨g, out.length * 2 + 1, none⟩ = false := frz76 HO5.out _
            have f1 : w5.cell? ⟨g, out.length * 2 + 1, none⟩ = some (.int .i64 0) := (app76_cell HO5.out)
            have HO6 : Hid (Kd.R k76 76 (w5.setCell ⟨g, out.length * 2 + 1, none⟩ (.int .i64 u)) w.heap.size (fun _ => True) (.slice (some ⟨g, 0, none⟩) (out.length + 1) c4) (out ++ [⟨a.f0, u⟩])) := by
              show Kd.R _ _ _ _ _ _ _
              exact app76_put HO5.out u
            have HB6 : Hid (Below w.heap.size w (w5.setCell ⟨g, out.length * 2 + 1, none⟩ (.int .i64 u))) := below_set HB5.out HG.out
            by_cases ce2 : e2 = 0
            · subst ce2
              have HS5 : Hid (sumsGo t (out ++ [⟨a.f0, u⟩]) = some (r1, r2)) := by
                have := HS4.out
                rw [if_pos rfl] at this
                exact this
              clear HS4
              go_wp2
              go_roundg (l0.length - (i + 1))
              case measure => omega
              case rel => exact ⟨i + 1, (out ++ [(⟨a.f0, u⟩ : S76)]), by go_num, by omega, by omega, by simp; omega, HB6.out, HO6.out, by rw [h2]; exact HS5.out⟩
            · have HS5 : Hid ((([] : List S76), e2) = (r1, r2)) := by
                have := HS4.out
                rw [if_neg ce2] at this
                exact Option.some.inj this
              clear HS4
              go_wp2
              go_ret2
              have e1 := congrArg Prod.fst HS5.out
              have e2' := congrArg Prod.snd HS5.out
              simp only at e1 e2'
              subst e1 e2'
              exact ⟨_, rfl, Kd.R_nil _ _ _ _ _, HB6.out⟩
          · obtain ⟨jn, hjn, hjl⟩ : ∃ jn : Nat, idxFrom a.f0 out 0 = (jn : Int) ∧ jn < out.length := by
              rcases idx_lt a.f0 out 0 with h | ⟨h3, h4⟩
              · omega
              · exact ⟨(idxFrom a.f0 out 0).toNat, by omega, by omega⟩
            have HS3 : Hid (((money_Add.f 100 (out.getD jn z76).f1 v).bind fun c => if c.2 = 0 then sumsGo t (out.set jn ⟨(out.getD jn z76).f0, c.1⟩) else some ([], c.2)) = some (r1, r2)) := by
              have := HS2.out
              have e1 : sumsAt a.f0 out = (out, jn) := by unfold sumsAt; rw [if_neg ci, hjn, Int.toNat_natCast]
              rw [e1] at this
              exact this
            clear HS2
            rw [hjn]
            obtain ⟨g, c4, hA, hbg, hfz⟩ := own76 HO3.out (by omega)
            injection hA with hA _ hc
            subst hA hc
            have f1 := (at76 HO3.out jn hjl).2
            have ez := hfz (jn * 2 + 1)
            have HG := Lib.hid hbg
            have HB4 := HB3
            have HO4 := HO3
            have q0 : (0 : Int) ≤ (jn : Int) := by omega
            have q1 : (jn : Int) < (out.length : Int) := by omega
            have q2 : ¬(jn : Int) < 0 := by omega
            obtain ⟨y, hy⟩ : ∃ y, out.getD jn z76 = y := ⟨_, rfl⟩
            have HY := Lib.hid hy
            rw [hy] at f1 HS3
            clear hy HO3 HB3 hbg hfz ci hX3
            go_wp2_with fail
            obtain ⟨⟨u, e2⟩, hu⟩ : ∃ b, money_Add.f 100 y.f1 v = some b := by
              have := HS3.out
              cases hh : money_Add.f 100 y.f1 v with
              | none => rw [hh] at this; cases this
              | some b => exact ⟨b, rfl⟩
            have HS4 : Hid ((if e2 = 0 then sumsGo t (out.set jn ⟨y.f0, u⟩) else some ([], e2)) = some (r1, r2)) := by
              have := HS3.out
              rw [hu, Option.bind_some] at this
              exact this
            refine (money_Add.calls 100 _ _ _ _ _ hu).mono ?_
            rintro e' w5 ⟨rfl, hb5⟩
            have HO5 : Hid (Kd.R k76 76 w5 w.heap.size (fun _ => True) (.slice (some ⟨g, 0, none⟩) out.length c) out) := Kd.R_mono (Kd.R_below HO4.out hb5) (fun _ _ => trivial)
            have HB5 : Hid (Below w.heap.size w w5) := HB4.out.trans (hb5.mono HB4.out.size)
            clear hb5 hu HS3 HO4 HB4 ez f1
            have ez : w5.frozen? ⟨g, jn * 2 + 1, none⟩ = false := frz76 HO5.out _
            have f1 : w5.cell? ⟨g, jn * 2 + 1, none⟩ = some (.int .i64 y.f1) := (by have h := (at76 HO5.out jn hjl).2; rw [HY.out] at h; exact h)
            have HO6 : Hid (Kd.R k76 76 (w5.setCell ⟨g, jn * 2 + 1, none⟩ (.int .i64 u)) w.heap.size (fun _ => True) (.slice (some ⟨g, 0, none⟩) out.length c) (out.set jn ⟨y.f0, u⟩)) := by
              show Kd.R _ _ _ _ _ _ _
              have h := put76 HO5.out jn hjl u; rw [HY.out] at h; exact h
            have HB6 : Hid (Below w.heap.size w (w5.setCell ⟨g, jn * 2 + 1, none⟩ (.int .i64 u))) := below_set HB5.out HG.out
            by_cases ce2 : e2 = 0
            · subst ce2
              have HS5 : Hid (sumsGo t (out.set jn ⟨y.f0, u⟩) = some (r1, r2)) := by
                have := HS4.out
                rw [if_pos rfl] at this
                exact this
              clear HS4
              go_wp2
              go_roundg (l0.length - (i + 1))
              case measure => omega
              case rel => exact ⟨i + 1, (out.set jn (⟨y.f0, u⟩ : S76)), by go_num, by omega, by omega, by simp only [List.length_set]; omega, HB6.out, HO6.out, by rw [h2]; exact HS5.out⟩
            · have HS5 : Hid ((([] : List S76), e2) = (r1, r2)) := by
                have := HS4.out
                rw [if_neg ce2] at this
                exact Option.some.inj this
              clear HS4
              go_wp2
              go_ret2
              have e1 := congrArg Prod.fst HS5.out
              have e2' := congrArg Prod.snd HS5.out
              simp only at e1 e2'
              subst e1 e2'
              exact ⟨_, rfl, Kd.R_nil _ _ _ _ _, HB6.out⟩
        · have HS5 : Hid ((([] : List S76), e) = (r1, r2)) := by
            have := HS'.out
            rw [if_neg ce] at this
            exact Option.some.inj this
          clear HS'
          go_wp2_with fail
          refine (V.out _).mono ?_
          rintro e' w2 ⟨rfl, hb2⟩
          have HB2 : Hid (Below w.heap.size w w2) := (HB.out.alloc HB.out.size (.cells #[.string a.f0, .int .i64 a.f1, .int .i64 a.f2] 48)).trans (hb2.mono (by simp; exact Nat.le_succ_of_le HB.out.size))
          clear hb2 HB HO
          go_wp2
          go_ret2
          have e1 := congrArg Prod.fst HS5.out
          have e2' := congrArg Prod.snd HS5.out
          simp only at e1 e2'
          subst e1 e2'
          exact ⟨_, rfl, Kd.R_nil _ _ _ _ _, HB2.out⟩
      · have c1' : ¬(i : Int) < (l0.length : Int) := by omega
        have HS5 : Hid ((out, (0 : Int)) = (r1, r2)) := by
          have := HS.out
          rw [List.drop_eq_nil_of_le (by omega)] at this
          exact Option.some.inj this
        clear HS
        go_wp2
        go_ret2
        have e1 := congrArg Prod.fst HS5.out
        have e2' := congrArg Prod.snd HS5.out
        simp only at e1 e2'
        subst e1 e2'
        exact ⟨_, rfl, HO.out, HB.out⟩
  · cases h
end Go.Proofs.YtmocphafkimdpaaDoor.P


/- The library's contracts that these proofs use, laid at this program by the shelf's own program, in plain words. -/
namespace Go.Proofs
open Go.Shelf
def Tryd.lays134_ren : Go.Shelf.Ren := ⟨fun | 134 => 106 | 129 => 118 | n => n, fun | 53 => 104 | 3 => 3 | 4 => 4 | 46 => 158 | 5 => 5 | 9 => 9 | n => n, fun | n => n⟩
theorem Tryd.lays134 : Go.Proofs.Lays.n134 Tryd.prog Tryd.lays134_ren := {
  mixed := by kernel_rfl
  f129 := Tryd.func118.trans (congrArg some (by kernel_rfl))
  f134 := Tryd.func106.trans (congrArg some (by kernel_rfl))
  t3 := Tryd.underlying3
  a3 := Tryd.isAgg3
  z3 := Tryd.sizeOf3
  v3 := Tryd.zeroValue3
  t4 := Tryd.underlying4
  a4 := Tryd.isAgg4
  z4 := Tryd.sizeOf4
  v4 := Tryd.zeroValue4
  t5 := Tryd.underlying5
  a5 := Tryd.isAgg5
  z5 := Tryd.sizeOf5
  v5 := Tryd.zeroValue5
  t9 := Tryd.underlying9
  a9 := Tryd.isAgg9
  z9 := Tryd.sizeOf9
  v9 := Tryd.zeroValue9
  t46 := Tryd.underlying158
  a46 := Tryd.isAgg158
  z46 := Tryd.sizeOf158
  v46 := Tryd.zeroValue158
  t53 := Tryd.underlying104
  a53 := Tryd.isAgg104
  z53 := Tryd.sizeOf104
  v53 := Tryd.zeroValue104 }
/-- bits.LeadingZeros64: "LeadingZeros64 returns the number of leading zero bits in x; the result is 64 for x == 0.": IT RETURNS '64 - Lib.bitLen x'; the world is as it was. ITS CALLEE bits.Len64 IS MET BY ITS OWN CONTRACT OFF THE SHELF (lay that first): entered in place it sends the kernel out of memory. (LAID: no walk: one application.) -/
theorem Tryd.bits_LeadingZeros64 (x : Int) (w : World) (h0 : 0 ≤ x) (h1 : x ≤ 18446744073709551615) :
    Calls Tryd.prog 106 #[.int .u64 x] w fun e w' => e = .returned (.int .i64 (64 - (Lib.bitLen x.toNat : Int))) ∧ w' = w := Any.bits_LeadingZeros64 Tryd.lays134 x w h0 h1
def Tryd.lays129_ren : Go.Shelf.Ren := ⟨fun | 129 => 118 | n => n, fun | 53 => 104 | 3 => 3 | 4 => 4 | 46 => 158 | 5 => 5 | 9 => 9 | n => n, fun | n => n⟩
theorem Tryd.lays129 : Go.Proofs.Lays.n129 Tryd.prog Tryd.lays129_ren := {
  mixed := by kernel_rfl
  f129 := Tryd.func118.trans (congrArg some (by kernel_rfl))
  t3 := Tryd.underlying3
  a3 := Tryd.isAgg3
  z3 := Tryd.sizeOf3
  v3 := Tryd.zeroValue3
  t4 := Tryd.underlying4
  a4 := Tryd.isAgg4
  z4 := Tryd.sizeOf4
  v4 := Tryd.zeroValue4
  t5 := Tryd.underlying5
  a5 := Tryd.isAgg5
  z5 := Tryd.sizeOf5
  v5 := Tryd.zeroValue5
  t9 := Tryd.underlying9
  a9 := Tryd.isAgg9
  z9 := Tryd.sizeOf9
  v9 := Tryd.zeroValue9
  t46 := Tryd.underlying158
  a46 := Tryd.isAgg158
  z46 := Tryd.sizeOf158
  v46 := Tryd.zeroValue158
  t53 := Tryd.underlying104
  a53 := Tryd.isAgg104
  z53 := Tryd.sizeOf104
  v53 := Tryd.zeroValue104 }
/-- bits.Len64: "Len64 returns the minimum number of bits required to represent x; the result is 0 for x == 0.": IT RETURNS 'Lib.bitLen x'; the world is as it was. ('h0', 'h1': x is a uint64.) (LAID: no walk: one application.) -/
theorem Tryd.bits_Len64 (x : Int) (w : World) (h0 : 0 ≤ x) (h1 : x ≤ 18446744073709551615) :
    Calls Tryd.prog 118 #[.int .u64 x] w fun e w' => e = .returned (.int .i64 (Lib.bitLen x.toNat)) ∧ w' = w := Any.bits_Len64 Tryd.lays129 x w h0 h1
def Tryd.lays317_ren : Go.Shelf.Ren := ⟨fun | 317 => 124 | n => n, fun | 3 => 3 | 46 => 158 | n => n, fun | n => n⟩
theorem Tryd.lays317 : Go.Proofs.Lays.n317 Tryd.prog Tryd.lays317_ren := {
  mixed := by kernel_rfl
  f317 := Tryd.func124.trans (congrArg some (by kernel_rfl))
  t3 := Tryd.underlying3
  a3 := Tryd.isAgg3
  z3 := Tryd.sizeOf3
  v3 := Tryd.zeroValue3
  t46 := Tryd.underlying158
  a46 := Tryd.isAgg158
  z46 := Tryd.sizeOf158
  v46 := Tryd.zeroValue158 }
open Go.Lib in
/-- internal/strconv.log10Pow2: "log10Pow2(x) returns ⌊log₁₀ 2**x⌋ = ⌊x * log₁₀ 2⌋.": '(x * 78913) >> 18', at an x up to 64 (a length in bits). The world is as it was. (LAID: no walk: one application.) -/
theorem Tryd.internal_strconv_log10Pow2 (x : Nat) (h : x ≤ 64) (w : World) :
    Calls Tryd.prog 124 #[.int .i64 x] w fun e w' => e = .returned (.int .i64 (Lib.l10 x)) ∧ w' = w := Any.internal_strconv_log10Pow2 Tryd.lays317 x h w
def Tryd.lays318_ren : Go.Shelf.Ren := ⟨fun | 318 => 125 | n => n, fun | 3 => 3 | 4 => 4 | n => n, fun | n => n⟩
theorem Tryd.lays318 : Go.Proofs.Lays.n318 Tryd.prog Tryd.lays318_ren := {
  mixed := by kernel_rfl
  f318 := Tryd.func125.trans (congrArg some (by kernel_rfl))
  t3 := Tryd.underlying3
  a3 := Tryd.isAgg3
  z3 := Tryd.sizeOf3
  v3 := Tryd.zeroValue3
  t4 := Tryd.underlying4
  a4 := Tryd.isAgg4
  z4 := Tryd.sizeOf4
  v4 := Tryd.zeroValue4 }
open Go.Lib in
/-- internal/strconv.bool2: "bool2 converts b to an integer: 1 for true, 0 for false." The world is as it was. (LAID: no walk: one application.) -/
theorem Tryd.internal_strconv_bool2_int (b : Bool) (w : World) :
    Calls Tryd.prog 125 #[.bool b] w fun e w' => e = .returned (.int .i64 (if b then 1 else 0)) ∧ w' = w := Any.internal_strconv_bool2_int Tryd.lays318 b w
def Tryd.lays283_ren : Go.Shelf.Ren := ⟨fun | 283 => 114 | n => n, fun | 3 => 3 | 9 => 9 | 4 => 4 | n => n, fun | n => n⟩
theorem Tryd.lays283 : Go.Proofs.Lays.n283 Tryd.prog Tryd.lays283_ren := {
  mixed := by kernel_rfl
  f283 := Tryd.func114.trans (congrArg some (by kernel_rfl))
  t3 := Tryd.underlying3
  a3 := Tryd.isAgg3
  z3 := Tryd.sizeOf3
  v3 := Tryd.zeroValue3
  t4 := Tryd.underlying4
  a4 := Tryd.isAgg4
  z4 := Tryd.sizeOf4
  v4 := Tryd.zeroValue4
  t9 := Tryd.underlying9
  a9 := Tryd.isAgg9
  z9 := Tryd.sizeOf9
  v9 := Tryd.zeroValue9 }
open Go.Lib in
/-- internal/strconv.small: "small returns the string for an i with 0 <= i < nSmalls.": i's decimal numeral. The world is as it was. (LAID: no walk: one application.) -/
theorem Tryd.internal_strconv_small (i : Nat) (h : i < 100) (w : World) :
    Calls Tryd.prog 114 #[.int .i64 i] w fun e w' => e = .returned (.string ⟨(Lib.decDigits i).toArray⟩) ∧ w' = w := Any.internal_strconv_small Tryd.lays283 i h w
def Tryd.laysM284_ren : Go.Shelf.Ren := ⟨fun | 284 => 115 | 129 => 118 | 317 => 124 | 318 => 125 | n => n, fun | 53 => 104 | 3 => 3 | 212 => 196 | 0 => 0 | 4 => 4 | 46 => 158 | 5 => 5 | 9 => 9 | n => n, fun | 17 => 5 | n => n⟩
theorem Tryd.laysM284 : Go.Proofs.LaysM.n284 Tryd.prog Tryd.laysM284_ren := {
  mixed := by kernel_rfl
  f129 := Tryd.func118.trans (congrArg some (by kernel_rfl))
  f284 := Tryd.func115.trans (congrArg some (by kernel_rfl))
  f317 := Tryd.func124.trans (congrArg some (by kernel_rfl))
  f318 := Tryd.func125.trans (congrArg some (by kernel_rfl))
  t0 := Tryd.underlying0
  a0 := Tryd.isAgg0
  z0 := Tryd.sizeOf0
  v0 := Tryd.zeroValue0
  t3 := Tryd.underlying3
  a3 := Tryd.isAgg3
  z3 := Tryd.sizeOf3
  v3 := Tryd.zeroValue3
  t4 := Tryd.underlying4
  a4 := Tryd.isAgg4
  z4 := Tryd.sizeOf4
  v4 := Tryd.zeroValue4
  t5 := Tryd.underlying5
  a5 := Tryd.isAgg5
  z5 := Tryd.sizeOf5
  v5 := Tryd.zeroValue5
  t9 := Tryd.underlying9
  a9 := Tryd.isAgg9
  z9 := Tryd.sizeOf9
  v9 := Tryd.zeroValue9
  t46 := Tryd.underlying158
  a46 := Tryd.isAgg158
  z46 := Tryd.sizeOf158
  v46 := Tryd.zeroValue158
  t53 := Tryd.underlying104
  a53 := Tryd.isAgg104
  z53 := Tryd.sizeOf104
  v53 := Tryd.zeroValue104
  t212 := Tryd.underlying196
  a212 := Tryd.isAgg196
  z212 := Tryd.sizeOf196
  v212 := Tryd.zeroValue196
  g17 := by kernel_rfl
  i0 := by kernel_rfl
  i3 := by kernel_rfl
  i4 := by kernel_rfl
  i5 := by kernel_rfl
  i9 := by kernel_rfl
  i46 := by kernel_rfl
  i53 := by kernel_rfl
  i212 := by kernel_rfl
  m17 := by kernel_rfl }
open Go.Lib in
/-- internal/strconv.numDigits, at a d that is not 0: THE NUMBER OF d's DECIMAL DIGITS. The world is as it was. (LAID: no walk: one application.) -/
theorem Tryd.internal_strconv_numDigits (u : Nat) (h1 : 1 ≤ u) (h2 : u < 18446744073709551616) (w : World) (htab : Lib.TabIs Tryd.prog w "internal/strconv.uint64pow10" .u64 Lib.pow10Tab) :
    Calls Tryd.prog 115 #[.int .u64 u] w fun e w' => e = .returned (.int .i64 (Lib.nDigits u)) ∧ w' = w := Any.internal_strconv_numDigits Tryd.laysM284 u h1 h2 w htab
def Tryd.lays285_ren : Go.Shelf.Ren := ⟨fun | 285 => 116 | n => n, fun | 37 => 164 | 53 => 104 | 3 => 3 | 4 => 4 | 51 => 168 | 9 => 9 | 5 => 5 | 0 => 0 | n => n, fun | n => n⟩
theorem Tryd.lays285 : Go.Proofs.Lays.n285 Tryd.prog Tryd.lays285_ren := {
  mixed := by kernel_rfl
  f285 := Tryd.func116.trans (congrArg some (by kernel_rfl))
  t0 := Tryd.underlying0
  a0 := Tryd.isAgg0
  z0 := Tryd.sizeOf0
  v0 := Tryd.zeroValue0
  t3 := Tryd.underlying3
  a3 := Tryd.isAgg3
  z3 := Tryd.sizeOf3
  v3 := Tryd.zeroValue3
  t4 := Tryd.underlying4
  a4 := Tryd.isAgg4
  z4 := Tryd.sizeOf4
  v4 := Tryd.zeroValue4
  t5 := Tryd.underlying5
  a5 := Tryd.isAgg5
  z5 := Tryd.sizeOf5
  v5 := Tryd.zeroValue5
  t9 := Tryd.underlying9
  a9 := Tryd.isAgg9
  z9 := Tryd.sizeOf9
  v9 := Tryd.zeroValue9
  t37 := Tryd.underlying164
  a37 := Tryd.isAgg164
  z37 := Tryd.sizeOf164
  v37 := Tryd.zeroValue164
  t51 := Tryd.underlying168
  a51 := Tryd.isAgg168
  z51 := Tryd.sizeOf168
  v51 := Tryd.zeroValue168
  t53 := Tryd.underlying104
  a53 := Tryd.isAgg104
  z53 := Tryd.sizeOf104
  v53 := Tryd.zeroValue104 }
open Go.RowKit Go.Sort Go.Lib in
/-- internal/strconv.formatBase10: "formatBase10 formats the decimal representation of u into a. The caller is responsible for ensuring that a is big enough to hold u. If a is too big, leading zeros will be filled in as needed.": THE ROW HOLDS u's DIGITS ('FmtInv .. 0 ..': every place t holds 'dg u (len - 1 - t)'); all else is as it was but for the count of draws. (LAID: no walk: one application.) -/
theorem Tryd.internal_strconv_formatBase10 (blk off cap : Nat) (u : Nat) (d : Array UInt8) (w : World) (hH : Holds (fun (b : UInt8) => Value.int .u8 (b.toNat : Int)) w blk off d) (hu : u < 10 ^ d.size) (hu64 : u < 18446744073709551616) (hsz : d.size < 4611686018427387904) :
    Calls Tryd.prog 116 #[.slice (some ⟨blk, off, none⟩) d.size cap, .int .u64 u] w fun e w' =>
      e = .returned (.tuple #[]) ∧ ∃ (n v' : Nat) (dk : Array UInt8), w' = (putRow (fun (b : UInt8) => Value.int .u8 (b.toNat : Int)) w blk off dk).drewN n ∧ FmtInv d.size u 0 v' dk := Any.internal_strconv_formatBase10 Tryd.lays285 blk off cap u d w hH hu hu64 hsz
def Tryd.lays264_ren : Go.Shelf.Ren := ⟨fun | 264 => 83 | n => n, fun | 53 => 104 | 46 => 158 | n => n, fun | n => n⟩
theorem Tryd.lays264 : Go.Proofs.Lays.n264 Tryd.prog Tryd.lays264_ren := {
  mixed := by kernel_rfl
  f264 := Tryd.func83.trans (congrArg some (by kernel_rfl))
  t46 := Tryd.underlying158
  a46 := Tryd.isAgg158
  z46 := Tryd.sizeOf158
  v46 := Tryd.zeroValue158
  t53 := Tryd.underlying104
  a53 := Tryd.isAgg104
  z53 := Tryd.sizeOf104
  v53 := Tryd.zeroValue104 }
open Go.RowKit Go.Lib in
theorem Tryd.bits_Mul64 (x y : Nat) (hx : x < 18446744073709551616) (hy : y < 18446744073709551616) (w : World) :
    Calls Tryd.prog 83 #[.int .u64 x, .int .u64 y] w fun e w' => e = .returned (.tuple #[.int .u64 ((x * y / 18446744073709551616 : Nat) : Int), .int .u64 ((x * y % 18446744073709551616 : Nat) : Int)]) ∧ w' = w := Any.bits_Mul64 Tryd.lays264 x y hx hy w
end Go.Proofs
