/- A part of the proof of ElementChecks's card: 'ElementChecks' answers true for every input (the conditions: those of the given statement alone). Merged by a program (wip/merge.py) out of: Pf36, GSums, GShelf, GFmt, Pf61, Pf39, GText, Pe1, GEq. -/
import Derived.Test.YtmocphafkimdpaaDoorMElementChecksa
import Derived.Shelf.Small.Bits
import Derived.Shelf.Strconv.Itoa0
import Derived.Shelf.Strconv.Itoa1
import Derived.Shelf.LaysM
import Derived.Shelf.Strconv.Itoa2
import Derived.Shelf.Bits.Mul64
import Derived.Test.YtmocphafkimdpaaDoorProg
import Derived.Lib.Walk
import Derived.Lib.ItoaMem
import Derived.WalkKit
import Derived.BigCall
import Derived.BigGuard
import Derived.Lib.Hide

-- written by a program (a patched copy of the kit's print: wip/mkprint.py); Lean checks it
namespace Go.Proofs.YtmocphafkimdpaaDoor.P
open Go.RowKit Go.Proofs.YtmocphafkimdpaaDoorW.PrintWords Go.Proofs.YtmocphafkimdpaaDoorW.PrintLast Go.Proofs.YtmocphafkimdpaaDoorW.PrintMore
attribute [local go_sem] max2_int min2_int max_two min_two max_three min_three max_four min_four   -- for this text's walks alone
set_option linter.unusedVariables false
set_option linter.unusedSimpArgs false

/-! ### element_Value: function 36 -/
def element_Value.j0 : Nat → Bool → ByteArray → Int → Int → Option (Int × Int)
 | 0, _, _, _, _ => none
 | k + 1, x18, x269000, x269001, x269002 => if x18 = true then (some (0, 1)) else ((frac_Round.f k (wrap64 (x269001 * x269002)) 100 4).bind fun bt273 => (if bt273.2 = 0 then ((money_Right.f k (([bt273.1] : List Int))).bind fun t278 => (if t278 = true then (some (bt273.1, 0)) else (some (0, 10)))) else (some (0, bt273.2))))
def element_Value.f (k : Nat) (a0_0 : ByteArray) (a0_1 : Int) (a0_2 : Int) : Option (Int × Int) := (money_Right.f k (([a0_1] : List Int))).bind fun t272 => (if t272 = true then (if a0_2 < 0 then (element_Value.j0 k true a0_0 a0_1 a0_2) else (element_Value.j0 k (decide (a0_2 > 100000)) a0_0 a0_1 a0_2)) else (some (0, 10)))
theorem element_Value.mono_l : ∀ k, (∀ y0 y1 y2 y3, LeO (element_Value.j0 k y0 y1 y2 y3) (element_Value.j0 (k + 1) y0 y1 y2 y3))
 | 0 => fun _ _ _ _ r h => by simp [element_Value.j0] at h
 | k + 1 => by
  have ih0 := element_Value.mono_l k
  ·intro y0 y1 y2 y3
   unfold element_Value.j0
   repeat' first
   | (with_reducible exact ih0 _ _ _ _)
   | (with_reducible exact frac_Round.mono _ _ _ _)
   | (with_reducible exact money_Right.mono _ _)
   | (with_reducible exact LeO.refl _)
   | (with_reducible exact LeO.none _)
   | (with_reducible refine LeO.ite ?_ ?_)
   | (with_reducible refine LeO.bind ?_ (fun _ => ?_))
   | exact ih0 _ _ _ _
   | exact frac_Round.mono _ _ _ _
   | exact money_Right.mono _ _
   | exact LeO.none _
   | refine LeO.ite ?_ ?_
   | refine LeO.bind ?_ (fun _ => ?_)
theorem element_Value.mono : ∀ a0 a1 a2 k, LeO (element_Value.f k a0 a1 a2) (element_Value.f (k + 1) a0 a1 a2) := by
 intro a0 a1 a2 k
 have ih0 := element_Value.mono_l k
 unfold element_Value.f
 repeat' first
   | (with_reducible exact ih0 _ _ _ _)
   | (with_reducible exact frac_Round.mono _ _ _ _)
   | (with_reducible exact money_Right.mono _ _)
   | (with_reducible exact LeO.refl _)
   | (with_reducible exact LeO.none _)
   | (with_reducible refine LeO.ite ?_ ?_)
   | (with_reducible refine LeO.bind ?_ (fun _ => ?_))
   | exact ih0 _ _ _ _
   | exact frac_Round.mono _ _ _ _
   | exact money_Right.mono _ _
   | exact LeO.none _
   | refine LeO.ite ?_ ?_
   | refine LeO.bind ?_ (fun _ => ?_)
set_option maxHeartbeats 8000000 in
set_option maxRecDepth 100000 in
theorem element_Value.calls (k : Nat) (a0_0 : ByteArray) (a0_1 : Int) (a0_2 : Int) (r1 : Int) (r2 : Int) (w : World) (h : element_Value.f k a0_0 a0_1 a0_2 = some (r1, r2)) :
  Calls Tryd.prog 36 #[.agg #[.string a0_0, .int .i64 a0_1, .int .i64 a0_2]] w fun e w' => e = .returned (.tuple #[.int .i64 r1, .int .i64 r2]) ∧ Below w.heap.size w w' := by
 have hu48 := Tryd.underlying48
 have HB := Aside0.mk (Below.refl w.heap.size w)
 have H : ((money_Right.f k (([a0_1] : List Int))).bind fun t272 => (if t272 = true then (if a0_2 < 0 then (element_Value.j0 k true a0_0 a0_1 a0_2) else (element_Value.j0 k (decide (a0_2 > 100000)) a0_0 a0_1 a0_2)) else (some (0, 10)))) = some (r1, r2) := h
 clear h
 obtain ⟨y269, hy269⟩ : ∃ y_ : List Int, y_ = (([a0_1] : List Int)) := ⟨_, rfl⟩
 replace H : ((money_Right.f k y269).bind fun t272 => (if t272 = true then (if a0_2 < 0 then (element_Value.j0 k true a0_0 a0_1 a0_2) else (element_Value.j0 k (decide (a0_2 > 100000)) a0_0 a0_1 a0_2)) else (some (0, 10)))) = some (r1, r2) := by first | (rw [hy269]; with_reducible exact H) | (have H2_ := (Option.bind_some _ _).symm.trans H; rw [hy269]; with_reducible exact H2_) | (have H2_ := (Option.bind_some _ _).symm.trans H; with_reducible exact H2_) | with_reducible exact H | (rw [hy269]; exact H) | exact H
 have Ny269 := Aside0.mk hy269
 clear hy269
 replace H := Option.bind_eq_some_iff.mp H
 obtain ⟨t272, A20, H⟩ := H
 replace H : (if t272 = true then (if a0_2 < 0 then (element_Value.j0 k true a0_0 a0_1 a0_2) else (element_Value.j0 k (decide (a0_2 > 100000)) a0_0 a0_1 a0_2)) else (some (0, 10))) = some (r1, r2) := H
 have A2 := Aside0.mk A20
 clear A20
 by_cases c3 : t272 = true
 ·subst c3
  have H1 : (if a0_2 < 0 then (element_Value.j0 k true a0_0 a0_1 a0_2) else (element_Value.j0 k (decide (a0_2 > 100000)) a0_0 a0_1 a0_2)) = some (r1, r2) := by rw [if_pos rfl] at H; exact H
  clear H
  have H := H1
  clear H1
  have HC4 := Aside0.mk H
  clear H
  go_enter Tryd.func36, Tryd.ntmps36
  go_upto_region 3 with (first | ((with_reducible refine gate_dst (N := 1) rfl ?_); refine box_event ?hg (N := 1) ?hd (cs := #[.string a0_0, .int .i64 a0_1, .int .i64 a0_2]) (t := 48) ?hr ?_; (case hd => rfl); (case hg => rfl); (case hr => first | (go_simp; done) | (go_simp; rfl)); intro gb268 hg w5 hbox hb; have n0_ := Aside0.mk (below_step (by repeat (first | (with_reducible first | exact HB.out | apply below_alloc | apply pw_below_drewN | apply below_drew1) | exact HB.out)) hb); have n1_ := Aside0.mk (hbox); have n2_ := Aside0.mk ((by rw [hg]; exact (below_size (by repeat (first | (with_reducible first | exact HB.out | apply below_alloc | apply pw_below_drewN | apply below_drew1) | exact HB.out))) : w.heap.size ≤ gb268)); have n3_ := Aside0.mk ((by rw [hg]; exact (below_size (by repeat (first | (with_reducible first | exact HB.out | apply below_alloc | apply pw_below_drewN | apply below_drew1) | exact HB.out))) : w.heap.size ≤ gb268)); clear HB; have HB := n0_; have BK268 := n1_; have GW268 := n2_; have GE268 := n3_; clear n0_ n1_ n2_ n3_; clear hb hbox hg; have hcz6_0 : w5.cell? ⟨gb268, 0, none⟩ = some (.string a0_0) := (blk_cell BK268.out 0).trans rfl; have hcz6_1 : w5.cell? ⟨gb268, 1, none⟩ = some (.int .i64 a0_1) := (blk_cell BK268.out 1).trans rfl; have hcz6_2 : w5.cell? ⟨gb268, 2, none⟩ = some (.int .i64 a0_2) := (blk_cell BK268.out 2).trans rfl; have hfz6_0 := blk_frozen BK268.out 0; have hfz6_1 := blk_frozen BK268.out 1; have hfz6_2 := blk_frozen BK268.out 2) | ((with_reducible refine gate_dst (N := 8) rfl ?_); refine Kd.R_lit (Kd.int .i64) _ 2 ?hg (N := 8) ?hd (xs := ([a0_1] : List Int)) (inner := [.int .i64 a0_1]) (ok := fun _ => True) (okp := fun _ => True) ?hr ?hp (fun _ hk => hk) trivial (Below.refl _ _) (Nat.le_refl _) (by simp) ?_; (case hd => rfl); (case hg => rfl); (case hr => first | (go_simp; done) | (go_simp; rfl)); (case hp => exact (Reps.one (show Kd.M (Kd.int .i64) _ _ _ a0_1 [.int .i64 a0_1] from rfl) (Reps.none _ _))); intro v270 w7 ho8 hb hg_ hnew_; clear hg_ hnew_; (first | rw [← Ny269.out] at ho8 | (simp only [Int.reduceToNat] at ho8; rw [← Ny269.out] at ho8)); have n0_ := Aside0.mk (Kd.R_lower ho8 (below_size (by repeat (first | (with_reducible first | exact HB.out | apply below_alloc | apply pw_below_drewN | apply below_drew1 | refine below_set ?_ GE268.out) | exact HB.out)))); have n1_ := Aside0.mk (blk_below (g := gb268) (o := .cells #[.string a0_0, .int .i64 a0_1, .int .i64 a0_2] 48 (0, 0)) (by (with_reducible repeat (first | refine blk_drewN ?_ _ | refine blk_drew ?_ | refine blk_alloc ?_ _)); exact BK268.out) hb); have n2_ := Aside0.mk (below_step (by repeat (first | (with_reducible first | exact HB.out | apply below_alloc | apply pw_below_drewN | apply below_drew1 | refine below_set ?_ GE268.out) | exact HB.out)) hb); clear BK268; clear HB; have HO271 := n0_; have BK268 := n1_; have HB := n2_; clear n0_ n1_ n2_; clear hb ho8; obtain ⟨Ao9, co9, eo9⟩ := Kd.R_slice HO271.out; subst eo9) | ((with_reducible refine gate_callee (f := 65) rfl ?_); refine goesL_ (some 9) rfl rfl Tryd.func65 (by kernel_rfl) rfl #[.slice Ao9 y269.length co9] rfl (by (try simp only [List.map_toArray, List.map_cons, List.map_nil]); first | done | rfl | (simp only [List.length_drop, List.length_take]; rfl)) ?_; (with_reducible refine (money_Right.calls k _ _ y269 true _ ?side1 ?side2 A2.out).mono ?_); (case side1 => repeat (first | exact (Kd.R_reads' HO271.out).2.2 | (with_reducible refine Kd.C_alloc ?_ _) | (with_reducible refine Kd.C_drewN ?_ _) | (with_reducible refine Kd.C_drew ?_))); (case side2 => exact (Kd.R_reads' HO271.out).2.1); rintro e w' ⟨rfl, ⟨nd, rfl⟩⟩; refine ⟨_, rfl, ?_⟩))
  (try simp only [Act.put, List.setIfInBounds_toArray, List.set_cons_zero, List.set_cons_succ])
  go_cut [18] (fun v18 wc => ∃ (kq : Nat) (x18_3 : Bool), v18 = .bool x18_3 ∧ Aside0 (element_Value.j0 kq x18_3 a0_0 a0_1 a0_2 = some (r1, r2)) ∧ Aside0 (kq ≤ k) ∧ Aside0 (wc.heap[gb268]? = some (.cells #[.string a0_0, .int .i64 a0_1, .int .i64 a0_2] 48 (0, 0))) ∧ Aside0 (Below w.heap.size w wc))
  case first =>
   have H := HC4.out
   clear HC4
   by_cases c10 : a0_2 < 0
   ·rw [if_pos c10] at H
    have c10b0 : decide (a0_2 < 0) = true := decide_eq_true c10
    clear c10
    (first | rw [c10b0] | (simp only [i64_w, i32_w]; rw [c10b0]) | skip)
    have H' := Aside0.mk H
    clear H
    have hcz11_0 : w7.cell? ⟨gb268, 0, none⟩ = some (.string a0_0) := (blk_cell BK268.out 0).trans rfl
    have hcz11_1 : w7.cell? ⟨gb268, 1, none⟩ = some (.int .i64 a0_1) := (blk_cell BK268.out 1).trans rfl
    have hcz11_2 : w7.cell? ⟨gb268, 2, none⟩ = some (.int .i64 a0_2) := (blk_cell BK268.out 2).trans rfl
    have hfz11_0 := blk_frozen BK268.out 0
    have hfz11_1 := blk_frozen BK268.out 1
    have hfz11_2 := blk_frozen BK268.out 2
    go_wp2
    go_meet
    case rel => exact ⟨_, (true), (by first | rfl | (simp; done) | (simp [*]; done)), H', ⟨by first | omega | exact Nat.le_refl _⟩, ⟨by (with_reducible repeat (first | refine blk_drewN ?_ _ | refine blk_drew ?_ | refine blk_alloc ?_ _)); exact BK268.out⟩, ⟨by repeat (first | (with_reducible first | exact HB.out | apply below_alloc | apply pw_below_drewN | apply below_drew1 | refine below_set ?_ GE268.out) | exact HB.out)⟩⟩
   ·rw [if_neg c10] at H
    have c10b0 : decide (a0_2 < 0) = false := decide_eq_false c10
    clear c10
    (first | rw [c10b0] | (simp only [i64_w, i32_w]; rw [c10b0]) | skip)
    have H' := Aside0.mk H
    clear H
    have hcz12_0 : w7.cell? ⟨gb268, 0, none⟩ = some (.string a0_0) := (blk_cell BK268.out 0).trans rfl
    have hcz12_1 : w7.cell? ⟨gb268, 1, none⟩ = some (.int .i64 a0_1) := (blk_cell BK268.out 1).trans rfl
    have hcz12_2 : w7.cell? ⟨gb268, 2, none⟩ = some (.int .i64 a0_2) := (blk_cell BK268.out 2).trans rfl
    have hfz12_0 := blk_frozen BK268.out 0
    have hfz12_1 := blk_frozen BK268.out 1
    have hfz12_2 := blk_frozen BK268.out 2
    go_wp2
    go_meet
    case rel => exact ⟨_, (decide (a0_2 > 100000)), (by first | rfl | (simp; done) | (simp [*]; done)), H', ⟨by first | omega | exact Nat.le_refl _⟩, ⟨by (with_reducible repeat (first | refine blk_drewN ?_ _ | refine blk_drew ?_ | refine blk_alloc ?_ _)); exact BK268.out⟩, ⟨by repeat (first | (with_reducible first | exact HB.out | apply below_alloc | apply pw_below_drewN | apply below_drew1 | refine below_set ?_ GE268.out) | exact HB.out)⟩⟩
  case rest =>
   clear HC4
   try clear c1
   try clear p2
   try clear c3
   try clear c6
   try clear c10
   try clear c10b0
   try clear hcz11_0
   try clear hcz11_1
   try clear hcz11_2
   try clear hcz12_0
   try clear hcz12_1
   try clear hcz12_2
   try clear hcz6_0
   try clear hcz6_1
   try clear hcz6_2
   try clear hfz11_0
   try clear hfz11_1
   try clear hfz11_2
   try clear hfz12_0
   try clear hfz12_1
   try clear hfz12_2
   try clear hfz6_0
   try clear hfz6_1
   try clear hfz6_2
   obtain ⟨kq, x18_3, rfl, HA, HJ3, BK268, HB⟩ := hcut
   cases kq with
   | zero => exact absurd HA.out (by simp [element_Value.j0])
   | succ kj3 =>
    have H := HA.out
    clear HA
    simp only [element_Value.j0] at H
    by_cases c13 : x18_3 = true
    ·subst c13
     have H1 : (some (0, 1)) = some (r1, r2) := by rw [if_pos rfl] at H; exact H
     clear H
     have H := H1
     clear H1
     simp only [Option.some.injEq, Prod.mk.injEq] at H
     obtain ⟨rfl, rfl⟩ := H
     go_wp2
     go_ret2
     exact ⟨by first | rfl | (simp [errW_none, errW_some] <;> rfl) | (simp [*, errW_none, errW_some] <;> rfl), by repeat (first | (with_reducible first | exact HB.out | apply below_alloc | apply pw_below_drewN | apply below_drew1 | refine below_set ?_ GE268.out) | exact HB.out)⟩
    ·replace c13 := Bool.eq_false_iff.mpr c13
     subst c13
     have H1 : ((frac_Round.f kj3 (wrap64 (a0_1 * a0_2)) 100 4).bind fun bt273 => (if bt273.2 = 0 then ((money_Right.f kj3 (([bt273.1] : List Int))).bind fun t278 => (if t278 = true then (some (bt273.1, 0)) else (some (0, 10)))) else (some (0, bt273.2)))) = some (r1, r2) := by rw [if_neg (show ¬ (false = true) by decide)] at H; exact H
     clear H
     have H := H1
     clear H1
     replace H := Option.bind_eq_some_iff.mp H
     obtain ⟨⟨t273, t274⟩, A140, H⟩ := H
     replace H : (if t274 = 0 then ((money_Right.f kj3 (([t273] : List Int))).bind fun t278 => (if t278 = true then (some (t273, 0)) else (some (0, 10)))) else (some (0, t274))) = some (r1, r2) := H
     have A14 := Aside0.mk A140
     clear A140
     by_cases c15 : t274 = 0
     ·rw [if_pos c15] at H
      have c15b0 : (t274 == 0) = true := beq_iff_eq.mpr c15
      have c15b1 : (t274 != 0) = false := bne_eq_false_iff_eq.mpr c15
      clear c15
      obtain ⟨y275, hy275⟩ : ∃ y_ : List Int, y_ = (([t273] : List Int)) := ⟨_, rfl⟩
      replace H : ((money_Right.f kj3 y275).bind fun t278 => (if t278 = true then (some (t273, 0)) else (some (0, 10)))) = some (r1, r2) := by first | (rw [hy275]; with_reducible exact H) | (have H2_ := (Option.bind_some _ _).symm.trans H; rw [hy275]; with_reducible exact H2_) | (have H2_ := (Option.bind_some _ _).symm.trans H; with_reducible exact H2_) | with_reducible exact H | (rw [hy275]; exact H) | exact H
      have Ny275 := Aside0.mk hy275
      clear hy275
      replace H := Option.bind_eq_some_iff.mp H
      obtain ⟨t278, A160, H⟩ := H
      replace H : (if t278 = true then (some (t273, 0)) else (some (0, 10))) = some (r1, r2) := H
      have A16 := Aside0.mk A160
      clear A160
      by_cases c17 : t278 = true
      ·subst c17
       have H1 : (some (t273, 0)) = some (r1, r2) := by rw [if_pos rfl] at H; exact H
       clear H
       have H := H1
       clear H1
       simp only [Option.some.injEq, Prod.mk.injEq] at H
       obtain ⟨rfl, rfl⟩ := H
       have hcz18_0 : wc.cell? ⟨gb268, 0, none⟩ = some (.string a0_0) := (blk_cell BK268.out 0).trans rfl
       have hcz18_1 : wc.cell? ⟨gb268, 1, none⟩ = some (.int .i64 a0_1) := (blk_cell BK268.out 1).trans rfl
       have hcz18_2 : wc.cell? ⟨gb268, 2, none⟩ = some (.int .i64 a0_2) := (blk_cell BK268.out 2).trans rfl
       have hfz18_0 := blk_frozen BK268.out 0
       have hfz18_1 := blk_frozen BK268.out 1
       have hfz18_2 := blk_frozen BK268.out 2
       go_wp2_with (first | ((with_reducible refine gate_callee (f := 37) rfl ?_); refine goesL_ (some 25) rfl rfl Tryd.func37 (by kernel_rfl) rfl #[.int .i64 (wrap64 (a0_1 * a0_2)), .int .i64 100, .int .i64 4] rfl (by (try simp only [List.map_toArray, List.map_cons, List.map_nil]); first | done | rfl | (simp only [List.length_drop, List.length_take]; rfl)) ?_; (with_reducible refine (frac_Round.calls kj3 (wrap64 (a0_1 * a0_2)) 100 4 t273 t274 _ A14.out).mono ?_); rintro e w' ⟨rfl, ⟨nd, rfl⟩⟩; refine ⟨_, rfl, ?_⟩) | ((with_reducible refine gate_dst (N := 32) rfl ?_); refine Kd.R_lit (Kd.int .i64) _ 2 ?hg (N := 32) ?hd (xs := ([t273] : List Int)) (inner := [.int .i64 t273]) (ok := fun _ => True) (okp := fun _ => True) ?hr ?hp (fun _ hk => hk) trivial (Below.refl _ _) (Nat.le_refl _) (by simp) ?_; (case hd => rfl); (case hg => rfl); (case hr => first | (go_simp; done) | (go_simp; rfl)); (case hp => exact (Reps.one (show Kd.M (Kd.int .i64) _ _ _ t273 [.int .i64 t273] from rfl) (Reps.none _ _))); intro v276 w19 ho20 hb hg_ hnew_; clear hg_ hnew_; (first | rw [← Ny275.out] at ho20 | (simp only [Int.reduceToNat] at ho20; rw [← Ny275.out] at ho20)); have n0_ := Aside0.mk (Kd.R_lower ho20 (below_size (by repeat (first | (with_reducible first | exact HB.out | apply below_alloc | apply pw_below_drewN | apply below_drew1 | refine below_set ?_ GE268.out) | exact HB.out)))); have n1_ := Aside0.mk (blk_below (g := gb268) (o := .cells #[.string a0_0, .int .i64 a0_1, .int .i64 a0_2] 48 (0, 0)) (by (with_reducible repeat (first | refine blk_drewN ?_ _ | refine blk_drew ?_ | refine blk_alloc ?_ _)); exact BK268.out) hb); have n2_ := Aside0.mk (below_step (by repeat (first | (with_reducible first | exact HB.out | apply below_alloc | apply pw_below_drewN | apply below_drew1 | refine below_set ?_ GE268.out) | exact HB.out)) hb); clear BK268; clear HB; have HO277 := n0_; have BK268 := n1_; have HB := n2_; clear n0_ n1_ n2_; clear hb ho20; obtain ⟨Ao21, co21, eo21⟩ := Kd.R_slice HO277.out; subst eo21) | ((with_reducible refine gate_callee (f := 65) rfl ?_); refine goesL_ (some 33) rfl rfl Tryd.func65 (by kernel_rfl) rfl #[.slice Ao21 y275.length co21] rfl (by (try simp only [List.map_toArray, List.map_cons, List.map_nil]); first | done | rfl | (simp only [List.length_drop, List.length_take]; rfl)) ?_; (with_reducible refine (money_Right.calls kj3 _ _ y275 true _ ?side1 ?side2 A16.out).mono ?_); (case side1 => repeat (first | exact (Kd.R_reads' HO277.out).2.2 | (with_reducible refine Kd.C_alloc ?_ _) | (with_reducible refine Kd.C_drewN ?_ _) | (with_reducible refine Kd.C_drew ?_))); (case side2 => exact (Kd.R_reads' HO277.out).2.1); rintro e w' ⟨rfl, ⟨nd, rfl⟩⟩; refine ⟨_, rfl, ?_⟩))
       go_ret2
       exact ⟨by first | rfl | (simp [errW_none, errW_some] <;> rfl) | (simp [*, errW_none, errW_some] <;> rfl), by repeat (first | (with_reducible first | exact HB.out | apply below_alloc | apply pw_below_drewN | apply below_drew1 | refine below_set ?_ GE268.out) | exact HB.out)⟩
      ·replace c17 := Bool.eq_false_iff.mpr c17
       subst c17
       have H1 : (some (0, 10)) = some (r1, r2) := by rw [if_neg (show ¬ (false = true) by decide)] at H; exact H
       clear H
       have H := H1
       clear H1
       simp only [Option.some.injEq, Prod.mk.injEq] at H
       obtain ⟨rfl, rfl⟩ := H
       have hcz22_0 : wc.cell? ⟨gb268, 0, none⟩ = some (.string a0_0) := (blk_cell BK268.out 0).trans rfl
       have hcz22_1 : wc.cell? ⟨gb268, 1, none⟩ = some (.int .i64 a0_1) := (blk_cell BK268.out 1).trans rfl
       have hcz22_2 : wc.cell? ⟨gb268, 2, none⟩ = some (.int .i64 a0_2) := (blk_cell BK268.out 2).trans rfl
       have hfz22_0 := blk_frozen BK268.out 0
       have hfz22_1 := blk_frozen BK268.out 1
       have hfz22_2 := blk_frozen BK268.out 2
       go_wp2_with (first | ((with_reducible refine gate_callee (f := 37) rfl ?_); refine goesL_ (some 25) rfl rfl Tryd.func37 (by kernel_rfl) rfl #[.int .i64 (wrap64 (a0_1 * a0_2)), .int .i64 100, .int .i64 4] rfl (by (try simp only [List.map_toArray, List.map_cons, List.map_nil]); first | done | rfl | (simp only [List.length_drop, List.length_take]; rfl)) ?_; (with_reducible refine (frac_Round.calls kj3 (wrap64 (a0_1 * a0_2)) 100 4 t273 t274 _ A14.out).mono ?_); rintro e w' ⟨rfl, ⟨nd, rfl⟩⟩; refine ⟨_, rfl, ?_⟩) | ((with_reducible refine gate_dst (N := 32) rfl ?_); refine Kd.R_lit (Kd.int .i64) _ 2 ?hg (N := 32) ?hd (xs := ([t273] : List Int)) (inner := [.int .i64 t273]) (ok := fun _ => True) (okp := fun _ => True) ?hr ?hp (fun _ hk => hk) trivial (Below.refl _ _) (Nat.le_refl _) (by simp) ?_; (case hd => rfl); (case hg => rfl); (case hr => first | (go_simp; done) | (go_simp; rfl)); (case hp => exact (Reps.one (show Kd.M (Kd.int .i64) _ _ _ t273 [.int .i64 t273] from rfl) (Reps.none _ _))); intro v276 w23 ho24 hb hg_ hnew_; clear hg_ hnew_; (first | rw [← Ny275.out] at ho24 | (simp only [Int.reduceToNat] at ho24; rw [← Ny275.out] at ho24)); have n0_ := Aside0.mk (Kd.R_lower ho24 (below_size (by repeat (first | (with_reducible first | exact HB.out | apply below_alloc | apply pw_below_drewN | apply below_drew1 | refine below_set ?_ GE268.out) | exact HB.out)))); have n1_ := Aside0.mk (blk_below (g := gb268) (o := .cells #[.string a0_0, .int .i64 a0_1, .int .i64 a0_2] 48 (0, 0)) (by (with_reducible repeat (first | refine blk_drewN ?_ _ | refine blk_drew ?_ | refine blk_alloc ?_ _)); exact BK268.out) hb); have n2_ := Aside0.mk (below_step (by repeat (first | (with_reducible first | exact HB.out | apply below_alloc | apply pw_below_drewN | apply below_drew1 | refine below_set ?_ GE268.out) | exact HB.out)) hb); clear BK268; clear HB; have HO277 := n0_; have BK268 := n1_; have HB := n2_; clear n0_ n1_ n2_; clear hb ho24; obtain ⟨Ao25, co25, eo25⟩ := Kd.R_slice HO277.out; subst eo25) | ((with_reducible refine gate_callee (f := 65) rfl ?_); refine goesL_ (some 33) rfl rfl Tryd.func65 (by kernel_rfl) rfl #[.slice Ao25 y275.length co25] rfl (by (try simp only [List.map_toArray, List.map_cons, List.map_nil]); first | done | rfl | (simp only [List.length_drop, List.length_take]; rfl)) ?_; (with_reducible refine (money_Right.calls kj3 _ _ y275 false _ ?side1 ?side2 A16.out).mono ?_); (case side1 => repeat (first | exact (Kd.R_reads' HO277.out).2.2 | (with_reducible refine Kd.C_alloc ?_ _) | (with_reducible refine Kd.C_drewN ?_ _) | (with_reducible refine Kd.C_drew ?_))); (case side2 => exact (Kd.R_reads' HO277.out).2.1); rintro e w' ⟨rfl, ⟨nd, rfl⟩⟩; refine ⟨_, rfl, ?_⟩))
       go_ret2
       exact ⟨by first | rfl | (simp [errW_none, errW_some] <;> rfl) | (simp [*, errW_none, errW_some] <;> rfl), by repeat (first | (with_reducible first | exact HB.out | apply below_alloc | apply pw_below_drewN | apply below_drew1 | refine below_set ?_ GE268.out) | exact HB.out)⟩
     ·rw [if_neg c15] at H
      have c15b0 : (t274 == 0) = false := beq_eq_false_iff_ne.mpr c15
      have c15b1 : (t274 != 0) = true := bne_iff_ne.mpr c15
      simp only [Option.some.injEq, Prod.mk.injEq] at H
      obtain ⟨rfl, rfl⟩ := H
      have hcz26_0 : wc.cell? ⟨gb268, 0, none⟩ = some (.string a0_0) := (blk_cell BK268.out 0).trans rfl
      have hcz26_1 : wc.cell? ⟨gb268, 1, none⟩ = some (.int .i64 a0_1) := (blk_cell BK268.out 1).trans rfl
      have hcz26_2 : wc.cell? ⟨gb268, 2, none⟩ = some (.int .i64 a0_2) := (blk_cell BK268.out 2).trans rfl
      have hfz26_0 := blk_frozen BK268.out 0
      have hfz26_1 := blk_frozen BK268.out 1
      have hfz26_2 := blk_frozen BK268.out 2
      go_wp2_with (first | ((with_reducible refine gate_callee (f := 37) rfl ?_); refine goesL_ (some 25) rfl rfl Tryd.func37 (by kernel_rfl) rfl #[.int .i64 (wrap64 (a0_1 * a0_2)), .int .i64 100, .int .i64 4] rfl (by (try simp only [List.map_toArray, List.map_cons, List.map_nil]); first | done | rfl | (simp only [List.length_drop, List.length_take]; rfl)) ?_; (with_reducible refine (frac_Round.calls kj3 (wrap64 (a0_1 * a0_2)) 100 4 t273 t274 _ A14.out).mono ?_); rintro e w' ⟨rfl, ⟨nd, rfl⟩⟩; refine ⟨_, rfl, ?_⟩))
      go_ret2
      exact ⟨by first | rfl | (simp [errW_none, errW_some] <;> rfl) | (simp [*, errW_none, errW_some] <;> rfl), by repeat (first | (with_reducible first | exact HB.out | apply below_alloc | apply pw_below_drewN | apply below_drew1 | refine below_set ?_ GE268.out) | exact HB.out)⟩
 ·replace c3 := Bool.eq_false_iff.mpr c3
  subst c3
  have H1 : (some (0, 10)) = some (r1, r2) := by rw [if_neg (show ¬ (false = true) by decide)] at H; exact H
  clear H
  have H := H1
  clear H1
  simp only [Option.some.injEq, Prod.mk.injEq] at H
  obtain ⟨rfl, rfl⟩ := H
  go_enter Tryd.func36, Tryd.ntmps36
  go_wp2_with (first | ((with_reducible refine gate_dst (N := 1) rfl ?_); refine box_event ?hg (N := 1) ?hd (cs := #[.string a0_0, .int .i64 a0_1, .int .i64 a0_2]) (t := 48) ?hr ?_; (case hd => rfl); (case hg => rfl); (case hr => first | (go_simp; done) | (go_simp; rfl)); intro gb268 hg w27 hbox hb; have n0_ := Aside0.mk (below_step (by repeat (first | (with_reducible first | exact HB.out | apply below_alloc | apply pw_below_drewN | apply below_drew1) | exact HB.out)) hb); have n1_ := Aside0.mk (hbox); have n2_ := Aside0.mk ((by rw [hg]; exact (below_size (by repeat (first | (with_reducible first | exact HB.out | apply below_alloc | apply pw_below_drewN | apply below_drew1) | exact HB.out))) : w.heap.size ≤ gb268)); have n3_ := Aside0.mk ((by rw [hg]; exact (below_size (by repeat (first | (with_reducible first | exact HB.out | apply below_alloc | apply pw_below_drewN | apply below_drew1) | exact HB.out))) : w.heap.size ≤ gb268)); clear HB; have HB := n0_; have BK268 := n1_; have GW268 := n2_; have GE268 := n3_; clear n0_ n1_ n2_ n3_; clear hb hbox hg; have hcz28_0 : w27.cell? ⟨gb268, 0, none⟩ = some (.string a0_0) := (blk_cell BK268.out 0).trans rfl; have hcz28_1 : w27.cell? ⟨gb268, 1, none⟩ = some (.int .i64 a0_1) := (blk_cell BK268.out 1).trans rfl; have hcz28_2 : w27.cell? ⟨gb268, 2, none⟩ = some (.int .i64 a0_2) := (blk_cell BK268.out 2).trans rfl; have hfz28_0 := blk_frozen BK268.out 0; have hfz28_1 := blk_frozen BK268.out 1; have hfz28_2 := blk_frozen BK268.out 2) | ((with_reducible refine gate_dst (N := 8) rfl ?_); refine Kd.R_lit (Kd.int .i64) _ 2 ?hg (N := 8) ?hd (xs := ([a0_1] : List Int)) (inner := [.int .i64 a0_1]) (ok := fun _ => True) (okp := fun _ => True) ?hr ?hp (fun _ hk => hk) trivial (Below.refl _ _) (Nat.le_refl _) (by simp) ?_; (case hd => rfl); (case hg => rfl); (case hr => first | (go_simp; done) | (go_simp; rfl)); (case hp => exact (Reps.one (show Kd.M (Kd.int .i64) _ _ _ a0_1 [.int .i64 a0_1] from rfl) (Reps.none _ _))); intro v270 w29 ho30 hb hg_ hnew_; clear hg_ hnew_; (first | rw [← Ny269.out] at ho30 | (simp only [Int.reduceToNat] at ho30; rw [← Ny269.out] at ho30)); have n0_ := Aside0.mk (Kd.R_lower ho30 (below_size (by repeat (first | (with_reducible first | exact HB.out | apply below_alloc | apply pw_below_drewN | apply below_drew1 | refine below_set ?_ GE268.out) | exact HB.out)))); have n1_ := Aside0.mk (blk_below (g := gb268) (o := .cells #[.string a0_0, .int .i64 a0_1, .int .i64 a0_2] 48 (0, 0)) (by (with_reducible repeat (first | refine blk_drewN ?_ _ | refine blk_drew ?_ | refine blk_alloc ?_ _)); exact BK268.out) hb); have n2_ := Aside0.mk (below_step (by repeat (first | (with_reducible first | exact HB.out | apply below_alloc | apply pw_below_drewN | apply below_drew1 | refine below_set ?_ GE268.out) | exact HB.out)) hb); clear BK268; clear HB; have HO271 := n0_; have BK268 := n1_; have HB := n2_; clear n0_ n1_ n2_; clear hb ho30; obtain ⟨Ao31, co31, eo31⟩ := Kd.R_slice HO271.out; subst eo31) | ((with_reducible refine gate_callee (f := 65) rfl ?_); refine goesL_ (some 9) rfl rfl Tryd.func65 (by kernel_rfl) rfl #[.slice Ao31 y269.length co31] rfl (by (try simp only [List.map_toArray, List.map_cons, List.map_nil]); first | done | rfl | (simp only [List.length_drop, List.length_take]; rfl)) ?_; (with_reducible refine (money_Right.calls k _ _ y269 false _ ?side1 ?side2 A2.out).mono ?_); (case side1 => repeat (first | exact (Kd.R_reads' HO271.out).2.2 | (with_reducible refine Kd.C_alloc ?_ _) | (with_reducible refine Kd.C_drewN ?_ _) | (with_reducible refine Kd.C_drew ?_))); (case side2 => exact (Kd.R_reads' HO271.out).2.1); rintro e w' ⟨rfl, ⟨nd, rfl⟩⟩; refine ⟨_, rfl, ?_⟩))
  go_ret2
  exact ⟨by first | rfl | (simp [errW_none, errW_some] <;> rfl) | (simp [*, errW_none, errW_some] <;> rfl), by repeat (first | (with_reducible first | exact HB.out | apply below_alloc | apply pw_below_drewN | apply below_drew1 | refine below_set ?_ GE268.out) | exact HB.out)⟩

end Go.Proofs.YtmocphafkimdpaaDoor.P


/- What the elements of each kind are worth: element.Sums, walked. -/
namespace Go.Proofs.YtmocphafkimdpaaDoor.P
set_option linter.unusedVariables false
open Go.RowKit Go.Proofs.YtmocphafkimdpaaDoorW.PrintWords Go.Proofs.YtmocphafkimdpaaDoorW.PrintLast Go.Proofs.YtmocphafkimdpaaDoorW.PrintMore

/-- The place that Sums takes for a kind, and the row as it stands then. -/
def sumsAt (kind : ByteArray) (out : List S76) : List S76 × Nat := if idxFrom kind out 0 < 0 then (out ++ [⟨kind, 0⟩], out.length) else (out, (idxFrom kind out 0).toNat)
def sumsGo : List S48 → List S76 → Option (List S76 × Int)
  | [], out => some (out, 0)
  | x :: t, out => (element_Value.f 100 x.f0 x.f1 x.f2).bind fun b => if b.2 = 0 then
      ((money_Add.f 100 ((sumsAt x.f0 out).1.getD (sumsAt x.f0 out).2 z76).f1 b.1).bind fun c => if c.2 = 0 then sumsGo t ((sumsAt x.f0 out).1.set (sumsAt x.f0 out).2 ⟨((sumsAt x.f0 out).1.getD (sumsAt x.f0 out).2 z76).f0, c.1⟩) else some ([], c.2)) else some ([], b.2)
def element_Sums.f (l0 : List S48) : Option (List S76 × Int) := if l0.length < 1000 then sumsGo l0 [] else none

theorem idx_lt (kind : ByteArray) : ∀ (xs : List S76) (i : Nat), idxFrom kind xs i = -1 ∨ ((i : Int) ≤ idxFrom kind xs i ∧ idxFrom kind xs i < i + xs.length)
  | [], i => .inl rfl
  | a :: t, i => by
    simp only [idxFrom]
    split
    · exact .inr ⟨by omega, by simp; omega⟩
    · rcases idx_lt kind t (i + 1) with h | ⟨h1, h2⟩
      · exact .inl h
      · exact .inr ⟨by omega, by simp; omega⟩

theorem own76 {W : World} {base : Nat} {ok : Nat → Prop} {v : Value} {xs : List S76} (h : Kd.R k76 76 W base ok v xs) (hn : 0 < xs.length) :
    ∃ g c, v = .slice (some ⟨g, 0, none⟩) xs.length c ∧ base ≤ g ∧ ∀ j, W.frozen? ⟨g, j, none⟩ = false := by
  obtain ⟨_, inner, ho, _⟩ := h
  rcases ho.2 with ⟨_, h0⟩ | ⟨g, cap, cur, hv, hb, hh, _⟩
  · omega
  · exact ⟨g, cap, hv, hb, fun j => blk_frozen hh j⟩
theorem at76 {W : World} {base : Nat} {ok : Nat → Prop} {g c : Nat} {xs : List S76} (h : Kd.R k76 76 W base ok (.slice (some ⟨g, 0, none⟩) xs.length c) xs) (j : Nat) (hj : j < xs.length) :
    W.cell? ⟨g, j * 2, none⟩ = some (.string (xs.getD j z76).f0) ∧ W.cell? ⟨g, j * 2 + 1, none⟩ = some (.int .i64 (xs.getD j z76).f1) := by
  obtain ⟨ad, eA, f0, f1⟩ := at_T76 (Kd.R_reads' h).2.2 (j : Int) (by omega) (by omega)
  obtain rfl := Option.some.inj eA
  rw [Int.toNat_natCast, add_plain] at f0 f1
  exact ⟨f0, f1⟩
theorem put76 {W : World} {base : Nat} {ok : Nat → Prop} {g c : Nat} {xs : List S76} (h : Kd.R k76 76 W base ok (.slice (some ⟨g, 0, none⟩) xs.length c) xs) (j : Nat) (hj : j < xs.length) (u : Int) :
    Kd.R k76 76 (W.setCell ⟨g, j * 2 + 1, none⟩ (.int .i64 u)) base ok (.slice (some ⟨g, 0, none⟩) xs.length c) (xs.set j ⟨(xs.getD j z76).f0, u⟩) := by
  obtain ⟨f0, f1⟩ := at76 h j hj
  have := (Kd.R_seg h (j : Int) (by omega) (by omega) (c := [.string (xs.getD j z76).f0, .int .i64 (xs.getD j z76).f1]) (seg := [.int .i64 u]) (j := 1) (okp := fun _ => False) rfl (by
    intro i v hi
    rw [Int.toNat_natCast]
    match i, hi with
    | 0, hi => cases hi; exact f0
    | 1, hi => cases hi; exact f1
    | n + 2, hi => cases hi) (Nat.le_refl 2) (x' := ⟨(xs.getD j z76).f0, u⟩) (k76_mkM _ _ _ (⟨(xs.getD j z76).f0, u⟩ : S76)) (fun _ hk => hk.elim)).1
  rw [Int.toNat_natCast] at this
  exact this

theorem frz76 {W : World} {base : Nat} {ok : Nat → Prop} {g c n : Nat} {xs : List S76} (h : Kd.R k76 76 W base ok (.slice (some ⟨g, 0, none⟩) n c) xs) (j : Nat) : W.frozen? ⟨g, j, none⟩ = false := by
  obtain ⟨_, inner, ho, _⟩ := h
  rcases ho.2 with ⟨hv, _⟩ | ⟨g', cap, cur, hv, hb, hh, _⟩
  · cases hv
  · injection hv with hv
    injection hv with hv
    injection hv with hv
    subst hv
    exact blk_frozen hh j
theorem app76 {W : World} {base : Nat} {ok : Nat → Prop} {v : Value} {xs : List S76} {y : S76} (h : Kd.R k76 76 W base ok v (xs ++ [y])) :
    ∃ g c, v = .slice (some ⟨g, 0, none⟩) (xs.length + 1) c ∧ base ≤ g ∧ W.frozen? ⟨g, xs.length * 2 + 1, none⟩ = false ∧ W.cell? ⟨g, xs.length * 2 + 1, none⟩ = some (.int .i64 y.f1) := by
  obtain ⟨g, c, rfl, hb, hf⟩ := own76 h (by simp)
  have hc := (at76 h xs.length (by simp)).2
  have e : (xs ++ [y]).getD xs.length z76 = y := by simp
  rw [e] at hc
  exact ⟨g, c, by rw [List.length_append]; rfl, hb, hf _, hc⟩

theorem app76_cell {W : World} {base : Nat} {ok : Nat → Prop} {g c : Nat} {xs : List S76} {y : S76} (h : Kd.R k76 76 W base ok (.slice (some ⟨g, 0, none⟩) (xs.length + 1) c) (xs ++ [y])) : W.cell? ⟨g, xs.length * 2 + 1, none⟩ = some (.int .i64 y.f1) := by
  have e0 : xs.length + 1 = (xs ++ [y]).length := by simp
  rw [e0] at h
  have hc := (at76 h xs.length (by simp)).2
  have e : (xs ++ [y]).getD xs.length z76 = y := by simp
  rwa [e] at hc
theorem app76_put {W : World} {base : Nat} {ok : Nat → Prop} {g c : Nat} {xs : List S76} {y : S76} (h : Kd.R k76 76 W base ok (.slice (some ⟨g, 0, none⟩) (xs.length + 1) c) (xs ++ [y])) (u : Int) :
    Kd.R k76 76 (W.setCell ⟨g, xs.length * 2 + 1, none⟩ (.int .i64 u)) base ok (.slice (some ⟨g, 0, none⟩) (xs.length + 1) c) (xs ++ [⟨y.f0, u⟩]) := by
  have e0 : xs.length + 1 = (xs ++ [y]).length := by simp
  rw [e0] at h ⊢
  have hc := put76 h xs.length (by simp) u
  have e : (xs ++ [y]).getD xs.length z76 = y := by simp
  have e3 : (xs ++ [y]).set xs.length ⟨y.f0, u⟩ = xs ++ [⟨y.f0, u⟩] := by simp
  rwa [e, e3] at hc

set_option maxRecDepth 100000 in
set_option maxHeartbeats 8000000 in
theorem element_Sums.calls (A0 : Option Addr) (c0 : Nat) (l0 : List S48) (r1 : List S76) (r2 : Int) (w : World) (hr0 : Kd.C k48 w A0 l0.length l0) (hc0 : l0.length ≤ c0) (h : element_Sums.f l0 = some (r1, r2)) :
    Calls Tryd.prog 48 #[.slice A0 l0.length c0] w fun e w' => ∃ v0_ : Value, e = .returned (.tuple #[v0_, .int .i64 r2]) ∧ Kd.R k76 76 w' w.heap.size (fun _ => True) v0_ r1 ∧ Below w.heap.size w w' := by
  unfold element_Sums.f at h
  split at h
  · rename_i hl
    have H0 : Hid (sumsGo l0 [] = some (r1, r2)) := h
    have HR : Hid (Kd.C k48 w A0 l0.length l0) := hr0
    clear h hr0
    have hu48 := Tryd.underlying48
    have hu76 := Tryd.underlying76
    go_enter Tryd.func48, Tryd.ntmps48
    go_wp2
    go_loopg [4, 12] l0.length (fun g v iv wr => ∃ (i : Nat) (out : List S76), iv = .int .i64 i ∧ i ≤ l0.length ∧ l0.length - i ≤ g ∧ out.length ≤ i ∧ Hid (Below w.heap.size w wr) ∧ Hid (Kd.R k76 76 wr w.heap.size (fun _ => True) v out) ∧ Hid (sumsGo (l0.drop i) out = some (r1, r2)))
    case atStart => exact ⟨0, [], rfl, by omega, by omega, by simp, Below.refl _ _, Kd.R_nil _ _ _ _ _, H0⟩
    case round =>
      obtain ⟨i, out, rfl, hi, hg, ho, HB, HO, HS⟩ := hrel
      clear H0
      by_cases c1 : i < l0.length
      · obtain ⟨a, t, ht⟩ : ∃ a t, l0.drop i = a :: t := by
          cases h : l0.drop i with
          | nil => have : l0.length ≤ i := by simpa using h
                   omega
          | cons a t => exact ⟨a, t, rfl⟩
        obtain ⟨h1, h2, _⟩ := drop_cons_get ht
        have c1' : (i : Int) < (l0.length : Int) := by omega
        have p0 : (0 : Int) ≤ (i : Int) := by omega
        obtain ⟨ad, eA, f0, f1, f2⟩ := at_T48 (Kd.C_below HR.out HB.out) (i : Int) p0 c1'
        have er : rd_T48 l0 (i : Int) = a := by
          unfold rd_T48
          rw [List.getD_eq_getElem?_getD, Int.toNat_natCast, h1]
          rfl
        rw [er, Int.toNat_natCast] at f0 f1 f2
        rw [ht] at HS
        subst eA
        obtain ⟨⟨v, e⟩, hv⟩ : ∃ b, element_Value.f 100 a.f0 a.f1 a.f2 = some b := by
          have := HS.out
          simp only [sumsGo] at this
          cases hh : element_Value.f 100 a.f0 a.f1 a.f2 with
          | none => rw [hh] at this; cases this
          | some b => exact ⟨b, rfl⟩
        have HS' : Hid ((if e = 0 then ((money_Add.f 100 ((sumsAt a.f0 out).1.getD (sumsAt a.f0 out).2 z76).f1 v).bind fun c => if c.2 = 0 then sumsGo t ((sumsAt a.f0 out).1.set (sumsAt a.f0 out).2 ⟨((sumsAt a.f0 out).1.getD (sumsAt a.f0 out).2 z76).f0, c.1⟩) else some ([], c.2)) else some ([], e)) = some (r1, r2)) := by
          have := HS.out
          simp only [sumsGo, hv, Option.bind_some] at this
          exact this
        clear HS er h1
        have V := Lib.hid (fun W => element_Value.calls 100 a.f0 a.f1 a.f2 v e W hv)
        clear hv
        obtain ⟨A, c, rfl, hcap, hOC⟩ := Kd.R_reads HO.out
        clear hOC
        by_cases ce : e = 0
        · subst ce
          have HS2 : Hid (((money_Add.f 100 ((sumsAt a.f0 out).1.getD (sumsAt a.f0 out).2 z76).f1 v).bind fun c => if c.2 = 0 then sumsGo t ((sumsAt a.f0 out).1.set (sumsAt a.f0 out).2 ⟨((sumsAt a.f0 out).1.getD (sumsAt a.f0 out).2 z76).f0, c.1⟩) else some ([], c.2)) = some (r1, r2)) := by
            have := HS'.out
            rw [if_pos rfl] at this
            exact this
          clear HS'
          go_wp2_with fail
          refine (V.out _).mono ?_
          rintro e' w2 ⟨rfl, hb2⟩
          obtain ⟨X, hX⟩ : ∃ X, X = wr.heap.size := ⟨_, rfl⟩
          have hXc : (wr.alloc (.cells #[.string a.f0, .int .i64 a.f1, .int .i64 a.f2] 48)).cell? ⟨X, 0, none⟩ = some (.string a.f0) := by
            rw [hX]
            simp
          have hX2 := (hb2.cell (p := ⟨X, 0, none⟩) (by rw [hX]; simp)).trans hXc
          have HO2 : Hid (Kd.R k76 76 w2 w.heap.size (fun k => k < X) (.slice A out.length c) out) := by
            have h := Kd.R_mono (Kd.R_bound HO.out) (ok' := fun k => k < X) (fun k hk => by rw [hX]; exact hk.2.2.1)
            exact Kd.R_below (Kd.R_alloc h (.cells #[.string a.f0, .int .i64 a.f1, .int .i64 a.f2] 48)) hb2
          have HB2 : Hid (Below w.heap.size w w2) := (HB.out.alloc HB.out.size (.cells #[.string a.f0, .int .i64 a.f1, .int .i64 a.f2] 48)).trans (hb2.mono (by simp; exact Nat.le_succ_of_le HB.out.size))
          have I := Lib.hid (index_sums X c A a.f0 out w2 hX2 (Kd.R_reads' HO2.out).2.2 (by omega))
          have HXw : Hid (w.heap.size ≤ X) := by show _ ≤ _; rw [hX]; exact HB.out.size
          rw [← hX]
          clear hb2 hXc hX V f0 f1 f2 HB HO hcap
          go_wp2_with fail
          refine I.out.mono ?_
          rintro e' w3 ⟨rfl, hb3⟩
          have HO3 : Hid (Kd.R k76 76 w3 w.heap.size (fun k => k < X) (.slice A out.length c) out) := Kd.R_below HO2.out hb3
          have HB3 : Hid (Below w.heap.size w w3) := HB2.out.trans (hb3.mono HB2.out.size)
          have hX3 : w3.cell? ⟨X, 0, none⟩ = some (.string a.f0) := (hb3.cell (p := ⟨X, 0, none⟩) (by have := hX2; apply Classical.byContradiction; intro hge; unfold World.cell? at this; rw [Array.getElem?_eq_none (by simpa using hge)] at this; cases this)).trans hX2
          have LX : Hid (X < w3.heap.size) := by
            show X < _
            have := hX3
            apply Classical.byContradiction
            intro hge
            unfold World.cell? at this
            rw [Array.getElem?_eq_none (by simpa using hge)] at this
            cases this
          clear hb3 hX2 HO2 HB2 I
          by_cases ci : idxFrom a.f0 out 0 < 0
          · have HS3 : Hid (((money_Add.f 100 0 v).bind fun c => if c.2 = 0 then sumsGo t (out ++ [⟨a.f0, c.1⟩]) else some ([], c.2)) = some (r1, r2)) := by
              have := HS2.out
              have e1 : sumsAt a.f0 out = (out ++ [⟨a.f0, 0⟩], out.length) := by unfold sumsAt; rw [if_pos ci]
              have e2 : (out ++ [(⟨a.f0, 0⟩ : S76)]).getD out.length z76 = ⟨a.f0, 0⟩ := by simp
              have e3 : ∀ y : S76, (out ++ [(⟨a.f0, 0⟩ : S76)]).set out.length y = out ++ [y] := fun y => by simp
              rw [e1] at this
              simp only [e2, e3] at this
              exact this
            clear HS2
            go_wp2_with (first | ((with_reducible refine gate_builtin (b := .append) (xs := #[.tmp 31, .tmp 35]) rfl ?_); at_builtin; refine Kd.R_append k76 (w0 := w) w.heap.size rfl (.tmp 31) (.tmp 35) 72 76 (.agg #[(.string ⟨#[]⟩), (.int .i64 0)]) 24 rfl Tryd.underlying72 info76 rfl (by decide) (by omega) (.slice A out.length c) out (⟨a.f0, 0⟩ : S76) [.string a.f0, .int .i64 0] (fun k => k ≠ X) (fun _ => False) rfl (by first | (go_simp; done) | (go_simp; rfl)) ?aP (fun _ hk => hk.elim) ?aF ?aO ?aB ?aS ?aL ?_; (case aP => exact k76_mkM _ _ _ (⟨a.f0, 0⟩ : S76)); (case aB => exact HB3.out); (case aF => exact (fun k hk => Nat.ne_of_gt (Nat.lt_of_lt_of_le LX.out hk))); (case aO => exact Kd.R_mono HO3.out (fun k hk => Nat.ne_of_lt hk)); (case aS => exact HB3.out.size); (case aL => omega); intro v4 w4 ho4 hb4 hg4 hat4; have hx := app76 ho4; obtain ⟨g, c4, rfl, hbg, ez, f1⟩ := hx; have HO4 := Lib.hid ho4; have HB4 := Lib.hid hb4; have HG := Lib.hid hbg; have q0 : (0 : Int) ≤ (out.length : Int) := (by omega); have q1 : (out.length : Int) < ((out.length + 1 : Nat) : Int) := (by omega); clear ho4 hb4 hbg hg4 hat4))
            obtain ⟨⟨u, e2⟩, hu⟩ : ∃ b, money_Add.f 100 0 v = some b := by
              have := HS3.out
              cases hh : money_Add.f 100 0 v with
              | none => rw [hh] at this; cases this
              | some b => exact ⟨b, rfl⟩
            have HS4 : Hid ((if e2 = 0 then sumsGo t (out ++ [⟨a.f0, u⟩]) else some ([], e2)) = some (r1, r2)) := by
              have := HS3.out
              rw [hu, Option.bind_some] at this
              exact this
            refine (money_Add.calls 100 _ _ _ _ _ hu).mono ?_
            rintro e' w5 ⟨rfl, hb5⟩
            have HO5 : Hid (Kd.R k76 76 w5 w.heap.size (fun _ => True) (.slice (some ⟨g, 0, none⟩) (out.length + 1) c4) (out ++ [⟨a.f0, 0⟩])) := Kd.R_mono (Kd.R_below HO4.out hb5) (fun _ _ => trivial)
            have HB5 : Hid (Below w.heap.size w w5) := HB4.out.trans (hb5.mono HB4.out.size)
            clear hb5 hu HS3 HO4 HB4 ez f1
            have ez : w5.frozen? ⟨g, out.length * 2 + 1, none⟩ = false := frz76 HO5.out _
            have f1 : w5.cell? ⟨g, out.length * 2 + 1, none⟩ = some (.int .i64 0) := (app76_cell HO5.out)
            have HO6 : Hid (Kd.R k76 76 (w5.setCell ⟨g, out.length * 2 + 1, none⟩ (.int .i64 u)) w.heap.size (fun _ => True) (.slice (some ⟨g, 0, none⟩) (out.length + 1) c4) (out ++ [⟨a.f0, u⟩])) := by
              show Kd.R _ _ _ _ _ _ _
              exact app76_put HO5.out u
            have HB6 : Hid (Below w.heap.size w (w5.setCell ⟨g, out.length * 2 + 1, none⟩ (.int .i64 u))) := below_set HB5.out HG.out
            by_cases ce2 : e2 = 0
            · subst ce2
              have HS5 : Hid (sumsGo t (out ++ [⟨a.f0, u⟩]) = some (r1, r2)) := by
                have := HS4.out
                rw [if_pos rfl] at this
                exact this
              clear HS4
              go_wp2
              go_roundg (l0.length - (i + 1))
              case measure => omega
              case rel => exact ⟨i + 1, (out ++ [(⟨a.f0, u⟩ : S76)]), by go_num, by omega, by omega, by simp; omega, HB6.out, HO6.out, by rw [h2]; exact HS5.out⟩
            · have HS5 : Hid ((([] : List S76), e2) = (r1, r2)) := by
                have := HS4.out
                rw [if_neg ce2] at this
                exact Option.some.inj this
              clear HS4
              go_wp2
              go_ret2
              have e1 := congrArg Prod.fst HS5.out
              have e2' := congrArg Prod.snd HS5.out
              simp only at e1 e2'
              subst e1 e2'
              exact ⟨_, rfl, Kd.R_nil _ _ _ _ _, HB6.out⟩
          · obtain ⟨jn, hjn, hjl⟩ : ∃ jn : Nat, idxFrom a.f0 out 0 = (jn : Int) ∧ jn < out.length := by
              rcases idx_lt a.f0 out 0 with h | ⟨h3, h4⟩
              · omega
              · exact ⟨(idxFrom a.f0 out 0).toNat, by omega, by omega⟩
            have HS3 : Hid (((money_Add.f 100 (out.getD jn z76).f1 v).bind fun c => if c.2 = 0 then sumsGo t (out.set jn ⟨(out.getD jn z76).f0, c.1⟩) else some ([], c.2)) = some (r1, r2)) := by
              have := HS2.out
              have e1 : sumsAt a.f0 out = (out, jn) := by unfold sumsAt; rw [if_neg ci, hjn, Int.toNat_natCast]
              rw [e1] at this
              exact this
            clear HS2
            rw [hjn]
            obtain ⟨g, c4, hA, hbg, hfz⟩ := own76 HO3.out (by omega)
            injection hA with hA _ hc
            subst hA hc
            have f1 := (at76 HO3.out jn hjl).2
            have ez := hfz (jn * 2 + 1)
            have HG := Lib.hid hbg
            have HB4 := HB3
            have HO4 := HO3
            have q0 : (0 : Int) ≤ (jn : Int) := by omega
            have q1 : (jn : Int) < (out.length : Int) := by omega
            have q2 : ¬(jn : Int) < 0 := by omega
            obtain ⟨y, hy⟩ : ∃ y, out.getD jn z76 = y := ⟨_, rfl⟩
            have HY := Lib.hid hy
            rw [hy] at f1 HS3
            clear hy HO3 HB3 hbg hfz ci hX3
            go_wp2_with fail
            obtain ⟨⟨u, e2⟩, hu⟩ : ∃ b, money_Add.f 100 y.f1 v = some b := by
              have := HS3.out
              cases hh : money_Add.f 100 y.f1 v with
              | none => rw [hh] at this; cases this
              | some b => exact ⟨b, rfl⟩
            have HS4 : Hid ((if e2 = 0 then sumsGo t (out.set jn ⟨y.f0, u⟩) else some ([], e2)) = some (r1, r2)) := by
              have := HS3.out
              rw [hu, Option.bind_some] at this
              exact this
            refine (money_Add.calls 100 _ _ _ _ _ hu).mono ?_
            rintro e' w5 ⟨rfl, hb5⟩
            have HO5 : Hid (Kd.R k76 76 w5 w.heap.size (fun _ => True) (.slice (some ⟨g, 0, none⟩) out.length c) out) := Kd.R_mono (Kd.R_below HO4.out hb5) (fun _ _ => trivial)
            have HB5 : Hid (Below w.heap.size w w5) := HB4.out.trans (hb5.mono HB4.out.size)
            clear hb5 hu HS3 HO4 HB4 ez f1
            have ez : w5.frozen? ⟨g, jn * 2 + 1, none⟩ = false := frz76 HO5.out _
            have f1 : w5.cell? ⟨g, jn * 2 + 1, none⟩ = some (.int .i64 y.f1) := (by have h := (at76 HO5.out jn hjl).2; rw [HY.out] at h; exact h)
            have HO6 : Hid (Kd.R k76 76 (w5.setCell ⟨g, jn * 2 + 1, none⟩ (.int .i64 u)) w.heap.size (fun _ => True) (.slice (some ⟨g, 0, none⟩) out.length c) (out.set jn ⟨y.f0, u⟩)) := by
              show Kd.R _ _ _ _ _ _ _
              have h := put76 HO5.out jn hjl u; rw [HY.out] at h; exact h
            have HB6 : Hid (Below w.heap.size w (w5.setCell ⟨g, jn * 2 + 1, none⟩ (.int .i64 u))) := below_set HB5.out HG.out
            by_cases ce2 : e2 = 0
            · subst ce2
              have HS5 : Hid (sumsGo t (out.set jn ⟨y.f0, u⟩) = some (r1, r2)) := by
                have := HS4.out
                rw [if_pos rfl] at this
                exact this
              clear HS4
              go_wp2
              go_roundg (l0.length - (i + 1))
              case measure => omega
              case rel => exact ⟨i + 1, (out.set jn (⟨y.f0, u⟩ : S76)), by go_num, by omega, by omega, by simp only [List.length_set]; omega, HB6.out, HO6.out, by rw [h2]; exact HS5.out⟩
            · have HS5 : Hid ((([] : List S76), e2) = (r1, r2)) := by
                have := HS4.out
                rw [if_neg ce2] at this
                exact Option.some.inj this
              clear HS4
              go_wp2
              go_ret2
              have e1 := congrArg Prod.fst HS5.out
              have e2' := congrArg Prod.snd HS5.out
              simp only at e1 e2'
              subst e1 e2'
              exact ⟨_, rfl, Kd.R_nil _ _ _ _ _, HB6.out⟩
        · have HS5 : Hid ((([] : List S76), e) = (r1, r2)) := by
            have := HS'.out
            rw [if_neg ce] at this
            exact Option.some.inj this
          clear HS'
          go_wp2_with fail
          refine (V.out _).mono ?_
          rintro e' w2 ⟨rfl, hb2⟩
          have HB2 : Hid (Below w.heap.size w w2) := (HB.out.alloc HB.out.size (.cells #[.string a.f0, .int .i64 a.f1, .int .i64 a.f2] 48)).trans (hb2.mono (by simp; exact Nat.le_succ_of_le HB.out.size))
          clear hb2 HB HO
          go_wp2
          go_ret2
          have e1 := congrArg Prod.fst HS5.out
          have e2' := congrArg Prod.snd HS5.out
          simp only at e1 e2'
          subst e1 e2'
          exact ⟨_, rfl, Kd.R_nil _ _ _ _ _, HB2.out⟩
      · have c1' : ¬(i : Int) < (l0.length : Int) := by omega
        have HS5 : Hid ((out, (0 : Int)) = (r1, r2)) := by
          have := HS.out
          rw [List.drop_eq_nil_of_le (by omega)] at this
          exact Option.some.inj this
        clear HS
        go_wp2
        go_ret2
        have e1 := congrArg Prod.fst HS5.out
        have e2' := congrArg Prod.snd HS5.out
        simp only at e1 e2'
        subst e1 e2'
        exact ⟨_, rfl, HO.out, HB.out⟩
  · cases h
end Go.Proofs.YtmocphafkimdpaaDoor.P


/- The library's contracts that these proofs use, laid at this program by the shelf's own program, in plain words. -/
namespace Go.Proofs
open Go.Shelf
def Tryd.lays134_ren : Go.Shelf.Ren := ⟨fun | 134 => 106 | 129 => 118 | n => n, fun | 53 => 104 | 3 => 3 | 4 => 4 | 46 => 158 | 5 => 5 | 9 => 9 | n => n, fun | n => n⟩
theorem Tryd.lays134 : Go.Proofs.Lays.n134 Tryd.prog Tryd.lays134_ren := {
  mixed := by kernel_rfl
  f129 := Tryd.func118.trans (congrArg some (by kernel_rfl))
  f134 := Tryd.func106.trans (congrArg some (by kernel_rfl))
  t3 := Tryd.underlying3
  a3 := Tryd.isAgg3
  z3 := Tryd.sizeOf3
  v3 := Tryd.zeroValue3
  t4 := Tryd.underlying4
  a4 := Tryd.isAgg4
  z4 := Tryd.sizeOf4
  v4 := Tryd.zeroValue4
  t5 := Tryd.underlying5
  a5 := Tryd.isAgg5
  z5 := Tryd.sizeOf5
  v5 := Tryd.zeroValue5
  t9 := Tryd.underlying9
  a9 := Tryd.isAgg9
  z9 := Tryd.sizeOf9
  v9 := Tryd.zeroValue9
  t46 := Tryd.underlying158
  a46 := Tryd.isAgg158
  z46 := Tryd.sizeOf158
  v46 := Tryd.zeroValue158
  t53 := Tryd.underlying104
  a53 := Tryd.isAgg104
  z53 := Tryd.sizeOf104
  v53 := Tryd.zeroValue104 }
/-- bits.LeadingZeros64: "LeadingZeros64 returns the number of leading zero bits in x; the result is 64 for x == 0.": IT RETURNS '64 - Lib.bitLen x'; the world is as it was. ITS CALLEE bits.Len64 IS MET BY ITS OWN CONTRACT OFF THE SHELF (lay that first): entered in place it sends the kernel out of memory. (LAID: no walk: one application.) -/
theorem Tryd.bits_LeadingZeros64 (x : Int) (w : World) (h0 : 0 ≤ x) (h1 : x ≤ 18446744073709551615) :
    Calls Tryd.prog 106 #[.int .u64 x] w fun e w' => e = .returned (.int .i64 (64 - (Lib.bitLen x.toNat : Int))) ∧ w' = w := Any.bits_LeadingZeros64 Tryd.lays134 x w h0 h1
def Tryd.lays129_ren : Go.Shelf.Ren := ⟨fun | 129 => 118 | n => n, fun | 53 => 104 | 3 => 3 | 4 => 4 | 46 => 158 | 5 => 5 | 9 => 9 | n => n, fun | n => n⟩
theorem Tryd.lays129 : Go.Proofs.Lays.n129 Tryd.prog Tryd.lays129_ren := {
  mixed := by kernel_rfl
  f129 := Tryd.func118.trans (congrArg some (by kernel_rfl))
  t3 := Tryd.underlying3
  a3 := Tryd.isAgg3
  z3 := Tryd.sizeOf3
  v3 := Tryd.zeroValue3
  t4 := Tryd.underlying4
  a4 := Tryd.isAgg4
  z4 := Tryd.sizeOf4
  v4 := Tryd.zeroValue4
  t5 := Tryd.underlying5
  a5 := Tryd.isAgg5
  z5 := Tryd.sizeOf5
  v5 := Tryd.zeroValue5
  t9 := Tryd.underlying9
  a9 := Tryd.isAgg9
  z9 := Tryd.sizeOf9
  v9 := Tryd.zeroValue9
  t46 := Tryd.underlying158
  a46 := Tryd.isAgg158
  z46 := Tryd.sizeOf158
  v46 := Tryd.zeroValue158
  t53 := Tryd.underlying104
  a53 := Tryd.isAgg104
  z53 := Tryd.sizeOf104
  v53 := Tryd.zeroValue104 }
/-- bits.Len64: "Len64 returns the minimum number of bits required to represent x; the result is 0 for x == 0.": IT RETURNS 'Lib.bitLen x'; the world is as it was. ('h0', 'h1': x is a uint64.) (LAID: no walk: one application.) -/
theorem Tryd.bits_Len64 (x : Int) (w : World) (h0 : 0 ≤ x) (h1 : x ≤ 18446744073709551615) :
    Calls Tryd.prog 118 #[.int .u64 x] w fun e w' => e = .returned (.int .i64 (Lib.bitLen x.toNat)) ∧ w' = w := Any.bits_Len64 Tryd.lays129 x w h0 h1
def Tryd.lays317_ren : Go.Shelf.Ren := ⟨fun | 317 => 124 | n => n, fun | 3 => 3 | 46 => 158 | n => n, fun | n => n⟩
theorem Tryd.lays317 : Go.Proofs.Lays.n317 Tryd.prog Tryd.lays317_ren := {
  mixed := by kernel_rfl
  f317 := Tryd.func124.trans (congrArg some (by kernel_rfl))
  t3 := Tryd.underlying3
  a3 := Tryd.isAgg3
  z3 := Tryd.sizeOf3
  v3 := Tryd.zeroValue3
  t46 := Tryd.underlying158
  a46 := Tryd.isAgg158
  z46 := Tryd.sizeOf158
  v46 := Tryd.zeroValue158 }
open Go.Lib in
/-- internal/strconv.log10Pow2: "log10Pow2(x) returns ⌊log₁₀ 2**x⌋ = ⌊x * log₁₀ 2⌋.": '(x * 78913) >> 18', at an x up to 64 (a length in bits). The world is as it was. (LAID: no walk: one application.) -/
theorem Tryd.internal_strconv_log10Pow2 (x : Nat) (h : x ≤ 64) (w : World) :
    Calls Tryd.prog 124 #[.int .i64 x] w fun e w' => e = .returned (.int .i64 (Lib.l10 x)) ∧ w' = w := Any.internal_strconv_log10Pow2 Tryd.lays317 x h w
def Tryd.lays318_ren : Go.Shelf.Ren := ⟨fun | 318 => 125 | n => n, fun | 3 => 3 | 4 => 4 | n => n, fun | n => n⟩
theorem Tryd.lays318 : Go.Proofs.Lays.n318 Tryd.prog Tryd.lays318_ren := {
  mixed := by kernel_rfl
  f318 := Tryd.func125.trans (congrArg some (by kernel_rfl))
  t3 := Tryd.underlying3
  a3 := Tryd.isAgg3
  z3 := Tryd.sizeOf3
  v3 := Tryd.zeroValue3
  t4 := Tryd.underlying4
  a4 := Tryd.isAgg4
  z4 := Tryd.sizeOf4
  v4 := Tryd.zeroValue4 }
open Go.Lib in
/-- internal/strconv.bool2: "bool2 converts b to an integer: 1 for true, 0 for false." The world is as it was. (LAID: no walk: one application.) -/
theorem Tryd.internal_strconv_bool2_int (b : Bool) (w : World) :
    Calls Tryd.prog 125 #[.bool b] w fun e w' => e = .returned (.int .i64 (if b then 1 else 0)) ∧ w' = w := Any.internal_strconv_bool2_int Tryd.lays318 b w
def Tryd.lays283_ren : Go.Shelf.Ren := ⟨fun | 283 => 114 | n => n, fun | 3 => 3 | 9 => 9 | 4 => 4 | n => n, fun | n => n⟩
theorem Tryd.lays283 : Go.Proofs.Lays.n283 Tryd.prog Tryd.lays283_ren := {
  mixed := by kernel_rfl
  f283 := Tryd.func114.trans (congrArg some (by kernel_rfl))
  t3 := Tryd.underlying3
  a3 := Tryd.isAgg3
  z3 := Tryd.sizeOf3
  v3 := Tryd.zeroValue3
  t4 := Tryd.underlying4
  a4 := Tryd.isAgg4
  z4 := Tryd.sizeOf4
  v4 := Tryd.zeroValue4
  t9 := Tryd.underlying9
  a9 := Tryd.isAgg9
  z9 := Tryd.sizeOf9
  v9 := Tryd.zeroValue9 }
open Go.Lib in
/-- internal/strconv.small: "small returns the string for an i with 0 <= i < nSmalls.": i's decimal numeral. The world is as it was. (LAID: no walk: one application.) -/
theorem Tryd.internal_strconv_small (i : Nat) (h : i < 100) (w : World) :
    Calls Tryd.prog 114 #[.int .i64 i] w fun e w' => e = .returned (.string ⟨(Lib.decDigits i).toArray⟩) ∧ w' = w := Any.internal_strconv_small Tryd.lays283 i h w
def Tryd.laysM284_ren : Go.Shelf.Ren := ⟨fun | 284 => 115 | 129 => 118 | 317 => 124 | 318 => 125 | n => n, fun | 53 => 104 | 3 => 3 | 212 => 196 | 0 => 0 | 4 => 4 | 46 => 158 | 5 => 5 | 9 => 9 | n => n, fun | 17 => 5 | n => n⟩
theorem Tryd.laysM284 : Go.Proofs.LaysM.n284 Tryd.prog Tryd.laysM284_ren := {
  mixed := by kernel_rfl
  f129 := Tryd.func118.trans (congrArg some (by kernel_rfl))
  f284 := Tryd.func115.trans (congrArg some (by kernel_rfl))
  f317 := Tryd.func124.trans (congrArg some (by kernel_rfl))
  f318 := Tryd.func125.trans (congrArg some (by kernel_rfl))
  t0 := Tryd.underlying0
  a0 := Tryd.isAgg0
  z0 := Tryd.sizeOf0
  v0 := Tryd.zeroValue0
  t3 := Tryd.underlying3
  a3 := Tryd.isAgg3
  z3 := Tryd.sizeOf3
  v3 := Tryd.zeroValue3
  t4 := Tryd.underlying4
  a4 := Tryd.isAgg4
  z4 := Tryd.sizeOf4
  v4 := Tryd.zeroValue4
  t5 := Tryd.underlying5
  a5 := Tryd.isAgg5
  z5 := Tryd.sizeOf5
  v5 := Tryd.zeroValue5
  t9 := Tryd.underlying9
  a9 := Tryd.isAgg9
  z9 := Tryd.sizeOf9
  v9 := Tryd.zeroValue9
  t46 := Tryd.underlying158
  a46 := Tryd.isAgg158
  z46 := Tryd.sizeOf158
  v46 := Tryd.zeroValue158
  t53 := Tryd.underlying104
  a53 := Tryd.isAgg104
  z53 := Tryd.sizeOf104
  v53 := Tryd.zeroValue104
  t212 := Tryd.underlying196
  a212 := Tryd.isAgg196
  z212 := Tryd.sizeOf196
  v212 := Tryd.zeroValue196
  g17 := by kernel_rfl
  i0 := by kernel_rfl
  i3 := by kernel_rfl
  i4 := by kernel_rfl
  i5 := by kernel_rfl
  i9 := by kernel_rfl
  i46 := by kernel_rfl
  i53 := by kernel_rfl
  i212 := by kernel_rfl
  m17 := by kernel_rfl }
open Go.Lib in
/-- internal/strconv.numDigits, at a d that is not 0: THE NUMBER OF d's DECIMAL DIGITS. The world is as it was. (LAID: no walk: one application.) -/
theorem Tryd.internal_strconv_numDigits (u : Nat) (h1 : 1 ≤ u) (h2 : u < 18446744073709551616) (w : World) (htab : Lib.TabIs Tryd.prog w "internal/strconv.uint64pow10" .u64 Lib.pow10Tab) :
    Calls Tryd.prog 115 #[.int .u64 u] w fun e w' => e = .returned (.int .i64 (Lib.nDigits u)) ∧ w' = w := Any.internal_strconv_numDigits Tryd.laysM284 u h1 h2 w htab
def Tryd.lays285_ren : Go.Shelf.Ren := ⟨fun | 285 => 116 | n => n, fun | 37 => 164 | 53 => 104 | 3 => 3 | 4 => 4 | 51 => 168 | 9 => 9 | 5 => 5 | 0 => 0 | n => n, fun | n => n⟩
theorem Tryd.lays285 : Go.Proofs.Lays.n285 Tryd.prog Tryd.lays285_ren := {
  mixed := by kernel_rfl
  f285 := Tryd.func116.trans (congrArg some (by kernel_rfl))
  t0 := Tryd.underlying0
  a0 := Tryd.isAgg0
  z0 := Tryd.sizeOf0
  v0 := Tryd.zeroValue0
  t3 := Tryd.underlying3
  a3 := Tryd.isAgg3
  z3 := Tryd.sizeOf3
  v3 := Tryd.zeroValue3
  t4 := Tryd.underlying4
  a4 := Tryd.isAgg4
  z4 := Tryd.sizeOf4
  v4 := Tryd.zeroValue4
  t5 := Tryd.underlying5
  a5 := Tryd.isAgg5
  z5 := Tryd.sizeOf5
  v5 := Tryd.zeroValue5
  t9 := Tryd.underlying9
  a9 := Tryd.isAgg9
  z9 := Tryd.sizeOf9
  v9 := Tryd.zeroValue9
  t37 := Tryd.underlying164
  a37 := Tryd.isAgg164
  z37 := Tryd.sizeOf164
  v37 := Tryd.zeroValue164
  t51 := Tryd.underlying168
  a51 := Tryd.isAgg168
  z51 := Tryd.sizeOf168
  v51 := Tryd.zeroValue168
  t53 := Tryd.underlying104
  a53 := Tryd.isAgg104
  z53 := Tryd.sizeOf104
  v53 := Tryd.zeroValue104 }
open Go.RowKit Go.Sort Go.Lib in
/-- internal/strconv.formatBase10: "formatBase10 formats the decimal representation of u into a. The caller is responsible for ensuring that a is big enough to hold u. If a is too big, leading zeros will be filled in as needed.": THE ROW HOLDS u's DIGITS ('FmtInv .. 0 ..': every place t holds 'dg u (len - 1 - t)'); all else is as it was but for the count of draws. (LAID: no walk: one application.) -/
theorem Tryd.internal_strconv_formatBase10 (blk off cap : Nat) (u : Nat) (d : Array UInt8) (w : World) (hH : Holds (fun (b : UInt8) => Value.int .u8 (b.toNat : Int)) w blk off d) (hu : u < 10 ^ d.size) (hu64 : u < 18446744073709551616) (hsz : d.size < 4611686018427387904) :
    Calls Tryd.prog 116 #[.slice (some ⟨blk, off, none⟩) d.size cap, .int .u64 u] w fun e w' =>
      e = .returned (.tuple #[]) ∧ ∃ (n v' : Nat) (dk : Array UInt8), w' = (putRow (fun (b : UInt8) => Value.int .u8 (b.toNat : Int)) w blk off dk).drewN n ∧ FmtInv d.size u 0 v' dk := Any.internal_strconv_formatBase10 Tryd.lays285 blk off cap u d w hH hu hu64 hsz
def Tryd.lays264_ren : Go.Shelf.Ren := ⟨fun | 264 => 83 | n => n, fun | 53 => 104 | 46 => 158 | n => n, fun | n => n⟩
theorem Tryd.lays264 : Go.Proofs.Lays.n264 Tryd.prog Tryd.lays264_ren := {
  mixed := by kernel_rfl
  f264 := Tryd.func83.trans (congrArg some (by kernel_rfl))
  t46 := Tryd.underlying158
  a46 := Tryd.isAgg158
  z46 := Tryd.sizeOf158
  v46 := Tryd.zeroValue158
  t53 := Tryd.underlying104
  a53 := Tryd.isAgg104
  z53 := Tryd.sizeOf104
  v53 := Tryd.zeroValue104 }
open Go.RowKit Go.Lib in
theorem Tryd.bits_Mul64 (x y : Nat) (hx : x < 18446744073709551616) (hy : y < 18446744073709551616) (w : World) :
    Calls Tryd.prog 83 #[.int .u64 x, .int .u64 y] w fun e w' => e = .returned (.tuple #[.int .u64 ((x * y / 18446744073709551616 : Nat) : Int), .int .u64 ((x * y % 18446744073709551616 : Nat) : Int)]) ∧ w' = w := Any.bits_Mul64 Tryd.lays264 x y hx hy w
end Go.Proofs


/- strconv.FormatUint at base 10 answers the number's decimal numeral. -/
namespace Go.Proofs.YtmocphafkimdpaaDoor.P
open Go.RowKit Go.Proofs.YtmocphafkimdpaaDoorW.PrintWords Go.Proofs.YtmocphafkimdpaaDoorW.PrintLast Go.Proofs.YtmocphafkimdpaaDoorW.PrintMore
open Go.Sort

/-- The new block's bytes are a row of zeros. -/
theorem fmt_holds_zero (w : World) (T : TypeId) (nd : Nat) (hs : nd ≤ 24) : Holds (fun (b : UInt8) => Value.int .u8 (b.toNat : Int)) (w.alloc (.cells Lib.zeros24 T)) w.heap.size 0 (Array.replicate nd (0 : UInt8)) := fun j hj => by
  have hj' : j < nd := by simpa using hj
  refine ⟨?_, World.frozen?_alloc_new _ _ _ _⟩
  rw [World.cell?_alloc_new, Lib.zeros24_at _ (by omega), getElem!_pos _ j hj]
  simp

theorem fmt_fin (w : World) (o : Obj) (dk : Array UInt8) (k : Nat) : ∃ os, (putRow (fun (b : UInt8) => Value.int .u8 (b.toNat : Int)) (w.alloc o) w.heap.size 0 dk).drewN k = grow (w.drewN k) os := by
  rw [alloc_eq_grow]
  obtain ⟨os', _, e⟩ := putRow_grow_new (fun (b : UInt8) => Value.int .u8 (b.toNat : Int)) w #[o] w.heap.size 0 dk (Nat.le_refl _)
  exact ⟨os', by rw [e]; rfl⟩

theorem below_grow (w : World) (k : Nat) (os : Array Obj) : Below w.heap.size w (grow (w.drewN k) os) := by
  refine ⟨rfl, rfl, rfl, ?_, ?_⟩
  · simp [grow, World.drewN]
  · intro i hi
    show (w.heap ++ os)[i]? = w.heap[i]?
    rw [Array.getElem?_append_left hi]

set_option maxHeartbeats 6400000 in
set_option maxRecDepth 100000 in
theorem fmt_inner (u : Nat) (hu64 : u < 18446744073709551616) (w : World) (hG : GTab w) :
    Calls Tryd.prog 105 #[.int .u64 u, .int .i64 10] w fun e w' => e = .returned (.string ⟨(Lib.decDigits u).toArray⟩) ∧ Below w.heap.size w w' := by
  by_cases hs : u < 100
  · go_enter Tryd.func105, Tryd.ntmps105
    have hs' : (u : Int) < 100 := by omega
    go_wp2_with (go_at_call 114; refine (Tryd.internal_strconv_small u hs _).mono ?_; rintro e w' ⟨rfl, rfl⟩)
    go_ret
    exact ⟨rfl, Below.refl _ _⟩
  · have hu1 : 1 ≤ u := by omega
    have hnd20 : Lib.nDigits u ≤ 20 := by have := Lib.numDigits_eq u hu1 hu64; split at this <;> omega
    have hal : Tryd.prog.arrayLen 175 = 24 := by simp [Program.arrayLen, Tryd.underlying175]
    have hsl1 : ∀ W, (Instr.sliceAt 175 (.pointer (some ⟨w.heap.size, 0, none⟩)) none (some (.int .i64 (Lib.nDigits u : Int))) none).run Tryd.prog W = .ok (.slice (some ⟨w.heap.size, 0, none⟩) (Lib.nDigits u) 24) W := fun W => by
      rw [run_sliceAt_array_h W 175 ⟨w.heap.size, 0, none⟩ (by simp [Program.arrayLen, Program.elem, Tryd.underlying175]) .i64 (Lib.nDigits u : Int) (by omega) (by rw [hal]; omega)]
      go_simp
    have hH0 := fmt_holds_zero w 175 (Lib.nDigits u) (by omega)
    have hfmt := Tryd.internal_strconv_formatBase10 w.heap.size 0 24 u (Array.replicate (Lib.nDigits u) 0) (w.alloc (.cells Lib.zeros24 175)) hH0 (by rw [Array.size_replicate]; exact Lib.lt_pow_nDigits u) hu64 (by rw [Array.size_replicate]; omega)
    rw [Array.size_replicate] at hfmt
    have HH0 := Lib.hid hH0
    clear hH0 hal
    have hs' : ¬ (u : Int) < 100 := by omega
    have HG := Lib.hid hG
    clear hG
    go_enter Tryd.func105, Tryd.ntmps105
    go_wp2_with (go_at_call 115; refine (Tryd.internal_strconv_numDigits u hu1 hu64 _ (Lib.tabIs_alloc HG.out _)).mono ?_; rintro e w' ⟨rfl, rfl⟩)
    go_at_call 116
    refine hfmt.mono ?_
    rintro e w' ⟨rfl, k, v', dk, rfl, hF⟩
    have hcv : (convert 164 9 (.slice (some ⟨w.heap.size, 0, none⟩) (Lib.nDigits u) 24)).run Tryd.prog ((putRow (fun (b : UInt8) => Value.int .u8 (b.toNat : Int)) (w.alloc (.cells Lib.zeros24 175)) w.heap.size 0 dk).drewN k) = .ok (.string ⟨(Lib.decDigits u).toArray⟩) ((putRow (fun (b : UInt8) => Value.int .u8 (b.toNat : Int)) (w.alloc (.cells Lib.zeros24 175)) w.heap.size 0 dk).drewN k) := by
      have h := run_convert_bytes_back (P := Tryd.prog) ((putRow (fun (b : UInt8) => Value.int .u8 (b.toNat : Int)) (w.alloc (.cells Lib.zeros24 175)) w.heap.size 0 dk).drewN k) 164 9 5 ⟨w.heap.size, 0, none⟩ 24 (Lib.decDigits u) Tryd.underlying164 Tryd.underlying5 Tryd.underlying9 (fun j hj => by
        rw [Lib.row_is_numeral hF j hj, Lib.add_plain, World.cell?_drewN]
        exact cell?_putRow (fun (b : UInt8) => Value.int .u8 (b.toNat : Int)) _ w.heap.size 0 _ dk HH0.out (by rw [hF.size, Array.size_replicate]) j (by rw [hF.size]; rw [Lib.decDigits_length] at hj; exact hj))
      rw [Lib.decDigits_length] at h
      exact h
    go_wp2
    go_ret
    obtain ⟨os, eo⟩ := fmt_fin w (.cells Lib.zeros24 175) dk k
    refine ⟨rfl, ?_⟩
    rw [eo]
    exact below_grow w k os

def strconv_FormatUint_82.f (a0 a1 : Int) : Option ByteArray := if a1 = 10 ∧ 0 ≤ a0 ∧ a0 < 18446744073709551616 then some ⟨(Lib.decDigits a0.toNat).toArray⟩ else none
theorem strconv_FormatUint_82.calls (a0 a1 : Int) (r : ByteArray) (w : World) (h : strconv_FormatUint_82.f a0 a1 = some r) (hG : GTab w := by first | exact GTab.below HG.out (by repeat (first | (with_reducible first | exact HB.out | apply below_alloc | apply pw_below_drewN | apply below_drew1 | apply below_drew) | exact HB.out)) | exact HG.out) :
    Calls Tryd.prog 82 #[.int .u64 a0, .int .i64 a1] w fun e w' => e = .returned (.string r) ∧ Below w.heap.size w w' := by
  unfold strconv_FormatUint_82.f at h
  split at h
  · rename_i hc
    obtain ⟨rfl, h0, h1⟩ := hc
    obtain ⟨u, rfl⟩ := Int.eq_ofNat_of_zero_le h0
    obtain rfl := Option.some.inj h
    rw [Int.toNat_natCast]
    have HG := Lib.hid hG
    clear hG h
    go_enter Tryd.func82, Tryd.ntmps82
    go_wp2_with (go_at_call 105; refine (fmt_inner u (by omega) _ HG.out).mono ?_; rintro e w' ⟨rfl, hb⟩)
    go_ret
    exact ⟨rfl, hb⟩
  · cases h

end Go.Proofs.YtmocphafkimdpaaDoor.P


-- written by a program (a patched copy of the kit's print: wip/mkprint.py); Lean checks it
namespace Go.Proofs.YtmocphafkimdpaaDoor.P
open Go.RowKit Go.Proofs.YtmocphafkimdpaaDoorW.PrintWords Go.Proofs.YtmocphafkimdpaaDoorW.PrintLast Go.Proofs.YtmocphafkimdpaaDoorW.PrintMore
attribute [local go_sem] max2_int min2_int max_two min_two max_three min_three max_four min_four   -- for this text's walks alone
set_option linter.unusedVariables false
set_option linter.unusedSimpArgs false

/-! ### money_Abs: function 61 -/
def money_Abs.f (a0 : Int) : Option (Int) := if a0 < 0 then (some (IntKind.u64.wrap ((IntKind.u64.wrap (wrap64 (-(wrap64 (a0 + 1))))) + 1))) else (some (IntKind.u64.wrap (a0)))
set_option maxHeartbeats 8000000 in
set_option maxRecDepth 100000 in
theorem money_Abs.calls (a0 : Int) (r : Int) (w : World) (h : money_Abs.f a0 = some r) :
  Calls Tryd.prog 61 #[.int .i64 a0] w fun e w' => e = .returned (.int .u64 r) ∧ Drawn0 w w' := by
 have H : (if a0 < 0 then (some (IntKind.u64.wrap ((IntKind.u64.wrap (wrap64 (-(wrap64 (a0 + 1))))) + 1))) else (some (IntKind.u64.wrap (a0)))) = some r := h
 clear h
 by_cases c2 : a0 < 0
 ·rw [if_pos c2] at H
  have c2b0 : decide (a0 < 0) = true := decide_eq_true c2
  clear c2
  obtain rfl := Option.some.inj H
  go_enter Tryd.func61, Tryd.ntmps61
  go_wp2
  go_ret
  exact ⟨by first | rfl | (simp; done) | (simp [*]; done), by repeat (first | exact Drawn0.refl _ | apply Drawn0.step)⟩
 ·rw [if_neg c2] at H
  have c2b0 : decide (a0 < 0) = false := decide_eq_false c2
  clear c2
  obtain rfl := Option.some.inj H
  go_enter Tryd.func61, Tryd.ntmps61
  go_wp2
  go_ret
  exact ⟨by first | rfl | (simp; done) | (simp [*]; done), by repeat (first | exact Drawn0.refl _ | apply Drawn0.step)⟩

end Go.Proofs.YtmocphafkimdpaaDoor.P


-- written by a program (a patched copy of the kit's print: wip/mkprint.py); Lean checks it
namespace Go.Proofs.YtmocphafkimdpaaDoor.P
open Go.RowKit Go.Proofs.YtmocphafkimdpaaDoorW.PrintWords Go.Proofs.YtmocphafkimdpaaDoorW.PrintLast Go.Proofs.YtmocphafkimdpaaDoorW.PrintMore
attribute [local go_sem] max2_int min2_int max_two min_two max_three min_three max_four min_four   -- for this text's walks alone
set_option linter.unusedVariables false
set_option linter.unusedSimpArgs false

/-! ### money_Text: function 39 -/
def money_Text.f (a0 : Int) : Option (ByteArray) := (money_Abs.f a0).bind fun t192 => ((strconv_FormatUint_82.f (IntKind.u64.wrap (Int.tdiv t192 100)) 10).bind fun t193 => (if t193.size + 1 ≤ 9223372036854775807 then (if (Int.tmod t192 100) < 10 then (if (t193 ++ (⟨#[46]⟩ : ByteArray)).size + 1 ≤ 9223372036854775807 then ((strconv_FormatUint_82.f (Int.tmod t192 100) 10).bind fun t194 => (if ((t193 ++ (⟨#[46]⟩ : ByteArray)) ++ (⟨#[48]⟩ : ByteArray)).size + t194.size ≤ 9223372036854775807 then (if a0 < 0 then (if 1 + (((t193 ++ (⟨#[46]⟩ : ByteArray)) ++ (⟨#[48]⟩ : ByteArray)) ++ t194).size ≤ 9223372036854775807 then (some ((⟨#[45]⟩ : ByteArray) ++ (((t193 ++ (⟨#[46]⟩ : ByteArray)) ++ (⟨#[48]⟩ : ByteArray)) ++ t194))) else (none)) else (some (((t193 ++ (⟨#[46]⟩ : ByteArray)) ++ (⟨#[48]⟩ : ByteArray)) ++ t194))) else (none))) else (none)) else ((strconv_FormatUint_82.f (Int.tmod t192 100) 10).bind fun t195 => (if (t193 ++ (⟨#[46]⟩ : ByteArray)).size + t195.size ≤ 9223372036854775807 then (if a0 < 0 then (if 1 + ((t193 ++ (⟨#[46]⟩ : ByteArray)) ++ t195).size ≤ 9223372036854775807 then (some ((⟨#[45]⟩ : ByteArray) ++ ((t193 ++ (⟨#[46]⟩ : ByteArray)) ++ t195))) else (none)) else (some ((t193 ++ (⟨#[46]⟩ : ByteArray)) ++ t195))) else (none)))) else (none)))
set_option maxHeartbeats 8000000 in
set_option maxRecDepth 100000 in
theorem money_Text.calls (a0 : Int) (r : ByteArray) (w : World) (h : money_Text.f a0 = some r) (hG : GTab w := by first | exact GTab.below HG.out (by repeat (first | (with_reducible first | exact HB.out | apply below_alloc | apply pw_below_drewN | apply below_drew1 | apply below_drew) | exact HB.out)) | exact HG.out) :
  Calls Tryd.prog 39 #[.int .i64 a0] w fun e w' => e = .returned (.string r) ∧ Below w.heap.size w w' := by
 have HG := Aside0.mk hG; clear hG
 have HB := Aside0.mk (Below.refl w.heap.size w)
 have H : ((money_Abs.f a0).bind fun t192 => ((strconv_FormatUint_82.f (IntKind.u64.wrap (Int.tdiv t192 100)) 10).bind fun t193 => (if t193.size + 1 ≤ 9223372036854775807 then (if (Int.tmod t192 100) < 10 then (if (t193 ++ (⟨#[46]⟩ : ByteArray)).size + 1 ≤ 9223372036854775807 then ((strconv_FormatUint_82.f (Int.tmod t192 100) 10).bind fun t194 => (if ((t193 ++ (⟨#[46]⟩ : ByteArray)) ++ (⟨#[48]⟩ : ByteArray)).size + t194.size ≤ 9223372036854775807 then (if a0 < 0 then (if 1 + (((t193 ++ (⟨#[46]⟩ : ByteArray)) ++ (⟨#[48]⟩ : ByteArray)) ++ t194).size ≤ 9223372036854775807 then (some ((⟨#[45]⟩ : ByteArray) ++ (((t193 ++ (⟨#[46]⟩ : ByteArray)) ++ (⟨#[48]⟩ : ByteArray)) ++ t194))) else (none)) else (some (((t193 ++ (⟨#[46]⟩ : ByteArray)) ++ (⟨#[48]⟩ : ByteArray)) ++ t194))) else (none))) else (none)) else ((strconv_FormatUint_82.f (Int.tmod t192 100) 10).bind fun t195 => (if (t193 ++ (⟨#[46]⟩ : ByteArray)).size + t195.size ≤ 9223372036854775807 then (if a0 < 0 then (if 1 + ((t193 ++ (⟨#[46]⟩ : ByteArray)) ++ t195).size ≤ 9223372036854775807 then (some ((⟨#[45]⟩ : ByteArray) ++ ((t193 ++ (⟨#[46]⟩ : ByteArray)) ++ t195))) else (none)) else (some ((t193 ++ (⟨#[46]⟩ : ByteArray)) ++ t195))) else (none)))) else (none)))) = some r := h
 clear h
 replace H := Option.bind_eq_some_iff.mp H
 obtain ⟨t192, A20, H⟩ := H
 replace H : ((strconv_FormatUint_82.f (IntKind.u64.wrap (Int.tdiv t192 100)) 10).bind fun t193 => (if t193.size + 1 ≤ 9223372036854775807 then (if (Int.tmod t192 100) < 10 then (if (t193 ++ (⟨#[46]⟩ : ByteArray)).size + 1 ≤ 9223372036854775807 then ((strconv_FormatUint_82.f (Int.tmod t192 100) 10).bind fun t194 => (if ((t193 ++ (⟨#[46]⟩ : ByteArray)) ++ (⟨#[48]⟩ : ByteArray)).size + t194.size ≤ 9223372036854775807 then (if a0 < 0 then (if 1 + (((t193 ++ (⟨#[46]⟩ : ByteArray)) ++ (⟨#[48]⟩ : ByteArray)) ++ t194).size ≤ 9223372036854775807 then (some ((⟨#[45]⟩ : ByteArray) ++ (((t193 ++ (⟨#[46]⟩ : ByteArray)) ++ (⟨#[48]⟩ : ByteArray)) ++ t194))) else (none)) else (some (((t193 ++ (⟨#[46]⟩ : ByteArray)) ++ (⟨#[48]⟩ : ByteArray)) ++ t194))) else (none))) else (none)) else ((strconv_FormatUint_82.f (Int.tmod t192 100) 10).bind fun t195 => (if (t193 ++ (⟨#[46]⟩ : ByteArray)).size + t195.size ≤ 9223372036854775807 then (if a0 < 0 then (if 1 + ((t193 ++ (⟨#[46]⟩ : ByteArray)) ++ t195).size ≤ 9223372036854775807 then (some ((⟨#[45]⟩ : ByteArray) ++ ((t193 ++ (⟨#[46]⟩ : ByteArray)) ++ t195))) else (none)) else (some ((t193 ++ (⟨#[46]⟩ : ByteArray)) ++ t195))) else (none)))) else (none))) = some r := H
 have A2 := Aside0.mk A20
 clear A20
 replace H := Option.bind_eq_some_iff.mp H
 obtain ⟨t193, A30, H⟩ := H
 replace H : (if t193.size + 1 ≤ 9223372036854775807 then (if (Int.tmod t192 100) < 10 then (if (t193 ++ (⟨#[46]⟩ : ByteArray)).size + 1 ≤ 9223372036854775807 then ((strconv_FormatUint_82.f (Int.tmod t192 100) 10).bind fun t194 => (if ((t193 ++ (⟨#[46]⟩ : ByteArray)) ++ (⟨#[48]⟩ : ByteArray)).size + t194.size ≤ 9223372036854775807 then (if a0 < 0 then (if 1 + (((t193 ++ (⟨#[46]⟩ : ByteArray)) ++ (⟨#[48]⟩ : ByteArray)) ++ t194).size ≤ 9223372036854775807 then (some ((⟨#[45]⟩ : ByteArray) ++ (((t193 ++ (⟨#[46]⟩ : ByteArray)) ++ (⟨#[48]⟩ : ByteArray)) ++ t194))) else (none)) else (some (((t193 ++ (⟨#[46]⟩ : ByteArray)) ++ (⟨#[48]⟩ : ByteArray)) ++ t194))) else (none))) else (none)) else ((strconv_FormatUint_82.f (Int.tmod t192 100) 10).bind fun t195 => (if (t193 ++ (⟨#[46]⟩ : ByteArray)).size + t195.size ≤ 9223372036854775807 then (if a0 < 0 then (if 1 + ((t193 ++ (⟨#[46]⟩ : ByteArray)) ++ t195).size ≤ 9223372036854775807 then (some ((⟨#[45]⟩ : ByteArray) ++ ((t193 ++ (⟨#[46]⟩ : ByteArray)) ++ t195))) else (none)) else (some ((t193 ++ (⟨#[46]⟩ : ByteArray)) ++ t195))) else (none)))) else (none)) = some r := H
 have A3 := Aside0.mk A30
 clear A30
 by_cases c4 : t193.size + 1 ≤ 9223372036854775807
 ·rw [if_pos c4] at H
  have c4b0 := eq_true c4
  have c4b1 : decide (t193.size + 1 ≤ 9223372036854775807) = true := decide_eq_true c4
  try have c4b2 : (9223372036854775807 < t193.size + 1) = False := eq_false (Nat.not_lt.2 c4)
  (try (have c4s := c4b2; simp only [ByteArray.size_append] at c4s))
  by_cases c5 : (Int.tmod t192 100) < 10
  ·rw [if_pos c5] at H
   have c5b0 : decide ((Int.tmod t192 100) < 10) = true := decide_eq_true c5
   clear c5
   by_cases c6 : (t193 ++ (⟨#[46]⟩ : ByteArray)).size + 1 ≤ 9223372036854775807
   ·rw [if_pos c6] at H
    have c6b0 := eq_true c6
    have c6b1 : decide ((t193 ++ (⟨#[46]⟩ : ByteArray)).size + 1 ≤ 9223372036854775807) = true := decide_eq_true c6
    try have c6b2 : (9223372036854775807 < (t193 ++ (⟨#[46]⟩ : ByteArray)).size + 1) = False := eq_false (Nat.not_lt.2 c6)
    (try (have c6s := c6b2; simp only [ByteArray.size_append, show (⟨#[46]⟩ : ByteArray).size = 1 from rfl] at c6s))
    replace H := Option.bind_eq_some_iff.mp H
    obtain ⟨t194, A70, H⟩ := H
    replace H : (if ((t193 ++ (⟨#[46]⟩ : ByteArray)) ++ (⟨#[48]⟩ : ByteArray)).size + t194.size ≤ 9223372036854775807 then (if a0 < 0 then (if 1 + (((t193 ++ (⟨#[46]⟩ : ByteArray)) ++ (⟨#[48]⟩ : ByteArray)) ++ t194).size ≤ 9223372036854775807 then (some ((⟨#[45]⟩ : ByteArray) ++ (((t193 ++ (⟨#[46]⟩ : ByteArray)) ++ (⟨#[48]⟩ : ByteArray)) ++ t194))) else (none)) else (some (((t193 ++ (⟨#[46]⟩ : ByteArray)) ++ (⟨#[48]⟩ : ByteArray)) ++ t194))) else (none)) = some r := H
    have A7 := Aside0.mk A70
    clear A70
    by_cases c8 : ((t193 ++ (⟨#[46]⟩ : ByteArray)) ++ (⟨#[48]⟩ : ByteArray)).size + t194.size ≤ 9223372036854775807
    ·rw [if_pos c8] at H
     have c8b0 := eq_true c8
     have c8b1 : decide (((t193 ++ (⟨#[46]⟩ : ByteArray)) ++ (⟨#[48]⟩ : ByteArray)).size + t194.size ≤ 9223372036854775807) = true := decide_eq_true c8
     try have c8b2 : (9223372036854775807 < ((t193 ++ (⟨#[46]⟩ : ByteArray)) ++ (⟨#[48]⟩ : ByteArray)).size + t194.size) = False := eq_false (Nat.not_lt.2 c8)
     (try (have c8s := c8b2; simp only [ByteArray.size_append, show (⟨#[46]⟩ : ByteArray).size = 1 from rfl, show (⟨#[48]⟩ : ByteArray).size = 1 from rfl] at c8s))
     by_cases c9 : a0 < 0
     ·rw [if_pos c9] at H
      have c9b0 : decide (a0 < 0) = true := decide_eq_true c9
      clear c9
      by_cases c10 : 1 + (((t193 ++ (⟨#[46]⟩ : ByteArray)) ++ (⟨#[48]⟩ : ByteArray)) ++ t194).size ≤ 9223372036854775807
      ·rw [if_pos c10] at H
       have c10b0 := eq_true c10
       have c10b1 : decide (1 + (((t193 ++ (⟨#[46]⟩ : ByteArray)) ++ (⟨#[48]⟩ : ByteArray)) ++ t194).size ≤ 9223372036854775807) = true := decide_eq_true c10
       try have c10b2 : (9223372036854775807 < 1 + (((t193 ++ (⟨#[46]⟩ : ByteArray)) ++ (⟨#[48]⟩ : ByteArray)) ++ t194).size) = False := eq_false (Nat.not_lt.2 c10)
       (try (have c10s := c10b2; simp only [ByteArray.size_append, show (⟨#[46]⟩ : ByteArray).size = 1 from rfl, show (⟨#[48]⟩ : ByteArray).size = 1 from rfl] at c10s))
       obtain rfl := Option.some.inj H
       go_enter Tryd.func39, Tryd.ntmps39
       go_wp2_with (first | ((with_reducible refine gate_callee (f := 61) rfl ?_); refine goesL_ (some 6) rfl rfl Tryd.func61 (by kernel_rfl) rfl #[.int .i64 a0] rfl (by (try simp only [List.map_toArray, List.map_cons, List.map_nil]); first | done | rfl | (simp only [List.length_drop, List.length_take]; rfl)) ?_; (with_reducible refine (money_Abs.calls a0 t192 _ A2.out).mono ?_); rintro e w' ⟨rfl, ⟨nd, rfl⟩⟩; refine ⟨_, rfl, ?_⟩) | ((with_reducible refine gate_callee (f := 82) rfl ?_); refine goesL_ (some 9) rfl rfl Tryd.func82 (by kernel_rfl) rfl #[.int .u64 (IntKind.u64.wrap (Int.tdiv t192 100)), .int .i64 10] rfl (by (try simp only [List.map_toArray, List.map_cons, List.map_nil]); first | done | rfl | (simp only [List.length_drop, List.length_take]; rfl)) ?_; (with_reducible refine (strconv_FormatUint_82.calls (IntKind.u64.wrap (Int.tdiv t192 100)) 10 t193 _ A3.out).mono ?_); rintro e w11 ⟨rfl, hb⟩; refine ⟨_, rfl, ?_⟩; have n0_ := Aside0.mk (below_step (by repeat (first | (with_reducible first | exact HB.out | apply below_alloc | apply pw_below_drewN | apply below_drew1) | exact HB.out)) hb); clear HB; have HB := n0_; clear n0_; (try clear hb); (try clear hb2); (try clear hk); (try clear hi)) | ((with_reducible refine gate_callee (f := 82) rfl ?_); refine goesL_ (some 19) rfl rfl Tryd.func82 (by kernel_rfl) rfl #[.int .u64 (Int.tmod t192 100), .int .i64 10] rfl (by (try simp only [List.map_toArray, List.map_cons, List.map_nil]); first | done | rfl | (simp only [List.length_drop, List.length_take]; rfl)) ?_; (with_reducible refine (strconv_FormatUint_82.calls (Int.tmod t192 100) 10 t194 _ A7.out).mono ?_); rintro e w12 ⟨rfl, hb⟩; refine ⟨_, rfl, ?_⟩; have n0_ := Aside0.mk (below_step (by repeat (first | (with_reducible first | exact HB.out | apply below_alloc | apply pw_below_drewN | apply below_drew1) | exact HB.out)) hb); clear HB; have HB := n0_; clear n0_; (try clear hb); (try clear hb2); (try clear hk); (try clear hi)))
       go_ret
       exact ⟨by first | rfl | (simp [errW_none, errW_some] <;> rfl) | (simp [*, errW_none, errW_some] <;> rfl), by repeat (first | (with_reducible first | exact HB.out | apply below_alloc | apply pw_below_drewN | apply below_drew1) | exact HB.out)⟩
      ·rw [if_neg c10] at H
       exact absurd H (by simp)
     ·rw [if_neg c9] at H
      have c9b0 : decide (a0 < 0) = false := decide_eq_false c9
      clear c9
      obtain rfl := Option.some.inj H
      go_enter Tryd.func39, Tryd.ntmps39
      go_wp2_with (first | ((with_reducible refine gate_callee (f := 61) rfl ?_); refine goesL_ (some 6) rfl rfl Tryd.func61 (by kernel_rfl) rfl #[.int .i64 a0] rfl (by (try simp only [List.map_toArray, List.map_cons, List.map_nil]); first | done | rfl | (simp only [List.length_drop, List.length_take]; rfl)) ?_; (with_reducible refine (money_Abs.calls a0 t192 _ A2.out).mono ?_); rintro e w' ⟨rfl, ⟨nd, rfl⟩⟩; refine ⟨_, rfl, ?_⟩) | ((with_reducible refine gate_callee (f := 82) rfl ?_); refine goesL_ (some 9) rfl rfl Tryd.func82 (by kernel_rfl) rfl #[.int .u64 (IntKind.u64.wrap (Int.tdiv t192 100)), .int .i64 10] rfl (by (try simp only [List.map_toArray, List.map_cons, List.map_nil]); first | done | rfl | (simp only [List.length_drop, List.length_take]; rfl)) ?_; (with_reducible refine (strconv_FormatUint_82.calls (IntKind.u64.wrap (Int.tdiv t192 100)) 10 t193 _ A3.out).mono ?_); rintro e w13 ⟨rfl, hb⟩; refine ⟨_, rfl, ?_⟩; have n0_ := Aside0.mk (below_step (by repeat (first | (with_reducible first | exact HB.out | apply below_alloc | apply pw_below_drewN | apply below_drew1) | exact HB.out)) hb); clear HB; have HB := n0_; clear n0_; (try clear hb); (try clear hb2); (try clear hk); (try clear hi)) | ((with_reducible refine gate_callee (f := 82) rfl ?_); refine goesL_ (some 19) rfl rfl Tryd.func82 (by kernel_rfl) rfl #[.int .u64 (Int.tmod t192 100), .int .i64 10] rfl (by (try simp only [List.map_toArray, List.map_cons, List.map_nil]); first | done | rfl | (simp only [List.length_drop, List.length_take]; rfl)) ?_; (with_reducible refine (strconv_FormatUint_82.calls (Int.tmod t192 100) 10 t194 _ A7.out).mono ?_); rintro e w14 ⟨rfl, hb⟩; refine ⟨_, rfl, ?_⟩; have n0_ := Aside0.mk (below_step (by repeat (first | (with_reducible first | exact HB.out | apply below_alloc | apply pw_below_drewN | apply below_drew1) | exact HB.out)) hb); clear HB; have HB := n0_; clear n0_; (try clear hb); (try clear hb2); (try clear hk); (try clear hi)))
      go_ret
      exact ⟨by first | rfl | (simp [errW_none, errW_some] <;> rfl) | (simp [*, errW_none, errW_some] <;> rfl), by repeat (first | (with_reducible first | exact HB.out | apply below_alloc | apply pw_below_drewN | apply below_drew1) | exact HB.out)⟩
    ·rw [if_neg c8] at H
     exact absurd H (by simp)
   ·rw [if_neg c6] at H
    exact absurd H (by simp)
  ·rw [if_neg c5] at H
   have c5b0 : decide ((Int.tmod t192 100) < 10) = false := decide_eq_false c5
   clear c5
   replace H := Option.bind_eq_some_iff.mp H
   obtain ⟨t195, A150, H⟩ := H
   replace H : (if (t193 ++ (⟨#[46]⟩ : ByteArray)).size + t195.size ≤ 9223372036854775807 then (if a0 < 0 then (if 1 + ((t193 ++ (⟨#[46]⟩ : ByteArray)) ++ t195).size ≤ 9223372036854775807 then (some ((⟨#[45]⟩ : ByteArray) ++ ((t193 ++ (⟨#[46]⟩ : ByteArray)) ++ t195))) else (none)) else (some ((t193 ++ (⟨#[46]⟩ : ByteArray)) ++ t195))) else (none)) = some r := H
   have A15 := Aside0.mk A150
   clear A150
   by_cases c16 : (t193 ++ (⟨#[46]⟩ : ByteArray)).size + t195.size ≤ 9223372036854775807
   ·rw [if_pos c16] at H
    have c16b0 := eq_true c16
    have c16b1 : decide ((t193 ++ (⟨#[46]⟩ : ByteArray)).size + t195.size ≤ 9223372036854775807) = true := decide_eq_true c16
    try have c16b2 : (9223372036854775807 < (t193 ++ (⟨#[46]⟩ : ByteArray)).size + t195.size) = False := eq_false (Nat.not_lt.2 c16)
    (try (have c16s := c16b2; simp only [ByteArray.size_append, show (⟨#[46]⟩ : ByteArray).size = 1 from rfl] at c16s))
    by_cases c17 : a0 < 0
    ·rw [if_pos c17] at H
     have c17b0 : decide (a0 < 0) = true := decide_eq_true c17
     clear c17
     by_cases c18 : 1 + ((t193 ++ (⟨#[46]⟩ : ByteArray)) ++ t195).size ≤ 9223372036854775807
     ·rw [if_pos c18] at H
      have c18b0 := eq_true c18
      have c18b1 : decide (1 + ((t193 ++ (⟨#[46]⟩ : ByteArray)) ++ t195).size ≤ 9223372036854775807) = true := decide_eq_true c18
      try have c18b2 : (9223372036854775807 < 1 + ((t193 ++ (⟨#[46]⟩ : ByteArray)) ++ t195).size) = False := eq_false (Nat.not_lt.2 c18)
      (try (have c18s := c18b2; simp only [ByteArray.size_append, show (⟨#[46]⟩ : ByteArray).size = 1 from rfl] at c18s))
      obtain rfl := Option.some.inj H
      go_enter Tryd.func39, Tryd.ntmps39
      go_wp2_with (first | ((with_reducible refine gate_callee (f := 61) rfl ?_); refine goesL_ (some 6) rfl rfl Tryd.func61 (by kernel_rfl) rfl #[.int .i64 a0] rfl (by (try simp only [List.map_toArray, List.map_cons, List.map_nil]); first | done | rfl | (simp only [List.length_drop, List.length_take]; rfl)) ?_; (with_reducible refine (money_Abs.calls a0 t192 _ A2.out).mono ?_); rintro e w' ⟨rfl, ⟨nd, rfl⟩⟩; refine ⟨_, rfl, ?_⟩) | ((with_reducible refine gate_callee (f := 82) rfl ?_); refine goesL_ (some 9) rfl rfl Tryd.func82 (by kernel_rfl) rfl #[.int .u64 (IntKind.u64.wrap (Int.tdiv t192 100)), .int .i64 10] rfl (by (try simp only [List.map_toArray, List.map_cons, List.map_nil]); first | done | rfl | (simp only [List.length_drop, List.length_take]; rfl)) ?_; (with_reducible refine (strconv_FormatUint_82.calls (IntKind.u64.wrap (Int.tdiv t192 100)) 10 t193 _ A3.out).mono ?_); rintro e w19 ⟨rfl, hb⟩; refine ⟨_, rfl, ?_⟩; have n0_ := Aside0.mk (below_step (by repeat (first | (with_reducible first | exact HB.out | apply below_alloc | apply pw_below_drewN | apply below_drew1) | exact HB.out)) hb); clear HB; have HB := n0_; clear n0_; (try clear hb); (try clear hb2); (try clear hk); (try clear hi)) | ((with_reducible refine gate_callee (f := 82) rfl ?_); refine goesL_ (some 19) rfl rfl Tryd.func82 (by kernel_rfl) rfl #[.int .u64 (Int.tmod t192 100), .int .i64 10] rfl (by (try simp only [List.map_toArray, List.map_cons, List.map_nil]); first | done | rfl | (simp only [List.length_drop, List.length_take]; rfl)) ?_; (with_reducible refine (strconv_FormatUint_82.calls (Int.tmod t192 100) 10 t195 _ A15.out).mono ?_); rintro e w20 ⟨rfl, hb⟩; refine ⟨_, rfl, ?_⟩; have n0_ := Aside0.mk (below_step (by repeat (first | (with_reducible first | exact HB.out | apply below_alloc | apply pw_below_drewN | apply below_drew1) | exact HB.out)) hb); clear HB; have HB := n0_; clear n0_; (try clear hb); (try clear hb2); (try clear hk); (try clear hi)))
      go_ret
      exact ⟨by first | rfl | (simp [errW_none, errW_some] <;> rfl) | (simp [*, errW_none, errW_some] <;> rfl), by repeat (first | (with_reducible first | exact HB.out | apply below_alloc | apply pw_below_drewN | apply below_drew1) | exact HB.out)⟩
     ·rw [if_neg c18] at H
      exact absurd H (by simp)
    ·rw [if_neg c17] at H
     have c17b0 : decide (a0 < 0) = false := decide_eq_false c17
     clear c17
     obtain rfl := Option.some.inj H
     go_enter Tryd.func39, Tryd.ntmps39
     go_wp2_with (first | ((with_reducible refine gate_callee (f := 61) rfl ?_); refine goesL_ (some 6) rfl rfl Tryd.func61 (by kernel_rfl) rfl #[.int .i64 a0] rfl (by (try simp only [List.map_toArray, List.map_cons, List.map_nil]); first | done | rfl | (simp only [List.length_drop, List.length_take]; rfl)) ?_; (with_reducible refine (money_Abs.calls a0 t192 _ A2.out).mono ?_); rintro e w' ⟨rfl, ⟨nd, rfl⟩⟩; refine ⟨_, rfl, ?_⟩) | ((with_reducible refine gate_callee (f := 82) rfl ?_); refine goesL_ (some 9) rfl rfl Tryd.func82 (by kernel_rfl) rfl #[.int .u64 (IntKind.u64.wrap (Int.tdiv t192 100)), .int .i64 10] rfl (by (try simp only [List.map_toArray, List.map_cons, List.map_nil]); first | done | rfl | (simp only [List.length_drop, List.length_take]; rfl)) ?_; (with_reducible refine (strconv_FormatUint_82.calls (IntKind.u64.wrap (Int.tdiv t192 100)) 10 t193 _ A3.out).mono ?_); rintro e w21 ⟨rfl, hb⟩; refine ⟨_, rfl, ?_⟩; have n0_ := Aside0.mk (below_step (by repeat (first | (with_reducible first | exact HB.out | apply below_alloc | apply pw_below_drewN | apply below_drew1) | exact HB.out)) hb); clear HB; have HB := n0_; clear n0_; (try clear hb); (try clear hb2); (try clear hk); (try clear hi)) | ((with_reducible refine gate_callee (f := 82) rfl ?_); refine goesL_ (some 19) rfl rfl Tryd.func82 (by kernel_rfl) rfl #[.int .u64 (Int.tmod t192 100), .int .i64 10] rfl (by (try simp only [List.map_toArray, List.map_cons, List.map_nil]); first | done | rfl | (simp only [List.length_drop, List.length_take]; rfl)) ?_; (with_reducible refine (strconv_FormatUint_82.calls (Int.tmod t192 100) 10 t195 _ A15.out).mono ?_); rintro e w22 ⟨rfl, hb⟩; refine ⟨_, rfl, ?_⟩; have n0_ := Aside0.mk (below_step (by repeat (first | (with_reducible first | exact HB.out | apply below_alloc | apply pw_below_drewN | apply below_drew1) | exact HB.out)) hb); clear HB; have HB := n0_; clear n0_; (try clear hb); (try clear hb2); (try clear hk); (try clear hi)))
     go_ret
     exact ⟨by first | rfl | (simp [errW_none, errW_some] <;> rfl) | (simp [*, errW_none, errW_some] <;> rfl), by repeat (first | (with_reducible first | exact HB.out | apply below_alloc | apply pw_below_drewN | apply below_drew1) | exact HB.out)⟩
   ·rw [if_neg c16] at H
    exact absurd H (by simp)
 ·rw [if_neg c4] at H
  exact absurd H (by simp)

end Go.Proofs.YtmocphafkimdpaaDoor.P


/- money.Text's text, as a list of bytes. -/
namespace Go.Proofs.YtmocphafkimdpaaDoor.P
open Go.RowKit Go.Proofs.YtmocphafkimdpaaDoorW.PrintWords Go.Proofs.YtmocphafkimdpaaDoorW.PrintLast Go.Proofs.YtmocphafkimdpaaDoorW.PrintMore

theorem abs_f (x : Int) (h0 : -9223372036854775808 ≤ x) (h1 : x ≤ 9223372036854775807) : money_Abs.f x = some (x.natAbs : Int) := by
  unfold money_Abs.f
  rw [IntKind.wrap_u64, IntKind.wrap_u64, IntKind.wrap_u64]
  unfold wrap64
  split
  · congr 1; omega
  · congr 1; omega

theorem dec_small (n : Nat) (h : n < 10) : Lib.decDigits n = [UInt8.ofNat (48 + n)] := by
  rw [Lib.decDigits, dif_pos h]
theorem dec_two (n : Nat) (h0 : 10 ≤ n) (h : n < 100) : Lib.decDigits n = [UInt8.ofNat (48 + n / 10), UInt8.ofNat (48 + n % 10)] := by
  rw [Lib.decDigits, dif_neg (by omega), dec_small (n / 10) (by omega)]
  rfl

/-- An amount as it is written: whole coins, a point, two digits. -/
def textOf (x : Int) : List UInt8 := (if x < 0 then [45] else []) ++ Lib.decDigits (x.natAbs / 100) ++ [46] ++ [UInt8.ofNat (48 + x.natAbs % 100 / 10), UInt8.ofNat (48 + x.natAbs % 10)]

theorem dec_len (n : Nat) (h : n < 18446744073709551616) : (Lib.decDigits n).length ≤ 20 := by
  rw [Lib.decDigits_length]
  by_cases h0 : n = 0
  · subst h0
    rw [Lib.nDigits_small (by omega)]; omega
  · have := Lib.numDigits_eq n (by omega) h
    split at this <;> omega

theorem ba_append (a b : List UInt8) : (⟨a.toArray⟩ : ByteArray) ++ (⟨b.toArray⟩ : ByteArray) = ⟨(a ++ b).toArray⟩ := by
  apply ByteArray.ext
  simp

theorem ba_size (a : List UInt8) : (⟨a.toArray⟩ : ByteArray).size = a.length := by
  simp [ByteArray.size]

theorem fmt_f (n : Nat) (h : n < 18446744073709551616) : strconv_FormatUint_82.f (n : Int) 10 = some ⟨(Lib.decDigits n).toArray⟩ := by
  unfold strconv_FormatUint_82.f
  rw [if_pos ⟨rfl, by omega, by omega⟩, Int.toNat_natCast]

theorem text_e1 (n : Nat) (hn : n < 18446744073709551616) : IntKind.u64.wrap (Int.tdiv (n : Int) 100) = ((n / 100 : Nat) : Int) := by
  rw [IntKind.wrap_u64, Int.tdiv_eq_ediv_of_nonneg (by omega)]; omega
theorem text_e2 (n : Nat) : Int.tmod (n : Int) 100 = ((n % 100 : Nat) : Int) := by
  rw [Int.tmod_eq_emod_of_nonneg (by omega)]; omega

/-- The text's making, the two halves' digits given. -/
theorem text_make (x : Int) (A : List UInt8) (m : Nat) (hA : A.length ≤ 20) (hm2 : m < 100) (l2 : (Lib.decDigits m).length ≤ 20) :
    (if (⟨A.toArray⟩ : ByteArray).size + 1 ≤ 9223372036854775807 then (if (m : Int) < 10 then (if ((⟨A.toArray⟩ : ByteArray) ++ (⟨([46] : List UInt8).toArray⟩ : ByteArray)).size + 1 ≤ 9223372036854775807 then ((some (⟨(Lib.decDigits m).toArray⟩ : ByteArray)).bind fun t194 => (if (((⟨A.toArray⟩ : ByteArray) ++ (⟨([46] : List UInt8).toArray⟩ : ByteArray)) ++ (⟨([48] : List UInt8).toArray⟩ : ByteArray)).size + t194.size ≤ 9223372036854775807 then (if x < 0 then (if 1 + ((((⟨A.toArray⟩ : ByteArray) ++ (⟨([46] : List UInt8).toArray⟩ : ByteArray)) ++ (⟨([48] : List UInt8).toArray⟩ : ByteArray)) ++ t194).size ≤ 9223372036854775807 then (some ((⟨([45] : List UInt8).toArray⟩ : ByteArray) ++ ((((⟨A.toArray⟩ : ByteArray) ++ (⟨([46] : List UInt8).toArray⟩ : ByteArray)) ++ (⟨([48] : List UInt8).toArray⟩ : ByteArray)) ++ t194))) else none) else (some ((((⟨A.toArray⟩ : ByteArray) ++ (⟨([46] : List UInt8).toArray⟩ : ByteArray)) ++ (⟨([48] : List UInt8).toArray⟩ : ByteArray)) ++ t194))) else none)) else none) else ((some (⟨(Lib.decDigits m).toArray⟩ : ByteArray)).bind fun t195 => (if ((⟨A.toArray⟩ : ByteArray) ++ (⟨([46] : List UInt8).toArray⟩ : ByteArray)).size + t195.size ≤ 9223372036854775807 then (if x < 0 then (if 1 + (((⟨A.toArray⟩ : ByteArray) ++ (⟨([46] : List UInt8).toArray⟩ : ByteArray)) ++ t195).size ≤ 9223372036854775807 then (some ((⟨([45] : List UInt8).toArray⟩ : ByteArray) ++ (((⟨A.toArray⟩ : ByteArray) ++ (⟨([46] : List UInt8).toArray⟩ : ByteArray)) ++ t195))) else none) else (some (((⟨A.toArray⟩ : ByteArray) ++ (⟨([46] : List UInt8).toArray⟩ : ByteArray)) ++ t195))) else none))) else none) = some ⟨((if x < 0 then [45] else []) ++ A ++ [46] ++ [UInt8.ofNat (48 + m / 10), UInt8.ofNat (48 + m % 10)]).toArray⟩ := by
  simp only [Option.bind_some, ba_append, ba_size, List.length_append, List.length_cons, List.length_nil]
  rw [if_pos (by omega)]
  by_cases hm : m < 10
  · have d1 : m / 10 = 0 := by omega
    have d2 : m % 10 = m := by omega
    rw [if_pos (by omega), if_pos (by omega), if_pos (by omega), d1, d2, dec_small m hm]
    by_cases hx : x < 0
    · rw [if_pos hx, if_pos (by simp only [List.length_cons, List.length_nil]; omega), if_pos hx]
      simp
    · rw [if_neg hx, if_neg hx]
      simp
  · rw [if_neg (by omega), if_pos (by omega), dec_two m (by omega) hm2]
    by_cases hx : x < 0
    · rw [if_pos hx, if_pos (by simp only [List.length_cons, List.length_nil]; omega), if_pos hx]
      simp
    · rw [if_neg hx, if_neg hx]
      simp

theorem text_f (x : Int) (h0 : -9223372036854775808 ≤ x) (h1 : x ≤ 9223372036854775807) : money_Text.f x = some ⟨(textOf x).toArray⟩ := by
  have hn : x.natAbs < 18446744073709551616 := by omega
  unfold money_Text.f
  rw [abs_f x h0 h1, Option.bind_some, text_e1 _ hn, text_e2, fmt_f _ (by omega), fmt_f _ (by omega), Option.bind_some]
  have e3 : x.natAbs % 10 = x.natAbs % 100 % 10 := by omega
  unfold textOf
  rw [e3]
  exact text_make x _ _ (dec_len _ (by omega)) (Nat.mod_lt _ (by decide)) (dec_len _ (by omega))

end Go.Proofs.YtmocphafkimdpaaDoor.P


-- written by a program (a patched copy of the kit's print: wip/mkprint.py); Lean checks it
namespace Go.Proofs.YtmocphafkimdpaaDoor.P
open Go.RowKit Go.Proofs.YtmocphafkimdpaaDoorW.PrintWords Go.Proofs.YtmocphafkimdpaaDoorW.PrintLast Go.Proofs.YtmocphafkimdpaaDoorW.PrintMore
attribute [local go_sem] max2_int min2_int max_two min_two max_three min_three max_four min_four   -- for this text's walks alone
set_option linter.unusedVariables false
set_option linter.unusedSimpArgs false

theorem eqA48 (d : Nat) (w : World) (x0 y0 : ByteArray) (x1 y1 : Int) (x2 y2 : Int) :
    (Op.equalIn (d + 2) 48 (.agg #[.string x0, .int .i64 x1, .int .i64 x2]) (.agg #[.string y0, .int .i64 y1, .int .i64 y2])).run Tryd.prog w = .ok (x0.toList == y0.toList && (x1 == y1 && (x2 == y2))) w := by
  refine eqA_of Tryd.underlying48 (by kernel_rfl) ?_
  refine eqf_cons (by rfl) (by go_simp; rfl) (by go_simp; rfl) (by go_simp) ?_
  refine eqf_cons (by rfl) (by go_simp; rfl) (by go_simp; rfl) (by go_simp) ?_
  exact eqf_last (by rfl) (by go_simp; rfl) (by go_simp; rfl) (by go_simp)
end Go.Proofs.YtmocphafkimdpaaDoor.P


/- Sums put to sums: the comparison of two structs. -/
namespace Go.Proofs.YtmocphafkimdpaaDoor.P
open Go.RowKit Go.Proofs.YtmocphafkimdpaaDoorW.PrintWords Go.Proofs.YtmocphafkimdpaaDoorW.PrintLast Go.Proofs.YtmocphafkimdpaaDoorW.PrintMore
attribute [local go_sem] max2_int min2_int max_two min_two max_three min_three max_four min_four   -- for this text's walks alone
set_option linter.unusedVariables false
set_option linter.unusedSimpArgs false

theorem eqA76 (d : Nat) (w : World) (x0 y0 : ByteArray) (x1 y1 : Int) :
    (Op.equalIn (d + 2) 76 (.agg #[.string x0, .int .i64 x1]) (.agg #[.string y0, .int .i64 y1])).run Tryd.prog w = .ok (x0.toList == y0.toList && (x1 == y1)) w := by
  refine eqA_of Tryd.underlying76 (by kernel_rfl) ?_
  refine eqf_cons (by rfl) (by go_simp; rfl) (by go_simp; rfl) (by go_simp) ?_
  exact eqf_last (by rfl) (by go_simp; rfl) (by go_simp; rfl) (by go_simp)
end Go.Proofs.YtmocphafkimdpaaDoor.P
