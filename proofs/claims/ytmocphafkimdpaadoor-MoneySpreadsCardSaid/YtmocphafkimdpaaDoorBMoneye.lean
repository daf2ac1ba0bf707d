/- A part of the proof of the cards of Money..: each of these statements answers true for every input (the conditions: those of the given statements alone). Merged by a program (wip/merge.py) out of: Pf41. -/
import Derived.Test.YtmocphafkimdpaaDoorBMoneya
import Derived.Test.YtmocphafkimdpaaDoorBMoneyd

-- written by a program (a patched copy of the kit's print: wip/mkprint.py); Lean checks it
namespace Go.Proofs.YtmocphafkimdpaaDoor.P
open Go.RowKit Go.Proofs.YtmocphafkimdpaaDoorW.PrintWords Go.Proofs.YtmocphafkimdpaaDoorW.PrintLast Go.Proofs.YtmocphafkimdpaaDoorW.PrintMore
attribute [local go_sem] max2_int min2_int max_two min_two max_three min_three max_four min_four   -- for this text's walks alone
set_option linter.unusedVariables false
set_option linter.unusedSimpArgs false

/-! ### money_Spread: function 41 -/
mutual
def money_Spread.j0 : Nat → Int → List Int → Bool → Option (List Int × Int)
 | 0, _, _, _ => none
 | k + 1, x0, x1, x31 => if x31 = true then (some (([] : List Int), 2)) else (money_Spread.l0 k x0 x1 0 x1 (x1.length : Int) 0)
def money_Spread.l0 : Nat → Int → List Int → Int → List Int → Int → Int → Option (List Int × Int)
 | 0, _, _, _, _, _, _ => none
 | k + 1, x0, x1, x6, x32, x33, x34 => if x34 < x33 then (if 0 ≤ x34 then (if x34 < (x32.length : Int) then (if (rd x32 x34) < 0 then (some (([] : List Int), 1)) else (if (rd x32 x34) > 1048576 then (some (([] : List Int), 1)) else (money_Spread.l0 k x0 x1 (wrap64 (x6 + (rd x32 x34))) x32 x33 (wrap64 (x34 + 1))))) else (none)) else (none)) else (if x6 = 0 then (some (([] : List Int), 1)) else ((money_Abs.f x0).bind fun t362 => (if 0 ≤ (x1.length : Int) then (if ((x1.length : Int) : Int).toNat ≤ 35184372088832 then (money_Spread.l1 k x0 x6 t362 (List.replicate ((x1.length : Int) : Int).toNat 0) (List.replicate ((x1.length : Int) : Int).toNat 0) t362 x1 (x1.length : Int) 0) else (none)) else (none))))
def money_Spread.l1 : Nat → Int → Int → Int → List Int → List Int → Int → List Int → Int → Int → Option (List Int × Int)
 | 0, _, _, _, _, _, _, _, _, _ => none
 | k + 1, x0, x6, x9, x10, x11, x12, x59, x60, x61 => if x61 < x60 then (if 0 ≤ x61 then (if x61 < (x59.length : Int) then ((bits_Mul64.f x9 (IntKind.u64.wrap (rd x59 x61))).bind fun bt370 => ((bits_Div64.f bt370.1 bt370.2 (IntKind.u64.wrap (x6))).bind fun bt372 => (if x61 < (x10.length : Int) then (if x61 < (x11.length : Int) then (money_Spread.l1 k x0 x6 x9 (x10.set (x61 : Int).toNat (wrap64 (bt372.1))) (x11.set (x61 : Int).toNat bt372.2) (IntKind.u64.wrap (x12 - bt372.1)) x59 x60 (wrap64 (x61 + 1))) else (none)) else (none)))) else (none)) else (none)) else ((money_give.f x10 x11 x12).bind fun t376 => (if x0 < 0 then (money_Spread.l2 k t376 (x10.length : Int) 0) else (some (t376, 0))))
def money_Spread.l2 : Nat → List Int → Int → Int → Option (List Int × Int)
 | 0, _, _, _ => none
 | k + 1, x10, x101, x102 => if x102 < x101 then (if 0 ≤ x102 then (if x102 < (x10.length : Int) then (money_Spread.l2 k (x10.set (x102 : Int).toNat (wrap64 (-(rd x10 x102)))) x101 (wrap64 (x102 + 1))) else (none)) else (none)) else (some (x10, 0))
end
def money_Spread.f (k : Nat) (a0 : Int) (l1 : List Int) : Option (List Int × Int) := (money_Right.f k (([a0] : List Int))).bind fun t360 => (if t360 = true then (if (l1.length : Int) = 0 then (money_Spread.j0 k a0 l1 true) else (money_Spread.j0 k a0 l1 (decide ((l1.length : Int) > 64)))) else (some (([] : List Int), 10)))
theorem money_Spread.mono_l : ∀ k, (∀ y0 y1 y2, LeO (money_Spread.j0 k y0 y1 y2) (money_Spread.j0 (k + 1) y0 y1 y2)) ∧ (∀ y0 y1 y2 y3 y4 y5, LeO (money_Spread.l0 k y0 y1 y2 y3 y4 y5) (money_Spread.l0 (k + 1) y0 y1 y2 y3 y4 y5)) ∧ (∀ y0 y1 y2 y3 y4 y5 y6 y7 y8, LeO (money_Spread.l1 k y0 y1 y2 y3 y4 y5 y6 y7 y8) (money_Spread.l1 (k + 1) y0 y1 y2 y3 y4 y5 y6 y7 y8)) ∧ (∀ y0 y1 y2, LeO (money_Spread.l2 k y0 y1 y2) (money_Spread.l2 (k + 1) y0 y1 y2))
 | 0 => ⟨fun _ _ _ r h => by simp [money_Spread.j0] at h, fun _ _ _ _ _ _ r h => by simp [money_Spread.l0] at h, fun _ _ _ _ _ _ _ _ _ r h => by simp [money_Spread.l1] at h, fun _ _ _ r h => by simp [money_Spread.l2] at h⟩
 | k + 1 => by
  obtain ⟨ih0, ih1, ih2, ih3⟩ := money_Spread.mono_l k
  refine ⟨?_, ?_, ?_, ?_⟩
  ·intro y0 y1 y2
   unfold money_Spread.j0
   repeat' first
   | (with_reducible exact ih0 _ _ _)
   | (with_reducible exact ih1 _ _ _ _ _ _)
   | (with_reducible exact ih2 _ _ _ _ _ _ _ _ _)
   | (with_reducible exact ih3 _ _ _)
   | (with_reducible exact money_Right.mono _ _)
   | (with_reducible exact LeO.refl _)
   | (with_reducible exact LeO.none _)
   | (with_reducible refine LeO.ite ?_ ?_)
   | (with_reducible refine LeO.bind ?_ (fun _ => ?_))
   | exact ih0 _ _ _
   | exact ih1 _ _ _ _ _ _
   | exact ih2 _ _ _ _ _ _ _ _ _
   | exact ih3 _ _ _
   | exact money_Right.mono _ _
   | exact LeO.none _
   | refine LeO.ite ?_ ?_
   | refine LeO.bind ?_ (fun _ => ?_)
  ·intro y0 y1 y2 y3 y4 y5
   unfold money_Spread.l0
   repeat' first
   | (with_reducible exact ih0 _ _ _)
   | (with_reducible exact ih1 _ _ _ _ _ _)
   | (with_reducible exact ih2 _ _ _ _ _ _ _ _ _)
   | (with_reducible exact ih3 _ _ _)
   | (with_reducible exact money_Right.mono _ _)
   | (with_reducible exact LeO.refl _)
   | (with_reducible exact LeO.none _)
   | (with_reducible refine LeO.ite ?_ ?_)
   | (with_reducible refine LeO.bind ?_ (fun _ => ?_))
   | exact ih0 _ _ _
   | exact ih1 _ _ _ _ _ _
   | exact ih2 _ _ _ _ _ _ _ _ _
   | exact ih3 _ _ _
   | exact money_Right.mono _ _
   | exact LeO.none _
   | refine LeO.ite ?_ ?_
   | refine LeO.bind ?_ (fun _ => ?_)
  ·intro y0 y1 y2 y3 y4 y5 y6 y7 y8
   unfold money_Spread.l1
   repeat' first
   | (with_reducible exact ih0 _ _ _)
   | (with_reducible exact ih1 _ _ _ _ _ _)
   | (with_reducible exact ih2 _ _ _ _ _ _ _ _ _)
   | (with_reducible exact ih3 _ _ _)
   | (with_reducible exact money_Right.mono _ _)
   | (with_reducible exact LeO.refl _)
   | (with_reducible exact LeO.none _)
   | (with_reducible refine LeO.ite ?_ ?_)
   | (with_reducible refine LeO.bind ?_ (fun _ => ?_))
   | exact ih0 _ _ _
   | exact ih1 _ _ _ _ _ _
   | exact ih2 _ _ _ _ _ _ _ _ _
   | exact ih3 _ _ _
   | exact money_Right.mono _ _
   | exact LeO.none _
   | refine LeO.ite ?_ ?_
   | refine LeO.bind ?_ (fun _ => ?_)
  ·intro y0 y1 y2
   unfold money_Spread.l2
   repeat' first
   | (with_reducible exact ih0 _ _ _)
   | (with_reducible exact ih1 _ _ _ _ _ _)
   | (with_reducible exact ih2 _ _ _ _ _ _ _ _ _)
   | (with_reducible exact ih3 _ _ _)
   | (with_reducible exact money_Right.mono _ _)
   | (with_reducible exact LeO.refl _)
   | (with_reducible exact LeO.none _)
   | (with_reducible refine LeO.ite ?_ ?_)
   | (with_reducible refine LeO.bind ?_ (fun _ => ?_))
   | exact ih0 _ _ _
   | exact ih1 _ _ _ _ _ _
   | exact ih2 _ _ _ _ _ _ _ _ _
   | exact ih3 _ _ _
   | exact money_Right.mono _ _
   | exact LeO.none _
   | refine LeO.ite ?_ ?_
   | refine LeO.bind ?_ (fun _ => ?_)
theorem money_Spread.mono : ∀ a0 a1 k, LeO (money_Spread.f k a0 a1) (money_Spread.f (k + 1) a0 a1) := by
 intro a0 a1 k
 obtain ⟨ih0, ih1, ih2, ih3⟩ := money_Spread.mono_l k
 unfold money_Spread.f
 repeat' first
   | (with_reducible exact ih0 _ _ _)
   | (with_reducible exact ih1 _ _ _ _ _ _)
   | (with_reducible exact ih2 _ _ _ _ _ _ _ _ _)
   | (with_reducible exact ih3 _ _ _)
   | (with_reducible exact money_Right.mono _ _)
   | (with_reducible exact LeO.refl _)
   | (with_reducible exact LeO.none _)
   | (with_reducible refine LeO.ite ?_ ?_)
   | (with_reducible refine LeO.bind ?_ (fun _ => ?_))
   | exact ih0 _ _ _
   | exact ih1 _ _ _ _ _ _
   | exact ih2 _ _ _ _ _ _ _ _ _
   | exact ih3 _ _ _
   | exact money_Right.mono _ _
   | exact LeO.none _
   | refine LeO.ite ?_ ?_
   | refine LeO.bind ?_ (fun _ => ?_)
def money_Spread.T16 : Bool × List (List Nat × List Nat) := (true, [([], []), ([0], [0]), ([1, 1], [1]), ([], []), ([3], [3]), ([4, 4], [4]), ([], []), ([2, 0, 1, 2], [2]), ([5, 7, 0, 1, 2, 3, 4, 5, 7], [5]), ([6, 8, 0, 1, 2, 3, 4, 5, 6, 7, 8], [6])])
def money_Spread.B16 : List Nat := [0, 1, 3, 0, 8, 24, 0, 7, 191, 511]
theorem money_Spread.tab16 : rtab .any (opsOf Tryd.f41 16) = money_Spread.T16 := by kernel_rfl
theorem money_Spread.bits16 : waitsOk money_Spread.T16.2 money_Spread.B16 = true := by kernel_rfl
set_option maxHeartbeats 8000000 in
set_option maxRecDepth 100000 in
theorem money_Spread.calls (k : Nat) (a0 : Int) (A1 : Option Addr) (c1 : Nat) (l1 : List Int) (r1 : List Int) (r2 : Int) (w : World) (hr1 : Kd.C (Kd.int .i64) w A1 l1.length l1) (hc1 : l1.length ≤ c1) (h : money_Spread.f k a0 l1 = some (r1, r2)) :
  Calls Tryd.prog 41 #[.int .i64 a0, .slice A1 l1.length c1] w fun e w' => ∃ v0_ : Value, e = .returned (.tuple #[v0_, .int .i64 r2]) ∧ Kd.R (Kd.int .i64) 2 w' w.heap.size (fun _ => True) v0_ r1 ∧ Below w.heap.size w w' := by
 have HR1 := Aside0.mk hr1
 have HC1 := Aside0.mk hc1
 clear hr1 hc1
 have HB := Aside0.mk (Below.refl w.heap.size w)
 have H : ((money_Right.f k (([a0] : List Int))).bind fun t360 => (if t360 = true then (if (l1.length : Int) = 0 then (money_Spread.j0 k a0 l1 true) else (money_Spread.j0 k a0 l1 (decide ((l1.length : Int) > 64)))) else (some (([] : List Int), 10)))) = some (r1, r2) := h
 clear h
 obtain ⟨y357, hy357⟩ : ∃ y_ : List Int, y_ = (([a0] : List Int)) := ⟨_, rfl⟩
 replace H : ((money_Right.f k y357).bind fun t360 => (if t360 = true then (if (l1.length : Int) = 0 then (money_Spread.j0 k a0 l1 true) else (money_Spread.j0 k a0 l1 (decide ((l1.length : Int) > 64)))) else (some (([] : List Int), 10)))) = some (r1, r2) := by first | (rw [hy357]; with_reducible exact H) | (have H2_ := (Option.bind_some _ _).symm.trans H; rw [hy357]; with_reducible exact H2_) | (have H2_ := (Option.bind_some _ _).symm.trans H; with_reducible exact H2_) | with_reducible exact H | (rw [hy357]; exact H) | exact H
 have Ny357 := Aside0.mk hy357
 clear hy357
 replace H := Option.bind_eq_some_iff.mp H
 obtain ⟨t360, A30, H⟩ := H
 replace H : (if t360 = true then (if (l1.length : Int) = 0 then (money_Spread.j0 k a0 l1 true) else (money_Spread.j0 k a0 l1 (decide ((l1.length : Int) > 64)))) else (some (([] : List Int), 10))) = some (r1, r2) := H
 have A3 := Aside0.mk A30
 clear A30
 by_cases c4 : t360 = true
 ·subst c4
  have H1 : (if (l1.length : Int) = 0 then (money_Spread.j0 k a0 l1 true) else (money_Spread.j0 k a0 l1 (decide ((l1.length : Int) > 64)))) = some (r1, r2) := by rw [if_pos rfl] at H; exact H
  clear H
  have H := H1
  clear H1
  have HC5 := Aside0.mk H
  clear H
  go_enter Tryd.func41, Tryd.ntmps41
  go_upto_region 3 with (first | ((with_reducible refine gate_dst (N := 21) rfl ?_); (try (refine gate_guard (by rfl) ?_; dsimp only)); refine Kd.R_lit (Kd.int .i64) _ 2 ?hg (N := 21) ?hd (xs := ([a0] : List Int)) (inner := [.int .i64 a0]) (ok := fun _ => True) (okp := fun _ => True) ?hr ?hp (fun _ hk => hk) trivial (Below.refl _ _) (Nat.le_refl _) (by simp) ?_; (case hd => rfl); (case hg => rfl); (case hr => first | (go_simp; done) | (go_simp; rfl)); (case hp => exact (Reps.one (show Kd.M (Kd.int .i64) _ _ _ a0 [.int .i64 a0] from rfl) (Reps.none _ _))); intro v358 w6 ho7 hb hg_ hnew_; clear hg_ hnew_; (first | rw [← Ny357.out] at ho7 | (simp only [Int.reduceToNat] at ho7; rw [← Ny357.out] at ho7)); have n0_ := Aside0.mk (Kd.R_lower ho7 (below_size (by repeat (first | (with_reducible first | exact HB.out | apply below_alloc | apply pw_below_drewN | apply below_drew1) | exact HB.out)))); have n1_ := Aside0.mk (below_step (by repeat (first | (with_reducible first | exact HB.out | apply below_alloc | apply pw_below_drewN | apply below_drew1) | exact HB.out)) hb); clear HB; have HO359 := n0_; have HB := n1_; clear n0_ n1_; clear hb ho7; obtain ⟨Ao8, co8, eo8⟩ := Kd.R_slice HO359.out; subst eo8) | ((with_reducible refine gate_callee (f := 65) rfl ?_); refine goesL_ (some 22) rfl rfl Tryd.func65 (by kernel_rfl) rfl #[.slice Ao8 y357.length co8] rfl (by (try simp only [List.map_toArray, List.map_cons, List.map_nil]); first | done | rfl | (simp only [List.length_drop, List.length_take]; rfl)) ?_; (with_reducible refine (money_Right.calls k _ _ y357 true _ ?side1 ?side2 A3.out).mono ?_); (case side1 => repeat (first | exact (Kd.R_reads' HO359.out).2.2 | (with_reducible refine Kd.C_alloc ?_ _) | (with_reducible refine Kd.C_drewN ?_ _) | (with_reducible refine Kd.C_drew ?_))); (case side2 => exact (Kd.R_reads' HO359.out).2.1); rintro e w' ⟨rfl, ⟨nd, rfl⟩⟩; refine ⟨_, rfl, ?_⟩))
  (try simp only [Act.put, List.setIfInBounds_toArray, List.set_cons_zero, List.set_cons_succ])
  go_cut [31] (fun v31 wc => ∃ (kq : Nat) (x31_4 : Bool), v31 = .bool x31_4 ∧ Aside0 (money_Spread.j0 kq a0 l1 x31_4 = some (r1, r2)) ∧ Aside0 (kq ≤ k) ∧ Aside0 (Below w.heap.size w wc))
  case first =>
   have H := HC5.out
   clear HC5
   by_cases c9 : (l1.length : Int) = 0
   ·rw [if_pos c9] at H
    have c9b0 : ((l1.length : Int) == 0) = true := beq_iff_eq.mpr c9
    have c9b1 : ((l1.length : Int) != 0) = false := bne_eq_false_iff_eq.mpr c9
    clear c9
    (first | rw [c9b0] | (simp only [i64_w, i32_w]; rw [c9b0]) | skip)
    have H' := Aside0.mk H
    clear H
    go_wp2
    go_meet
    case rel => exact ⟨_, (true), (by first | rfl | (simp; done) | (simp [*]; done)), H', ⟨by first | omega | exact Nat.le_refl _⟩, ⟨by repeat (first | (with_reducible first | exact HB.out | apply below_alloc | apply pw_below_drewN | apply below_drew1) | exact HB.out)⟩⟩
   ·rw [if_neg c9] at H
    have c9b0 : ((l1.length : Int) == 0) = false := beq_eq_false_iff_ne.mpr c9
    have c9b1 : ((l1.length : Int) != 0) = true := bne_iff_ne.mpr c9
    have c9b2 : ¬ (l1 = []) := fun h_ => c9 (by rw [h_]; rfl)
    (first | rw [c9b0] | (simp only [i64_w, i32_w]; rw [c9b0]) | skip)
    have H' := Aside0.mk H
    clear H
    go_wp2
    go_meet
    case rel => exact ⟨_, (decide ((l1.length : Int) > 64)), (by first | rfl | (simp; done) | (simp [*]; done)), H', ⟨by first | omega | exact Nat.le_refl _⟩, ⟨by repeat (first | (with_reducible first | exact HB.out | apply below_alloc | apply pw_below_drewN | apply below_drew1) | exact HB.out)⟩⟩
  case rest =>
   clear HC5
   try clear c1
   try clear p2
   try clear c4
   try clear c6
   try clear c9
   try clear c9b0
   try clear c9b1
   try clear c9b2
   obtain ⟨kq, x31_4, rfl, HA, HJ4, HB⟩ := hcut
   cases kq with
   | zero => exact absurd HA.out (by simp [money_Spread.j0])
   | succ kj4 =>
    have H := HA.out
    clear HA
    simp only [money_Spread.j0] at H
    by_cases c10 : x31_4 = true
    ·subst c10
     have H1 : (some (([] : List Int), 2)) = some (r1, r2) := by rw [if_pos rfl] at H; exact H
     clear H
     have H := H1
     clear H1
     simp only [Option.some.injEq, Prod.mk.injEq] at H
     obtain ⟨rfl, rfl⟩ := H
     go_wp2
     go_ret2
     exact ⟨_, by first | rfl | (simp [errW_none, errW_some] <;> rfl) | (simp [*, errW_none, errW_some] <;> rfl), by first | exact Kd.R_nil _ _ _ _ _ | exact Kd.N_nil _ _ _ _ _ | exact Kd.V_nil _ _ _ _ _ | exact Kd.Q_nil _ _ _ _ _ | exact Kd.S_nil _ _ _ _ _, by repeat (first | (with_reducible first | exact HB.out | apply below_alloc | apply pw_below_drewN | apply below_drew1) | exact HB.out)⟩
    ·replace c10 := Bool.eq_false_iff.mpr c10
     subst c10
     have H1 : (money_Spread.l0 kj4 a0 l1 0 l1 (l1.length : Int) 0) = some (r1, r2) := by rw [if_neg (show ¬ (false = true) by decide)] at H; exact H
     clear H
     have H := H1
     clear H1
     have H' := Aside0.mk H
     clear H
     go_wp2
     go_loopg [6, 34] kj4 (fun kq v6 v34 w' => ∃ (x6_2 : Int) (x34_2 : Int), v6 = .int .i64 x6_2 ∧ v34 = .int .i64 x34_2 ∧ Aside0 (money_Spread.l0 kq a0 l1 x6_2 l1 (l1.length : Int) x34_2 = some (r1, r2)) ∧ Aside0 (kq ≤ kj4) ∧ Aside0 (Below w.heap.size w w'))
     case atStart => exact ⟨(0), (0), (by first | rfl | (simp; done) | (simp [*]; done)), (by first | rfl | (simp; done) | (simp [*]; done)), H', ⟨Nat.le_refl _⟩, ⟨by repeat (first | (with_reducible first | exact HB.out | apply below_alloc | apply pw_below_drewN | apply below_drew1) | exact HB.out)⟩⟩
     case round =>
      clear H'
      try clear c1
      try clear p2
      try clear c4
      try clear c6
      try clear c9
      try clear c9b0
      try clear c9b1
      try clear c9b2
      try clear c10
      try clear p2
      obtain ⟨x6_2, x34_2, rfl, rfl, HA, HK2, HB⟩ := hrel
      cases gk with
      | zero => exact absurd HA.out (by simp [money_Spread.l0])
      | succ k2 =>
       have H := HA.out
       clear HA
       simp only [money_Spread.l0] at H
       by_cases c11 : x34_2 < (l1.length : Int)
       ·rw [if_pos c11] at H
        have c11b0 : decide (x34_2 < (l1.length : Int)) = true := decide_eq_true c11
        clear c11
        by_cases c12 : 0 ≤ x34_2
        ·rw [if_pos c12] at H
         have c12b0 : decide (0 ≤ x34_2) = true := decide_eq_true c12
         clear c12
         by_cases c13 : x34_2 < (l1.length : Int)
         ·rw [if_pos c13] at H
          have c13b0 : decide (x34_2 < (l1.length : Int)) = true := decide_eq_true c13
          clear c13
          by_cases c14 : (rd l1 x34_2) < 0
          ·rw [if_pos c14] at H
           have c14b0 : decide ((rd l1 x34_2) < 0) = true := decide_eq_true c14
           clear c14
           simp only [Option.some.injEq, Prod.mk.injEq] at H
           obtain ⟨rfl, rfl⟩ := H
           have p361 : 0 ≤ (x34_2 : Int) := of_decide_eq_true (by first | (with_reducible assumption) | assumption)
           have q361 : x34_2 < (l1.length : Int) := of_decide_eq_true (by first | (with_reducible assumption) | assumption)
           obtain ⟨ad361, e361, hx361_0⟩ := Kd.at_int HR1.out x34_2 p361 q361
           cases e361
           replace hx361_0 := (HB.out.cell (World.block_lt_of_cell? w _ hx361_0)).trans hx361_0
           replace p361 := eq_true p361
           replace q361 := eq_true q361
           go_wp2
           go_ret2
           exact ⟨_, by first | rfl | (simp [errW_none, errW_some] <;> rfl) | (simp [*, errW_none, errW_some] <;> rfl), by first | exact Kd.R_nil _ _ _ _ _ | exact Kd.N_nil _ _ _ _ _ | exact Kd.V_nil _ _ _ _ _ | exact Kd.Q_nil _ _ _ _ _ | exact Kd.S_nil _ _ _ _ _, by repeat (first | (with_reducible first | exact HB.out | apply below_alloc | apply pw_below_drewN | apply below_drew1) | exact HB.out)⟩
          ·rw [if_neg c14] at H
           have c14b0 : decide ((rd l1 x34_2) < 0) = false := decide_eq_false c14
           clear c14
           by_cases c15 : (rd l1 x34_2) > 1048576
           ·rw [if_pos c15] at H
            have c15b0 : decide (1048576 < (rd l1 x34_2)) = true := decide_eq_true c15
            clear c15
            simp only [Option.some.injEq, Prod.mk.injEq] at H
            obtain ⟨rfl, rfl⟩ := H
            have p361 : 0 ≤ (x34_2 : Int) := of_decide_eq_true (by first | (with_reducible assumption) | assumption)
            have q361 : x34_2 < (l1.length : Int) := of_decide_eq_true (by first | (with_reducible assumption) | assumption)
            obtain ⟨ad361, e361, hx361_0⟩ := Kd.at_int HR1.out x34_2 p361 q361
            cases e361
            replace hx361_0 := (HB.out.cell (World.block_lt_of_cell? w _ hx361_0)).trans hx361_0
            replace p361 := eq_true p361
            replace q361 := eq_true q361
            go_wp2
            go_ret2
            exact ⟨_, by first | rfl | (simp [errW_none, errW_some] <;> rfl) | (simp [*, errW_none, errW_some] <;> rfl), by first | exact Kd.R_nil _ _ _ _ _ | exact Kd.N_nil _ _ _ _ _ | exact Kd.V_nil _ _ _ _ _ | exact Kd.Q_nil _ _ _ _ _ | exact Kd.S_nil _ _ _ _ _, by repeat (first | (with_reducible first | exact HB.out | apply below_alloc | apply pw_below_drewN | apply below_drew1) | exact HB.out)⟩
           ·rw [if_neg c15] at H
            have c15b0 : decide (1048576 < (rd l1 x34_2)) = false := decide_eq_false c15
            clear c15
            have H' := Aside0.mk H
            clear H
            have p361 : 0 ≤ (x34_2 : Int) := of_decide_eq_true (by first | (with_reducible assumption) | assumption)
            have q361 : x34_2 < (l1.length : Int) := of_decide_eq_true (by first | (with_reducible assumption) | assumption)
            obtain ⟨ad361, e361, hx361_0⟩ := Kd.at_int HR1.out x34_2 p361 q361
            cases e361
            replace hx361_0 := (HB.out.cell (World.block_lt_of_cell? w _ hx361_0)).trans hx361_0
            replace p361 := eq_true p361
            replace q361 := eq_true q361
            go_wp2
            go_roundg k2
            case measure => have := HJ4.out; have := HK2.out; omega
            case rel => exact ⟨(wrap64 (x6_2 + (rd l1 x34_2))), (wrap64 (x34_2 + 1)), (by first | rfl | (simp; done) | (simp [*]; done)), (by first | rfl | (simp; done) | (simp [*]; done)), H', ⟨by have := HJ4.out; have := HK2.out; omega⟩, ⟨by repeat (first | (with_reducible first | exact HB.out | apply below_alloc | apply pw_below_drewN | apply below_drew1) | exact HB.out)⟩⟩
         ·rw [if_neg c13] at H
          exact absurd H (by simp)
        ·rw [if_neg c12] at H
         exact absurd H (by simp)
       ·rw [if_neg c11] at H
        have c11b0 : decide (x34_2 < (l1.length : Int)) = false := decide_eq_false c11
        clear c11
        by_cases c16 : x6_2 = 0
        ·rw [if_pos c16] at H
         have c16b0 : (x6_2 == 0) = true := beq_iff_eq.mpr c16
         have c16b1 : (x6_2 != 0) = false := bne_eq_false_iff_eq.mpr c16
         clear c16
         simp only [Option.some.injEq, Prod.mk.injEq] at H
         obtain ⟨rfl, rfl⟩ := H
         go_wp2
         go_ret2
         exact ⟨_, by first | rfl | (simp [errW_none, errW_some] <;> rfl) | (simp [*, errW_none, errW_some] <;> rfl), by first | exact Kd.R_nil _ _ _ _ _ | exact Kd.N_nil _ _ _ _ _ | exact Kd.V_nil _ _ _ _ _ | exact Kd.Q_nil _ _ _ _ _ | exact Kd.S_nil _ _ _ _ _, by repeat (first | (with_reducible first | exact HB.out | apply below_alloc | apply pw_below_drewN | apply below_drew1) | exact HB.out)⟩
        ·rw [if_neg c16] at H
         have c16b0 : (x6_2 == 0) = false := beq_eq_false_iff_ne.mpr c16
         have c16b1 : (x6_2 != 0) = true := bne_iff_ne.mpr c16
         replace H := Option.bind_eq_some_iff.mp H
         obtain ⟨t362, A170, H⟩ := H
         replace H : (if 0 ≤ (l1.length : Int) then (if ((l1.length : Int) : Int).toNat ≤ 35184372088832 then (money_Spread.l1 k2 a0 x6_2 t362 (List.replicate ((l1.length : Int) : Int).toNat 0) (List.replicate ((l1.length : Int) : Int).toNat 0) t362 l1 (l1.length : Int) 0) else (none)) else (none)) = some (r1, r2) := H
         have A17 := Aside0.mk A170
         clear A170
         by_cases c18 : 0 ≤ (l1.length : Int)
         ·rw [if_pos c18] at H
          have c18b0 := eq_true c18
          have c18b1 : decide (0 ≤ (l1.length : Int)) = true := decide_eq_true c18
          clear c18
          by_cases c19 : ((l1.length : Int) : Int).toNat ≤ 35184372088832
          ·rw [if_pos c19] at H
           have c19b0 := eq_true c19
           have c19b1 : decide (((l1.length : Int) : Int).toNat ≤ 35184372088832) = true := decide_eq_true c19
           clear c19
           obtain ⟨y363, hy363⟩ : ∃ y_ : List Int, y_ = (List.replicate ((l1.length : Int) : Int).toNat 0) := ⟨_, rfl⟩
           replace H : (money_Spread.l1 k2 a0 x6_2 t362 y363 (List.replicate ((l1.length : Int) : Int).toNat 0) t362 l1 (l1.length : Int) 0) = some (r1, r2) := by first | (rw [hy363]; with_reducible exact H) | (have H2_ := (Option.bind_some _ _).symm.trans H; rw [hy363]; with_reducible exact H2_) | (have H2_ := (Option.bind_some _ _).symm.trans H; with_reducible exact H2_) | with_reducible exact H | (rw [hy363]; exact H) | exact H
           have Ny363 := Aside0.mk hy363
           clear hy363
           obtain ⟨y366, hy366⟩ : ∃ y_ : List Int, y_ = (List.replicate ((l1.length : Int) : Int).toNat 0) := ⟨_, rfl⟩
           replace H : (money_Spread.l1 k2 a0 x6_2 t362 y363 y366 t362 l1 (l1.length : Int) 0) = some (r1, r2) := by first | (rw [hy366]; with_reducible exact H) | (have H2_ := (Option.bind_some _ _).symm.trans H; rw [hy366]; with_reducible exact H2_) | (have H2_ := (Option.bind_some _ _).symm.trans H; with_reducible exact H2_) | with_reducible exact H | (rw [hy366]; exact H) | exact H
           have Ny366 := Aside0.mk hy366
           clear hy366
           have H' := Aside0.mk H
           clear H
           try go_wp2_with (first | ((with_reducible refine gate_callee (f := 61) rfl ?_); refine goesL_ (some 51) rfl rfl Tryd.func61 (by kernel_rfl) rfl #[.int .i64 a0] rfl (by (try simp only [List.map_toArray, List.map_cons, List.map_nil]); first | done | rfl | (simp only [List.length_drop, List.length_take]; rfl)) ?_; (with_reducible refine (money_Abs.calls a0 t362 _ A17.out).mono ?_); rintro e w' ⟨rfl, ⟨nd, rfl⟩⟩; refine ⟨_, rfl, ?_⟩))
           (try (rw [drewN_self wr]; generalize hq_ : World.drewN wr _ = wr; have n0_ : Aside0 (Below w.heap.size w wr) := ⟨by rw [← hq_]; exact (by repeat (first | (with_reducible first | exact HB.out | apply below_alloc | apply pw_below_drewN | apply below_drew1) | exact HB.out))⟩; clear HB hq_; have HB := n0_; clear n0_))
           have n0_ := Aside0.mk (below_drew1 HB.out)
           clear HB
           have HB := n0_
           clear n0_
           refine start_ (n := 10) (S := fun w' => True) (ds := []) #[false, false, false, false, false, false, false, false, false, false] (by kernel_rfl) rfl rfl trivial (fun hHeld => ?_); refine with_tabW money_Spread.tab16 money_Spread.bits16 (fun HT_ HW_ => ?_)
           generalize wr.drew = w20 at HB hHeld ⊢
           refine pure_ (i := 0) (N := some 52) (v := ?_) (a' := ?_) #[true, false, false, false, false, false, false, false, false, false] rfl rfl (any_of HT_.out (by kernel_rfl)) (fun _ _ _ h => h) (Or.inl ⟨by rfl, ?_⟩) ?_ ?_
           rotate_left
           ·intro w'
            go_simp
            with_reducible rfl
           rotate_left
           ·simp only [Act.put, List.setIfInBounds_toArray, List.set_cons_zero, List.set_cons_succ, i64_w, i32_w]
            rfl
           refine pure_ (i := 1) (N := some 53) (v := ?_) (a' := ?_) #[true, true, false, false, false, false, false, false, false, false] rfl rfl (any_of HT_.out (by kernel_rfl)) (fun _ _ _ h => h) (Or.inl ⟨by rfl, ?_⟩) ?_ ?_
           rotate_left
           ·intro w'
            go_simp
            with_reducible rfl
           rotate_left
           ·simp only [Act.put, List.setIfInBounds_toArray, List.set_cons_zero, List.set_cons_succ, i64_w, i32_w]
            rfl
           refine pure_ (i := 3) (N := some 55) (v := ?_) (a' := ?_) #[true, true, false, true, false, false, false, false, false, false] rfl rfl (any_of HT_.out (by kernel_rfl)) (fun _ _ _ h => h) (Or.inl ⟨by rfl, ?_⟩) ?_ ?_
           rotate_left
           ·intro w'
            go_simp
            with_reducible rfl
           rotate_left
           ·simp only [Act.put, List.setIfInBounds_toArray, List.set_cons_zero, List.set_cons_succ, i64_w, i32_w]
            rfl
           refine pure_ (i := 4) (N := some 56) (v := ?_) (a' := ?_) #[true, true, false, true, true, false, false, false, false, false] rfl rfl (any_of HT_.out (by kernel_rfl)) (fun _ _ _ h => h) (Or.inl ⟨by rfl, ?_⟩) ?_ ?_
           rotate_left
           ·intro w'
            go_simp
            with_reducible rfl
           rotate_left
           ·simp only [Act.put, List.setIfInBounds_toArray, List.set_cons_zero, List.set_cons_succ, i64_w, i32_w]
            rfl
           refine pure_ (i := 6) (N := some 58) (v := ?_) (a' := ?_) #[true, true, false, true, true, false, true, false, false, false] rfl rfl (any_of HT_.out (by kernel_rfl)) (fun _ _ _ h => h) (Or.inl ⟨by rfl, ?_⟩) ?_ ?_
           rotate_left
           ·intro w'
            go_simp
            with_reducible rfl
           rotate_left
           ·simp only [Act.put, List.setIfInBounds_toArray, List.set_cons_zero, List.set_cons_succ, i64_w, i32_w]
            rfl
           refine join_ (σ := Value × Value) 2 #[true, true, true, true, true, true, true, true, false, false] (fun s_ => [(54, s_.1), (57, s_.2), (10, s_.1)]) (fun s_ w' => (Kd.R (Kd.int .i64) 2 w' w.heap.size (fun _ => True) s_.1 y363) ∧ (Kd.R (Kd.int .u64) 104 w' w.heap.size (fun _ => True) s_.2 y366) ∧ (Below w.heap.size w w')) ?_ ?_
           rotate_left
           ·intro hCont
            refine two_ (i := 2) (j := 5) (Ni := some 54) (Nj := some 57) #[true, true, true, true, true, false, true, false, false, false] #[true, true, false, true, true, true, true, false, false, false] rfl rfl rfl rfl (two_of HT_.out (by kernel_rfl)) (by decide) (by decide) (fun K hK => ?_) (fun K hK => ?_)
            ·skip
             refine Kd.R_make_step (Kd.int .i64) _ 2 (by rfl) (N := 54) rfl 56 _ _ rfl (l1.length : Int) rfl rfl Tryd.underlying56 (.int .i64 0) 8 info2 rfl (by decide) (by omega) 0 (ok := fun _ => True) (okp := fun _ => True) rfl (fun _ hk => hk) trivial (of_decide_eq_true (by first | (with_reducible assumption) | assumption)) (Nat.le_trans (Nat.mul_le_mul_right _ (of_decide_eq_true (by first | (with_reducible assumption) | assumption) : (l1.length : Int).toNat ≤ 35184372088832)) (by omega)) (Below.refl _ _) (Nat.le_refl _) ?_
             intro v364 w21 ho22 hb hg_ hnew_
             clear hg_ hnew_
             (first | rw [← Ny363.out] at ho22 | (simp only [Int.reduceToNat] at ho22; rw [← Ny363.out] at ho22))
             have n0_ := Aside0.mk (Kd.R_lower ho22 (below_size (by repeat (first | (with_reducible first | exact HB.out | apply below_alloc | apply pw_below_drewN | apply below_drew1) | exact HB.out))))
             have n1_ := Aside0.mk (below_step (by repeat (first | (with_reducible first | exact HB.out | apply below_alloc | apply pw_below_drewN | apply below_drew1) | exact HB.out)) hb)
             clear HB
             have HO365 := n0_
             have HB := n1_
             clear n0_ n1_
             clear hb ho22
             refine hK.out _ _ trivial (fun hHeld => ?_)
             clear hK K
             refine norm_ (a' := ?_) ?_ ?_
             rotate_left
             ·show Act.put _ (some 54) _ = _
              simp only [Act.put, List.setIfInBounds_toArray, List.set_cons_zero, List.set_cons_succ, i64_w, i32_w]
              rfl
             refine pure_ (i := 7) (N := some 10) (v := ?_) (a' := ?_) #[true, true, true, true, true, false, true, true, false, false] rfl rfl (any_of HT_.out (by kernel_rfl)) (fun _ _ _ h => h) (Or.inl ⟨by rfl, ?_⟩) ?_ ?_
             rotate_left
             ·intro w'
              go_simp
              with_reducible rfl
             rotate_left
             ·simp only [Act.put, List.setIfInBounds_toArray, List.set_cons_zero, List.set_cons_succ, i64_w, i32_w]
              rfl
             refine one_ (i := 5) (N := some 57) #[true, true, true, true, true, true, true, true, false, false] rfl rfl (one_of HT_.out (by kernel_rfl)) (by decide) (fun K hK => ?_)
             refine Kd.R_make_step (Kd.int .u64) _ 104 (by rfl) (N := 57) rfl 131 _ _ rfl (l1.length : Int) rfl rfl Tryd.underlying131 (.int .u64 0) 8 info104 rfl (by decide) (by omega) 0 (ok := fun _ => True) (okp := fun _ => True) rfl (fun _ hk => hk) trivial (of_decide_eq_true (by first | (with_reducible assumption) | assumption)) (Nat.le_trans (Nat.mul_le_mul_right _ (of_decide_eq_true (by first | (with_reducible assumption) | assumption) : (l1.length : Int).toNat ≤ 35184372088832)) (by omega)) (Below.refl _ _) (Nat.le_refl _) ?_
             intro v367 w23 ho24 hb hg_ hnew_
             clear hg_ hnew_
             (first | rw [← Ny366.out] at ho24 | (simp only [Int.reduceToNat] at ho24; rw [← Ny366.out] at ho24))
             have n0_ := Aside0.mk (Kd.R_below (by (with_reducible repeat (first | apply Kd.R_alloc | apply Kd.R_drewN | apply Kd.R_drew)); exact HO365.out) hb)
             have n1_ := Aside0.mk (Kd.R_lower ho24 (below_size (by repeat (first | (with_reducible first | exact HB.out | apply below_alloc | apply pw_below_drewN | apply below_drew1) | exact HB.out))))
             have n2_ := Aside0.mk (below_step (by repeat (first | (with_reducible first | exact HB.out | apply below_alloc | apply pw_below_drewN | apply below_drew1) | exact HB.out)) hb)
             clear HO365
             clear HB
             have HO365 := n0_
             have HO368 := n1_
             have HB := n2_
             clear n0_ n1_ n2_
             clear hb ho24
             refine hK.out _ _ trivial (fun hHeld => ?_)
             clear hK K
             refine norm_ (a' := ?_) ?_ ?_
             rotate_left
             ·show Act.put _ (some 57) _ = _
              simp only [Act.put, List.setIfInBounds_toArray, List.set_cons_zero, List.set_cons_succ, i64_w, i32_w]
              rfl
             exact norm_ (by simp only [putAll, Act.put, List.setIfInBounds_toArray, List.set_cons_zero, List.set_cons_succ]) (hCont (v364, v367) _ ⟨(by (with_reducible repeat (first | apply Kd.R_alloc | apply Kd.R_drewN | apply Kd.R_drew)); exact HO365.out), (by (with_reducible repeat (first | apply Kd.R_alloc | apply Kd.R_drewN | apply Kd.R_drew)); exact HO368.out), (by repeat (first | (with_reducible first | exact HB.out | apply below_alloc | apply pw_below_drewN | apply below_drew1) | exact HB.out))⟩)
            ·skip
             refine Kd.R_make_step (Kd.int .u64) _ 104 (by rfl) (N := 57) rfl 131 _ _ rfl (l1.length : Int) rfl rfl Tryd.underlying131 (.int .u64 0) 8 info104 rfl (by decide) (by omega) 0 (ok := fun _ => True) (okp := fun _ => True) rfl (fun _ hk => hk) trivial (of_decide_eq_true (by first | (with_reducible assumption) | assumption)) (Nat.le_trans (Nat.mul_le_mul_right _ (of_decide_eq_true (by first | (with_reducible assumption) | assumption) : (l1.length : Int).toNat ≤ 35184372088832)) (by omega)) (Below.refl _ _) (Nat.le_refl _) ?_
             intro v367 w21 ho22 hb hg_ hnew_
             clear hg_ hnew_
             (first | rw [← Ny366.out] at ho22 | (simp only [Int.reduceToNat] at ho22; rw [← Ny366.out] at ho22))
             have n0_ := Aside0.mk (Kd.R_lower ho22 (below_size (by repeat (first | (with_reducible first | exact HB.out | apply below_alloc | apply pw_below_drewN | apply below_drew1) | exact HB.out))))
             have n1_ := Aside0.mk (below_step (by repeat (first | (with_reducible first | exact HB.out | apply below_alloc | apply pw_below_drewN | apply below_drew1) | exact HB.out)) hb)
             clear HB
             have HO368 := n0_
             have HB := n1_
             clear n0_ n1_
             clear hb ho22
             refine hK.out _ _ trivial (fun hHeld => ?_)
             clear hK K
             refine norm_ (a' := ?_) ?_ ?_
             rotate_left
             ·show Act.put _ (some 57) _ = _
              simp only [Act.put, List.setIfInBounds_toArray, List.set_cons_zero, List.set_cons_succ, i64_w, i32_w]
              rfl
             refine one_ (i := 2) (N := some 54) #[true, true, true, true, true, true, true, false, false, false] rfl rfl (one_of HT_.out (by kernel_rfl)) (by decide) (fun K hK => ?_)
             refine Kd.R_make_step (Kd.int .i64) _ 2 (by rfl) (N := 54) rfl 56 _ _ rfl (l1.length : Int) rfl rfl Tryd.underlying56 (.int .i64 0) 8 info2 rfl (by decide) (by omega) 0 (ok := fun _ => True) (okp := fun _ => True) rfl (fun _ hk => hk) trivial (of_decide_eq_true (by first | (with_reducible assumption) | assumption)) (Nat.le_trans (Nat.mul_le_mul_right _ (of_decide_eq_true (by first | (with_reducible assumption) | assumption) : (l1.length : Int).toNat ≤ 35184372088832)) (by omega)) (Below.refl _ _) (Nat.le_refl _) ?_
             intro v364 w23 ho24 hb hg_ hnew_
             clear hg_ hnew_
             (first | rw [← Ny363.out] at ho24 | (simp only [Int.reduceToNat] at ho24; rw [← Ny363.out] at ho24))
             have n0_ := Aside0.mk (Kd.R_below (by (with_reducible repeat (first | apply Kd.R_alloc | apply Kd.R_drewN | apply Kd.R_drew)); exact HO368.out) hb)
             have n1_ := Aside0.mk (Kd.R_lower ho24 (below_size (by repeat (first | (with_reducible first | exact HB.out | apply below_alloc | apply pw_below_drewN | apply below_drew1) | exact HB.out))))
             have n2_ := Aside0.mk (below_step (by repeat (first | (with_reducible first | exact HB.out | apply below_alloc | apply pw_below_drewN | apply below_drew1) | exact HB.out)) hb)
             clear HO368
             clear HB
             have HO368 := n0_
             have HO365 := n1_
             have HB := n2_
             clear n0_ n1_ n2_
             clear hb ho24
             refine hK.out _ _ trivial (fun hHeld => ?_)
             clear hK K
             refine norm_ (a' := ?_) ?_ ?_
             rotate_left
             ·show Act.put _ (some 54) _ = _
              simp only [Act.put, List.setIfInBounds_toArray, List.set_cons_zero, List.set_cons_succ, i64_w, i32_w]
              rfl
             refine pure_ (i := 7) (N := some 10) (v := ?_) (a' := ?_) #[true, true, true, true, true, true, true, true, false, false] rfl rfl (any_of HT_.out (by kernel_rfl)) (fun _ _ _ h => h) (Or.inl ⟨by rfl, ?_⟩) ?_ ?_
             rotate_left
             ·intro w'
              go_simp
              with_reducible rfl
             rotate_left
             ·simp only [Act.put, List.setIfInBounds_toArray, List.set_cons_zero, List.set_cons_succ, i64_w, i32_w]
              rfl
             exact norm_ (by simp only [putAll, Act.put, List.setIfInBounds_toArray, List.set_cons_zero, List.set_cons_succ]) (hCont (v364, v367) _ ⟨(by (with_reducible repeat (first | apply Kd.R_alloc | apply Kd.R_drewN | apply Kd.R_drew)); exact HO365.out), (by (with_reducible repeat (first | apply Kd.R_alloc | apply Kd.R_drewN | apply Kd.R_drew)); exact HO368.out), (by repeat (first | (with_reducible first | exact HB.out | apply below_alloc | apply pw_below_drewN | apply below_drew1) | exact HB.out))⟩)
           rintro ⟨v364, v367⟩ w25 ⟨h0_, h1_, h2_⟩
           have n0_ : Aside0 (Kd.R (Kd.int .i64) 2 w25 w.heap.size (fun _ => True) v364 y363) := ⟨h0_⟩
           have n1_ : Aside0 (Kd.R (Kd.int .u64) 104 w25 w.heap.size (fun _ => True) v367 y366) := ⟨h1_⟩
           have n2_ : Aside0 (Below w.heap.size w w25) := ⟨h2_⟩
           clear HB
           clear h0_ h1_ h2_
           have HO365 := n0_
           have HO368 := n1_
           have HB := n2_
           clear n0_ n1_ n2_
           have hHeld := trivial
           refine norm_ (a' := ?_) ?_ ?_
           rotate_left
           ·simp only [putAll, Act.put, List.setIfInBounds_toArray, List.set_cons_zero, List.set_cons_succ]
            rfl
           refine pure_ (i := 8) (N := some 11) (v := ?_) (a' := ?_) #[true, true, true, true, true, true, true, true, true, false] rfl rfl (any_of HT_.out (by kernel_rfl)) (fun _ _ _ h => h) (Or.inl ⟨by rfl, ?_⟩) ?_ ?_
           rotate_left
           ·intro w'
            go_simp
            with_reducible rfl
           rotate_left
           ·simp only [Act.put, List.setIfInBounds_toArray, List.set_cons_zero, List.set_cons_succ, i64_w, i32_w]
            rfl
           refine pure_ (i := 9) (N := some 12) (v := ?_) (a' := ?_) #[true, true, true, true, true, true, true, true, true, true] rfl rfl (any_of HT_.out (by kernel_rfl)) (fun _ _ _ h => h) (Or.inl ⟨by rfl, ?_⟩) ?_ ?_
           rotate_left
           ·intro w'
            go_simp
            with_reducible rfl
           rotate_left
           ·simp only [Act.put, List.setIfInBounds_toArray, List.set_cons_zero, List.set_cons_succ, i64_w, i32_w]
            rfl
           refine done_ (done_of HT_.out (by kernel_rfl)) ?_
           try go_wp2
           go_loopg [12, 61] k2 (fun kq v12 v61 w' => ∃ (x10_3 : List Int) (x11_3 : List Int) (x12_3 : Int) (x61_3 : Int), v12 = .int .u64 x12_3 ∧ v61 = .int .i64 x61_3 ∧ Aside0 (money_Spread.l1 kq a0 x6_2 t362 x10_3 x11_3 x12_3 l1 (l1.length : Int) x61_3 = some (r1, r2)) ∧ Aside0 (kq ≤ k2) ∧ Aside0 (Kd.R (Kd.int .i64) 2 w' w.heap.size (fun _ => True) v364 x10_3) ∧ Aside0 (Kd.R (Kd.int .u64) 104 w' w.heap.size (fun _ => True) v367 x11_3) ∧ Aside0 (Below w.heap.size w w'))
           case atStart => exact ⟨(y363), (y366), (t362), (0), (by first | rfl | (simp; done) | (simp [*]; done)), (by first | rfl | (simp; done) | (simp [*]; done)), H', ⟨Nat.le_refl _⟩, ⟨by (with_reducible repeat (first | apply Kd.R_alloc | apply Kd.R_drewN | apply Kd.R_drew)); exact HO365.out⟩, ⟨by (with_reducible repeat (first | apply Kd.R_alloc | apply Kd.R_drewN | apply Kd.R_drew)); exact HO368.out⟩, ⟨by repeat (first | (with_reducible first | exact HB.out | apply below_alloc | apply pw_below_drewN | apply below_drew1) | exact HB.out)⟩⟩
           case round =>
            clear H'
            try clear c1
            try clear p2
            try clear p3
            try clear q3
            try clear hx3
            try clear c4
            try clear c6
            try clear p6
            try clear c9
            try clear c9b0
            try clear c9b1
            try clear c9b2
            try clear c10
            try clear c11
            try clear c11b0
            try clear c12
            try clear c12b0
            try clear c13
            try clear c13b0
            try clear c14
            try clear c14b0
            try clear c15
            try clear c15b0
            try clear c16
            try clear c16b0
            try clear c16b1
            try clear c18
            try clear c18b0
            try clear c18b1
            try clear c19
            try clear c19b0
            try clear c19b1
            try clear hx361_0
            try clear p2
            try clear p361
            try clear q361
            obtain ⟨x10_3, x11_3, x12_3, x61_3, rfl, rfl, HA, HK3, HO_10, HO_11, HB⟩ := hrel
            cases gk with
            | zero => exact absurd HA.out (by simp [money_Spread.l1])
            | succ k3 =>
             have H := HA.out
             clear HA
             simp only [money_Spread.l1] at H
             by_cases c26 : x61_3 < (l1.length : Int)
             ·rw [if_pos c26] at H
              have c26b0 : decide (x61_3 < (l1.length : Int)) = true := decide_eq_true c26
              clear c26
              by_cases c27 : 0 ≤ x61_3
              ·rw [if_pos c27] at H
               have c27b0 : decide (0 ≤ x61_3) = true := decide_eq_true c27
               clear c27
               by_cases c28 : x61_3 < (l1.length : Int)
               ·rw [if_pos c28] at H
                have c28b0 : decide (x61_3 < (l1.length : Int)) = true := decide_eq_true c28
                clear c28
                replace H := Option.bind_eq_some_iff.mp H
                obtain ⟨⟨t370, t371⟩, A290, H⟩ := H
                replace H : ((bits_Div64.f t370 t371 (IntKind.u64.wrap (x6_2))).bind fun bt372 => (if x61_3 < (x10_3.length : Int) then (if x61_3 < (x11_3.length : Int) then (money_Spread.l1 k3 a0 x6_2 t362 (x10_3.set (x61_3 : Int).toNat (wrap64 (bt372.1))) (x11_3.set (x61_3 : Int).toNat bt372.2) (IntKind.u64.wrap (x12_3 - bt372.1)) l1 (l1.length : Int) (wrap64 (x61_3 + 1))) else (none)) else (none))) = some (r1, r2) := H
                have A29 := Aside0.mk A290
                clear A290
                replace H := Option.bind_eq_some_iff.mp H
                obtain ⟨⟨t372, t373⟩, A300, H⟩ := H
                replace H : (if x61_3 < (x10_3.length : Int) then (if x61_3 < (x11_3.length : Int) then (money_Spread.l1 k3 a0 x6_2 t362 (x10_3.set (x61_3 : Int).toNat (wrap64 (t372))) (x11_3.set (x61_3 : Int).toNat t373) (IntKind.u64.wrap (x12_3 - t372)) l1 (l1.length : Int) (wrap64 (x61_3 + 1))) else (none)) else (none)) = some (r1, r2) := H
                have A30 := Aside0.mk A300
                clear A300
                by_cases c31 : x61_3 < (x10_3.length : Int)
                ·rw [if_pos c31] at H
                 have c31b0 : decide (x61_3 < (x10_3.length : Int)) = true := decide_eq_true c31
                 clear c31
                 obtain ⟨y374, hy374⟩ : ∃ y_ : List Int, y_ = (x10_3.set (x61_3 : Int).toNat (wrap64 (t372))) := ⟨_, rfl⟩
                 replace H : (if x61_3 < (x11_3.length : Int) then (money_Spread.l1 k3 a0 x6_2 t362 y374 (x11_3.set (x61_3 : Int).toNat t373) (IntKind.u64.wrap (x12_3 - t372)) l1 (l1.length : Int) (wrap64 (x61_3 + 1))) else (none)) = some (r1, r2) := by first | (rw [hy374]; with_reducible exact H) | (have H2_ := (Option.bind_some _ _).symm.trans H; rw [hy374]; with_reducible exact H2_) | (have H2_ := (Option.bind_some _ _).symm.trans H; with_reducible exact H2_) | with_reducible exact H | (rw [hy374]; exact H) | exact H
                 have Ny374 := Aside0.mk hy374
                 clear hy374
                 by_cases c33 : x61_3 < (x11_3.length : Int)
                 ·rw [if_pos c33] at H
                  have c33b0 : decide (x61_3 < (x11_3.length : Int)) = true := decide_eq_true c33
                  clear c33
                  obtain ⟨y375, hy375⟩ : ∃ y_ : List Int, y_ = (x11_3.set (x61_3 : Int).toNat t373) := ⟨_, rfl⟩
                  replace H : (money_Spread.l1 k3 a0 x6_2 t362 y374 y375 (IntKind.u64.wrap (x12_3 - t372)) l1 (l1.length : Int) (wrap64 (x61_3 + 1))) = some (r1, r2) := by first | (rw [hy375]; with_reducible exact H) | (have H2_ := (Option.bind_some _ _).symm.trans H; rw [hy375]; with_reducible exact H2_) | (have H2_ := (Option.bind_some _ _).symm.trans H; with_reducible exact H2_) | with_reducible exact H | (rw [hy375]; exact H) | exact H
                  have Ny375 := Aside0.mk hy375
                  clear hy375
                  have H' := Aside0.mk H
                  clear H
                  have p369 : 0 ≤ (x61_3 : Int) := of_decide_eq_true (by first | (with_reducible assumption) | assumption)
                  have q369 : x61_3 < (l1.length : Int) := of_decide_eq_true (by first | (with_reducible assumption) | assumption)
                  obtain ⟨ad369, e369, hx369_0⟩ := Kd.at_int HR1.out x61_3 p369 q369
                  cases e369
                  replace hx369_0 := (HB.out.cell (World.block_lt_of_cell? w _ hx369_0)).trans hx369_0
                  replace p369 := eq_true p369
                  replace q369 := eq_true q369
                  go_wp2_with (first | ((with_reducible refine gate_callee (f := 83) rfl ?_); refine goesL_ (some 70) rfl rfl Tryd.func83 (by kernel_rfl) rfl #[.int .u64 t362, .int .u64 (IntKind.u64.wrap (rd l1 x61_3))] rfl (by (try simp only [List.map_toArray, List.map_cons, List.map_nil]); first | done | rfl | (simp only [List.length_drop, List.length_take]; rfl)) ?_; (with_reducible refine (bits_Mul64.calls t362 (IntKind.u64.wrap (rd l1 x61_3)) t370 t371 _ A29.out).mono ?_); rintro e w' ⟨rfl, ⟨nd, rfl⟩⟩; refine ⟨_, rfl, ?_⟩; (try (rw [drewN_self wr]; generalize hq_ : World.drewN wr _ = wr; have n0_ : Aside0 (Kd.R (Kd.int .i64) 2 wr w.heap.size (fun _ => True) v364 x10_3) := ⟨by rw [← hq_]; exact (by (with_reducible repeat (first | apply Kd.R_alloc | apply Kd.R_drewN | apply Kd.R_drew)); exact HO_10.out)⟩; have n1_ : Aside0 (Kd.R (Kd.int .u64) 104 wr w.heap.size (fun _ => True) v367 x11_3) := ⟨by rw [← hq_]; exact (by (with_reducible repeat (first | apply Kd.R_alloc | apply Kd.R_drewN | apply Kd.R_drew)); exact HO_11.out)⟩; have n2_ : Aside0 (Below w.heap.size w wr) := ⟨by rw [← hq_]; exact (by repeat (first | (with_reducible first | exact HB.out | apply below_alloc | apply pw_below_drewN | apply below_drew1) | exact HB.out))⟩; clear HO_10 HO_11 HB hq_; have HO_10 := n0_; have HO_11 := n1_; have HB := n2_; clear n0_ n1_ n2_))) | ((with_reducible refine gate_callee (f := 84) rfl ?_); refine goesL_ (some 78) rfl rfl Tryd.func84 (by kernel_rfl) rfl #[.int .u64 t370, .int .u64 t371, .int .u64 (IntKind.u64.wrap (x6_2))] rfl (by (try simp only [List.map_toArray, List.map_cons, List.map_nil]); first | done | rfl | (simp only [List.length_drop, List.length_take]; rfl)) ?_; (with_reducible refine (bits_Div64.calls t370 t371 (IntKind.u64.wrap (x6_2)) t372 t373 _ A30.out).mono ?_); rintro e w' ⟨rfl, ⟨nd, rfl⟩⟩; refine ⟨_, rfl, ?_⟩; (try (rw [drewN_self wr]; generalize hq_ : World.drewN wr _ = wr; have n0_ : Aside0 (Kd.R (Kd.int .i64) 2 wr w.heap.size (fun _ => True) v364 x10_3) := ⟨by rw [← hq_]; exact (by (with_reducible repeat (first | apply Kd.R_alloc | apply Kd.R_drewN | apply Kd.R_drew)); exact HO_10.out)⟩; have n1_ : Aside0 (Kd.R (Kd.int .u64) 104 wr w.heap.size (fun _ => True) v367 x11_3) := ⟨by rw [← hq_]; exact (by (with_reducible repeat (first | apply Kd.R_alloc | apply Kd.R_drewN | apply Kd.R_drew)); exact HO_11.out)⟩; have n2_ : Aside0 (Below w.heap.size w wr) := ⟨by rw [← hq_]; exact (by repeat (first | (with_reducible first | exact HB.out | apply below_alloc | apply pw_below_drewN | apply below_drew1) | exact HB.out))⟩; clear HO_10 HO_11 HB hq_; have HO_10 := n0_; have HO_11 := n1_; have HB := n2_; clear n0_ n1_ n2_)); have p32 : 0 ≤ (x61_3 : Int) := of_decide_eq_true (by first | (with_reducible assumption) | assumption); have q32 : (x61_3 : Int) < ((x10_3.length : Int) : Int) := of_decide_eq_true (by first | (with_reducible assumption) | assumption); obtain ⟨go32, co32, eo32, gb32, gl32, cl32, HG32⟩ := Kd.R_form HO_10.out (by omega); (first | cases eo32 | (injection eo32 with ea_ en_ ec_; (first | subst ea_ | (injection ea_ with ea_; subst ea_)); subst ec_; clear en_)); have GB32 := Aside0.mk gb32; have GG32 := Aside0.mk HG32; clear gb32 gl32 HG32; obtain ⟨hx32_0, hf32_0⟩ := Kd.R_celln 0 HO_10.out (x61_3 : Int) p32 q32; replace p32 := eq_true p32; replace q32 := eq_true q32; obtain ⟨hy35_, hz35_⟩ := Kd.R_celln 0 HO_10.out (x61_3 : Int) (of_decide_eq_true (by first | (with_reducible assumption) | assumption)) (of_decide_eq_true (by first | (with_reducible assumption) | assumption)); have HP35 := Kd.R_putg HO_10.out (x61_3 : Int) (wrap64 (t372))) | ((with_reducible refine gate_store (t := 2) (p := 88) rfl ?_); refine store_event (t := 2) (p := 88) (v := ?vo_w36) (w1 := (wr.setCell ⟨go32, (x61_3 : Int).toNat, none⟩ (.int .i64 (wrap64 (t372))))) ?hg ?ho ?hn ?hr ?_; (case ho => rfl); (case hg => rfl); (case hn => rfl); (case hr => first | (go_simp; done) | (go_simp; rfl)); intro w36 hw; have hg : wr.grownBy w36 (some go32) := (by rw [hw]; exact HP35.2); have hp_ : Kd.R (Kd.int .i64) 2 w36 w.heap.size (fun _ => True) (.slice (some ⟨go32, 0, none⟩) x10_3.length co32) y374 := (by rw [hw, Ny374.out]; exact HP35.1); clear HP35; have n0_ := Aside0.mk (hp_); have n1_ := Aside0.mk (Kd.R_over' (v := (.slice (some ⟨go32, 0, none⟩) x10_3.length co32)) (by (with_reducible repeat (first | apply Kd.R_alloc | apply Kd.R_drewN | apply Kd.R_drew)); exact HO_11.out) (Kd.R_typed HO_10.out) (by decide) hg); have n2_ := Aside0.mk ((by rw [hw]; exact below_set (HB.out) GB32.out : Below w.heap.size w w36)); clear HO_10; clear HO_11; clear HB; have HO_10 := n0_; have HO_11 := n1_; have HB := n2_; clear n0_ n1_ n2_; clear hg hw hp_; have p34 : 0 ≤ (x61_3 : Int) := of_decide_eq_true (by first | (with_reducible assumption) | assumption); have q34 : (x61_3 : Int) < ((x11_3.length : Int) : Int) := of_decide_eq_true (by first | (with_reducible assumption) | assumption); obtain ⟨go34, co34, eo34, gb34, gl34, cl34, HG34⟩ := Kd.R_form HO_11.out (by omega); (first | cases eo34 | (injection eo34 with ea_ en_ ec_; (first | subst ea_ | (injection ea_ with ea_; subst ea_)); subst ec_; clear en_)); have GB34 := Aside0.mk gb34; have GG34 := Aside0.mk HG34; clear gb34 gl34 HG34; obtain ⟨hx34_0, hf34_0⟩ := Kd.R_celln 0 HO_11.out (x61_3 : Int) p34 q34; replace p34 := eq_true p34; replace q34 := eq_true q34; obtain ⟨hy37_, hz37_⟩ := Kd.R_celln 0 HO_11.out (x61_3 : Int) (of_decide_eq_true (by first | (with_reducible assumption) | assumption)) (of_decide_eq_true (by first | (with_reducible assumption) | assumption)); have HP37 := Kd.R_putg HO_11.out (x61_3 : Int) t373) | ((with_reducible refine gate_store (t := 104) (p := 89) rfl ?_); refine store_event (t := 104) (p := 89) (v := ?vo_w38) (w1 := (w36.setCell ⟨go34, (x61_3 : Int).toNat, none⟩ (.int .u64 t373))) ?hg ?ho ?hn ?hr ?_; (case ho => rfl); (case hg => rfl); (case hn => rfl); (case hr => first | (go_simp; done) | (go_simp; rfl)); intro w38 hw; have hg : w36.grownBy w38 (some go34) := (by rw [hw]; exact HP37.2); have hp_ : Kd.R (Kd.int .u64) 104 w38 w.heap.size (fun _ => True) (.slice (some ⟨go34, 0, none⟩) x11_3.length co34) y375 := (by rw [hw, Ny375.out]; exact HP37.1); clear HP37; have n0_ := Aside0.mk (Kd.R_over' (v := (.slice (some ⟨go34, 0, none⟩) x11_3.length co34)) (by (with_reducible repeat (first | apply Kd.R_alloc | apply Kd.R_drewN | apply Kd.R_drew)); exact HO_10.out) (Kd.R_typed HO_11.out) (by decide) hg); have n1_ := Aside0.mk (hp_); have n2_ := Aside0.mk ((by rw [hw]; exact below_set (HB.out) GB34.out : Below w.heap.size w w38)); clear HO_10; clear HO_11; clear HB; have HO_10 := n0_; have HO_11 := n1_; have HB := n2_; clear n0_ n1_ n2_; clear hg hw hp_))
                  go_roundg k3
                  case measure => have := HJ4.out; have := HK2.out; have := HK3.out; omega
                  case rel => exact ⟨(y374), (y375), (IntKind.u64.wrap (x12_3 - t372)), (wrap64 (x61_3 + 1)), (by first | rfl | (simp; done) | (simp [*]; done)), (by first | rfl | (simp; done) | (simp [*]; done)), H', ⟨by have := HJ4.out; have := HK2.out; have := HK3.out; omega⟩, ⟨by (with_reducible repeat (first | apply Kd.R_alloc | apply Kd.R_drewN | apply Kd.R_drew)); exact HO_10.out⟩, ⟨by (with_reducible repeat (first | apply Kd.R_alloc | apply Kd.R_drewN | apply Kd.R_drew)); exact HO_11.out⟩, ⟨by repeat (first | (with_reducible first | exact HB.out | apply below_alloc | apply pw_below_drewN | apply below_drew1) | exact HB.out)⟩⟩
                 ·rw [if_neg c33] at H
                  exact absurd H (by simp)
                ·rw [if_neg c31] at H
                 exact absurd H (by simp)
               ·rw [if_neg c28] at H
                exact absurd H (by simp)
              ·rw [if_neg c27] at H
               exact absurd H (by simp)
             ·rw [if_neg c26] at H
              have c26b0 : decide (x61_3 < (l1.length : Int)) = false := decide_eq_false c26
              clear c26
              replace H := Option.bind_eq_some_iff.mp H
              obtain ⟨t376, A390, H⟩ := H
              replace H : (if a0 < 0 then (money_Spread.l2 k3 t376 (x10_3.length : Int) 0) else (some (t376, 0))) = some (r1, r2) := H
              have A39 := Aside0.mk A390
              clear A390
              by_cases c40 : a0 < 0
              ·rw [if_pos c40] at H
               have c40b0 : decide (a0 < 0) = true := decide_eq_true c40
               clear c40
               have H' := Aside0.mk H
               clear H
               obtain ⟨Ao41, co41, eo41⟩ := Kd.R_slice HO_10.out
               subst eo41
               obtain ⟨Ao42, co42, eo42⟩ := Kd.R_slice HO_11.out
               subst eo42
               go_wp2_with (first | ((with_reducible refine gate_callee (f := 85) rfl ?_); refine goesL_ (some 97) rfl rfl Tryd.func85 (by kernel_rfl) rfl #[.slice Ao41 x10_3.length co41, .slice Ao42 x11_3.length co42, .int .u64 x12_3] rfl (by (try simp only [List.map_toArray, List.map_cons, List.map_nil]); first | done | rfl | (simp only [List.length_drop, List.length_take]; rfl)) ?_; (with_reducible refine (money_give.calls (fun k_ => some k_ = (.slice Ao41 x10_3.length co41 : Value).ownBlock) (.slice Ao41 x10_3.length co41) x10_3 _ _ x11_3 x12_3 t376 w _ ?side1 ?side2 ?side3 ?side4 A39.out).mono ?_); (case side1 => repeat (first | (with_reducible first | exact HB.out | apply below_alloc | apply pw_below_drewN | apply below_drew1) | exact HB.out)); (case side2 => exact Kd.R_tight rfl HO_10.out); (case side3 => exact Kd.C_kept_own ((Kd.R_apart' HO_11.out (Kd.R_typed HO_10.out) (by decide))) (fun k_ hk_ hs_ => (hk_.2) hs_)); (case side4 => exact (Kd.R_reads' HO_11.out).2.1); rintro e w43 ⟨rfl, hy0, hb, hkp⟩; refine ⟨_, rfl, ?_⟩; have n0_ := Aside0.mk (Kd.R_reok rfl hy0 (fun k_ e_ => HO_10.out.1 k_ e_)); have n1_ := Aside0.mk (Kd.R_mono (ok' := fun k_ => True) (Kd.R_keptB ((Kd.R_apart' HO_11.out (Kd.R_typed HO_10.out) (by decide))) hkp (fun k_ hk_ hs_ => (hk_.2) hs_)) (fun k_ hk_ => trivial)); have n2_ := Aside0.mk (hb); clear HO_10; clear HO_11; clear HB; have HO_10 := n0_; have HO_11 := n1_; have HB := n2_; clear n0_ n1_ n2_; (try clear hb); (try clear hkp); (try clear hy0)))
               go_loopg [102] k3 (fun kq v102 w' => ∃ (x10_4 : List Int) (x102_4 : Int), v102 = .int .i64 x102_4 ∧ Aside0 (money_Spread.l2 kq x10_4 (x10_3.length : Int) x102_4 = some (r1, r2)) ∧ Aside0 (kq ≤ k3) ∧ Aside0 (Kd.R (Kd.int .i64) 2 w' w.heap.size (fun _ => True) (.slice Ao41 x10_3.length co41) x10_4) ∧ Aside0 (Below w.heap.size w w'))
               case atStart => exact ⟨(t376), (0), (by first | rfl | (simp; done) | (simp [*]; done)), H', ⟨Nat.le_refl _⟩, ⟨by (with_reducible repeat (first | apply Kd.R_alloc | apply Kd.R_drewN | apply Kd.R_drew)); exact HO_10.out⟩, ⟨by repeat (first | (with_reducible first | exact HB.out | apply below_alloc | apply pw_below_drewN | apply below_drew1) | exact HB.out)⟩⟩
               case round =>
                clear H'
                try clear c1
                try clear c2
                try clear p2
                try clear c3
                try clear p3
                try clear q3
                try clear hx3
                try clear hf3
                try clear c4
                try clear c6
                try clear p6
                try clear c8
                try clear c9
                try clear c9b0
                try clear c9b1
                try clear c9b2
                try clear c10
                try clear c11
                try clear c11b0
                try clear c12
                try clear c12b0
                try clear c13
                try clear c13b0
                try clear c14
                try clear c14b0
                try clear c15
                try clear c15b0
                try clear c16
                try clear c16b0
                try clear c16b1
                try clear c18
                try clear c18b0
                try clear c18b1
                try clear c19
                try clear c19b0
                try clear c19b1
                try clear c26
                try clear c26b0
                try clear c27
                try clear c27b0
                try clear c28
                try clear c28b0
                try clear c31
                try clear c31b0
                try clear p32
                try clear q32
                try clear hx32
                try clear hf32
                try clear c33
                try clear c33b0
                try clear p34
                try clear q34
                try clear hx34
                try clear hf34
                try clear p36
                try clear q36
                try clear hx36
                try clear c40
                try clear c40b0
                try clear c41
                try clear hx32_0
                try clear hx34_0
                try clear hx361_0
                try clear hx369_0
                try clear p2
                try clear p3
                try clear p32
                try clear p34
                try clear p361
                try clear p369
                try clear p6
                try clear q3
                try clear q32
                try clear q34
                try clear q361
                try clear q369
                obtain ⟨x10_4, x102_4, rfl, HA, HK4, HO_10, HB⟩ := hrel
                have hl10_4 := (Kd.R_reads' HO_10.out).1
                rw [hl10_4] at HO_10
                (try simp only [hl10_4])
                cases gk with
                | zero => exact absurd HA.out (by simp [money_Spread.l2])
                | succ k4 =>
                 have H := HA.out
                 clear HA
                 simp only [money_Spread.l2] at H
                 by_cases c44 : x102_4 < (x10_3.length : Int)
                 ·rw [if_pos c44] at H
                  have c44b0 : decide (x102_4 < (x10_3.length : Int)) = true := decide_eq_true c44
                  clear c44
                  by_cases c45 : 0 ≤ x102_4
                  ·rw [if_pos c45] at H
                   have c45b0 : decide (0 ≤ x102_4) = true := decide_eq_true c45
                   clear c45
                   by_cases c46 : x102_4 < (x10_4.length : Int)
                   ·rw [if_pos c46] at H
                    have c46b0 : decide (x102_4 < (x10_4.length : Int)) = true := decide_eq_true c46
                    clear c46
                    obtain ⟨y378, hy378⟩ : ∃ y_ : List Int, y_ = (x10_4.set (x102_4 : Int).toNat (wrap64 (-(rd x10_4 x102_4)))) := ⟨_, rfl⟩
                    replace H : (money_Spread.l2 k4 y378 (x10_3.length : Int) (wrap64 (x102_4 + 1))) = some (r1, r2) := by first | (rw [hy378]; with_reducible exact H) | (have H2_ := (Option.bind_some _ _).symm.trans H; rw [hy378]; with_reducible exact H2_) | (have H2_ := (Option.bind_some _ _).symm.trans H; with_reducible exact H2_) | with_reducible exact H | (rw [hy378]; exact H) | exact H
                    have Ny378 := Aside0.mk hy378
                    clear hy378
                    have H' := Aside0.mk H
                    clear H
                    have p377 : 0 ≤ (x102_4 : Int) := of_decide_eq_true (by first | (with_reducible assumption) | assumption)
                    have q377 : x102_4 < (x10_4.length : Int) := of_decide_eq_true (by first | (with_reducible assumption) | assumption)
                    obtain ⟨ad377, e377, hx377_0⟩ := Kd.at_int (Kd.R_reads' HO_10.out).2.2 x102_4 p377 q377
                    cases e377
                    replace p377 := eq_true p377
                    replace q377 := eq_true q377
                    have p47 : 0 ≤ (x102_4 : Int) := of_decide_eq_true (by first | (with_reducible assumption) | assumption)
                    have q47 : (x102_4 : Int) < ((x10_4.length : Int) : Int) := of_decide_eq_true (by first | (with_reducible assumption) | assumption)
                    obtain ⟨go47, co47, eo47, gb47, gl47, cl47, HG47⟩ := Kd.R_form HO_10.out (by omega)
                    (first | cases eo47 | (injection eo47 with ea_ en_ ec_; (first | subst ea_ | (injection ea_ with ea_; subst ea_)); subst ec_; clear en_))
                    have GB47 := Aside0.mk gb47
                    have GG47 := Aside0.mk HG47
                    clear gb47 gl47 HG47
                    (first | simp only [add_plain] at hx377_0 | skip)
                    obtain ⟨hx47_0, hf47_0⟩ := Kd.R_celln 0 HO_10.out (x102_4 : Int) p47 q47
                    replace p47 := eq_true p47
                    replace q47 := eq_true q47
                    have HP48 := Kd.R_putg HO_10.out (x102_4 : Int) (wrap64 (-(rd x10_4 x102_4)))
                    go_wp2_with (first | ((with_reducible refine gate_store (t := 2) (p := 112) rfl ?_); refine store_event (t := 2) (p := 112) (v := ?vo_w49) (w1 := (wr.setCell ⟨go47, (x102_4 : Int).toNat, none⟩ (.int .i64 (wrap64 (-(rd x10_4 x102_4)))))) ?hg ?ho ?hn ?hr ?_; (case ho => rfl); (case hg => rfl); (case hn => rfl); (case hr => first | (go_simp; done) | (go_simp; rfl)); intro w49 hw; have hg : wr.grownBy w49 (some go47) := (by rw [hw]; exact HP48.2); have hp_ : Kd.R (Kd.int .i64) 2 w49 w.heap.size (fun _ => True) (.slice (some ⟨go47, 0, none⟩) x10_4.length co41) y378 := (by rw [hw, Ny378.out]; exact HP48.1); clear HP48; have n0_ := Aside0.mk (hp_); have n1_ := Aside0.mk ((by rw [hw]; exact below_set (HB.out) GB47.out : Below w.heap.size w w49)); clear HO_10; clear HB; have HO_10 := n0_; have HB := n1_; clear n0_ n1_; clear hg hw hp_))
                    (try simp only [← hl10_4])
                    go_roundg k4
                    case measure => have := HJ4.out; have := HK2.out; have := HK3.out; have := HK4.out; omega
                    case rel => exact ⟨(y378), (wrap64 (x102_4 + 1)), (by first | rfl | (simp; done) | (simp [*]; done)), H', ⟨by have := HJ4.out; have := HK2.out; have := HK3.out; have := HK4.out; omega⟩, ⟨by (try simp only [hl10_4]); (with_reducible repeat (first | apply Kd.R_alloc | apply Kd.R_drewN | apply Kd.R_drew)); exact HO_10.out⟩, ⟨by repeat (first | (with_reducible first | exact HB.out | apply below_alloc | apply pw_below_drewN | apply below_drew1) | exact HB.out)⟩⟩
                   ·rw [if_neg c46] at H
                    exact absurd H (by simp)
                  ·rw [if_neg c45] at H
                   exact absurd H (by simp)
                 ·rw [if_neg c44] at H
                  have c44b0 : decide (x102_4 < (x10_3.length : Int)) = false := decide_eq_false c44
                  rw [hl10_4] at c44b0
                  clear c44
                  simp only [Option.some.injEq, Prod.mk.injEq] at H
                  obtain ⟨rfl, rfl⟩ := H
                  go_wp2
                  go_ret2
                  exact ⟨_, by first | rfl | (simp [errW_none, errW_some] <;> rfl) | (simp [*, errW_none, errW_some] <;> rfl), by (with_reducible repeat (first | apply Kd.R_alloc | apply Kd.R_drewN | apply Kd.R_drew)); exact HO_10.out, by repeat (first | (with_reducible first | exact HB.out | apply below_alloc | apply pw_below_drewN | apply below_drew1) | exact HB.out)⟩
              ·rw [if_neg c40] at H
               have c40b0 : decide (a0 < 0) = false := decide_eq_false c40
               clear c40
               simp only [Option.some.injEq, Prod.mk.injEq] at H
               obtain ⟨rfl, rfl⟩ := H
               obtain ⟨Ao50, co50, eo50⟩ := Kd.R_slice HO_10.out
               subst eo50
               obtain ⟨Ao51, co51, eo51⟩ := Kd.R_slice HO_11.out
               subst eo51
               go_wp2_with (first | ((with_reducible refine gate_callee (f := 85) rfl ?_); refine goesL_ (some 97) rfl rfl Tryd.func85 (by kernel_rfl) rfl #[.slice Ao50 x10_3.length co50, .slice Ao51 x11_3.length co51, .int .u64 x12_3] rfl (by (try simp only [List.map_toArray, List.map_cons, List.map_nil]); first | done | rfl | (simp only [List.length_drop, List.length_take]; rfl)) ?_; (with_reducible refine (money_give.calls (fun k_ => some k_ = (.slice Ao50 x10_3.length co50 : Value).ownBlock) (.slice Ao50 x10_3.length co50) x10_3 _ _ x11_3 x12_3 t376 w _ ?side1 ?side2 ?side3 ?side4 A39.out).mono ?_); (case side1 => repeat (first | (with_reducible first | exact HB.out | apply below_alloc | apply pw_below_drewN | apply below_drew1) | exact HB.out)); (case side2 => exact Kd.R_tight rfl HO_10.out); (case side3 => exact Kd.C_kept_own ((Kd.R_apart' HO_11.out (Kd.R_typed HO_10.out) (by decide))) (fun k_ hk_ hs_ => (hk_.2) hs_)); (case side4 => exact (Kd.R_reads' HO_11.out).2.1); rintro e w52 ⟨rfl, hy0, hb, hkp⟩; refine ⟨_, rfl, ?_⟩; have n0_ := Aside0.mk (Kd.R_reok rfl hy0 (fun k_ e_ => HO_10.out.1 k_ e_)); have n1_ := Aside0.mk (Kd.R_mono (ok' := fun k_ => True) (Kd.R_keptB ((Kd.R_apart' HO_11.out (Kd.R_typed HO_10.out) (by decide))) hkp (fun k_ hk_ hs_ => (hk_.2) hs_)) (fun k_ hk_ => trivial)); have n2_ := Aside0.mk (hb); clear HO_10; clear HO_11; clear HB; have HO_10 := n0_; have HO_11 := n1_; have HB := n2_; clear n0_ n1_ n2_; (try clear hb); (try clear hkp); (try clear hy0)))
               go_ret2
               exact ⟨_, by first | rfl | (simp [errW_none, errW_some] <;> rfl) | (simp [*, errW_none, errW_some] <;> rfl), by (with_reducible repeat (first | apply Kd.R_alloc | apply Kd.R_drewN | apply Kd.R_drew)); exact HO_10.out, by repeat (first | (with_reducible first | exact HB.out | apply below_alloc | apply pw_below_drewN | apply below_drew1) | exact HB.out)⟩
          ·rw [if_neg c19] at H
           exact absurd H (by simp)
         ·rw [if_neg c18] at H
          exact absurd H (by simp)
 ·replace c4 := Bool.eq_false_iff.mpr c4
  subst c4
  have H1 : (some (([] : List Int), 10)) = some (r1, r2) := by rw [if_neg (show ¬ (false = true) by decide)] at H; exact H
  clear H
  have H := H1
  clear H1
  simp only [Option.some.injEq, Prod.mk.injEq] at H
  obtain ⟨rfl, rfl⟩ := H
  go_enter Tryd.func41, Tryd.ntmps41
  go_wp2_with (first | ((with_reducible refine gate_dst (N := 21) rfl ?_); (try (refine gate_guard (by rfl) ?_; dsimp only)); refine Kd.R_lit (Kd.int .i64) _ 2 ?hg (N := 21) ?hd (xs := ([a0] : List Int)) (inner := [.int .i64 a0]) (ok := fun _ => True) (okp := fun _ => True) ?hr ?hp (fun _ hk => hk) trivial (Below.refl _ _) (Nat.le_refl _) (by simp) ?_; (case hd => rfl); (case hg => rfl); (case hr => first | (go_simp; done) | (go_simp; rfl)); (case hp => exact (Reps.one (show Kd.M (Kd.int .i64) _ _ _ a0 [.int .i64 a0] from rfl) (Reps.none _ _))); intro v358 w53 ho54 hb hg_ hnew_; clear hg_ hnew_; (first | rw [← Ny357.out] at ho54 | (simp only [Int.reduceToNat] at ho54; rw [← Ny357.out] at ho54)); have n0_ := Aside0.mk (Kd.R_lower ho54 (below_size (by repeat (first | (with_reducible first | exact HB.out | apply below_alloc | apply pw_below_drewN | apply below_drew1) | exact HB.out)))); have n1_ := Aside0.mk (below_step (by repeat (first | (with_reducible first | exact HB.out | apply below_alloc | apply pw_below_drewN | apply below_drew1) | exact HB.out)) hb); clear HB; have HO359 := n0_; have HB := n1_; clear n0_ n1_; clear hb ho54; obtain ⟨Ao55, co55, eo55⟩ := Kd.R_slice HO359.out; subst eo55) | ((with_reducible refine gate_callee (f := 65) rfl ?_); refine goesL_ (some 22) rfl rfl Tryd.func65 (by kernel_rfl) rfl #[.slice Ao55 y357.length co55] rfl (by (try simp only [List.map_toArray, List.map_cons, List.map_nil]); first | done | rfl | (simp only [List.length_drop, List.length_take]; rfl)) ?_; (with_reducible refine (money_Right.calls k _ _ y357 false _ ?side1 ?side2 A3.out).mono ?_); (case side1 => repeat (first | exact (Kd.R_reads' HO359.out).2.2 | (with_reducible refine Kd.C_alloc ?_ _) | (with_reducible refine Kd.C_drewN ?_ _) | (with_reducible refine Kd.C_drew ?_))); (case side2 => exact (Kd.R_reads' HO359.out).2.1); rintro e w' ⟨rfl, ⟨nd, rfl⟩⟩; refine ⟨_, rfl, ?_⟩))
  go_ret2
  exact ⟨_, by first | rfl | (simp [errW_none, errW_some] <;> rfl) | (simp [*, errW_none, errW_some] <;> rfl), by first | exact Kd.R_nil _ _ _ _ _ | exact Kd.N_nil _ _ _ _ _ | exact Kd.V_nil _ _ _ _ _ | exact Kd.Q_nil _ _ _ _ _ | exact Kd.S_nil _ _ _ _ _, by repeat (first | (with_reducible first | exact HB.out | apply below_alloc | apply pw_below_drewN | apply below_drew1) | exact HB.out)⟩

end Go.Proofs.YtmocphafkimdpaaDoor.P
