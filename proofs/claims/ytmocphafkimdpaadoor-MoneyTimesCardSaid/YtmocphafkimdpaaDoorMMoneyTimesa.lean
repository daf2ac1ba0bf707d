/- A part of the proof of MoneyTimes's card: 'MoneyTimes' answers true for every input (the conditions: those of the given statement alone). Merged by a program (wip/merge.py) out of: Pf68, Pf69, Pf19, HMoneyTimes. -/
import Derived.Test.YtmocphafkimdpaaDoorBMoneya
import Derived.Test.YtmocphafkimdpaaDoorBMoneyj
import Derived.Test.YtmocphafkimdpaaDoorBMoneyi

-- written by a program (a patched copy of the kit's print: wip/mkprint.py); Lean checks it
namespace Go.Proofs.YtmocphafkimdpaaDoor.P
open Go.RowKit Go.Proofs.YtmocphafkimdpaaDoorW.PrintWords Go.Proofs.YtmocphafkimdpaaDoorW.PrintLast Go.Proofs.YtmocphafkimdpaaDoorW.PrintMore
attribute [local go_sem] max2_int min2_int max_two min_two max_three min_three max_four min_four   -- for this text's walks alone
set_option linter.unusedVariables false
set_option linter.unusedSimpArgs false

/-! ### money_Times: function 68 -/
def money_Times.j0 : Nat → Int → Int → Int → Bool → Option (Int × Int)
 | 0, _, _, _, _ => none
 | k + 1, x0, x1, x7, x25 => if x25 = true then (some (0, 10)) else (if ((decide (x0 < 0)) != (decide (x1 < 0))) = true then (some (wrap64 (-(wrap64 (x7))), 0)) else (some (wrap64 (x7), 0)))
def money_Times.f (k : Nat) (a0 : Int) (a1 : Int) : Option (Int × Int) := (money_Right.f k (([a0] : List Int))).bind fun t648 => (if t648 = true then ((money_Abs.f a0).bind fun t649 => ((money_Abs.f a1).bind fun t650 => ((bits_Mul64.f t649 t650).bind fun bt651 => (if bt651.1 > 0 then (money_Times.j0 k a0 a1 bt651.2 true) else (money_Times.j0 k a0 a1 bt651.2 (decide (bt651.2 > 100000000000))))))) else (some (0, 10)))
theorem money_Times.mono_l : ∀ k, (∀ y0 y1 y2 y3, LeO (money_Times.j0 k y0 y1 y2 y3) (money_Times.j0 (k + 1) y0 y1 y2 y3))
 | 0 => fun _ _ _ _ r h => by simp [money_Times.j0] at h
 | k + 1 => by
  have ih0 := money_Times.mono_l k
  ·intro y0 y1 y2 y3
   unfold money_Times.j0
   repeat' first
   | (with_reducible exact ih0 _ _ _ _)
   | (with_reducible exact money_Right.mono _ _)
   | (with_reducible exact LeO.refl _)
   | (with_reducible exact LeO.none _)
   | (with_reducible refine LeO.ite ?_ ?_)
   | (with_reducible refine LeO.bind ?_ (fun _ => ?_))
   | exact ih0 _ _ _ _
   | exact money_Right.mono _ _
   | exact LeO.none _
   | refine LeO.ite ?_ ?_
   | refine LeO.bind ?_ (fun _ => ?_)
theorem money_Times.mono : ∀ a0 a1 k, LeO (money_Times.f k a0 a1) (money_Times.f (k + 1) a0 a1) := by
 intro a0 a1 k
 have ih0 := money_Times.mono_l k
 unfold money_Times.f
 repeat' first
   | (with_reducible exact ih0 _ _ _ _)
   | (with_reducible exact money_Right.mono _ _)
   | (with_reducible exact LeO.refl _)
   | (with_reducible exact LeO.none _)
   | (with_reducible refine LeO.ite ?_ ?_)
   | (with_reducible refine LeO.bind ?_ (fun _ => ?_))
   | exact ih0 _ _ _ _
   | exact money_Right.mono _ _
   | exact LeO.none _
   | refine LeO.ite ?_ ?_
   | refine LeO.bind ?_ (fun _ => ?_)
set_option maxHeartbeats 8000000 in
set_option maxRecDepth 100000 in
theorem money_Times.calls (k : Nat) (a0 : Int) (a1 : Int) (r1 : Int) (r2 : Int) (w : World) (h : money_Times.f k a0 a1 = some (r1, r2)) :
  Calls Tryd.prog 68 #[.int .i64 a0, .int .i64 a1] w fun e w' => e = .returned (.tuple #[.int .i64 r1, .int .i64 r2]) ∧ Below w.heap.size w w' := by
 have HB := Aside0.mk (Below.refl w.heap.size w)
 have H : ((money_Right.f k (([a0] : List Int))).bind fun t648 => (if t648 = true then ((money_Abs.f a0).bind fun t649 => ((money_Abs.f a1).bind fun t650 => ((bits_Mul64.f t649 t650).bind fun bt651 => (if bt651.1 > 0 then (money_Times.j0 k a0 a1 bt651.2 true) else (money_Times.j0 k a0 a1 bt651.2 (decide (bt651.2 > 100000000000))))))) else (some (0, 10)))) = some (r1, r2) := h
 clear h
 obtain ⟨y645, hy645⟩ : ∃ y_ : List Int, y_ = (([a0] : List Int)) := ⟨_, rfl⟩
 replace H : ((money_Right.f k y645).bind fun t648 => (if t648 = true then ((money_Abs.f a0).bind fun t649 => ((money_Abs.f a1).bind fun t650 => ((bits_Mul64.f t649 t650).bind fun bt651 => (if bt651.1 > 0 then (money_Times.j0 k a0 a1 bt651.2 true) else (money_Times.j0 k a0 a1 bt651.2 (decide (bt651.2 > 100000000000))))))) else (some (0, 10)))) = some (r1, r2) := by first | (rw [hy645]; with_reducible exact H) | (have H2_ := (Option.bind_some _ _).symm.trans H; rw [hy645]; with_reducible exact H2_) | (have H2_ := (Option.bind_some _ _).symm.trans H; with_reducible exact H2_) | with_reducible exact H | (rw [hy645]; exact H) | exact H
 have Ny645 := Aside0.mk hy645
 clear hy645
 replace H := Option.bind_eq_some_iff.mp H
 obtain ⟨t648, A30, H⟩ := H
 replace H : (if t648 = true then ((money_Abs.f a0).bind fun t649 => ((money_Abs.f a1).bind fun t650 => ((bits_Mul64.f t649 t650).bind fun bt651 => (if bt651.1 > 0 then (money_Times.j0 k a0 a1 bt651.2 true) else (money_Times.j0 k a0 a1 bt651.2 (decide (bt651.2 > 100000000000))))))) else (some (0, 10))) = some (r1, r2) := H
 have A3 := Aside0.mk A30
 clear A30
 by_cases c4 : t648 = true
 ·subst c4
  have H1 : ((money_Abs.f a0).bind fun t649 => ((money_Abs.f a1).bind fun t650 => ((bits_Mul64.f t649 t650).bind fun bt651 => (if bt651.1 > 0 then (money_Times.j0 k a0 a1 bt651.2 true) else (money_Times.j0 k a0 a1 bt651.2 (decide (bt651.2 > 100000000000))))))) = some (r1, r2) := by rw [if_pos rfl] at H; exact H
  clear H
  have H := H1
  clear H1
  replace H := Option.bind_eq_some_iff.mp H
  obtain ⟨t649, A50, H⟩ := H
  replace H : ((money_Abs.f a1).bind fun t650 => ((bits_Mul64.f t649 t650).bind fun bt651 => (if bt651.1 > 0 then (money_Times.j0 k a0 a1 bt651.2 true) else (money_Times.j0 k a0 a1 bt651.2 (decide (bt651.2 > 100000000000)))))) = some (r1, r2) := H
  have A5 := Aside0.mk A50
  clear A50
  replace H := Option.bind_eq_some_iff.mp H
  obtain ⟨t650, A60, H⟩ := H
  replace H : ((bits_Mul64.f t649 t650).bind fun bt651 => (if bt651.1 > 0 then (money_Times.j0 k a0 a1 bt651.2 true) else (money_Times.j0 k a0 a1 bt651.2 (decide (bt651.2 > 100000000000))))) = some (r1, r2) := H
  have A6 := Aside0.mk A60
  clear A60
  replace H := Option.bind_eq_some_iff.mp H
  obtain ⟨⟨t651, t652⟩, A70, H⟩ := H
  replace H : (if t651 > 0 then (money_Times.j0 k a0 a1 t652 true) else (money_Times.j0 k a0 a1 t652 (decide (t652 > 100000000000)))) = some (r1, r2) := H
  have A7 := Aside0.mk A70
  clear A70
  have HC8 := Aside0.mk H
  clear H
  go_enter Tryd.func68, Tryd.ntmps68
  go_upto_region 4 with (first | ((with_reducible refine gate_dst (N := 9) rfl ?_); refine Kd.R_lit (Kd.int .i64) _ 2 ?hg (N := 9) ?hd (xs := ([a0] : List Int)) (inner := [.int .i64 a0]) (ok := fun _ => True) (okp := fun _ => True) ?hr ?hp (fun _ hk => hk) trivial (Below.refl _ _) (Nat.le_refl _) (by simp) ?_; (case hd => rfl); (case hg => rfl); (case hr => first | (go_simp; done) | (go_simp; rfl)); (case hp => exact (Reps.one (show Kd.M (Kd.int .i64) _ _ _ a0 [.int .i64 a0] from rfl) (Reps.none _ _))); intro v646 w9 ho10 hb hg_ hnew_; clear hg_ hnew_; (first | rw [← Ny645.out] at ho10 | (simp only [Int.reduceToNat] at ho10; rw [← Ny645.out] at ho10)); have n0_ := Aside0.mk (Kd.R_lower ho10 (below_size (by repeat (first | (with_reducible first | exact HB.out | apply below_alloc | apply pw_below_drewN | apply below_drew1) | exact HB.out)))); have n1_ := Aside0.mk (below_step (by repeat (first | (with_reducible first | exact HB.out | apply below_alloc | apply pw_below_drewN | apply below_drew1) | exact HB.out)) hb); clear HB; have HO647 := n0_; have HB := n1_; clear n0_ n1_; clear hb ho10; obtain ⟨Ao11, co11, eo11⟩ := Kd.R_slice HO647.out; subst eo11) | ((with_reducible refine gate_callee (f := 65) rfl ?_); refine goesL_ (some 10) rfl rfl Tryd.func65 (by kernel_rfl) rfl #[.slice Ao11 y645.length co11] rfl (by (try simp only [List.map_toArray, List.map_cons, List.map_nil]); first | done | rfl | (simp only [List.length_drop, List.length_take]; rfl)) ?_; (with_reducible refine (money_Right.calls k _ _ y645 true _ ?side1 ?side2 A3.out).mono ?_); (case side1 => repeat (first | exact (Kd.R_reads' HO647.out).2.2 | (with_reducible refine Kd.C_alloc ?_ _) | (with_reducible refine Kd.C_drewN ?_ _) | (with_reducible refine Kd.C_drew ?_))); (case side2 => exact (Kd.R_reads' HO647.out).2.1); rintro e w' ⟨rfl, ⟨nd, rfl⟩⟩; refine ⟨_, rfl, ?_⟩) | ((with_reducible refine gate_callee (f := 61) rfl ?_); refine goesL_ (some 14) rfl rfl Tryd.func61 (by kernel_rfl) rfl #[.int .i64 a0] rfl (by (try simp only [List.map_toArray, List.map_cons, List.map_nil]); first | done | rfl | (simp only [List.length_drop, List.length_take]; rfl)) ?_; (with_reducible refine (money_Abs.calls a0 t649 _ A5.out).mono ?_); rintro e w' ⟨rfl, ⟨nd, rfl⟩⟩; refine ⟨_, rfl, ?_⟩) | ((with_reducible refine gate_callee (f := 61) rfl ?_); refine goesL_ (some 16) rfl rfl Tryd.func61 (by kernel_rfl) rfl #[.int .i64 a1] rfl (by (try simp only [List.map_toArray, List.map_cons, List.map_nil]); first | done | rfl | (simp only [List.length_drop, List.length_take]; rfl)) ?_; (with_reducible refine (money_Abs.calls a1 t650 _ A6.out).mono ?_); rintro e w' ⟨rfl, ⟨nd, rfl⟩⟩; refine ⟨_, rfl, ?_⟩) | ((with_reducible refine gate_callee (f := 83) rfl ?_); refine goesL_ (some 17) rfl rfl Tryd.func83 (by kernel_rfl) rfl #[.int .u64 t649, .int .u64 t650] rfl (by (try simp only [List.map_toArray, List.map_cons, List.map_nil]); first | done | rfl | (simp only [List.length_drop, List.length_take]; rfl)) ?_; (with_reducible refine (bits_Mul64.calls t649 t650 t651 t652 _ A7.out).mono ?_); rintro e w' ⟨rfl, ⟨nd, rfl⟩⟩; refine ⟨_, rfl, ?_⟩))
  (try simp only [Act.put, List.setIfInBounds_toArray, List.set_cons_zero, List.set_cons_succ])
  go_cut [25] (fun v25 wc => ∃ (kq : Nat) (x25_7 : Bool), v25 = .bool x25_7 ∧ Aside0 (money_Times.j0 kq a0 a1 t652 x25_7 = some (r1, r2)) ∧ Aside0 (kq ≤ k) ∧ Aside0 (Below w.heap.size w wc))
  case first =>
   have H := HC8.out
   clear HC8
   by_cases c12 : t651 > 0
   ·rw [if_pos c12] at H
    have c12b0 : decide (0 < t651) = true := decide_eq_true c12
    clear c12
    (first | rw [c12b0] | (simp only [i64_w, i32_w]; rw [c12b0]) | skip)
    have H' := Aside0.mk H
    clear H
    go_wp2
    go_meet
    case rel => exact ⟨_, (true), (by first | rfl | (simp; done) | (simp [*]; done)), H', ⟨by first | omega | exact Nat.le_refl _⟩, ⟨by repeat (first | (with_reducible first | exact HB.out | apply below_alloc | apply pw_below_drewN | apply below_drew1) | exact HB.out)⟩⟩
   ·rw [if_neg c12] at H
    have c12b0 : decide (0 < t651) = false := decide_eq_false c12
    clear c12
    (first | rw [c12b0] | (simp only [i64_w, i32_w]; rw [c12b0]) | skip)
    have H' := Aside0.mk H
    clear H
    go_wp2
    go_meet
    case rel => exact ⟨_, (decide (t652 > 100000000000)), (by first | rfl | (simp; done) | (simp [*]; done)), H', ⟨by first | omega | exact Nat.le_refl _⟩, ⟨by repeat (first | (with_reducible first | exact HB.out | apply below_alloc | apply pw_below_drewN | apply below_drew1) | exact HB.out)⟩⟩
  case rest =>
   clear HC8
   try clear c1
   try clear p2
   try clear c4
   try clear c6
   try clear c8
   try clear c12
   try clear c12b0
   obtain ⟨kq, x25_7, rfl, HA, HJ7, HB⟩ := hcut
   cases kq with
   | zero => exact absurd HA.out (by simp [money_Times.j0])
   | succ kj7 =>
    have H := HA.out
    clear HA
    simp only [money_Times.j0] at H
    by_cases c13 : x25_7 = true
    ·subst c13
     have H1 : (some (0, 10)) = some (r1, r2) := by rw [if_pos rfl] at H; exact H
     clear H
     have H := H1
     clear H1
     simp only [Option.some.injEq, Prod.mk.injEq] at H
     obtain ⟨rfl, rfl⟩ := H
     go_wp2
     go_ret2
     exact ⟨by first | rfl | (simp [errW_none, errW_some] <;> rfl) | (simp [*, errW_none, errW_some] <;> rfl), by repeat (first | (with_reducible first | exact HB.out | apply below_alloc | apply pw_below_drewN | apply below_drew1) | exact HB.out)⟩
    ·replace c13 := Bool.eq_false_iff.mpr c13
     subst c13
     have H1 : (if ((decide (a0 < 0)) != (decide (a1 < 0))) = true then (some (wrap64 (-(wrap64 (t652))), 0)) else (some (wrap64 (t652), 0))) = some (r1, r2) := by rw [if_neg (show ¬ (false = true) by decide)] at H; exact H
     clear H
     have H := H1
     clear H1
     by_cases c14 : ((decide (a0 < 0)) != (decide (a1 < 0))) = true
     ·rw [if_pos c14] at H
      have c14b0 : ((decide (a0 < 0)) != (decide (a1 < 0))) = true := c14
      (try (have c14b1 : decide ((decide (a0 < 0)) = (decide (a1 < 0))) = false := by simpa using c14))
      (try (have c14b2 : ((decide (a0 < 0)) == (decide (a1 < 0))) = false := by simpa using c14))
      (try (have c14b3 : ¬ ((decide (a0 < 0)) = (decide (a1 < 0))) := by simpa using c14))
      clear c14
      simp only [Option.some.injEq, Prod.mk.injEq] at H
      obtain ⟨rfl, rfl⟩ := H
      go_wp2
      go_ret2
      exact ⟨by first | rfl | (simp [errW_none, errW_some] <;> rfl) | (simp [*, errW_none, errW_some] <;> rfl), by repeat (first | (with_reducible first | exact HB.out | apply below_alloc | apply pw_below_drewN | apply below_drew1) | exact HB.out)⟩
     ·rw [if_neg c14] at H
      have c14b0 : ((decide (a0 < 0)) != (decide (a1 < 0))) = false := by simpa using c14
      (try (have c14b1 : decide ((decide (a0 < 0)) = (decide (a1 < 0))) = true := by simpa using c14))
      (try (have c14b2 : ((decide (a0 < 0)) == (decide (a1 < 0))) = true := by simpa using c14))
      clear c14
      simp only [Option.some.injEq, Prod.mk.injEq] at H
      obtain ⟨rfl, rfl⟩ := H
      go_wp2
      go_ret2
      exact ⟨by first | rfl | (simp [errW_none, errW_some] <;> rfl) | (simp [*, errW_none, errW_some] <;> rfl), by repeat (first | (with_reducible first | exact HB.out | apply below_alloc | apply pw_below_drewN | apply below_drew1) | exact HB.out)⟩
 ·replace c4 := Bool.eq_false_iff.mpr c4
  subst c4
  have H1 : (some (0, 10)) = some (r1, r2) := by rw [if_neg (show ¬ (false = true) by decide)] at H; exact H
  clear H
  have H := H1
  clear H1
  simp only [Option.some.injEq, Prod.mk.injEq] at H
  obtain ⟨rfl, rfl⟩ := H
  go_enter Tryd.func68, Tryd.ntmps68
  go_wp2_with (first | ((with_reducible refine gate_dst (N := 9) rfl ?_); refine Kd.R_lit (Kd.int .i64) _ 2 ?hg (N := 9) ?hd (xs := ([a0] : List Int)) (inner := [.int .i64 a0]) (ok := fun _ => True) (okp := fun _ => True) ?hr ?hp (fun _ hk => hk) trivial (Below.refl _ _) (Nat.le_refl _) (by simp) ?_; (case hd => rfl); (case hg => rfl); (case hr => first | (go_simp; done) | (go_simp; rfl)); (case hp => exact (Reps.one (show Kd.M (Kd.int .i64) _ _ _ a0 [.int .i64 a0] from rfl) (Reps.none _ _))); intro v646 w15 ho16 hb hg_ hnew_; clear hg_ hnew_; (first | rw [← Ny645.out] at ho16 | (simp only [Int.reduceToNat] at ho16; rw [← Ny645.out] at ho16)); have n0_ := Aside0.mk (Kd.R_lower ho16 (below_size (by repeat (first | (with_reducible first | exact HB.out | apply below_alloc | apply pw_below_drewN | apply below_drew1) | exact HB.out)))); have n1_ := Aside0.mk (below_step (by repeat (first | (with_reducible first | exact HB.out | apply below_alloc | apply pw_below_drewN | apply below_drew1) | exact HB.out)) hb); clear HB; have HO647 := n0_; have HB := n1_; clear n0_ n1_; clear hb ho16; obtain ⟨Ao17, co17, eo17⟩ := Kd.R_slice HO647.out; subst eo17) | ((with_reducible refine gate_callee (f := 65) rfl ?_); refine goesL_ (some 10) rfl rfl Tryd.func65 (by kernel_rfl) rfl #[.slice Ao17 y645.length co17] rfl (by (try simp only [List.map_toArray, List.map_cons, List.map_nil]); first | done | rfl | (simp only [List.length_drop, List.length_take]; rfl)) ?_; (with_reducible refine (money_Right.calls k _ _ y645 false _ ?side1 ?side2 A3.out).mono ?_); (case side1 => repeat (first | exact (Kd.R_reads' HO647.out).2.2 | (with_reducible refine Kd.C_alloc ?_ _) | (with_reducible refine Kd.C_drewN ?_ _) | (with_reducible refine Kd.C_drew ?_))); (case side2 => exact (Kd.R_reads' HO647.out).2.1); rintro e w' ⟨rfl, ⟨nd, rfl⟩⟩; refine ⟨_, rfl, ?_⟩))
  go_ret2
  exact ⟨by first | rfl | (simp [errW_none, errW_some] <;> rfl) | (simp [*, errW_none, errW_some] <;> rfl), by repeat (first | (with_reducible first | exact HB.out | apply below_alloc | apply pw_below_drewN | apply below_drew1) | exact HB.out)⟩

end Go.Proofs.YtmocphafkimdpaaDoor.P


-- written by a program (a patched copy of the kit's print: wip/mkprint.py); Lean checks it
namespace Go.Proofs.YtmocphafkimdpaaDoor.P
open Go.RowKit Go.Proofs.YtmocphafkimdpaaDoorW.PrintWords Go.Proofs.YtmocphafkimdpaaDoorW.PrintLast Go.Proofs.YtmocphafkimdpaaDoorW.PrintMore
attribute [local go_sem] max2_int min2_int max_two min_two max_three min_three max_four min_four   -- for this text's walks alone
set_option linter.unusedVariables false
set_option linter.unusedSimpArgs false

/-! ### stipendref01_Times: function 69 -/
mutual
def stipendref01_Times.j0 : Nat → Int → Int → Bool → Option (Int × Int)
 | 0, _, _, _ => none
 | k + 1, x0, x1, x16 => if x16 = true then (some (0, 0)) else (if x1 > 100000000000 then (stipendref01_Times.j1 k x0 x1 true) else (stipendref01_Times.j1 k x0 x1 (decide (x1 < (-100000000000)))))
def stipendref01_Times.j1 : Nat → Int → Int → Bool → Option (Int × Int)
 | 0, _, _, _ => none
 | k + 1, x0, x1, x22 => if x22 = true then (some (0, 10)) else (if x0 < 0 then (stipendref01_Times.j2 k (wrap64 (-x0)) x1 (!false)) else (stipendref01_Times.j2 k x0 x1 false))
def stipendref01_Times.j2 : Nat → Int → Int → Bool → Option (Int × Int)
 | 0, _, _, _ => none
 | k + 1, x0, x1, x6 => if x1 < 0 then (stipendref01_Times.j3 k x0 (wrap64 (-x1)) (!x6)) else (stipendref01_Times.j3 k x0 x1 x6)
def stipendref01_Times.j3 : Nat → Int → Int → Bool → Option (Int × Int)
 | 0, _, _, _ => none
 | k + 1, x0, x1, x6 => if x0 = 0 then (none) else (if x1 > (wrap64 (Int.tdiv 100000000000 x0)) then (some (0, 10)) else (stipendref01_Times.l0 k x0 x1 x6 0))
def stipendref01_Times.l0 : Nat → Int → Int → Bool → Int → Option (Int × Int)
 | 0, _, _, _, _ => none
 | k + 1, x0, x1, x6, x7 => if x1 > 0 then (if (Int.tmod x1 2) = 1 then (stipendref01_Times.l0 k (wrap64 (x0 + x0)) (wrap64 (Int.tdiv x1 2)) x6 (wrap64 (x7 + x0))) else (stipendref01_Times.l0 k (wrap64 (x0 + x0)) (wrap64 (Int.tdiv x1 2)) x6 x7)) else (if x6 = true then (some (wrap64 (-x7), 0)) else (some (x7, 0)))
end
def stipendref01_Times.f (k : Nat) (a0 : Int) (a1 : Int) : Option (Int × Int) := (stipendref01_Right.f a0).bind fun t653 => (if t653 = true then (if a0 = 0 then (stipendref01_Times.j0 k a0 a1 true) else (stipendref01_Times.j0 k a0 a1 (a1 == 0))) else (some (0, 10)))
theorem stipendref01_Times.mono_l : ∀ k, (∀ y0 y1 y2, LeO (stipendref01_Times.j0 k y0 y1 y2) (stipendref01_Times.j0 (k + 1) y0 y1 y2)) ∧ (∀ y0 y1 y2, LeO (stipendref01_Times.j1 k y0 y1 y2) (stipendref01_Times.j1 (k + 1) y0 y1 y2)) ∧ (∀ y0 y1 y2, LeO (stipendref01_Times.j2 k y0 y1 y2) (stipendref01_Times.j2 (k + 1) y0 y1 y2)) ∧ (∀ y0 y1 y2, LeO (stipendref01_Times.j3 k y0 y1 y2) (stipendref01_Times.j3 (k + 1) y0 y1 y2)) ∧ (∀ y0 y1 y2 y3, LeO (stipendref01_Times.l0 k y0 y1 y2 y3) (stipendref01_Times.l0 (k + 1) y0 y1 y2 y3))
 | 0 => ⟨fun _ _ _ r h => by simp [stipendref01_Times.j0] at h, fun _ _ _ r h => by simp [stipendref01_Times.j1] at h, fun _ _ _ r h => by simp [stipendref01_Times.j2] at h, fun _ _ _ r h => by simp [stipendref01_Times.j3] at h, fun _ _ _ _ r h => by simp [stipendref01_Times.l0] at h⟩
 | k + 1 => by
  obtain ⟨ih0, ih1, ih2, ih3, ih4⟩ := stipendref01_Times.mono_l k
  refine ⟨?_, ?_, ?_, ?_, ?_⟩
  ·intro y0 y1 y2
   unfold stipendref01_Times.j0
   repeat' first
   | (with_reducible exact ih0 _ _ _)
   | (with_reducible exact ih1 _ _ _)
   | (with_reducible exact ih2 _ _ _)
   | (with_reducible exact ih3 _ _ _)
   | (with_reducible exact ih4 _ _ _ _)
   | (with_reducible exact LeO.refl _)
   | (with_reducible exact LeO.none _)
   | (with_reducible refine LeO.ite ?_ ?_)
   | (with_reducible refine LeO.bind ?_ (fun _ => ?_))
   | exact ih0 _ _ _
   | exact ih1 _ _ _
   | exact ih2 _ _ _
   | exact ih3 _ _ _
   | exact ih4 _ _ _ _
   | exact LeO.none _
   | refine LeO.ite ?_ ?_
   | refine LeO.bind ?_ (fun _ => ?_)
  ·intro y0 y1 y2
   unfold stipendref01_Times.j1
   repeat' first
   | (with_reducible exact ih0 _ _ _)
   | (with_reducible exact ih1 _ _ _)
   | (with_reducible exact ih2 _ _ _)
   | (with_reducible exact ih3 _ _ _)
   | (with_reducible exact ih4 _ _ _ _)
   | (with_reducible exact LeO.refl _)
   | (with_reducible exact LeO.none _)
   | (with_reducible refine LeO.ite ?_ ?_)
   | (with_reducible refine LeO.bind ?_ (fun _ => ?_))
   | exact ih0 _ _ _
   | exact ih1 _ _ _
   | exact ih2 _ _ _
   | exact ih3 _ _ _
   | exact ih4 _ _ _ _
   | exact LeO.none _
   | refine LeO.ite ?_ ?_
   | refine LeO.bind ?_ (fun _ => ?_)
  ·intro y0 y1 y2
   unfold stipendref01_Times.j2
   repeat' first
   | (with_reducible exact ih0 _ _ _)
   | (with_reducible exact ih1 _ _ _)
   | (with_reducible exact ih2 _ _ _)
   | (with_reducible exact ih3 _ _ _)
   | (with_reducible exact ih4 _ _ _ _)
   | (with_reducible exact LeO.refl _)
   | (with_reducible exact LeO.none _)
   | (with_reducible refine LeO.ite ?_ ?_)
   | (with_reducible refine LeO.bind ?_ (fun _ => ?_))
   | exact ih0 _ _ _
   | exact ih1 _ _ _
   | exact ih2 _ _ _
   | exact ih3 _ _ _
   | exact ih4 _ _ _ _
   | exact LeO.none _
   | refine LeO.ite ?_ ?_
   | refine LeO.bind ?_ (fun _ => ?_)
  ·intro y0 y1 y2
   unfold stipendref01_Times.j3
   repeat' first
   | (with_reducible exact ih0 _ _ _)
   | (with_reducible exact ih1 _ _ _)
   | (with_reducible exact ih2 _ _ _)
   | (with_reducible exact ih3 _ _ _)
   | (with_reducible exact ih4 _ _ _ _)
   | (with_reducible exact LeO.refl _)
   | (with_reducible exact LeO.none _)
   | (with_reducible refine LeO.ite ?_ ?_)
   | (with_reducible refine LeO.bind ?_ (fun _ => ?_))
   | exact ih0 _ _ _
   | exact ih1 _ _ _
   | exact ih2 _ _ _
   | exact ih3 _ _ _
   | exact ih4 _ _ _ _
   | exact LeO.none _
   | refine LeO.ite ?_ ?_
   | refine LeO.bind ?_ (fun _ => ?_)
  ·intro y0 y1 y2 y3
   unfold stipendref01_Times.l0
   repeat' first
   | (with_reducible exact ih0 _ _ _)
   | (with_reducible exact ih1 _ _ _)
   | (with_reducible exact ih2 _ _ _)
   | (with_reducible exact ih3 _ _ _)
   | (with_reducible exact ih4 _ _ _ _)
   | (with_reducible exact LeO.refl _)
   | (with_reducible exact LeO.none _)
   | (with_reducible refine LeO.ite ?_ ?_)
   | (with_reducible refine LeO.bind ?_ (fun _ => ?_))
   | exact ih0 _ _ _
   | exact ih1 _ _ _
   | exact ih2 _ _ _
   | exact ih3 _ _ _
   | exact ih4 _ _ _ _
   | exact LeO.none _
   | refine LeO.ite ?_ ?_
   | refine LeO.bind ?_ (fun _ => ?_)
theorem stipendref01_Times.mono : ∀ a0 a1 k, LeO (stipendref01_Times.f k a0 a1) (stipendref01_Times.f (k + 1) a0 a1) := by
 intro a0 a1 k
 obtain ⟨ih0, ih1, ih2, ih3, ih4⟩ := stipendref01_Times.mono_l k
 unfold stipendref01_Times.f
 repeat' first
   | (with_reducible exact ih0 _ _ _)
   | (with_reducible exact ih1 _ _ _)
   | (with_reducible exact ih2 _ _ _)
   | (with_reducible exact ih3 _ _ _)
   | (with_reducible exact ih4 _ _ _ _)
   | (with_reducible exact LeO.refl _)
   | (with_reducible exact LeO.none _)
   | (with_reducible refine LeO.ite ?_ ?_)
   | (with_reducible refine LeO.bind ?_ (fun _ => ?_))
   | exact ih0 _ _ _
   | exact ih1 _ _ _
   | exact ih2 _ _ _
   | exact ih3 _ _ _
   | exact ih4 _ _ _ _
   | exact LeO.none _
   | refine LeO.ite ?_ ?_
   | refine LeO.bind ?_ (fun _ => ?_)
set_option maxHeartbeats 8000000 in
set_option maxRecDepth 100000 in
theorem stipendref01_Times.calls (k : Nat) (a0 : Int) (a1 : Int) (r1 : Int) (r2 : Int) (w : World) (h : stipendref01_Times.f k a0 a1 = some (r1, r2)) :
  Calls Tryd.prog 69 #[.int .i64 a0, .int .i64 a1] w fun e w' => e = .returned (.tuple #[.int .i64 r1, .int .i64 r2]) ∧ Drawn0 w w' := by
 have H : ((stipendref01_Right.f a0).bind fun t653 => (if t653 = true then (if a0 = 0 then (stipendref01_Times.j0 k a0 a1 true) else (stipendref01_Times.j0 k a0 a1 (a1 == 0))) else (some (0, 10)))) = some (r1, r2) := h
 clear h
 replace H := Option.bind_eq_some_iff.mp H
 obtain ⟨t653, A30, H⟩ := H
 replace H : (if t653 = true then (if a0 = 0 then (stipendref01_Times.j0 k a0 a1 true) else (stipendref01_Times.j0 k a0 a1 (a1 == 0))) else (some (0, 10))) = some (r1, r2) := H
 have A3 := Aside0.mk A30
 clear A30
 by_cases c4 : t653 = true
 ·subst c4
  have H1 : (if a0 = 0 then (stipendref01_Times.j0 k a0 a1 true) else (stipendref01_Times.j0 k a0 a1 (a1 == 0))) = some (r1, r2) := by rw [if_pos rfl] at H; exact H
  clear H
  have H := H1
  clear H1
  have HC5 := Aside0.mk H
  clear H
  go_enter Tryd.func69, Tryd.ntmps69
  go_upto_region 3 with (first | ((with_reducible refine gate_callee (f := 59) rfl ?_); refine goesL_ (some 9) rfl rfl Tryd.func59 (by kernel_rfl) rfl #[.int .i64 a0] rfl (by (try simp only [List.map_toArray, List.map_cons, List.map_nil]); first | done | rfl | (simp only [List.length_drop, List.length_take]; rfl)) ?_; (with_reducible refine (stipendref01_Right.calls a0 true _ A3.out).mono ?_); rintro e w' ⟨rfl, ⟨nd, rfl⟩⟩; refine ⟨_, rfl, ?_⟩))
  (try simp only [Act.put, List.setIfInBounds_toArray, List.set_cons_zero, List.set_cons_succ])
  go_cut [16] (fun v16 wc => ∃ (kq : Nat) (x16_4 : Bool), v16 = .bool x16_4 ∧ Aside0 (stipendref01_Times.j0 kq a0 a1 x16_4 = some (r1, r2)) ∧ Aside0 (kq ≤ k) ∧ Drawn0 w wc)
  case first =>
   have H := HC5.out
   clear HC5
   by_cases c6 : a0 = 0
   ·rw [if_pos c6] at H
    have c6b0 : (a0 == 0) = true := beq_iff_eq.mpr c6
    have c6b1 : (a0 != 0) = false := bne_eq_false_iff_eq.mpr c6
    clear c6
    (first | rw [c6b0] | (simp only [i64_w, i32_w]; rw [c6b0]) | skip)
    have H' := Aside0.mk H
    clear H
    go_wp2
    go_meet
    case rel => exact ⟨_, (true), (by first | rfl | (simp; done) | (simp [*]; done)), H', ⟨by first | omega | exact Nat.le_refl _⟩, by repeat (first | exact Drawn0.refl _ | apply Drawn0.step)⟩
   ·rw [if_neg c6] at H
    have c6b0 : (a0 == 0) = false := beq_eq_false_iff_ne.mpr c6
    have c6b1 : (a0 != 0) = true := bne_iff_ne.mpr c6
    (first | rw [c6b0] | (simp only [i64_w, i32_w]; rw [c6b0]) | skip)
    have H' := Aside0.mk H
    clear H
    go_wp2
    go_meet
    case rel => exact ⟨_, ((a1 == 0)), (by first | rfl | (simp; done) | (simp [*]; done)), H', ⟨by first | omega | exact Nat.le_refl _⟩, by repeat (first | exact Drawn0.refl _ | apply Drawn0.step)⟩
  case rest =>
   clear HC5
   try clear p2
   try clear c4
   try clear c5
   try clear c6
   try clear c6b0
   try clear c6b1
   obtain ⟨kq, x16_4, rfl, HA, HJ4, ⟨mc4, rfl⟩⟩ := hcut
   cases kq with
   | zero => exact absurd HA.out (by simp [stipendref01_Times.j0])
   | succ kj4 =>
    have H := HA.out
    clear HA
    simp only [stipendref01_Times.j0] at H
    by_cases c7 : x16_4 = true
    ·subst c7
     have H1 : (some (0, 0)) = some (r1, r2) := by rw [if_pos rfl] at H; exact H
     clear H
     have H := H1
     clear H1
     simp only [Option.some.injEq, Prod.mk.injEq] at H
     obtain ⟨rfl, rfl⟩ := H
     go_wp2
     go_ret2
     exact ⟨by first | rfl | (simp; done) | (simp [*]; done), by repeat (first | exact Drawn0.refl _ | apply Drawn0.step)⟩
    ·replace c7 := Bool.eq_false_iff.mpr c7
     subst c7
     have H1 : (if a1 > 100000000000 then (stipendref01_Times.j1 kj4 a0 a1 true) else (stipendref01_Times.j1 kj4 a0 a1 (decide (a1 < (-100000000000))))) = some (r1, r2) := by rw [if_neg (show ¬ (false = true) by decide)] at H; exact H
     clear H
     have H := H1
     clear H1
     have HC8 := Aside0.mk H
     clear H
     go_upto_region 5 with (fail)
     go_cut [22] (fun v22 wc => ∃ (kq : Nat) (x22_7 : Bool), v22 = .bool x22_7 ∧ Aside0 (stipendref01_Times.j1 kq a0 a1 x22_7 = some (r1, r2)) ∧ Aside0 (kq ≤ kj4) ∧ Drawn0 w wc)
     case first =>
      have H := HC8.out
      clear HC8
      by_cases c9 : a1 > 100000000000
      ·rw [if_pos c9] at H
       have c9b0 : decide (100000000000 < a1) = true := decide_eq_true c9
       clear c9
       (first | rw [c9b0] | (simp only [i64_w, i32_w]; rw [c9b0]) | skip)
       have H' := Aside0.mk H
       clear H
       go_wp2
       go_meet
       case rel => exact ⟨_, (true), (by first | rfl | (simp; done) | (simp [*]; done)), H', ⟨by have := HJ4.out; first | omega | exact Nat.le_refl _⟩, by repeat (first | exact Drawn0.refl _ | apply Drawn0.step)⟩
      ·rw [if_neg c9] at H
       have c9b0 : decide (100000000000 < a1) = false := decide_eq_false c9
       clear c9
       (first | rw [c9b0] | (simp only [i64_w, i32_w]; rw [c9b0]) | skip)
       have H' := Aside0.mk H
       clear H
       go_wp2
       go_meet
       case rel => exact ⟨_, (decide (a1 < (-100000000000))), (by first | rfl | (simp; done) | (simp [*]; done)), H', ⟨by have := HJ4.out; first | omega | exact Nat.le_refl _⟩, by repeat (first | exact Drawn0.refl _ | apply Drawn0.step)⟩
     case rest =>
      clear HC8
      try clear p2
      try clear c4
      try clear c5
      try clear c6
      try clear c6b0
      try clear c6b1
      try clear c7
      try clear c9
      try clear c9b0
      try clear p2
      obtain ⟨kq, x22_7, rfl, HA, HJ7, ⟨mc7, rfl⟩⟩ := hcut
      cases kq with
      | zero => exact absurd HA.out (by simp [stipendref01_Times.j1])
      | succ kj7 =>
       have H := HA.out
       clear HA
       simp only [stipendref01_Times.j1] at H
       by_cases c10 : x22_7 = true
       ·subst c10
        have H1 : (some (0, 10)) = some (r1, r2) := by rw [if_pos rfl] at H; exact H
        clear H
        have H := H1
        clear H1
        simp only [Option.some.injEq, Prod.mk.injEq] at H
        obtain ⟨rfl, rfl⟩ := H
        go_wp2
        go_ret2
        exact ⟨by first | rfl | (simp; done) | (simp [*]; done), by repeat (first | exact Drawn0.refl _ | apply Drawn0.step)⟩
       ·replace c10 := Bool.eq_false_iff.mpr c10
        subst c10
        have H1 : (if a0 < 0 then (stipendref01_Times.j2 kj7 (wrap64 (-a0)) a1 (!false)) else (stipendref01_Times.j2 kj7 a0 a1 false)) = some (r1, r2) := by rw [if_neg (show ¬ (false = true) by decide)] at H; exact H
        clear H
        have H := H1
        clear H1
        have HC11 := Aside0.mk H
        clear H
        go_upto_if 24 with (fail)
        go_cut [0, 6] (fun v0 v6 wc => ∃ (kq : Nat) (x0_10 : Int) (x6_10 : Bool), v0 = .int .i64 x0_10 ∧ v6 = .bool x6_10 ∧ Aside0 (stipendref01_Times.j2 kq x0_10 a1 x6_10 = some (r1, r2)) ∧ Aside0 (kq ≤ kj7) ∧ Drawn0 w wc)
        case first =>
         have H := HC11.out
         clear HC11
         by_cases c12 : a0 < 0
         ·rw [if_pos c12] at H
          have c12b0 : decide (a0 < 0) = true := decide_eq_true c12
          clear c12
          (first | rw [c12b0] | (simp only [i64_w, i32_w]; rw [c12b0]) | skip)
          have H' := Aside0.mk H
          clear H
          go_wp2
          go_meet
          case rel => exact ⟨_, (wrap64 (-a0)), (!false), (by first | rfl | (simp; done) | (simp [*]; done)), (by first | rfl | (simp; done) | (simp [*]; done)), H', ⟨by have := HJ4.out; have := HJ7.out; first | omega | exact Nat.le_refl _⟩, by repeat (first | exact Drawn0.refl _ | apply Drawn0.step)⟩
         ·rw [if_neg c12] at H
          have c12b0 : decide (a0 < 0) = false := decide_eq_false c12
          clear c12
          (first | rw [c12b0] | (simp only [i64_w, i32_w]; rw [c12b0]) | skip)
          have H' := Aside0.mk H
          clear H
          go_wp2
          go_meet
          case rel => exact ⟨_, (a0), (false), (by first | rfl | (simp; done) | (simp [*]; done)), (by first | rfl | (simp; done) | (simp [*]; done)), H', ⟨by have := HJ4.out; have := HJ7.out; first | omega | exact Nat.le_refl _⟩, by repeat (first | exact Drawn0.refl _ | apply Drawn0.step)⟩
        case rest =>
         clear HC11
         try clear c1
         try clear p2
         try clear c4
         try clear c5
         try clear c6
         try clear c6b0
         try clear c6b1
         try clear p6
         try clear c7
         try clear c9
         try clear c9b0
         try clear c10
         try clear c12
         try clear c12b0
         try clear p2
         obtain ⟨kq, x0_10, x6_10, rfl, rfl, HA, HJ10, ⟨mc10, rfl⟩⟩ := hcut
         cases kq with
         | zero => exact absurd HA.out (by simp [stipendref01_Times.j2])
         | succ kj10 =>
          have H := HA.out
          clear HA
          simp only [stipendref01_Times.j2] at H
          have HC13 := Aside0.mk H
          clear H
          go_upto_if 30 with (fail)
          go_cut [1, 6] (fun v1 v6 wc => ∃ (kq : Nat) (x1_12 : Int) (x6_12 : Bool), v1 = .int .i64 x1_12 ∧ v6 = .bool x6_12 ∧ Aside0 (stipendref01_Times.j3 kq x0_10 x1_12 x6_12 = some (r1, r2)) ∧ Aside0 (kq ≤ kj10) ∧ Drawn0 w wc)
          case first =>
           have H := HC13.out
           clear HC13
           by_cases c14 : a1 < 0
           ·rw [if_pos c14] at H
            have c14b0 : decide (a1 < 0) = true := decide_eq_true c14
            clear c14
            (first | rw [c14b0] | (simp only [i64_w, i32_w]; rw [c14b0]) | skip)
            have H' := Aside0.mk H
            clear H
            go_wp2
            go_meet
            case rel => exact ⟨_, (wrap64 (-a1)), (!x6_10), (by first | rfl | (simp; done) | (simp [*]; done)), (by first | rfl | (simp; done) | (simp [*]; done)), H', ⟨by have := HJ4.out; have := HJ7.out; have := HJ10.out; first | omega | exact Nat.le_refl _⟩, by repeat (first | exact Drawn0.refl _ | apply Drawn0.step)⟩
           ·rw [if_neg c14] at H
            have c14b0 : decide (a1 < 0) = false := decide_eq_false c14
            clear c14
            (first | rw [c14b0] | (simp only [i64_w, i32_w]; rw [c14b0]) | skip)
            have H' := Aside0.mk H
            clear H
            go_wp2
            go_meet
            case rel => exact ⟨_, (a1), (x6_10), (by first | rfl | (simp; done) | (simp [*]; done)), (by first | rfl | (simp; done) | (simp [*]; done)), H', ⟨by have := HJ4.out; have := HJ7.out; have := HJ10.out; first | omega | exact Nat.le_refl _⟩, by repeat (first | exact Drawn0.refl _ | apply Drawn0.step)⟩
          case rest =>
           clear HC13
           try clear c1
           try clear p2
           try clear c4
           try clear c5
           try clear c6
           try clear c6b0
           try clear c6b1
           try clear p6
           try clear c7
           try clear c9
           try clear c9b0
           try clear c10
           try clear c12
           try clear c12b0
           try clear c14
           try clear c14b0
           try clear p2
           try clear p6
           obtain ⟨kq, x1_12, x6_12, rfl, rfl, HA, HJ12, ⟨mc12, rfl⟩⟩ := hcut
           cases kq with
           | zero => exact absurd HA.out (by simp [stipendref01_Times.j3])
           | succ kj12 =>
            have H := HA.out
            clear HA
            simp only [stipendref01_Times.j3] at H
            by_cases c15 : x0_10 = 0
            ·rw [if_pos c15] at H
             exact absurd H (by simp)
            ·rw [if_neg c15] at H
             have c15b0 : (x0_10 == 0) = false := beq_eq_false_iff_ne.mpr c15
             have c15b1 : (x0_10 != 0) = true := bne_iff_ne.mpr c15
             by_cases c16 : x1_12 > (wrap64 (Int.tdiv 100000000000 x0_10))
             ·rw [if_pos c16] at H
              have c16b0 : decide ((wrap64 (Int.tdiv 100000000000 x0_10)) < x1_12) = true := decide_eq_true c16
              clear c16
              simp only [Option.some.injEq, Prod.mk.injEq] at H
              obtain ⟨rfl, rfl⟩ := H
              go_wp2
              go_ret2
              exact ⟨by first | rfl | (simp; done) | (simp [*]; done), by repeat (first | exact Drawn0.refl _ | apply Drawn0.step)⟩
             ·rw [if_neg c16] at H
              have c16b0 : decide ((wrap64 (Int.tdiv 100000000000 x0_10)) < x1_12) = false := decide_eq_false c16
              clear c16
              have H' := Aside0.mk H
              clear H
              go_wp2
              go_loopg [0, 1, 7] kj12 (fun kq v0 v1 v7 w' => ∃ (x0_5 : Int) (x1_5 : Int) (x7_5 : Int), v0 = .int .i64 x0_5 ∧ v1 = .int .i64 x1_5 ∧ v7 = .int .i64 x7_5 ∧ Aside0 (stipendref01_Times.l0 kq x0_5 x1_5 x6_12 x7_5 = some (r1, r2)) ∧ Aside0 (kq ≤ kj12) ∧ Drawn0 w w')
              case atStart => exact ⟨(x0_10), (x1_12), (0), (by first | rfl | (simp; done) | (simp [*]; done)), (by first | rfl | (simp; done) | (simp [*]; done)), (by first | rfl | (simp; done) | (simp [*]; done)), H', ⟨Nat.le_refl _⟩, by repeat (first | exact Drawn0.refl _ | apply Drawn0.step)⟩
              case round =>
               clear H'
               try clear c1
               try clear p2
               try clear c4
               try clear c5
               try clear c6
               try clear c6b0
               try clear c6b1
               try clear p6
               try clear c7
               try clear c9
               try clear c9b0
               try clear c10
               try clear c12
               try clear c12b0
               try clear c14
               try clear c14b0
               try clear c15
               try clear c15b0
               try clear c15b1
               try clear c16
               try clear c16b0
               try clear p2
               try clear p6
               obtain ⟨x0_5, x1_5, x7_5, rfl, rfl, rfl, HA, HK5, ⟨m5, rfl⟩⟩ := hrel
               cases gk with
               | zero => exact absurd HA.out (by simp [stipendref01_Times.l0])
               | succ k5 =>
                have H := HA.out
                clear HA
                simp only [stipendref01_Times.l0] at H
                by_cases c17 : x1_5 > 0
                ·rw [if_pos c17] at H
                 have c17b0 : decide (0 < x1_5) = true := decide_eq_true c17
                 clear c17
                 by_cases c18 : (Int.tmod x1_5 2) = 1
                 ·rw [if_pos c18] at H
                  have c18b0 : ((Int.tmod x1_5 2) == 1) = true := beq_iff_eq.mpr c18
                  have c18b1 : ((Int.tmod x1_5 2) != 1) = false := bne_eq_false_iff_eq.mpr c18
                  clear c18
                  have H' := Aside0.mk H
                  clear H
                  go_wp2
                  go_roundg k5
                  case measure => have := HJ4.out; have := HJ7.out; have := HJ10.out; have := HJ12.out; have := HK5.out; omega
                  case rel => exact ⟨(wrap64 (x0_5 + x0_5)), (wrap64 (Int.tdiv x1_5 2)), (wrap64 (x7_5 + x0_5)), (by first | rfl | (simp; done) | (simp [*]; done)), (by first | rfl | (simp; done) | (simp [*]; done)), (by first | rfl | (simp; done) | (simp [*]; done)), H', ⟨by have := HJ4.out; have := HJ7.out; have := HJ10.out; have := HJ12.out; have := HK5.out; omega⟩, by repeat (first | exact Drawn0.refl _ | apply Drawn0.step)⟩
                 ·rw [if_neg c18] at H
                  have c18b0 : ((Int.tmod x1_5 2) == 1) = false := beq_eq_false_iff_ne.mpr c18
                  have c18b1 : ((Int.tmod x1_5 2) != 1) = true := bne_iff_ne.mpr c18
                  have H' := Aside0.mk H
                  clear H
                  go_wp2
                  go_roundg k5
                  case measure => have := HJ4.out; have := HJ7.out; have := HJ10.out; have := HJ12.out; have := HK5.out; omega
                  case rel => exact ⟨(wrap64 (x0_5 + x0_5)), (wrap64 (Int.tdiv x1_5 2)), (x7_5), (by first | rfl | (simp; done) | (simp [*]; done)), (by first | rfl | (simp; done) | (simp [*]; done)), (by first | rfl | (simp; done) | (simp [*]; done)), H', ⟨by have := HJ4.out; have := HJ7.out; have := HJ10.out; have := HJ12.out; have := HK5.out; omega⟩, by repeat (first | exact Drawn0.refl _ | apply Drawn0.step)⟩
                ·rw [if_neg c17] at H
                 have c17b0 : decide (0 < x1_5) = false := decide_eq_false c17
                 clear c17
                 by_cases c19 : x6_12 = true
                 ·subst c19
                  have H1 : (some (wrap64 (-x7_5), 0)) = some (r1, r2) := by rw [if_pos rfl] at H; exact H
                  clear H
                  have H := H1
                  clear H1
                  simp only [Option.some.injEq, Prod.mk.injEq] at H
                  obtain ⟨rfl, rfl⟩ := H
                  go_wp2
                  go_ret2
                  exact ⟨by first | rfl | (simp; done) | (simp [*]; done), by repeat (first | exact Drawn0.refl _ | apply Drawn0.step)⟩
                 ·replace c19 := Bool.eq_false_iff.mpr c19
                  subst c19
                  have H1 : (some (x7_5, 0)) = some (r1, r2) := by rw [if_neg (show ¬ (false = true) by decide)] at H; exact H
                  clear H
                  have H := H1
                  clear H1
                  simp only [Option.some.injEq, Prod.mk.injEq] at H
                  obtain ⟨rfl, rfl⟩ := H
                  go_wp2
                  go_ret2
                  exact ⟨by first | rfl | (simp; done) | (simp [*]; done), by repeat (first | exact Drawn0.refl _ | apply Drawn0.step)⟩
 ·replace c4 := Bool.eq_false_iff.mpr c4
  subst c4
  have H1 : (some (0, 10)) = some (r1, r2) := by rw [if_neg (show ¬ (false = true) by decide)] at H; exact H
  clear H
  have H := H1
  clear H1
  simp only [Option.some.injEq, Prod.mk.injEq] at H
  obtain ⟨rfl, rfl⟩ := H
  go_enter Tryd.func69, Tryd.ntmps69
  go_wp2_with (first | ((with_reducible refine gate_callee (f := 59) rfl ?_); refine goesL_ (some 9) rfl rfl Tryd.func59 (by kernel_rfl) rfl #[.int .i64 a0] rfl (by (try simp only [List.map_toArray, List.map_cons, List.map_nil]); first | done | rfl | (simp only [List.length_drop, List.length_take]; rfl)) ?_; (with_reducible refine (stipendref01_Right.calls a0 false _ A3.out).mono ?_); rintro e w' ⟨rfl, ⟨nd, rfl⟩⟩; refine ⟨_, rfl, ?_⟩))
  go_ret2
  exact ⟨by first | rfl | (simp; done) | (simp [*]; done), by repeat (first | exact Drawn0.refl _ | apply Drawn0.step)⟩

end Go.Proofs.YtmocphafkimdpaaDoor.P


-- written by a program (a patched copy of the kit's print: wip/mkprint.py); Lean checks it
namespace Go.Proofs.YtmocphafkimdpaaDoor.P
open Go.RowKit Go.Proofs.YtmocphafkimdpaaDoorW.PrintWords Go.Proofs.YtmocphafkimdpaaDoorW.PrintLast Go.Proofs.YtmocphafkimdpaaDoorW.PrintMore
attribute [local go_sem] max2_int min2_int max_two min_two max_three min_three max_four min_four   -- for this text's walks alone
set_option linter.unusedVariables false
set_option linter.unusedSimpArgs false

/-! ### stipendlaw01_MoneyTimes: function 19 -/
def stipendlaw01_MoneyTimes.f (k : Nat) (a0 : Int) (a1 : Int) : Option (Bool) := (stipendlaw01_counts.f k).bind fun t654 => (if t654 = true then ((money_Times.f k a0 a1).bind fun bt655 => ((stipendref01_Times.f k a0 a1).bind fun bt657 => (if bt655.1 = bt657.1 then (some (bt655.2 == bt657.2)) else (some false)))) else (some false))
theorem stipendlaw01_MoneyTimes.mono : ∀ a0 a1 k, LeO (stipendlaw01_MoneyTimes.f k a0 a1) (stipendlaw01_MoneyTimes.f (k + 1) a0 a1) := by
 intro a0 a1 k
 unfold stipendlaw01_MoneyTimes.f
 repeat' first
   | (with_reducible exact money_Times.mono _ _ _)
   | (with_reducible exact stipendlaw01_counts.mono _)
   | (with_reducible exact stipendref01_Times.mono _ _ _)
   | (with_reducible exact LeO.refl _)
   | (with_reducible exact LeO.none _)
   | (with_reducible refine LeO.ite ?_ ?_)
   | (with_reducible refine LeO.bind ?_ (fun _ => ?_))
   | exact money_Times.mono _ _ _
   | exact stipendlaw01_counts.mono _
   | exact stipendref01_Times.mono _ _ _
   | exact LeO.none _
   | refine LeO.ite ?_ ?_
   | refine LeO.bind ?_ (fun _ => ?_)
set_option maxHeartbeats 8000000 in
set_option maxRecDepth 100000 in
theorem stipendlaw01_MoneyTimes.calls (k : Nat) (a0 : Int) (a1 : Int) (r : Bool) (w : World) (h : stipendlaw01_MoneyTimes.f k a0 a1 = some r) (hG : GTab w := by first | exact GTab.below HG.out (by repeat (first | (with_reducible first | exact HB.out | apply below_alloc | apply pw_below_drewN | apply below_drew1 | apply below_drew) | exact HB.out)) | exact HG.out) :
  Calls Tryd.prog 19 #[.int .i64 a0, .int .i64 a1] w fun e w' => e = .returned (.bool r) ∧ Below w.heap.size w w' := by
 have HG := Aside0.mk hG; clear hG
 have HB := Aside0.mk (Below.refl w.heap.size w)
 have H : ((stipendlaw01_counts.f k).bind fun t654 => (if t654 = true then ((money_Times.f k a0 a1).bind fun bt655 => ((stipendref01_Times.f k a0 a1).bind fun bt657 => (if bt655.1 = bt657.1 then (some (bt655.2 == bt657.2)) else (some false)))) else (some false))) = some r := h
 clear h
 replace H := Option.bind_eq_some_iff.mp H
 obtain ⟨t654, A30, H⟩ := H
 replace H : (if t654 = true then ((money_Times.f k a0 a1).bind fun bt655 => ((stipendref01_Times.f k a0 a1).bind fun bt657 => (if bt655.1 = bt657.1 then (some (bt655.2 == bt657.2)) else (some false)))) else (some false)) = some r := H
 have A3 := Aside0.mk A30
 clear A30
 by_cases c4 : t654 = true
 ·subst c4
  have H1 : ((money_Times.f k a0 a1).bind fun bt655 => ((stipendref01_Times.f k a0 a1).bind fun bt657 => (if bt655.1 = bt657.1 then (some (bt655.2 == bt657.2)) else (some false)))) = some r := by rw [if_pos rfl] at H; exact H
  clear H
  have H := H1
  clear H1
  replace H := Option.bind_eq_some_iff.mp H
  obtain ⟨⟨t655, t656⟩, A50, H⟩ := H
  replace H : ((stipendref01_Times.f k a0 a1).bind fun bt657 => (if t655 = bt657.1 then (some (t656 == bt657.2)) else (some false))) = some r := H
  have A5 := Aside0.mk A50
  clear A50
  replace H := Option.bind_eq_some_iff.mp H
  obtain ⟨⟨t657, t658⟩, A60, H⟩ := H
  replace H : (if t655 = t657 then (some (t656 == t658)) else (some false)) = some r := H
  have A6 := Aside0.mk A60
  clear A60
  by_cases c7 : t655 = t657
  ·rw [if_pos c7] at H
   have c7b0 : (t655 == t657) = true := beq_iff_eq.mpr c7
   have c7b1 : (t655 != t657) = false := bne_eq_false_iff_eq.mpr c7
   clear c7
   obtain rfl := Option.some.inj H
   go_enter Tryd.func19, Tryd.ntmps19
   go_wp2_with (first | ((with_reducible refine gate_callee (f := 57) rfl ?_); refine goesL_ (some 9) rfl rfl Tryd.func57 (by kernel_rfl) rfl #[] rfl (by (try simp only [List.map_toArray, List.map_cons, List.map_nil]); first | done | rfl | (simp only [List.length_drop, List.length_take]; rfl)) ?_; (with_reducible refine (stipendlaw01_counts.calls k  true _ A3.out).mono ?_); rintro e w8 ⟨rfl, hb⟩; refine ⟨_, rfl, ?_⟩; have n0_ := Aside0.mk (below_step (by repeat (first | (with_reducible first | exact HB.out | apply below_alloc | apply pw_below_drewN | apply below_drew1) | exact HB.out)) hb); clear HB; have HB := n0_; clear n0_; (try clear hb); (try clear hb2); (try clear hk); (try clear hi)) | ((with_reducible refine gate_callee (f := 68) rfl ?_); refine goesL_ (some 14) rfl rfl Tryd.func68 (by kernel_rfl) rfl #[.int .i64 a0, .int .i64 a1] rfl (by (try simp only [List.map_toArray, List.map_cons, List.map_nil]); first | done | rfl | (simp only [List.length_drop, List.length_take]; rfl)) ?_; (with_reducible refine (money_Times.calls k a0 a1 t655 t656 _ A5.out).mono ?_); rintro e w9 ⟨rfl, hb⟩; refine ⟨_, rfl, ?_⟩; have n0_ := Aside0.mk (below_step (by repeat (first | (with_reducible first | exact HB.out | apply below_alloc | apply pw_below_drewN | apply below_drew1) | exact HB.out)) hb); clear HB; have HB := n0_; clear n0_; (try clear hb); (try clear hb2); (try clear hk); (try clear hi)) | ((with_reducible refine gate_callee (f := 69) rfl ?_); refine goesL_ (some 20) rfl rfl Tryd.func69 (by kernel_rfl) rfl #[.int .i64 a0, .int .i64 a1] rfl (by (try simp only [List.map_toArray, List.map_cons, List.map_nil]); first | done | rfl | (simp only [List.length_drop, List.length_take]; rfl)) ?_; (with_reducible refine (stipendref01_Times.calls k a0 a1 t657 t658 _ A6.out).mono ?_); rintro e w' ⟨rfl, ⟨nd, rfl⟩⟩; refine ⟨_, rfl, ?_⟩))
   go_ret
   exact ⟨by first | rfl | (simp [errW_none, errW_some] <;> rfl) | (simp [*, errW_none, errW_some] <;> rfl), by repeat (first | (with_reducible first | exact HB.out | apply below_alloc | apply pw_below_drewN | apply below_drew1) | exact HB.out)⟩
  ·rw [if_neg c7] at H
   have c7b0 : (t655 == t657) = false := beq_eq_false_iff_ne.mpr c7
   have c7b1 : (t655 != t657) = true := bne_iff_ne.mpr c7
   obtain rfl := Option.some.inj H
   go_enter Tryd.func19, Tryd.ntmps19
   go_wp2_with (first | ((with_reducible refine gate_callee (f := 57) rfl ?_); refine goesL_ (some 9) rfl rfl Tryd.func57 (by kernel_rfl) rfl #[] rfl (by (try simp only [List.map_toArray, List.map_cons, List.map_nil]); first | done | rfl | (simp only [List.length_drop, List.length_take]; rfl)) ?_; (with_reducible refine (stipendlaw01_counts.calls k  true _ A3.out).mono ?_); rintro e w10 ⟨rfl, hb⟩; refine ⟨_, rfl, ?_⟩; have n0_ := Aside0.mk (below_step (by repeat (first | (with_reducible first | exact HB.out | apply below_alloc | apply pw_below_drewN | apply below_drew1) | exact HB.out)) hb); clear HB; have HB := n0_; clear n0_; (try clear hb); (try clear hb2); (try clear hk); (try clear hi)) | ((with_reducible refine gate_callee (f := 68) rfl ?_); refine goesL_ (some 14) rfl rfl Tryd.func68 (by kernel_rfl) rfl #[.int .i64 a0, .int .i64 a1] rfl (by (try simp only [List.map_toArray, List.map_cons, List.map_nil]); first | done | rfl | (simp only [List.length_drop, List.length_take]; rfl)) ?_; (with_reducible refine (money_Times.calls k a0 a1 t655 t656 _ A5.out).mono ?_); rintro e w11 ⟨rfl, hb⟩; refine ⟨_, rfl, ?_⟩; have n0_ := Aside0.mk (below_step (by repeat (first | (with_reducible first | exact HB.out | apply below_alloc | apply pw_below_drewN | apply below_drew1) | exact HB.out)) hb); clear HB; have HB := n0_; clear n0_; (try clear hb); (try clear hb2); (try clear hk); (try clear hi)) | ((with_reducible refine gate_callee (f := 69) rfl ?_); refine goesL_ (some 20) rfl rfl Tryd.func69 (by kernel_rfl) rfl #[.int .i64 a0, .int .i64 a1] rfl (by (try simp only [List.map_toArray, List.map_cons, List.map_nil]); first | done | rfl | (simp only [List.length_drop, List.length_take]; rfl)) ?_; (with_reducible refine (stipendref01_Times.calls k a0 a1 t657 t658 _ A6.out).mono ?_); rintro e w' ⟨rfl, ⟨nd, rfl⟩⟩; refine ⟨_, rfl, ?_⟩))
   go_ret
   exact ⟨by first | rfl | (simp [errW_none, errW_some] <;> rfl) | (simp [*, errW_none, errW_some] <;> rfl), by repeat (first | (with_reducible first | exact HB.out | apply below_alloc | apply pw_below_drewN | apply below_drew1) | exact HB.out)⟩
 ·replace c4 := Bool.eq_false_iff.mpr c4
  subst c4
  have H1 : (some false) = some r := by rw [if_neg (show ¬ (false = true) by decide)] at H; exact H
  clear H
  have H := H1
  clear H1
  obtain rfl := Option.some.inj H
  go_enter Tryd.func19, Tryd.ntmps19
  go_wp2_with (first | ((with_reducible refine gate_callee (f := 57) rfl ?_); refine goesL_ (some 9) rfl rfl Tryd.func57 (by kernel_rfl) rfl #[] rfl (by (try simp only [List.map_toArray, List.map_cons, List.map_nil]); first | done | rfl | (simp only [List.length_drop, List.length_take]; rfl)) ?_; (with_reducible refine (stipendlaw01_counts.calls k  false _ A3.out).mono ?_); rintro e w12 ⟨rfl, hb⟩; refine ⟨_, rfl, ?_⟩; have n0_ := Aside0.mk (below_step (by repeat (first | (with_reducible first | exact HB.out | apply below_alloc | apply pw_below_drewN | apply below_drew1) | exact HB.out)) hb); clear HB; have HB := n0_; clear n0_; (try clear hb); (try clear hb2); (try clear hk); (try clear hi)))
  go_ret
  exact ⟨by first | rfl | (simp [errW_none, errW_some] <;> rfl) | (simp [*, errW_none, errW_some] <;> rfl), by repeat (first | (with_reducible first | exact HB.out | apply below_alloc | apply pw_below_drewN | apply below_drew1) | exact HB.out)⟩

end Go.Proofs.YtmocphafkimdpaaDoor.P


/- MoneyTimes answers true for every two numbers: the plain law. -/
namespace Go.Proofs.YtmocphafkimdpaaDoor.P
open Go.RowKit Go.Proofs.YtmocphafkimdpaaDoorW.PrintWords Go.Proofs.YtmocphafkimdpaaDoorW.PrintLast Go.Proofs.YtmocphafkimdpaaDoorW.PrintMore
set_option linter.unusedVariables false
set_option linter.unusedSimpArgs false

def sg (neg : Bool) (p : Int) : Int := if neg = true then -p else p
/-- What an amount comes to, so many times. -/
def timesOf (x n : Int) : Int × Int := if okAmt x = true then (if x.natAbs * n.natAbs ≤ 100000000000 then (x * n, 0) else (0, 10)) else (0, 10)

theorem mul_abs (x n : Int) (h : ¬(x = 0 ∨ n = 0)) : sg (decide (x < 0) != decide (n < 0)) ((x.natAbs * n.natAbs : Nat) : Int) = x * n := by
  have e : ((x.natAbs * n.natAbs : Nat) : Int) = (x.natAbs : Int) * (n.natAbs : Int) := by simp
  rw [e]
  unfold sg
  by_cases hx : x < 0 <;> by_cases hn : n < 0
  · rw [show (x.natAbs : Int) = -x by omega, show (n.natAbs : Int) = -n by omega]; simp [hx, hn, Int.neg_mul, Int.mul_neg]
  · rw [show (x.natAbs : Int) = -x by omega, show (n.natAbs : Int) = n by omega]; simp [hx, hn, Int.neg_mul, Int.mul_neg]
  · rw [show (x.natAbs : Int) = x by omega, show (n.natAbs : Int) = -n by omega]; simp [hx, hn, Int.neg_mul, Int.mul_neg]
  · rw [show (x.natAbs : Int) = x by omega, show (n.natAbs : Int) = n by omega]; simp [hx, hn, Int.neg_mul, Int.mul_neg]

theorem mtimes_ev (x n : Int) (hx : -9223372036854775808 ≤ x ∧ x ≤ 9223372036854775807) (hn : -9223372036854775808 ≤ n ∧ n ≤ 9223372036854775807) : Ev (fun k => money_Times.f k x n) (timesOf x n) := by
  unfold money_Times.f timesOf
  refine Ev.bind (mright_ev [x] (by simp)) ?_
  by_cases c : okAmt x = true
  · rw [if_pos c]
    have c' := (okAmt_iff x).1 c
    refine Ev.pos (by simp [c]) (Ev.bindc (abs_f x hx.1 hx.2) (Ev.bindc (abs_f n hn.1 hn.2) ?_))
    have hp : (x.natAbs : Int) * (n.natAbs : Int) = ((x.natAbs * n.natAbs : Nat) : Int) := by simp
    have em : bits_Mul64.f (x.natAbs : Int) (n.natAbs : Int) = some (((x.natAbs * n.natAbs / 18446744073709551616 : Nat) : Int), ((x.natAbs * n.natAbs % 18446744073709551616 : Nat) : Int)) := by
      unfold bits_Mul64.f
      rw [if_pos (by omega), hp]
      simp
    refine Ev.bindc em ?_
    have hm := mul_abs x n
    generalize hpp : x.natAbs * n.natAbs = p at hm em ⊢
    have hj : ∀ b : Bool, b = decide (100000000000 < p) → (b = false → p % 18446744073709551616 = p) → Ev (fun k => money_Times.j0 k x n ((p % 18446744073709551616 : Nat) : Int) b) (if p ≤ 100000000000 then (x * n, 0) else (0, 10)) := by
      intro b hb hpm
      refine Ev.shift (fun k => by rw [money_Times.j0]) ?_
      by_cases d : p ≤ 100000000000
      · rw [if_pos d]
        have hbf : b = false := by rw [hb]; simp; exact d
        rw [hbf, hpm hbf]
        refine Ev.neg (by decide) ?_
        rw [w64 (x := (p : Int)) (by omega) (by omega), w64 (x := -(p : Int)) (by omega) (by omega)]
        by_cases z : x = 0 ∨ n = 0
        · have hz : p = 0 := by rcases z with rfl | rfl <;> simp at hpp <;> omega
          have hz2 : x * n = 0 := by rcases z with rfl | rfl <;> simp
          rw [hz, hz2]
          by_cases e : (decide (x < 0) != decide (n < 0)) = true
          · exact Ev.pos e Ev.now
          · exact Ev.neg e Ev.now
        · rw [← hm z]
          unfold sg
          by_cases e : (decide (x < 0) != decide (n < 0)) = true
          · exact (Ev.pos e Ev.now).res (by rw [if_pos e])
          · exact (Ev.neg e Ev.now).res (by rw [if_neg e])
      · rw [if_neg d]
        refine Ev.pos ?_ Ev.now
        rw [hb]; simp; omega
    by_cases d : 0 < p / 18446744073709551616
    · refine Ev.pos (by omega) (hj true ?_ (fun h => by cases h))
      symm; simp; omega
    · have hlt : p < 18446744073709551616 := by omega
      refine Ev.neg (by omega) ?_
      have e : decide (((p % 18446744073709551616 : Nat) : Int) > 100000000000) = decide (100000000000 < p) := by
        rw [decide_eq_decide, Nat.mod_eq_of_lt hlt]; omega
      rw [e]
      exact hj _ rfl (fun _ => Nat.mod_eq_of_lt hlt)
  · rw [if_neg c]
    exact Ev.neg (by simp [c]) Ev.now

/-- The reference's doubling. -/
theorem dbl_ev (neg : Bool) : ∀ (m : Nat) (x n : Nat) (out : Nat), n ≤ m → out + x * n ≤ 100000000000 → x ≤ 200000000000 → n ≤ 100000000000 → Ev (fun k => stipendref01_Times.l0 k (x : Int) (n : Int) neg (out : Int)) (sg neg ((out + x * n : Nat) : Int), 0) := by
  intro m
  induction m with
  | zero =>
    intro x n out h h1 h2 h3
    obtain rfl : n = 0 := by omega
    refine Ev.shift (fun k => by rw [stipendref01_Times.l0]) ?_
    refine Ev.neg (by omega) ?_
    rw [w64 (x := -(out : Int)) (by omega) (by omega)]
    simp only [Nat.mul_zero, Nat.add_zero]
    cases neg with
    | true => exact Ev.pos rfl Ev.now
    | false => exact Ev.neg (by decide) Ev.now
  | succ m ih =>
    intro x n out h h1 h2 h3
    by_cases z : n = 0
    · exact ih x n out (by omega) h1 h2 h3
    · refine Ev.shift (fun k => by rw [stipendref01_Times.l0]) ?_
      refine Ev.pos (by omega) ?_
      have hx : x ≤ 100000000000 := by
        have : x * 1 ≤ x * n := Nat.mul_le_mul_left x (by omega)
        omega
      rw [Int.tdiv_eq_ediv_of_nonneg (by omega), Int.tmod_eq_emod_of_nonneg (by omega)]
      rw [w64 (x := (x : Int) + (x : Int)) (by omega) (by omega), w64 (x := (n : Int) / 2) (by omega) (by omega), w64 (x := (out : Int) + (x : Int)) (by omega) (by omega)]
      have e1 : (x : Int) + (x : Int) = ((x + x : Nat) : Int) := by omega
      have e2 : (n : Int) / 2 = ((n / 2 : Nat) : Int) := by omega
      have e3 : (out : Int) + (x : Int) = ((out + x : Nat) : Int) := by omega
      rw [e1, e2, e3]
      have hd : x * n = (x + x) * (n / 2) + x * (n % 2) := by
        rw [← Nat.two_mul, Nat.mul_comm 2 x, Nat.mul_assoc, ← Nat.mul_add, Nat.div_add_mod]
      by_cases o : n % 2 = 1
      · rw [o, Nat.mul_one] at hd
        refine Ev.pos (by omega) ?_
        rw [show out + x * n = (out + x) + (x + x) * (n / 2) by omega]
        exact ih (x + x) (n / 2) (out + x) (by omega) (by omega) (by omega) (by omega)
      · rw [show n % 2 = 0 by omega, Nat.mul_zero, Nat.add_zero] at hd
        refine Ev.neg (by omega) ?_
        rw [show out + x * n = out + (x + x) * (n / 2) by omega]
        exact ih (x + x) (n / 2) out (by omega) (by omega) (by omega) (by omega)

theorem reft_j3 (neg : Bool) (x n : Nat) (hx : 0 < x) (hx2 : x ≤ 100000000000) (hn : n ≤ 100000000000) : Ev (fun k => stipendref01_Times.j3 k (x : Int) (n : Int) neg) (if x * n ≤ 100000000000 then (sg neg ((x * n : Nat) : Int), 0) else (0, 10)) := by
  refine Ev.shift (fun k => by rw [stipendref01_Times.j3]) ?_
  refine Ev.neg (by omega) ?_
  rw [Int.tdiv_eq_ediv_of_nonneg (by decide)]
  have e : (100000000000 : Int) / (x : Int) = ((100000000000 / x : Nat) : Int) := by simp
  have hq : 100000000000 / x ≤ 100000000000 := Nat.div_le_self _ _
  have hle : ∀ m : Nat, m ≤ 100000000000 / x ↔ m * x ≤ 100000000000 := fun m => Nat.le_div_iff_mul_le hx
  rw [e]
  generalize 100000000000 / x = qd at hq hle ⊢
  rw [w64 (by omega) (by omega)]
  by_cases c : x * n ≤ 100000000000
  · rw [if_pos c]
    have : n ≤ qd := (hle n).2 (by rw [Nat.mul_comm]; exact c)
    refine Ev.neg (by omega) ?_
    have h := dbl_ev neg n x n 0 (Nat.le_refl _) (by omega) (by omega) hn
    rw [Nat.zero_add] at h
    exact h
  · rw [if_neg c]
    have : ¬n ≤ qd := fun h => c (by have := (hle n).1 h; rw [Nat.mul_comm]; exact this)
    exact Ev.pos (by omega) Ev.now

theorem reft_ev (x n : Int) (hn : -9223372036854775808 ≤ n ∧ n ≤ 9223372036854775807) : Ev (fun k => stipendref01_Times.f k x n) (timesOf x n) := by
  unfold stipendref01_Times.f timesOf
  refine Ev.bindc (refRight_f x) ?_
  by_cases c : okAmt x = true
  · rw [if_pos c]
    have c' := (okAmt_iff x).1 c
    refine Ev.pos c ?_
    by_cases z : x = 0 ∨ n = 0
    · have e : (if x.natAbs * n.natAbs ≤ 100000000000 then (x * n, (0 : Int)) else (0, 10)) = (0, 0) := by
        rcases z with rfl | rfl <;> simp
      rw [e]
      have hj : Ev (fun k => stipendref01_Times.j0 k x n true) (0, 0) := by
        refine Ev.shift (fun k => by rw [stipendref01_Times.j0]) ?_
        exact Ev.pos rfl Ev.now
      by_cases z1 : x = 0
      · exact Ev.pos z1 hj
      · refine Ev.neg z1 ?_
        rw [show (n == 0) = true from beq_iff_eq.2 (by omega)]
        exact hj
    · refine Ev.neg (by omega) ?_
      rw [show (n == 0) = false from beq_eq_false_iff_ne.2 (by omega)]
      refine Ev.shift (fun k => by rw [stipendref01_Times.j0]) ?_
      refine Ev.neg (by decide) ?_
      by_cases big : 100000000000 < n ∨ n < -100000000000
      · have hb : ¬ x.natAbs * n.natAbs ≤ 100000000000 := by
          have h1 : 1 * n.natAbs ≤ x.natAbs * n.natAbs := Nat.mul_le_mul_right _ (by omega)
          omega
        rw [if_neg hb]
        have hj : Ev (fun k => stipendref01_Times.j1 k x n true) (0, 10) := by
          refine Ev.shift (fun k => by rw [stipendref01_Times.j1]) ?_
          exact Ev.pos rfl Ev.now
        by_cases b1 : n > 100000000000
        · exact Ev.pos b1 hj
        · refine Ev.neg b1 ?_
          rw [decide_eq_true (show n < -100000000000 by omega)]
          exact hj
      · refine Ev.neg (by omega) ?_
        rw [decide_eq_false (show ¬n < -100000000000 by omega)]
        refine Ev.shift (fun k => by rw [stipendref01_Times.j1]) ?_
        refine Ev.neg (by decide) ?_
        rw [← mul_abs x n z]
        have j3 := fun neg => reft_j3 neg x.natAbs n.natAbs (by omega) (by omega) (by omega)
        rw [w64 (x := -x) (by omega) (by omega)]
        by_cases hx : x < 0
        · refine Ev.pos hx (Ev.shift (fun k => by rw [stipendref01_Times.j2]) ?_)
          rw [show -x = (x.natAbs : Int) by omega, w64 (x := -n) (by omega) (by omega)]
          by_cases hn0 : n < 0
          · refine Ev.pos hn0 ?_
            rw [show -n = (n.natAbs : Int) by omega, decide_eq_true hx, decide_eq_true hn0]
            exact j3 _
          · refine Ev.neg hn0 ?_
            have := j3 true
            rw [show (n.natAbs : Int) = n by omega] at this
            rw [decide_eq_true hx, decide_eq_false hn0]
            exact this
        · refine Ev.neg hx (Ev.shift (fun k => by rw [stipendref01_Times.j2]) ?_)
          rw [w64 (x := -n) (by omega) (by omega)]
          by_cases hn0 : n < 0
          · refine Ev.pos hn0 ?_
            have := j3 true
            rw [show (x.natAbs : Int) = x by omega, show (n.natAbs : Int) = -n by omega] at this
            rw [decide_eq_false hx, decide_eq_true hn0]
            exact this
          · refine Ev.neg hn0 ?_
            have := j3 false
            rw [show (x.natAbs : Int) = x by omega, show (n.natAbs : Int) = n by omega] at this
            rw [decide_eq_false hx, decide_eq_false hn0]
            exact this
  · rw [if_neg c]
    exact Ev.neg c Ev.now

theorem moneyTimes_true (x n : Int) (g : (Lit.int .i64 x).wf = true) (g' : (Lit.int .i64 n).wf = true) : ∃ k, stipendlaw01_MoneyTimes.f k x n = some true := by
  apply Ev.get
  unfold stipendlaw01_MoneyTimes.f
  refine Ev.bind counts_ev (Ev.pos rfl (Ev.bind (mtimes_ev x n (i64b g) (i64b g')) (Ev.bind (reft_ev x n (i64b g')) (Ev.pos rfl (Ev.const ?_)))))
  simp
end Go.Proofs.YtmocphafkimdpaaDoor.P
