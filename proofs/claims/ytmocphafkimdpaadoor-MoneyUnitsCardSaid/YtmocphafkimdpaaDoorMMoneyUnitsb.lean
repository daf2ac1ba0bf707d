/- A part of the proof of MoneyUnits's card: 'MoneyUnits' answers true for every input (the conditions: those of the given statement alone). Merged by a program (wip/merge.py) out of: Pf20, HMoneyUnits. -/
import Derived.Test.YtmocphafkimdpaaDoorBMoneya
import Derived.Test.YtmocphafkimdpaaDoorBMoneyi
import Derived.Test.YtmocphafkimdpaaDoorBMoneyj
import Derived.Test.YtmocphafkimdpaaDoorMMoneyUnitsa

-- written by a program (a patched copy of the kit's print: wip/mkprint.py); Lean checks it
namespace Go.Proofs.YtmocphafkimdpaaDoor.P
open Go.RowKit Go.Proofs.YtmocphafkimdpaaDoorW.PrintWords Go.Proofs.YtmocphafkimdpaaDoorW.PrintLast Go.Proofs.YtmocphafkimdpaaDoorW.PrintMore
attribute [local go_sem] max2_int min2_int max_two min_two max_three min_three max_four min_four   -- for this text's walks alone
set_option linter.unusedVariables false
set_option linter.unusedSimpArgs false

/-! ### stipendlaw01_MoneyUnits: function 20 -/
mutual
def stipendlaw01_MoneyUnits.j0 : Nat → Int → Int → Bool → Int → Int → List Int → Int → Bool → Option (Bool)
 | 0, _, _, _, _, _, _, _, _ => none
 | k + 1, x0, x1, x2, x7, x8, x9, x10, x36 => if x36 = true then (if x8 = 10 then (if x10 = 10 then (if x7 = 0 then (some ((x9.length : Int) == 0)) else (some false)) else (some false)) else (some false)) else (if x1 ≤ 0 then (if x8 = 1 then (if x10 = 1 then (if x7 = 0 then (some ((x9.length : Int) == 0)) else (some false)) else (some false)) else (some false)) else (if x8 = 0 then (if x1 = 0 then (none) else (if (Int.tmod x7 x1) = 0 then (if x2 = true then (if x7 < x0 then (some false) else (if (wrap64 (x7 - x0)) ≥ x1 then (some false) else (stipendlaw01_MoneyUnits.j1 k x0 x1 x9 x10))) else (if x7 > x0 then (some false) else (if (wrap64 (x0 - x7)) ≥ x1 then (some false) else (stipendlaw01_MoneyUnits.j1 k x0 x1 x9 x10)))) else (some false))) else (if x8 = 10 then (if x7 = 0 then (if x0 ≤ (wrap64 (100000000000 - x1)) then (if x0 ≥ (wrap64 (x1 - 100000000000)) then (some false) else (stipendlaw01_MoneyUnits.j1 k x0 x1 x9 x10)) else (stipendlaw01_MoneyUnits.j1 k x0 x1 x9 x10)) else (some false)) else (some false))))
def stipendlaw01_MoneyUnits.j1 : Nat → Int → Int → List Int → Int → Option (Bool)
 | 0, _, _, _, _ => none
 | k + 1, x0, x1, x9, x10 => if x0 < 0 then (if x10 = 1 then (some ((x9.length : Int) == 0)) else (some false)) else (stipendlaw01_MoneyUnits.l0 k x0 x1 x9 x10 0 x9 (x9.length : Int) 0)
def stipendlaw01_MoneyUnits.l0 : Nat → Int → Int → List Int → Int → Int → List Int → Int → Int → Option (Bool)
 | 0, _, _, _, _, _, _, _, _ => none
 | k + 1, x0, x1, x9, x10, x11, x135, x136, x137 => if x137 < x136 then (if 0 ≤ x137 then (if x137 < (x135.length : Int) then (if (rd x135 x137) ≤ 0 then (some false) else (if (rd x135 x137) > x1 then (some false) else (if (wrap64 (x137 + 1)) < (x9.length : Int) then (if (rd x135 x137) = x1 then (stipendlaw01_MoneyUnits.l0 k x0 x1 x9 x10 (wrap64 (x11 + (rd x135 x137))) x135 x136 (wrap64 (x137 + 1))) else (some false)) else (stipendlaw01_MoneyUnits.l0 k x0 x1 x9 x10 (wrap64 (x11 + (rd x135 x137))) x135 x136 (wrap64 (x137 + 1)))))) else (none)) else (none)) else (if x10 = 0 then (if x11 = x0 then (some (decide ((x9.length : Int) ≤ 64))) else (some false)) else (if x10 = 2 then (if (x9.length : Int) = 0 then (some (decide (x0 > (wrap64 (64 * x1))))) else (some false)) else (some false)))
end
def stipendlaw01_MoneyUnits.f (k : Nat) (a0 : Int) (a1 : Int) (a2 : Bool) : Option (Bool) := (stipendlaw01_counts.f k).bind fun t682 => (if t682 = true then ((money_Quantum.f k a0 a1 a2).bind fun bt683 => ((money_Parts.f k a0 a1).bind fun bt685 => ((stipendref01_Right.f a0).bind fun t689 => (if t689 = true then ((stipendref01_Right.f a1).bind fun t690 => (stipendlaw01_MoneyUnits.j0 k a0 a1 a2 bt683.1 bt683.2 bt685.1 bt685.2 (!t690))) else (stipendlaw01_MoneyUnits.j0 k a0 a1 a2 bt683.1 bt683.2 bt685.1 bt685.2 true))))) else (some false))
theorem stipendlaw01_MoneyUnits.mono_l : ∀ k, (∀ y0 y1 y2 y3 y4 y5 y6 y7, LeO (stipendlaw01_MoneyUnits.j0 k y0 y1 y2 y3 y4 y5 y6 y7) (stipendlaw01_MoneyUnits.j0 (k + 1) y0 y1 y2 y3 y4 y5 y6 y7)) ∧ (∀ y0 y1 y2 y3, LeO (stipendlaw01_MoneyUnits.j1 k y0 y1 y2 y3) (stipendlaw01_MoneyUnits.j1 (k + 1) y0 y1 y2 y3)) ∧ (∀ y0 y1 y2 y3 y4 y5 y6 y7, LeO (stipendlaw01_MoneyUnits.l0 k y0 y1 y2 y3 y4 y5 y6 y7) (stipendlaw01_MoneyUnits.l0 (k + 1) y0 y1 y2 y3 y4 y5 y6 y7))
 | 0 => ⟨fun _ _ _ _ _ _ _ _ r h => by simp [stipendlaw01_MoneyUnits.j0] at h, fun _ _ _ _ r h => by simp [stipendlaw01_MoneyUnits.j1] at h, fun _ _ _ _ _ _ _ _ r h => by simp [stipendlaw01_MoneyUnits.l0] at h⟩
 | k + 1 => by
  obtain ⟨ih0, ih1, ih2⟩ := stipendlaw01_MoneyUnits.mono_l k
  refine ⟨?_, ?_, ?_⟩
  ·intro y0 y1 y2 y3 y4 y5 y6 y7
   unfold stipendlaw01_MoneyUnits.j0
   repeat' first
   | (with_reducible exact ih0 _ _ _ _ _ _ _ _)
   | (with_reducible exact ih1 _ _ _ _)
   | (with_reducible exact ih2 _ _ _ _ _ _ _ _)
   | (with_reducible exact money_Parts.mono _ _ _)
   | (with_reducible exact money_Quantum.mono _ _ _ _)
   | (with_reducible exact stipendlaw01_counts.mono _)
   | (with_reducible exact LeO.refl _)
   | (with_reducible exact LeO.none _)
   | (with_reducible refine LeO.ite ?_ ?_)
   | (with_reducible refine LeO.bind ?_ (fun _ => ?_))
   | exact ih0 _ _ _ _ _ _ _ _
   | exact ih1 _ _ _ _
   | exact ih2 _ _ _ _ _ _ _ _
   | exact money_Parts.mono _ _ _
   | exact money_Quantum.mono _ _ _ _
   | exact stipendlaw01_counts.mono _
   | exact LeO.none _
   | refine LeO.ite ?_ ?_
   | refine LeO.bind ?_ (fun _ => ?_)
  ·intro y0 y1 y2 y3
   unfold stipendlaw01_MoneyUnits.j1
   repeat' first
   | (with_reducible exact ih0 _ _ _ _ _ _ _ _)
   | (with_reducible exact ih1 _ _ _ _)
   | (with_reducible exact ih2 _ _ _ _ _ _ _ _)
   | (with_reducible exact money_Parts.mono _ _ _)
   | (with_reducible exact money_Quantum.mono _ _ _ _)
   | (with_reducible exact stipendlaw01_counts.mono _)
   | (with_reducible exact LeO.refl _)
   | (with_reducible exact LeO.none _)
   | (with_reducible refine LeO.ite ?_ ?_)
   | (with_reducible refine LeO.bind ?_ (fun _ => ?_))
   | exact ih0 _ _ _ _ _ _ _ _
   | exact ih1 _ _ _ _
   | exact ih2 _ _ _ _ _ _ _ _
   | exact money_Parts.mono _ _ _
   | exact money_Quantum.mono _ _ _ _
   | exact stipendlaw01_counts.mono _
   | exact LeO.none _
   | refine LeO.ite ?_ ?_
   | refine LeO.bind ?_ (fun _ => ?_)
  ·intro y0 y1 y2 y3 y4 y5 y6 y7
   unfold stipendlaw01_MoneyUnits.l0
   repeat' first
   | (with_reducible exact ih0 _ _ _ _ _ _ _ _)
   | (with_reducible exact ih1 _ _ _ _)
   | (with_reducible exact ih2 _ _ _ _ _ _ _ _)
   | (with_reducible exact money_Parts.mono _ _ _)
   | (with_reducible exact money_Quantum.mono _ _ _ _)
   | (with_reducible exact stipendlaw01_counts.mono _)
   | (with_reducible exact LeO.refl _)
   | (with_reducible exact LeO.none _)
   | (with_reducible refine LeO.ite ?_ ?_)
   | (with_reducible refine LeO.bind ?_ (fun _ => ?_))
   | exact ih0 _ _ _ _ _ _ _ _
   | exact ih1 _ _ _ _
   | exact ih2 _ _ _ _ _ _ _ _
   | exact money_Parts.mono _ _ _
   | exact money_Quantum.mono _ _ _ _
   | exact stipendlaw01_counts.mono _
   | exact LeO.none _
   | refine LeO.ite ?_ ?_
   | refine LeO.bind ?_ (fun _ => ?_)
theorem stipendlaw01_MoneyUnits.mono : ∀ a0 a1 a2 k, LeO (stipendlaw01_MoneyUnits.f k a0 a1 a2) (stipendlaw01_MoneyUnits.f (k + 1) a0 a1 a2) := by
 intro a0 a1 a2 k
 obtain ⟨ih0, ih1, ih2⟩ := stipendlaw01_MoneyUnits.mono_l k
 unfold stipendlaw01_MoneyUnits.f
 repeat' first
   | (with_reducible exact ih0 _ _ _ _ _ _ _ _)
   | (with_reducible exact ih1 _ _ _ _)
   | (with_reducible exact ih2 _ _ _ _ _ _ _ _)
   | (with_reducible exact money_Parts.mono _ _ _)
   | (with_reducible exact money_Quantum.mono _ _ _ _)
   | (with_reducible exact stipendlaw01_counts.mono _)
   | (with_reducible exact LeO.refl _)
   | (with_reducible exact LeO.none _)
   | (with_reducible refine LeO.ite ?_ ?_)
   | (with_reducible refine LeO.bind ?_ (fun _ => ?_))
   | exact ih0 _ _ _ _ _ _ _ _
   | exact ih1 _ _ _ _
   | exact ih2 _ _ _ _ _ _ _ _
   | exact money_Parts.mono _ _ _
   | exact money_Quantum.mono _ _ _ _
   | exact stipendlaw01_counts.mono _
   | exact LeO.none _
   | refine LeO.ite ?_ ?_
   | refine LeO.bind ?_ (fun _ => ?_)
set_option maxHeartbeats 8000000 in
set_option maxRecDepth 100000 in
theorem stipendlaw01_MoneyUnits.calls (k : Nat) (a0 : Int) (a1 : Int) (a2 : Bool) (r : Bool) (w : World) (h : stipendlaw01_MoneyUnits.f k a0 a1 a2 = some r) (hG : GTab w := by first | exact GTab.below HG.out (by repeat (first | (with_reducible first | exact HB.out | apply below_alloc | apply pw_below_drewN | apply below_drew1 | apply below_drew) | exact HB.out)) | exact HG.out) :
  Calls Tryd.prog 20 #[.int .i64 a0, .int .i64 a1, .bool a2] w fun e w' => e = .returned (.bool r) ∧ Below w.heap.size w w' := by
 have HG := Aside0.mk hG; clear hG
 have HB := Aside0.mk (Below.refl w.heap.size w)
 have H : ((stipendlaw01_counts.f k).bind fun t682 => (if t682 = true then ((money_Quantum.f k a0 a1 a2).bind fun bt683 => ((money_Parts.f k a0 a1).bind fun bt685 => ((stipendref01_Right.f a0).bind fun t689 => (if t689 = true then ((stipendref01_Right.f a1).bind fun t690 => (stipendlaw01_MoneyUnits.j0 k a0 a1 a2 bt683.1 bt683.2 bt685.1 bt685.2 (!t690))) else (stipendlaw01_MoneyUnits.j0 k a0 a1 a2 bt683.1 bt683.2 bt685.1 bt685.2 true))))) else (some false))) = some r := h
 clear h
 replace H := Option.bind_eq_some_iff.mp H
 obtain ⟨t682, A40, H⟩ := H
 replace H : (if t682 = true then ((money_Quantum.f k a0 a1 a2).bind fun bt683 => ((money_Parts.f k a0 a1).bind fun bt685 => ((stipendref01_Right.f a0).bind fun t689 => (if t689 = true then ((stipendref01_Right.f a1).bind fun t690 => (stipendlaw01_MoneyUnits.j0 k a0 a1 a2 bt683.1 bt683.2 bt685.1 bt685.2 (!t690))) else (stipendlaw01_MoneyUnits.j0 k a0 a1 a2 bt683.1 bt683.2 bt685.1 bt685.2 true))))) else (some false)) = some r := H
 have A4 := Aside0.mk A40
 clear A40
 by_cases c5 : t682 = true
 ·subst c5
  have H1 : ((money_Quantum.f k a0 a1 a2).bind fun bt683 => ((money_Parts.f k a0 a1).bind fun bt685 => ((stipendref01_Right.f a0).bind fun t689 => (if t689 = true then ((stipendref01_Right.f a1).bind fun t690 => (stipendlaw01_MoneyUnits.j0 k a0 a1 a2 bt683.1 bt683.2 bt685.1 bt685.2 (!t690))) else (stipendlaw01_MoneyUnits.j0 k a0 a1 a2 bt683.1 bt683.2 bt685.1 bt685.2 true))))) = some r := by rw [if_pos rfl] at H; exact H
  clear H
  have H := H1
  clear H1
  replace H := Option.bind_eq_some_iff.mp H
  obtain ⟨⟨t683, t684⟩, A60, H⟩ := H
  replace H : ((money_Parts.f k a0 a1).bind fun bt685 => ((stipendref01_Right.f a0).bind fun t689 => (if t689 = true then ((stipendref01_Right.f a1).bind fun t690 => (stipendlaw01_MoneyUnits.j0 k a0 a1 a2 t683 t684 bt685.1 bt685.2 (!t690))) else (stipendlaw01_MoneyUnits.j0 k a0 a1 a2 t683 t684 bt685.1 bt685.2 true)))) = some r := H
  have A6 := Aside0.mk A60
  clear A60
  replace H := Option.bind_eq_some_iff.mp H
  obtain ⟨⟨t685, t686⟩, A70, H⟩ := H
  replace H : ((stipendref01_Right.f a0).bind fun t689 => (if t689 = true then ((stipendref01_Right.f a1).bind fun t690 => (stipendlaw01_MoneyUnits.j0 k a0 a1 a2 t683 t684 t685 t686 (!t690))) else (stipendlaw01_MoneyUnits.j0 k a0 a1 a2 t683 t684 t685 t686 true))) = some r := H
  have A7 := Aside0.mk A70
  clear A70
  have HC8 := Aside0.mk H
  clear H
  go_enter Tryd.func20, Tryd.ntmps20
  go_upto_region 5 with (first | ((with_reducible refine gate_callee (f := 57) rfl ?_); refine goesL_ (some 14) rfl rfl Tryd.func57 (by kernel_rfl) rfl #[] rfl (by (try simp only [List.map_toArray, List.map_cons, List.map_nil]); first | done | rfl | (simp only [List.length_drop, List.length_take]; rfl)) ?_; (with_reducible refine (stipendlaw01_counts.calls k  true _ A4.out).mono ?_); rintro e w9 ⟨rfl, hb⟩; refine ⟨_, rfl, ?_⟩; have n0_ := Aside0.mk (below_step (by repeat (first | (with_reducible first | exact HB.out | apply below_alloc | apply pw_below_drewN | apply below_drew1) | exact HB.out)) hb); clear HB; have HB := n0_; clear n0_; (try clear hb); (try clear hb2); (try clear hk); (try clear hi)) | ((with_reducible refine gate_callee (f := 70) rfl ?_); refine goesL_ (some 20) rfl rfl Tryd.func70 (by kernel_rfl) rfl #[.int .i64 a0, .int .i64 a1, .bool a2] rfl (by (try simp only [List.map_toArray, List.map_cons, List.map_nil]); first | done | rfl | (simp only [List.length_drop, List.length_take]; rfl)) ?_; (with_reducible refine (money_Quantum.calls k a0 a1 a2 t683 t684 _ A6.out).mono ?_); rintro e w10 ⟨rfl, hb⟩; refine ⟨_, rfl, ?_⟩; have n0_ := Aside0.mk (below_step (by repeat (first | (with_reducible first | exact HB.out | apply below_alloc | apply pw_below_drewN | apply below_drew1) | exact HB.out)) hb); clear HB; have HB := n0_; clear n0_; (try clear hb); (try clear hb2); (try clear hk); (try clear hi)) | ((with_reducible refine gate_callee (f := 71) rfl ?_); refine goesL_ (some 26) rfl rfl Tryd.func71 (by kernel_rfl) rfl #[.int .i64 a0, .int .i64 a1] rfl (by (try simp only [List.map_toArray, List.map_cons, List.map_nil]); first | done | rfl | (simp only [List.length_drop, List.length_take]; rfl)) ?_; (with_reducible refine (money_Parts.calls k a0 a1 t685 t686 _ A7.out).mono ?_); rintro e w11 ⟨v687, rfl, ho0, hb⟩; refine ⟨_, rfl, ?_⟩; have n0_ := Aside0.mk (Kd.R_lower ho0 (below_size (by repeat (first | (with_reducible first | exact HB.out | apply below_alloc | apply pw_below_drewN | apply below_drew1) | exact HB.out)))); have n1_ := Aside0.mk (below_step (by repeat (first | (with_reducible first | exact HB.out | apply below_alloc | apply pw_below_drewN | apply below_drew1) | exact HB.out)) hb); clear HB; have HO688 := n0_; have HB := n1_; clear n0_ n1_; (try clear hb); (try clear hb2); (try clear hk); (try clear hi); (try clear ho0)))
  (try simp only [Act.put, List.setIfInBounds_toArray, List.set_cons_zero, List.set_cons_succ])
  go_cut [36] (fun v36 wc => ∃ (kq : Nat) (x36_7 : Bool), v36 = .bool x36_7 ∧ Aside0 (stipendlaw01_MoneyUnits.j0 kq a0 a1 a2 t683 t684 t685 t686 x36_7 = some r) ∧ Aside0 (kq ≤ k) ∧ Aside0 (Kd.R (Kd.int .i64) 2 wc w.heap.size (fun _ => True) v687 t685) ∧ Aside0 (Below w.heap.size w wc))
  case first =>
   have H := HC8.out
   clear HC8
   replace H := Option.bind_eq_some_iff.mp H
   obtain ⟨t689, A120, H⟩ := H
   replace H : (if t689 = true then ((stipendref01_Right.f a1).bind fun t690 => (stipendlaw01_MoneyUnits.j0 k a0 a1 a2 t683 t684 t685 t686 (!t690))) else (stipendlaw01_MoneyUnits.j0 k a0 a1 a2 t683 t684 t685 t686 true)) = some r := H
   have A12 := Aside0.mk A120
   clear A120
   by_cases c13 : t689 = true
   ·subst c13
    have H1 : ((stipendref01_Right.f a1).bind fun t690 => (stipendlaw01_MoneyUnits.j0 k a0 a1 a2 t683 t684 t685 t686 (!t690))) = some r := by rw [if_pos rfl] at H; exact H
    clear H
    have H := H1
    clear H1
    replace H := Option.bind_eq_some_iff.mp H
    obtain ⟨t690, A140, H⟩ := H
    replace H : (stipendlaw01_MoneyUnits.j0 k a0 a1 a2 t683 t684 t685 t686 (!t690)) = some r := H
    have A14 := Aside0.mk A140
    clear A140
    have H' := Aside0.mk H
    clear H
    go_wp2_with (first | ((with_reducible refine gate_callee (f := 59) rfl ?_); refine goesL_ (some 30) rfl rfl Tryd.func59 (by kernel_rfl) rfl #[.int .i64 a0] rfl (by (try simp only [List.map_toArray, List.map_cons, List.map_nil]); first | done | rfl | (simp only [List.length_drop, List.length_take]; rfl)) ?_; (with_reducible refine (stipendref01_Right.calls a0 true _ A12.out).mono ?_); rintro e w' ⟨rfl, ⟨nd, rfl⟩⟩; refine ⟨_, rfl, ?_⟩) | (go_at_call 59; (with_reducible refine (stipendref01_Right.calls a1 t690 _ A14.out).mono ?_); rintro e w' ⟨rfl, ⟨nd, rfl⟩⟩))
    go_meet
    case rel => exact ⟨_, (!t690), (by first | rfl | (simp; done) | (simp [*]; done)), H', ⟨by first | omega | exact Nat.le_refl _⟩, ⟨by (with_reducible repeat (first | apply Kd.R_alloc | apply Kd.R_drewN | apply Kd.R_drew)); exact HO688.out⟩, ⟨by repeat (first | (with_reducible first | exact HB.out | apply below_alloc | apply pw_below_drewN | apply below_drew1) | exact HB.out)⟩⟩
   ·replace c13 := Bool.eq_false_iff.mpr c13
    subst c13
    have H1 : (stipendlaw01_MoneyUnits.j0 k a0 a1 a2 t683 t684 t685 t686 true) = some r := by rw [if_neg (show ¬ (false = true) by decide)] at H; exact H
    clear H
    have H := H1
    clear H1
    have H' := Aside0.mk H
    clear H
    go_wp2_with (first | ((with_reducible refine gate_callee (f := 59) rfl ?_); refine goesL_ (some 30) rfl rfl Tryd.func59 (by kernel_rfl) rfl #[.int .i64 a0] rfl (by (try simp only [List.map_toArray, List.map_cons, List.map_nil]); first | done | rfl | (simp only [List.length_drop, List.length_take]; rfl)) ?_; (with_reducible refine (stipendref01_Right.calls a0 false _ A12.out).mono ?_); rintro e w' ⟨rfl, ⟨nd, rfl⟩⟩; refine ⟨_, rfl, ?_⟩))
    go_meet
    case rel => exact ⟨_, (true), (by first | rfl | (simp; done) | (simp [*]; done)), H', ⟨by first | omega | exact Nat.le_refl _⟩, ⟨by (with_reducible repeat (first | apply Kd.R_alloc | apply Kd.R_drewN | apply Kd.R_drew)); exact HO688.out⟩, ⟨by repeat (first | (with_reducible first | exact HB.out | apply below_alloc | apply pw_below_drewN | apply below_drew1) | exact HB.out)⟩⟩
  case rest =>
   clear HC8
   try clear c1
   try clear c2
   try clear p2
   try clear c5
   try clear c7
   try clear c13
   obtain ⟨kq, x36_7, rfl, HA, HJ7, HO_9, HB⟩ := hcut
   cases kq with
   | zero => exact absurd HA.out (by simp [stipendlaw01_MoneyUnits.j0])
   | succ kj7 =>
    have H := HA.out
    clear HA
    simp only [stipendlaw01_MoneyUnits.j0] at H
    by_cases c15 : x36_7 = true
    ·subst c15
     have H1 : (if t684 = 10 then (if t686 = 10 then (if t683 = 0 then (some ((t685.length : Int) == 0)) else (some false)) else (some false)) else (some false)) = some r := by rw [if_pos rfl] at H; exact H
     clear H
     have H := H1
     clear H1
     by_cases c16 : t684 = 10
     ·rw [if_pos c16] at H
      have c16b0 : (t684 == 10) = true := beq_iff_eq.mpr c16
      have c16b1 : (t684 != 10) = false := bne_eq_false_iff_eq.mpr c16
      clear c16
      by_cases c17 : t686 = 10
      ·rw [if_pos c17] at H
       have c17b0 : (t686 == 10) = true := beq_iff_eq.mpr c17
       have c17b1 : (t686 != 10) = false := bne_eq_false_iff_eq.mpr c17
       clear c17
       by_cases c18 : t683 = 0
       ·rw [if_pos c18] at H
        have c18b0 : (t683 == 0) = true := beq_iff_eq.mpr c18
        have c18b1 : (t683 != 0) = false := bne_eq_false_iff_eq.mpr c18
        clear c18
        obtain rfl := Option.some.inj H
        obtain ⟨Ao19, co19, eo19⟩ := Kd.R_slice HO_9.out
        subst eo19
        go_wp2
        go_ret
        exact ⟨by first | rfl | (simp [errW_none, errW_some] <;> rfl) | (simp [*, errW_none, errW_some] <;> rfl), by repeat (first | (with_reducible first | exact HB.out | apply below_alloc | apply pw_below_drewN | apply below_drew1) | exact HB.out)⟩
       ·rw [if_neg c18] at H
        have c18b0 : (t683 == 0) = false := beq_eq_false_iff_ne.mpr c18
        have c18b1 : (t683 != 0) = true := bne_iff_ne.mpr c18
        obtain rfl := Option.some.inj H
        go_wp2
        go_ret
        exact ⟨by first | rfl | (simp [errW_none, errW_some] <;> rfl) | (simp [*, errW_none, errW_some] <;> rfl), by repeat (first | (with_reducible first | exact HB.out | apply below_alloc | apply pw_below_drewN | apply below_drew1) | exact HB.out)⟩
      ·rw [if_neg c17] at H
       have c17b0 : (t686 == 10) = false := beq_eq_false_iff_ne.mpr c17
       have c17b1 : (t686 != 10) = true := bne_iff_ne.mpr c17
       obtain rfl := Option.some.inj H
       go_wp2
       go_ret
       exact ⟨by first | rfl | (simp [errW_none, errW_some] <;> rfl) | (simp [*, errW_none, errW_some] <;> rfl), by repeat (first | (with_reducible first | exact HB.out | apply below_alloc | apply pw_below_drewN | apply below_drew1) | exact HB.out)⟩
     ·rw [if_neg c16] at H
      have c16b0 : (t684 == 10) = false := beq_eq_false_iff_ne.mpr c16
      have c16b1 : (t684 != 10) = true := bne_iff_ne.mpr c16
      obtain rfl := Option.some.inj H
      go_wp2
      go_ret
      exact ⟨by first | rfl | (simp [errW_none, errW_some] <;> rfl) | (simp [*, errW_none, errW_some] <;> rfl), by repeat (first | (with_reducible first | exact HB.out | apply below_alloc | apply pw_below_drewN | apply below_drew1) | exact HB.out)⟩
    ·replace c15 := Bool.eq_false_iff.mpr c15
     subst c15
     have H1 : (if a1 ≤ 0 then (if t684 = 1 then (if t686 = 1 then (if t683 = 0 then (some ((t685.length : Int) == 0)) else (some false)) else (some false)) else (some false)) else (if t684 = 0 then (if a1 = 0 then (none) else (if (Int.tmod t683 a1) = 0 then (if a2 = true then (if t683 < a0 then (some false) else (if (wrap64 (t683 - a0)) ≥ a1 then (some false) else (stipendlaw01_MoneyUnits.j1 kj7 a0 a1 t685 t686))) else (if t683 > a0 then (some false) else (if (wrap64 (a0 - t683)) ≥ a1 then (some false) else (stipendlaw01_MoneyUnits.j1 kj7 a0 a1 t685 t686)))) else (some false))) else (if t684 = 10 then (if t683 = 0 then (if a0 ≤ (wrap64 (100000000000 - a1)) then (if a0 ≥ (wrap64 (a1 - 100000000000)) then (some false) else (stipendlaw01_MoneyUnits.j1 kj7 a0 a1 t685 t686)) else (stipendlaw01_MoneyUnits.j1 kj7 a0 a1 t685 t686)) else (some false)) else (some false)))) = some r := by rw [if_neg (show ¬ (false = true) by decide)] at H; exact H
     clear H
     have H := H1
     clear H1
     by_cases c20 : a1 ≤ 0
     ·rw [if_pos c20] at H
      have c20b0 : decide (a1 ≤ 0) = true := decide_eq_true c20
      clear c20
      by_cases c21 : t684 = 1
      ·rw [if_pos c21] at H
       have c21b0 : (t684 == 1) = true := beq_iff_eq.mpr c21
       have c21b1 : (t684 != 1) = false := bne_eq_false_iff_eq.mpr c21
       clear c21
       by_cases c22 : t686 = 1
       ·rw [if_pos c22] at H
        have c22b0 : (t686 == 1) = true := beq_iff_eq.mpr c22
        have c22b1 : (t686 != 1) = false := bne_eq_false_iff_eq.mpr c22
        clear c22
        by_cases c23 : t683 = 0
        ·rw [if_pos c23] at H
         have c23b0 : (t683 == 0) = true := beq_iff_eq.mpr c23
         have c23b1 : (t683 != 0) = false := bne_eq_false_iff_eq.mpr c23
         clear c23
         obtain rfl := Option.some.inj H
         obtain ⟨Ao24, co24, eo24⟩ := Kd.R_slice HO_9.out
         subst eo24
         go_wp2
         go_ret
         exact ⟨by first | rfl | (simp [errW_none, errW_some] <;> rfl) | (simp [*, errW_none, errW_some] <;> rfl), by repeat (first | (with_reducible first | exact HB.out | apply below_alloc | apply pw_below_drewN | apply below_drew1) | exact HB.out)⟩
        ·rw [if_neg c23] at H
         have c23b0 : (t683 == 0) = false := beq_eq_false_iff_ne.mpr c23
         have c23b1 : (t683 != 0) = true := bne_iff_ne.mpr c23
         obtain rfl := Option.some.inj H
         go_wp2
         go_ret
         exact ⟨by first | rfl | (simp [errW_none, errW_some] <;> rfl) | (simp [*, errW_none, errW_some] <;> rfl), by repeat (first | (with_reducible first | exact HB.out | apply below_alloc | apply pw_below_drewN | apply below_drew1) | exact HB.out)⟩
       ·rw [if_neg c22] at H
        have c22b0 : (t686 == 1) = false := beq_eq_false_iff_ne.mpr c22
        have c22b1 : (t686 != 1) = true := bne_iff_ne.mpr c22
        obtain rfl := Option.some.inj H
        go_wp2
        go_ret
        exact ⟨by first | rfl | (simp [errW_none, errW_some] <;> rfl) | (simp [*, errW_none, errW_some] <;> rfl), by repeat (first | (with_reducible first | exact HB.out | apply below_alloc | apply pw_below_drewN | apply below_drew1) | exact HB.out)⟩
      ·rw [if_neg c21] at H
       have c21b0 : (t684 == 1) = false := beq_eq_false_iff_ne.mpr c21
       have c21b1 : (t684 != 1) = true := bne_iff_ne.mpr c21
       obtain rfl := Option.some.inj H
       go_wp2
       go_ret
       exact ⟨by first | rfl | (simp [errW_none, errW_some] <;> rfl) | (simp [*, errW_none, errW_some] <;> rfl), by repeat (first | (with_reducible first | exact HB.out | apply below_alloc | apply pw_below_drewN | apply below_drew1) | exact HB.out)⟩
     ·rw [if_neg c20] at H
      have c20b0 : decide (a1 ≤ 0) = false := decide_eq_false c20
      clear c20
      have HC25 := Aside0.mk H
      clear H
      go_upto_block 0 with (fail)
      go_cut [] (fun wc => ∃ (kq : Nat), Aside0 (stipendlaw01_MoneyUnits.j1 kq a0 a1 t685 t686 = some r) ∧ Aside0 (kq ≤ kj7) ∧ Aside0 (Kd.R (Kd.int .i64) 2 wc w.heap.size (fun _ => True) v687 t685) ∧ Aside0 (Below w.heap.size w wc))
      case first =>
       have H := HC25.out
       clear HC25
       by_cases c26 : t684 = 0
       ·rw [if_pos c26] at H
        have c26b0 : (t684 == 0) = true := beq_iff_eq.mpr c26
        have c26b1 : (t684 != 0) = false := bne_eq_false_iff_eq.mpr c26
        clear c26
        (first | rw [c26b0] | (simp only [i64_w, i32_w]; rw [c26b0]) | skip)
        by_cases c27 : a1 = 0
        ·rw [if_pos c27] at H
         exact absurd H (by simp)
        ·rw [if_neg c27] at H
         have c27b0 : (a1 == 0) = false := beq_eq_false_iff_ne.mpr c27
         have c27b1 : (a1 != 0) = true := bne_iff_ne.mpr c27
         by_cases c28 : (Int.tmod t683 a1) = 0
         ·rw [if_pos c28] at H
          have c28b0 : ((Int.tmod t683 a1) == 0) = true := beq_iff_eq.mpr c28
          have c28b1 : ((Int.tmod t683 a1) != 0) = false := bne_eq_false_iff_eq.mpr c28
          clear c28
          by_cases c29 : a2 = true
          ·subst c29
           have H1 : (if t683 < a0 then (some false) else (if (wrap64 (t683 - a0)) ≥ a1 then (some false) else (stipendlaw01_MoneyUnits.j1 kj7 a0 a1 t685 t686))) = some r := by rw [if_pos rfl] at H; exact H
           clear H
           have H := H1
           clear H1
           by_cases c30 : t683 < a0
           ·rw [if_pos c30] at H
            have c30b0 : decide (t683 < a0) = true := decide_eq_true c30
            clear c30
            obtain rfl := Option.some.inj H
            go_wp2
            go_ret
            exact ⟨by first | rfl | (simp [errW_none, errW_some] <;> rfl) | (simp [*, errW_none, errW_some] <;> rfl), by repeat (first | (with_reducible first | exact HB.out | apply below_alloc | apply pw_below_drewN | apply below_drew1) | exact HB.out)⟩
           ·rw [if_neg c30] at H
            have c30b0 : decide (t683 < a0) = false := decide_eq_false c30
            clear c30
            by_cases c31 : (wrap64 (t683 - a0)) ≥ a1
            ·rw [if_pos c31] at H
             have c31b0 : decide (a1 ≤ (wrap64 (t683 - a0))) = true := decide_eq_true c31
             clear c31
             obtain rfl := Option.some.inj H
             go_wp2
             go_ret
             exact ⟨by first | rfl | (simp [errW_none, errW_some] <;> rfl) | (simp [*, errW_none, errW_some] <;> rfl), by repeat (first | (with_reducible first | exact HB.out | apply below_alloc | apply pw_below_drewN | apply below_drew1) | exact HB.out)⟩
            ·rw [if_neg c31] at H
             have c31b0 : decide (a1 ≤ (wrap64 (t683 - a0))) = false := decide_eq_false c31
             clear c31
             have H' := Aside0.mk H
             clear H
             go_wp2
             go_meet
             case rel => exact ⟨_, H', ⟨by have := HJ7.out; first | omega | exact Nat.le_refl _⟩, ⟨by (with_reducible repeat (first | apply Kd.R_alloc | apply Kd.R_drewN | apply Kd.R_drew)); exact HO_9.out⟩, ⟨by repeat (first | (with_reducible first | exact HB.out | apply below_alloc | apply pw_below_drewN | apply below_drew1) | exact HB.out)⟩⟩
          ·replace c29 := Bool.eq_false_iff.mpr c29
           subst c29
           have H1 : (if t683 > a0 then (some false) else (if (wrap64 (a0 - t683)) ≥ a1 then (some false) else (stipendlaw01_MoneyUnits.j1 kj7 a0 a1 t685 t686))) = some r := by rw [if_neg (show ¬ (false = true) by decide)] at H; exact H
           clear H
           have H := H1
           clear H1
           by_cases c32 : t683 > a0
           ·rw [if_pos c32] at H
            have c32b0 : decide (a0 < t683) = true := decide_eq_true c32
            clear c32
            obtain rfl := Option.some.inj H
            go_wp2
            go_ret
            exact ⟨by first | rfl | (simp [errW_none, errW_some] <;> rfl) | (simp [*, errW_none, errW_some] <;> rfl), by repeat (first | (with_reducible first | exact HB.out | apply below_alloc | apply pw_below_drewN | apply below_drew1) | exact HB.out)⟩
           ·rw [if_neg c32] at H
            have c32b0 : decide (a0 < t683) = false := decide_eq_false c32
            clear c32
            by_cases c33 : (wrap64 (a0 - t683)) ≥ a1
            ·rw [if_pos c33] at H
             have c33b0 : decide (a1 ≤ (wrap64 (a0 - t683))) = true := decide_eq_true c33
             clear c33
             obtain rfl := Option.some.inj H
             go_wp2
             go_ret
             exact ⟨by first | rfl | (simp [errW_none, errW_some] <;> rfl) | (simp [*, errW_none, errW_some] <;> rfl), by repeat (first | (with_reducible first | exact HB.out | apply below_alloc | apply pw_below_drewN | apply below_drew1) | exact HB.out)⟩
            ·rw [if_neg c33] at H
             have c33b0 : decide (a1 ≤ (wrap64 (a0 - t683))) = false := decide_eq_false c33
             clear c33
             have H' := Aside0.mk H
             clear H
             go_wp2
             go_meet
             case rel => exact ⟨_, H', ⟨by have := HJ7.out; first | omega | exact Nat.le_refl _⟩, ⟨by (with_reducible repeat (first | apply Kd.R_alloc | apply Kd.R_drewN | apply Kd.R_drew)); exact HO_9.out⟩, ⟨by repeat (first | (with_reducible first | exact HB.out | apply below_alloc | apply pw_below_drewN | apply below_drew1) | exact HB.out)⟩⟩
         ·rw [if_neg c28] at H
          have c28b0 : ((Int.tmod t683 a1) == 0) = false := beq_eq_false_iff_ne.mpr c28
          have c28b1 : ((Int.tmod t683 a1) != 0) = true := bne_iff_ne.mpr c28
          obtain rfl := Option.some.inj H
          go_wp2
          go_ret
          exact ⟨by first | rfl | (simp [errW_none, errW_some] <;> rfl) | (simp [*, errW_none, errW_some] <;> rfl), by repeat (first | (with_reducible first | exact HB.out | apply below_alloc | apply pw_below_drewN | apply below_drew1) | exact HB.out)⟩
       ·rw [if_neg c26] at H
        have c26b0 : (t684 == 0) = false := beq_eq_false_iff_ne.mpr c26
        have c26b1 : (t684 != 0) = true := bne_iff_ne.mpr c26
        (first | rw [c26b0] | (simp only [i64_w, i32_w]; rw [c26b0]) | skip)
        by_cases c34 : t684 = 10
        ·rw [if_pos c34] at H
         have c34b0 : (t684 == 10) = true := beq_iff_eq.mpr c34
         have c34b1 : (t684 != 10) = false := bne_eq_false_iff_eq.mpr c34
         clear c34
         by_cases c35 : t683 = 0
         ·rw [if_pos c35] at H
          have c35b0 : (t683 == 0) = true := beq_iff_eq.mpr c35
          have c35b1 : (t683 != 0) = false := bne_eq_false_iff_eq.mpr c35
          clear c35
          by_cases c36 : a0 ≤ (wrap64 (100000000000 - a1))
          ·rw [if_pos c36] at H
           have c36b0 : decide (a0 ≤ (wrap64 (100000000000 - a1))) = true := decide_eq_true c36
           clear c36
           by_cases c37 : a0 ≥ (wrap64 (a1 - 100000000000))
           ·rw [if_pos c37] at H
            have c37b0 : decide ((wrap64 (a1 - 100000000000)) ≤ a0) = true := decide_eq_true c37
            clear c37
            obtain rfl := Option.some.inj H
            go_wp2
            go_ret
            exact ⟨by first | rfl | (simp [errW_none, errW_some] <;> rfl) | (simp [*, errW_none, errW_some] <;> rfl), by repeat (first | (with_reducible first | exact HB.out | apply below_alloc | apply pw_below_drewN | apply below_drew1) | exact HB.out)⟩
           ·rw [if_neg c37] at H
            have c37b0 : decide ((wrap64 (a1 - 100000000000)) ≤ a0) = false := decide_eq_false c37
            clear c37
            have H' := Aside0.mk H
            clear H
            go_wp2
            go_meet
            case rel => exact ⟨_, H', ⟨by have := HJ7.out; first | omega | exact Nat.le_refl _⟩, ⟨by (with_reducible repeat (first | apply Kd.R_alloc | apply Kd.R_drewN | apply Kd.R_drew)); exact HO_9.out⟩, ⟨by repeat (first | (with_reducible first | exact HB.out | apply below_alloc | apply pw_below_drewN | apply below_drew1) | exact HB.out)⟩⟩
          ·rw [if_neg c36] at H
           have c36b0 : decide (a0 ≤ (wrap64 (100000000000 - a1))) = false := decide_eq_false c36
           clear c36
           have H' := Aside0.mk H
           clear H
           go_wp2
           go_meet
           case rel => exact ⟨_, H', ⟨by have := HJ7.out; first | omega | exact Nat.le_refl _⟩, ⟨by (with_reducible repeat (first | apply Kd.R_alloc | apply Kd.R_drewN | apply Kd.R_drew)); exact HO_9.out⟩, ⟨by repeat (first | (with_reducible first | exact HB.out | apply below_alloc | apply pw_below_drewN | apply below_drew1) | exact HB.out)⟩⟩
         ·rw [if_neg c35] at H
          have c35b0 : (t683 == 0) = false := beq_eq_false_iff_ne.mpr c35
          have c35b1 : (t683 != 0) = true := bne_iff_ne.mpr c35
          obtain rfl := Option.some.inj H
          go_wp2
          go_ret
          exact ⟨by first | rfl | (simp [errW_none, errW_some] <;> rfl) | (simp [*, errW_none, errW_some] <;> rfl), by repeat (first | (with_reducible first | exact HB.out | apply below_alloc | apply pw_below_drewN | apply below_drew1) | exact HB.out)⟩
        ·rw [if_neg c34] at H
         have c34b0 : (t684 == 10) = false := beq_eq_false_iff_ne.mpr c34
         have c34b1 : (t684 != 10) = true := bne_iff_ne.mpr c34
         obtain rfl := Option.some.inj H
         go_wp2
         go_ret
         exact ⟨by first | rfl | (simp [errW_none, errW_some] <;> rfl) | (simp [*, errW_none, errW_some] <;> rfl), by repeat (first | (with_reducible first | exact HB.out | apply below_alloc | apply pw_below_drewN | apply below_drew1) | exact HB.out)⟩
      case rest =>
       clear HC25
       try clear c1
       try clear c2
       try clear p2
       try clear c3
       try clear c5
       try clear p6
       try clear c7
       try clear c13
       try clear c15
       try clear c16
       try clear c16b0
       try clear c16b1
       try clear c17
       try clear c17b0
       try clear c17b1
       try clear c18
       try clear c18b0
       try clear c18b1
       try clear c20
       try clear c20b0
       try clear c21
       try clear c21b0
       try clear c21b1
       try clear c22
       try clear c22b0
       try clear c22b1
       try clear c23
       try clear c23b0
       try clear c23b1
       try clear c26
       try clear c26b0
       try clear c26b1
       try clear c27
       try clear c27b0
       try clear c27b1
       try clear c28
       try clear c28b0
       try clear c28b1
       try clear c29
       try clear c30
       try clear c30b0
       try clear c31
       try clear c31b0
       try clear c32
       try clear c32b0
       try clear c33
       try clear c33b0
       try clear c34
       try clear c34b0
       try clear c34b1
       try clear c35
       try clear c35b0
       try clear c35b1
       try clear c36
       try clear c36b0
       try clear c37
       try clear c37b0
       try clear p2
       obtain ⟨kq, HA, HJ24, HO_9, HB⟩ := hcut
       cases kq with
       | zero => exact absurd HA.out (by simp [stipendlaw01_MoneyUnits.j1])
       | succ kj24 =>
        have H := HA.out
        clear HA
        simp only [stipendlaw01_MoneyUnits.j1] at H
        by_cases c38 : a0 < 0
        ·rw [if_pos c38] at H
         have c38b0 : decide (a0 < 0) = true := decide_eq_true c38
         clear c38
         by_cases c39 : t686 = 1
         ·rw [if_pos c39] at H
          have c39b0 : (t686 == 1) = true := beq_iff_eq.mpr c39
          have c39b1 : (t686 != 1) = false := bne_eq_false_iff_eq.mpr c39
          clear c39
          obtain rfl := Option.some.inj H
          obtain ⟨Ao40, co40, eo40⟩ := Kd.R_slice HO_9.out
          subst eo40
          go_wp2
          go_ret
          exact ⟨by first | rfl | (simp [errW_none, errW_some] <;> rfl) | (simp [*, errW_none, errW_some] <;> rfl), by repeat (first | (with_reducible first | exact HB.out | apply below_alloc | apply pw_below_drewN | apply below_drew1) | exact HB.out)⟩
         ·rw [if_neg c39] at H
          have c39b0 : (t686 == 1) = false := beq_eq_false_iff_ne.mpr c39
          have c39b1 : (t686 != 1) = true := bne_iff_ne.mpr c39
          obtain rfl := Option.some.inj H
          go_wp2
          go_ret
          exact ⟨by first | rfl | (simp [errW_none, errW_some] <;> rfl) | (simp [*, errW_none, errW_some] <;> rfl), by repeat (first | (with_reducible first | exact HB.out | apply below_alloc | apply pw_below_drewN | apply below_drew1) | exact HB.out)⟩
        ·rw [if_neg c38] at H
         have c38b0 : decide (a0 < 0) = false := decide_eq_false c38
         clear c38
         have H' := Aside0.mk H
         clear H
         obtain ⟨Ao41, co41, eo41⟩ := Kd.R_slice HO_9.out
         subst eo41
         go_wp2
         go_loopg [11, 137] kj24 (fun kq v11 v137 w' => ∃ (x11_3 : Int) (x137_3 : Int), v11 = .int .i64 x11_3 ∧ v137 = .int .i64 x137_3 ∧ Aside0 (stipendlaw01_MoneyUnits.l0 kq a0 a1 t685 t686 x11_3 t685 (t685.length : Int) x137_3 = some r) ∧ Aside0 (kq ≤ kj24) ∧ Aside0 (Kd.R (Kd.int .i64) 2 w' w.heap.size (fun _ => True) (.slice Ao41 t685.length co41) t685) ∧ Aside0 (Kd.R (Kd.int .i64) 2 w' w.heap.size (fun _ => True) (.slice Ao41 t685.length co41) t685) ∧ Aside0 (Below w.heap.size w w'))
         case atStart => exact ⟨(0), (0), (by first | rfl | (simp; done) | (simp [*]; done)), (by first | rfl | (simp; done) | (simp [*]; done)), H', ⟨Nat.le_refl _⟩, ⟨by (with_reducible repeat (first | apply Kd.R_alloc | apply Kd.R_drewN | apply Kd.R_drew)); exact HO_9.out⟩, ⟨by (with_reducible repeat (first | apply Kd.R_alloc | apply Kd.R_drewN | apply Kd.R_drew)); exact HO_9.out⟩, ⟨by repeat (first | (with_reducible first | exact HB.out | apply below_alloc | apply pw_below_drewN | apply below_drew1) | exact HB.out)⟩⟩
         case round =>
          clear H'
          try clear c1
          try clear c2
          try clear p2
          try clear c3
          try clear c5
          try clear p6
          try clear c7
          try clear c13
          try clear c15
          try clear c16
          try clear c16b0
          try clear c16b1
          try clear c17
          try clear c17b0
          try clear c17b1
          try clear c18
          try clear c18b0
          try clear c18b1
          try clear c20
          try clear c20b0
          try clear c21
          try clear c21b0
          try clear c21b1
          try clear c22
          try clear c22b0
          try clear c22b1
          try clear c23
          try clear c23b0
          try clear c23b1
          try clear c26
          try clear c26b0
          try clear c26b1
          try clear c27
          try clear c27b0
          try clear c27b1
          try clear c28
          try clear c28b0
          try clear c28b1
          try clear c29
          try clear c30
          try clear c30b0
          try clear c31
          try clear c31b0
          try clear c32
          try clear c32b0
          try clear c33
          try clear c33b0
          try clear c34
          try clear c34b0
          try clear c34b1
          try clear c35
          try clear c35b0
          try clear c35b1
          try clear c36
          try clear c36b0
          try clear c37
          try clear c37b0
          try clear c38
          try clear c38b0
          try clear c39
          try clear c39b0
          try clear c39b1
          try clear p2
          try clear p6
          obtain ⟨x11_3, x137_3, rfl, rfl, HA, HK3, HO_9, HO_135, HB⟩ := hrel
          cases gk with
          | zero => exact absurd HA.out (by simp [stipendlaw01_MoneyUnits.l0])
          | succ k3 =>
           have H := HA.out
           clear HA
           simp only [stipendlaw01_MoneyUnits.l0] at H
           by_cases c42 : x137_3 < (t685.length : Int)
           ·rw [if_pos c42] at H
            have c42b0 : decide (x137_3 < (t685.length : Int)) = true := decide_eq_true c42
            clear c42
            by_cases c43 : 0 ≤ x137_3
            ·rw [if_pos c43] at H
             have c43b0 : decide (0 ≤ x137_3) = true := decide_eq_true c43
             clear c43
             by_cases c44 : x137_3 < (t685.length : Int)
             ·rw [if_pos c44] at H
              have c44b0 : decide (x137_3 < (t685.length : Int)) = true := decide_eq_true c44
              clear c44
              by_cases c45 : (rd t685 x137_3) ≤ 0
              ·rw [if_pos c45] at H
               have c45b0 : decide ((rd t685 x137_3) ≤ 0) = true := decide_eq_true c45
               clear c45
               obtain rfl := Option.some.inj H
               have p691 : 0 ≤ (x137_3 : Int) := of_decide_eq_true (by first | (with_reducible assumption) | assumption)
               have q691 : x137_3 < (t685.length : Int) := of_decide_eq_true (by first | (with_reducible assumption) | assumption)
               obtain ⟨ad691, e691, hx691_0⟩ := Kd.at_int (Kd.R_reads' HO_135.out).2.2 x137_3 p691 q691
               cases e691
               replace p691 := eq_true p691
               replace q691 := eq_true q691
               go_wp2
               go_ret
               exact ⟨by first | rfl | (simp [errW_none, errW_some] <;> rfl) | (simp [*, errW_none, errW_some] <;> rfl), by repeat (first | (with_reducible first | exact HB.out | apply below_alloc | apply pw_below_drewN | apply below_drew1) | exact HB.out)⟩
              ·rw [if_neg c45] at H
               have c45b0 : decide ((rd t685 x137_3) ≤ 0) = false := decide_eq_false c45
               clear c45
               by_cases c46 : (rd t685 x137_3) > a1
               ·rw [if_pos c46] at H
                have c46b0 : decide (a1 < (rd t685 x137_3)) = true := decide_eq_true c46
                clear c46
                obtain rfl := Option.some.inj H
                have p691 : 0 ≤ (x137_3 : Int) := of_decide_eq_true (by first | (with_reducible assumption) | assumption)
                have q691 : x137_3 < (t685.length : Int) := of_decide_eq_true (by first | (with_reducible assumption) | assumption)
                obtain ⟨ad691, e691, hx691_0⟩ := Kd.at_int (Kd.R_reads' HO_135.out).2.2 x137_3 p691 q691
                cases e691
                replace p691 := eq_true p691
                replace q691 := eq_true q691
                go_wp2
                go_ret
                exact ⟨by first | rfl | (simp [errW_none, errW_some] <;> rfl) | (simp [*, errW_none, errW_some] <;> rfl), by repeat (first | (with_reducible first | exact HB.out | apply below_alloc | apply pw_below_drewN | apply below_drew1) | exact HB.out)⟩
               ·rw [if_neg c46] at H
                have c46b0 : decide (a1 < (rd t685 x137_3)) = false := decide_eq_false c46
                clear c46
                by_cases c47 : (wrap64 (x137_3 + 1)) < (t685.length : Int)
                ·rw [if_pos c47] at H
                 have c47b0 : decide ((wrap64 (x137_3 + 1)) < (t685.length : Int)) = true := decide_eq_true c47
                 clear c47
                 by_cases c48 : (rd t685 x137_3) = a1
                 ·rw [if_pos c48] at H
                  have c48b0 : ((rd t685 x137_3) == a1) = true := beq_iff_eq.mpr c48
                  have c48b1 : ((rd t685 x137_3) != a1) = false := bne_eq_false_iff_eq.mpr c48
                  clear c48
                  have H' := Aside0.mk H
                  clear H
                  have p691 : 0 ≤ (x137_3 : Int) := of_decide_eq_true (by first | (with_reducible assumption) | assumption)
                  have q691 : x137_3 < (t685.length : Int) := of_decide_eq_true (by first | (with_reducible assumption) | assumption)
                  obtain ⟨ad691, e691, hx691_0⟩ := Kd.at_int (Kd.R_reads' HO_135.out).2.2 x137_3 p691 q691
                  cases e691
                  replace p691 := eq_true p691
                  replace q691 := eq_true q691
                  go_wp2
                  go_roundg k3
                  case measure => have := HJ7.out; have := HJ24.out; have := HK3.out; omega
                  case rel => exact ⟨(wrap64 (x11_3 + (rd t685 x137_3))), (wrap64 (x137_3 + 1)), (by first | rfl | (simp; done) | (simp [*]; done)), (by first | rfl | (simp; done) | (simp [*]; done)), H', ⟨by have := HJ7.out; have := HJ24.out; have := HK3.out; omega⟩, ⟨by (with_reducible repeat (first | apply Kd.R_alloc | apply Kd.R_drewN | apply Kd.R_drew)); exact HO_9.out⟩, ⟨by (with_reducible repeat (first | apply Kd.R_alloc | apply Kd.R_drewN | apply Kd.R_drew)); exact HO_135.out⟩, ⟨by repeat (first | (with_reducible first | exact HB.out | apply below_alloc | apply pw_below_drewN | apply below_drew1) | exact HB.out)⟩⟩
                 ·rw [if_neg c48] at H
                  have c48b0 : ((rd t685 x137_3) == a1) = false := beq_eq_false_iff_ne.mpr c48
                  have c48b1 : ((rd t685 x137_3) != a1) = true := bne_iff_ne.mpr c48
                  obtain rfl := Option.some.inj H
                  have p691 : 0 ≤ (x137_3 : Int) := of_decide_eq_true (by first | (with_reducible assumption) | assumption)
                  have q691 : x137_3 < (t685.length : Int) := of_decide_eq_true (by first | (with_reducible assumption) | assumption)
                  obtain ⟨ad691, e691, hx691_0⟩ := Kd.at_int (Kd.R_reads' HO_135.out).2.2 x137_3 p691 q691
                  cases e691
                  replace p691 := eq_true p691
                  replace q691 := eq_true q691
                  go_wp2
                  go_ret
                  exact ⟨by first | rfl | (simp [errW_none, errW_some] <;> rfl) | (simp [*, errW_none, errW_some] <;> rfl), by repeat (first | (with_reducible first | exact HB.out | apply below_alloc | apply pw_below_drewN | apply below_drew1) | exact HB.out)⟩
                ·rw [if_neg c47] at H
                 have c47b0 : decide ((wrap64 (x137_3 + 1)) < (t685.length : Int)) = false := decide_eq_false c47
                 clear c47
                 have H' := Aside0.mk H
                 clear H
                 have p691 : 0 ≤ (x137_3 : Int) := of_decide_eq_true (by first | (with_reducible assumption) | assumption)
                 have q691 : x137_3 < (t685.length : Int) := of_decide_eq_true (by first | (with_reducible assumption) | assumption)
                 obtain ⟨ad691, e691, hx691_0⟩ := Kd.at_int (Kd.R_reads' HO_135.out).2.2 x137_3 p691 q691
                 cases e691
                 replace p691 := eq_true p691
                 replace q691 := eq_true q691
                 go_wp2
                 go_roundg k3
                 case measure => have := HJ7.out; have := HJ24.out; have := HK3.out; omega
                 case rel => exact ⟨(wrap64 (x11_3 + (rd t685 x137_3))), (wrap64 (x137_3 + 1)), (by first | rfl | (simp; done) | (simp [*]; done)), (by first | rfl | (simp; done) | (simp [*]; done)), H', ⟨by have := HJ7.out; have := HJ24.out; have := HK3.out; omega⟩, ⟨by (with_reducible repeat (first | apply Kd.R_alloc | apply Kd.R_drewN | apply Kd.R_drew)); exact HO_9.out⟩, ⟨by (with_reducible repeat (first | apply Kd.R_alloc | apply Kd.R_drewN | apply Kd.R_drew)); exact HO_135.out⟩, ⟨by repeat (first | (with_reducible first | exact HB.out | apply below_alloc | apply pw_below_drewN | apply below_drew1) | exact HB.out)⟩⟩
             ·rw [if_neg c44] at H
              exact absurd H (by simp)
            ·rw [if_neg c43] at H
             exact absurd H (by simp)
           ·rw [if_neg c42] at H
            have c42b0 : decide (x137_3 < (t685.length : Int)) = false := decide_eq_false c42
            clear c42
            by_cases c49 : t686 = 0
            ·rw [if_pos c49] at H
             have c49b0 : (t686 == 0) = true := beq_iff_eq.mpr c49
             have c49b1 : (t686 != 0) = false := bne_eq_false_iff_eq.mpr c49
             clear c49
             by_cases c50 : x11_3 = a0
             ·rw [if_pos c50] at H
              have c50b0 : (x11_3 == a0) = true := beq_iff_eq.mpr c50
              have c50b1 : (x11_3 != a0) = false := bne_eq_false_iff_eq.mpr c50
              clear c50
              obtain rfl := Option.some.inj H
              go_wp2
              go_ret
              exact ⟨by first | rfl | (simp [errW_none, errW_some] <;> rfl) | (simp [*, errW_none, errW_some] <;> rfl), by repeat (first | (with_reducible first | exact HB.out | apply below_alloc | apply pw_below_drewN | apply below_drew1) | exact HB.out)⟩
             ·rw [if_neg c50] at H
              have c50b0 : (x11_3 == a0) = false := beq_eq_false_iff_ne.mpr c50
              have c50b1 : (x11_3 != a0) = true := bne_iff_ne.mpr c50
              obtain rfl := Option.some.inj H
              go_wp2
              go_ret
              exact ⟨by first | rfl | (simp [errW_none, errW_some] <;> rfl) | (simp [*, errW_none, errW_some] <;> rfl), by repeat (first | (with_reducible first | exact HB.out | apply below_alloc | apply pw_below_drewN | apply below_drew1) | exact HB.out)⟩
            ·rw [if_neg c49] at H
             have c49b0 : (t686 == 0) = false := beq_eq_false_iff_ne.mpr c49
             have c49b1 : (t686 != 0) = true := bne_iff_ne.mpr c49
             by_cases c51 : t686 = 2
             ·rw [if_pos c51] at H
              have c51b0 : (t686 == 2) = true := beq_iff_eq.mpr c51
              have c51b1 : (t686 != 2) = false := bne_eq_false_iff_eq.mpr c51
              clear c51
              by_cases c52 : (t685.length : Int) = 0
              ·rw [if_pos c52] at H
               have c52b0 : ((t685.length : Int) == 0) = true := beq_iff_eq.mpr c52
               have c52b1 : ((t685.length : Int) != 0) = false := bne_eq_false_iff_eq.mpr c52
               clear c52
               obtain rfl := Option.some.inj H
               go_wp2
               go_ret
               exact ⟨by first | rfl | (simp [errW_none, errW_some] <;> rfl) | (simp [*, errW_none, errW_some] <;> rfl), by repeat (first | (with_reducible first | exact HB.out | apply below_alloc | apply pw_below_drewN | apply below_drew1) | exact HB.out)⟩
              ·rw [if_neg c52] at H
               have c52b0 : ((t685.length : Int) == 0) = false := beq_eq_false_iff_ne.mpr c52
               have c52b1 : ((t685.length : Int) != 0) = true := bne_iff_ne.mpr c52
               have c52b2 : ¬ (t685 = []) := fun h_ => c52 (by rw [h_]; rfl)
               obtain rfl := Option.some.inj H
               go_wp2
               go_ret
               exact ⟨by first | rfl | (simp [errW_none, errW_some] <;> rfl) | (simp [*, errW_none, errW_some] <;> rfl), by repeat (first | (with_reducible first | exact HB.out | apply below_alloc | apply pw_below_drewN | apply below_drew1) | exact HB.out)⟩
             ·rw [if_neg c51] at H
              have c51b0 : (t686 == 2) = false := beq_eq_false_iff_ne.mpr c51
              have c51b1 : (t686 != 2) = true := bne_iff_ne.mpr c51
              obtain rfl := Option.some.inj H
              go_wp2
              go_ret
              exact ⟨by first | rfl | (simp [errW_none, errW_some] <;> rfl) | (simp [*, errW_none, errW_some] <;> rfl), by repeat (first | (with_reducible first | exact HB.out | apply below_alloc | apply pw_below_drewN | apply below_drew1) | exact HB.out)⟩
 ·replace c5 := Bool.eq_false_iff.mpr c5
  subst c5
  have H1 : (some false) = some r := by rw [if_neg (show ¬ (false = true) by decide)] at H; exact H
  clear H
  have H := H1
  clear H1
  obtain rfl := Option.some.inj H
  go_enter Tryd.func20, Tryd.ntmps20
  go_wp2_with (first | ((with_reducible refine gate_callee (f := 57) rfl ?_); refine goesL_ (some 14) rfl rfl Tryd.func57 (by kernel_rfl) rfl #[] rfl (by (try simp only [List.map_toArray, List.map_cons, List.map_nil]); first | done | rfl | (simp only [List.length_drop, List.length_take]; rfl)) ?_; (with_reducible refine (stipendlaw01_counts.calls k  false _ A4.out).mono ?_); rintro e w53 ⟨rfl, hb⟩; refine ⟨_, rfl, ?_⟩; have n0_ := Aside0.mk (below_step (by repeat (first | (with_reducible first | exact HB.out | apply below_alloc | apply pw_below_drewN | apply below_drew1) | exact HB.out)) hb); clear HB; have HB := n0_; clear n0_; (try clear hb); (try clear hb2); (try clear hk); (try clear hi)))
  go_ret
  exact ⟨by first | rfl | (simp [errW_none, errW_some] <;> rfl) | (simp [*, errW_none, errW_some] <;> rfl), by repeat (first | (with_reducible first | exact HB.out | apply below_alloc | apply pw_below_drewN | apply below_drew1) | exact HB.out)⟩

end Go.Proofs.YtmocphafkimdpaaDoor.P


/- MoneyUnits answers true for every two numbers and either side: the plain law. -/
namespace Go.Proofs.YtmocphafkimdpaaDoor.P
open Go.RowKit Go.Proofs.YtmocphafkimdpaaDoorW.PrintWords Go.Proofs.YtmocphafkimdpaaDoorW.PrintLast Go.Proofs.YtmocphafkimdpaaDoorW.PrintMore
set_option linter.unusedVariables false

theorem tmod_pos (x u : Int) (hu : 0 < u) : (0 ≤ x.tmod u ∧ x.tmod u = x % u) ∨ (x.tmod u < 0 ∧ x.tmod u = x % u - u) := by
  have h1 := Int.emod_nonneg x (by omega : u ≠ 0)
  have h2 := Int.emod_lt_of_pos x hu
  by_cases hx : 0 ≤ x
  · left
    rw [Int.tmod_eq_emod_of_nonneg hx]
    exact ⟨h1, rfl⟩
  · obtain ⟨y, rfl⟩ : ∃ y : Int, x = -y := ⟨-x, by omega⟩
    have h3 := Int.emod_nonneg y (by omega : u ≠ 0)
    have h4 := Int.emod_lt_of_pos y hu
    rw [Int.neg_tmod, Int.tmod_eq_emod_of_nonneg (by omega)]
    have e1 := Int.emod_add_mul_ediv y u
    have e2 := Int.emod_add_mul_ediv (-y) u
    have e3 : u * (y / u) + u * (-y / u) = u * (y / u + -y / u) := by rw [Int.mul_add]
    generalize hA : y / u + -y / u = A at e3
    have e4 : y % u + (-y) % u = -(u * A) := by omega
    have hA2 : A = 0 ∨ A = -1 := by
      rcases Int.lt_trichotomy A (-1) with h | h | h
      · have : u * A ≤ u * (-2) := Int.mul_le_mul_of_nonneg_left (by omega) (by omega)
        omega
      · exact .inr h
      · rcases Int.lt_trichotomy A 0 with h' | h' | h'
        · omega
        · exact .inl h'
        · have : u * 1 ≤ u * A := Int.mul_le_mul_of_nonneg_left (by omega) (by omega)
          omega
    rcases hA2 with rfl | rfl
    · left; omega
    · right; omega

/-- The multiple beside x. -/
def lowOf (x u : Int) (up : Bool) : Int := if up = true ∧ 0 < x % u then x - x % u + u else x - x % u
theorem quant_ev (x u : Int) (up : Bool) (hx : okAmt x = true) (hu : okAmt u = true) (h0 : 0 < u) : Ev (fun k => money_Quantum.f k x u up) (if okAmt (lowOf x u up) = true then (lowOf x u up, 0) else (0, 10)) := by
  have hx' := (okAmt_iff x).1 hx
  have hu' := (okAmt_iff u).1 hu
  have h1 := Int.emod_nonneg x (by omega : u ≠ 0)
  have h2 := Int.emod_lt_of_pos x h0
  unfold money_Quantum.f
  refine Ev.bind (mright_ev [x, u] (by simp)) (Ev.pos (by simp [hx, hu]) (Ev.neg (by omega) (Ev.neg (by omega) ?_)))
  unfold lowOf
  generalize hm : x % u = m at h1 h2 ⊢
  rcases tmod_pos x u h0 with ⟨t1, t2⟩ | ⟨t1, t2⟩
  · rw [hm] at t2
    rw [t2]
    refine Ev.neg (by omega) ?_
    rw [w64 (x := x - m) (by omega) (by omega), w64 (x := x - m + u) (by omega) (by omega)]
    cases up with
    | true =>
      refine Ev.pos rfl ?_
      by_cases c : 0 < m
      · have e : (if true = true ∧ 0 < m then x - m + u else x - m) = x - m + u := if_pos ⟨rfl, c⟩
        rw [e]
        exact Ev.pos c (check_b_ev _)
      · have e : (if true = true ∧ 0 < m then x - m + u else x - m) = x - m := if_neg (fun h => c h.2)
        rw [e]
        exact Ev.neg c (check_b_ev _)
    | false =>
      have e : (if false = true ∧ 0 < m then x - m + u else x - m) = x - m := if_neg (fun h => by cases h.1)
      rw [e]
      exact Ev.neg (by decide) (check_b_ev _)
  · rw [hm] at t2
    rw [t2]
    refine Ev.pos (by omega) ?_
    rw [w64 (x := m - u + u) (by omega) (by omega), show m - u + u = m by omega, w64 (x := x - m) (by omega) (by omega), w64 (x := x - m + u) (by omega) (by omega)]
    cases up with
    | true =>
      refine Ev.pos rfl ?_
      by_cases c : 0 < m
      · have e : (if true = true ∧ 0 < m then x - m + u else x - m) = x - m + u := if_pos ⟨rfl, c⟩
        rw [e]
        exact Ev.pos c (check_b_ev _)
      · have e : (if true = true ∧ 0 < m then x - m + u else x - m) = x - m := if_neg (fun h => c h.2)
        rw [e]
        exact Ev.neg c (check_b_ev _)
    | false =>
      have e : (if false = true ∧ 0 < m then x - m + u else x - m) = x - m := if_neg (fun h => by cases h.1)
      rw [e]
      exact Ev.neg (by decide) (check_b_ev _)
theorem quant_no (x u : Int) (up : Bool) (h : ¬(okAmt x = true ∧ okAmt u = true)) : Ev (fun k => money_Quantum.f k x u up) (0, 10) := by
  unfold money_Quantum.f
  exact Ev.bind (mright_ev [x, u] (by simp)) (Ev.neg (by simpa using h) Ev.now)
theorem quant_low (x u : Int) (up : Bool) (hx : okAmt x = true) (hu : okAmt u = true) (h0 : u ≤ 0) : Ev (fun k => money_Quantum.f k x u up) (0, 1) := by
  unfold money_Quantum.f
  exact Ev.bind (mright_ev [x, u] (by simp)) (Ev.pos (by simp [hx, hu]) (Ev.pos h0 Ev.now))

/-- An amount in parts: q whole ones, and what is left. -/
def partsL (q : Nat) (u r : Int) : List Int := List.replicate q u ++ (if 0 < r then [r] else [])
theorem parts_l0_ev (u r : Int) (hu : 0 < u) (hu2 : u ≤ 100000000000) (hr : 0 ≤ r) (hr2 : r < u) : ∀ (q : Nat) (x : Int) (acc : List Int), x = (q : Int) * u + r → q + acc.length ≤ 1000 → x ≤ 100000000000 → Ev (fun k => money_Parts.l0 k x u acc) (acc ++ partsL q u r, 0) := by
  intro q
  induction q with
  | zero =>
    intro x acc hx hq hx2
    have hx' : x = r := by simpa using hx
    subst hx'
    unfold partsL
    refine Ev.shift (fun k => by rw [money_Parts.l0]) ?_
    by_cases c : 0 < x
    · rw [if_pos c]
      refine Ev.pos c (Ev.pos (by omega) ?_)
      have e : mn x u = x := by unfold mn; omega
      rw [e, w64 (x := x - x) (by omega) (by omega), Int.sub_self]
      refine Ev.shift (fun k => by rw [money_Parts.l0]) ?_
      exact Ev.neg (by decide) Ev.now
    · rw [if_neg c]
      refine (Ev.neg c Ev.now).res ?_
      simp
  | succ q ih =>
    intro x acc hx hq hx2
    have e1 : ((q + 1 : Nat) : Int) * u = (q : Int) * u + u := by rw [Int.natCast_add, Int.add_mul]; simp
    have e2 : 0 ≤ (q : Int) * u := Int.mul_nonneg (by omega) (by omega)
    refine Ev.shift (fun k => by rw [money_Parts.l0]) ?_
    refine Ev.pos (by omega) (Ev.pos (by omega) ?_)
    have e : mn x u = u := by unfold mn; omega
    rw [e, w64 (x := x - u) (by omega) (by omega)]
    refine (ih (x - u) (acc ++ [u]) (by omega) (by simp; omega) (by omega)).res ?_
    simp [partsL, List.replicate_succ]

def sumL : List Int → Int
  | [] => 0
  | a :: t => a + sumL t
theorem sumL_parts (q : Nat) (u r : Int) (hr : 0 ≤ r) : sumL (partsL q u r) = (q : Int) * u + r := by
  induction q with
  | zero =>
    unfold partsL
    split <;> simp [sumL] <;> omega
  | succ q ih =>
    have e : partsL (q + 1) u r = u :: partsL q u r := by simp [partsL, List.replicate_succ]
    have e1 : ((q + 1 : Nat) : Int) * u = (q : Int) * u + u := by rw [Int.natCast_add, Int.add_mul]; simp
    rw [e]
    simp only [sumL]
    omega
theorem parts_at (q : Nat) (u r : Int) (hu : 0 < u) (hr2 : r < u) (i : Nat) (p : Int) (h : (partsL q u r)[i]? = some p) : 0 < p ∧ p ≤ u ∧ (i + 1 < (partsL q u r).length → p = u) := by
  unfold partsL at h ⊢
  rw [List.getElem?_append] at h
  simp only [List.length_append, List.length_replicate] at h ⊢
  by_cases c : i < q
  · rw [if_pos c, List.getElem?_replicate, if_pos c] at h
    injection h with h
    omega
  · rw [if_neg c] at h
    split at h
    · rename_i hr
      have hi : i - q = 0 := by
        obtain ⟨h1, _⟩ := List.getElem?_eq_some_iff.1 h
        simp at h1
        omega
      rw [hi] at h
      simp at h
      rw [if_pos hr]
      simp
      omega
    · simp at h

theorem units_l0_ev (x u e : Int) (L : List Int) (hL : L.length ≤ 100) (hu : u ≤ 100000000000) (hP : ∀ i p, L[i]? = some p → 0 < p ∧ p ≤ u ∧ (i + 1 < L.length → p = u)) (r : Bool) :
    ∀ (t : List Int) (i : Nat) (s : Int), L.drop i = t → i ≤ L.length → 0 ≤ s → s ≤ (i : Int) * 100000000000 →
    (if e = 0 then (if s + sumL t = x then decide ((L.length : Int) ≤ 64) else false) else (if e = 2 then (if (L.length : Int) = 0 then decide (x > wrap64 (64 * u)) else false) else false)) = r →
    Ev (fun k => stipendlaw01_MoneyUnits.l0 k x u L e s L (L.length : Int) (i : Int)) r := by
  intro t
  induction t with
  | nil =>
    intro i s h hi h0 hs hr
    have hi' : L.length ≤ i := by simpa using h
    refine Ev.shift (fun k => by rw [stipendlaw01_MoneyUnits.l0]) ?_
    refine Ev.neg (by omega) ?_
    simp only [sumL, Int.add_zero] at hr
    by_cases c : e = 0
    · rw [if_pos c] at hr
      refine Ev.pos c ?_
      by_cases d : s = x
      · rw [if_pos d] at hr
        exact (Ev.pos d Ev.now).res hr
      · rw [if_neg d] at hr
        exact (Ev.neg d Ev.now).res hr
    · rw [if_neg c] at hr
      refine Ev.neg c ?_
      by_cases d : e = 2
      · rw [if_pos d] at hr
        refine Ev.pos d ?_
        by_cases f : (L.length : Int) = 0
        · rw [if_pos f] at hr
          exact (Ev.pos f Ev.now).res hr
        · rw [if_neg f] at hr
          exact (Ev.neg f Ev.now).res hr
      · rw [if_neg d] at hr
        exact (Ev.neg d Ev.now).res hr
  | cons p t ih' =>
    intro i s h hi h0 hs hr
    obtain ⟨h1, h2, h3⟩ := drop_cons_get h
    obtain ⟨p1, p2, p3⟩ := hP i p h1
    refine Ev.shift (fun k => by rw [stipendlaw01_MoneyUnits.l0]) ?_
    refine Ev.pos (by omega) (Ev.pos (by omega) (Ev.pos (by omega) ?_))
    rw [rdi h1]
    have hb : ((i + 1 : Nat) : Int) * 100000000000 = (i : Int) * 100000000000 + 100000000000 := by omega
    have hi3 : (i : Int) * 100000000000 ≤ 100 * 100000000000 := by omega
    rw [w64 (x := (i : Int) + 1) (by omega) (by omega), w64 (x := s + p) (by omega) (by omega)]
    have ih := ih' (i + 1) (s + p) h2 (by omega) (by omega) (by omega) (by
      have es : s + p + sumL t = s + (p + sumL t) := by omega
      rw [es]
      exact hr)
    refine Ev.neg (by omega) (Ev.neg (by omega) ?_)
    by_cases c : i + 1 < L.length
    · exact Ev.pos (by omega) (Ev.pos (p3 c) ih)
    · exact Ev.neg (by omega) ih

/-- What parts tell. -/
theorem parts_ev (x u : Int) (hx : okAmt x = true) (hu : okAmt u = true) (h0 : 0 < u) (hx0 : 0 ≤ x) : ∃ L e, Ev (fun k => money_Parts.f k x u) (L, e) ∧ Ev (fun k => stipendlaw01_MoneyUnits.l0 k x u L e 0 L (L.length : Int) 0) true := by
  have hx' := (okAmt_iff x).1 hx
  have hu' := (okAmt_iff u).1 hu
  have hr := Int.emod_nonneg x (by omega : u ≠ 0)
  have hr2 := Int.emod_lt_of_pos x h0
  have hq0 : 0 ≤ x / u := Int.ediv_nonneg hx0 (by omega)
  have hq1 : x / u ≤ x := Int.ediv_le_self u hx0
  have hdm := Int.emod_add_mul_ediv x u
  obtain ⟨q, hq⟩ := Int.eq_ofNat_of_zero_le hq0
  have e0 : u * (x / u) = (q : Int) * u := by rw [hq, Int.mul_comm]
  have start : ∀ {r : List Int × Int}, Ev (fun k => if wrap64 (x / u) > 64 then money_Parts.j1 k x u true else if wrap64 (x / u) = 64 then money_Parts.j1 k x u (decide (x % u > 0)) else money_Parts.j1 k x u false) r → Ev (fun k => money_Parts.f k x u) r := by
    intro r h
    unfold money_Parts.f
    refine Ev.bind (mright_ev [x, u] (by simp)) (Ev.pos (by simp [hx, hu]) (Ev.neg (by omega) ?_))
    rw [decide_eq_false (show ¬u ≤ 0 by omega)]
    refine Ev.shift (fun k => by rw [money_Parts.j0]) ?_
    rw [Int.tdiv_eq_ediv_of_nonneg hx0, Int.tmod_eq_emod_of_nonneg hx0]
    exact Ev.neg (by decide) (Ev.neg (by omega) h)
  rw [w64 (x := x / u) (by omega) (by omega)] at start
  have jt : Ev (fun k => money_Parts.j1 k x u true) ([], 2) := by
    refine Ev.shift (fun k => by rw [money_Parts.j1]) ?_
    exact Ev.pos rfl Ev.now
  have lend : 64 * u < x → Ev (fun k => stipendlaw01_MoneyUnits.l0 k x u [] 2 0 [] (([] : List Int).length : Int) 0) true := fun h => by
    refine units_l0_ev x u 2 [] (by simp) (by omega) (fun i p h => by simp at h) true [] 0 0 rfl (by simp) (by omega) (by omega) ?_
    rw [if_neg (by decide), if_pos rfl, if_pos (by simp), w64 (x := 64 * u) (by omega) (by omega)]
    simpa using h
  by_cases c1 : x / u > 64
  · refine ⟨[], 2, start (Ev.pos c1 jt), lend ?_⟩
    have : 65 * u ≤ (q : Int) * u := Int.mul_le_mul_of_nonneg_right (by omega) (by omega)
    omega
  · by_cases c2 : x / u = 64 ∧ x % u > 0
    · refine ⟨[], 2, start (Ev.neg c1 (Ev.pos c2.1 ?_)), lend ?_⟩
      · rw [decide_eq_true c2.2]; exact jt
      · have : u * (x / u) = u * 64 := by rw [c2.1]
        omega
    · have hl := parts_l0_ev u (x % u) h0 hu'.2 hr hr2 q x [] (by omega) (by simp; omega) hx'.2
      rw [List.nil_append] at hl
      have hj : Ev (fun k => money_Parts.j1 k x u false) (partsL q u (x % u), 0) := by
        refine Ev.shift (fun k => by rw [money_Parts.j1]) ?_
        exact Ev.neg (by decide) hl
      have hlen : (partsL q u (x % u)).length ≤ 64 := by
        unfold partsL
        simp only [List.length_append, List.length_replicate]
        split
        · simp; omega
        · simp; omega
      refine ⟨partsL q u (x % u), 0, start (Ev.neg c1 ?_), ?_⟩
      · by_cases c3 : x / u = 64
        · refine Ev.pos c3 ?_
          rw [decide_eq_false (fun h => c2 ⟨c3, h⟩)]
          exact hj
        · exact Ev.neg c3 hj
      · refine units_l0_ev x u 0 _ (by omega) hu'.2 (fun i p h => parts_at q u (x % u) h0 hr2 i p h) true _ 0 0 rfl (Nat.zero_le _) (by omega) (by omega) ?_
        rw [if_pos rfl, List.drop_zero, sumL_parts q u _ hr, if_pos (by omega)]
        simp; omega
theorem parts_no (x u : Int) (h : ¬(okAmt x = true ∧ okAmt u = true)) : Ev (fun k => money_Parts.f k x u) ([], 10) := by
  unfold money_Parts.f
  exact Ev.bind (mright_ev [x, u] (by simp)) (Ev.neg (by simpa using h) Ev.now)
theorem parts_low (x u : Int) (hx : okAmt x = true) (hu : okAmt u = true) (h : x < 0 ∨ u ≤ 0) : Ev (fun k => money_Parts.f k x u) ([], 1) := by
  unfold money_Parts.f
  have hj : Ev (fun k => money_Parts.j0 k x u true) ([], 1) := by
    refine Ev.shift (fun k => by rw [money_Parts.j0]) ?_
    exact Ev.pos rfl Ev.now
  refine Ev.bind (mright_ev [x, u] (by simp)) (Ev.pos (by simp [hx, hu]) ?_)
  by_cases c : x < 0
  · exact Ev.pos c hj
  · refine Ev.neg c ?_
    rw [decide_eq_true (show u ≤ 0 by omega)]
    exact hj

theorem moneyUnits_true (x u : Int) (up : Bool) (_g : (Lit.int .i64 x).wf = true) (_g' : (Lit.int .i64 u).wf = true) : ∃ k, stipendlaw01_MoneyUnits.f k x u up = some true := by
  apply Ev.get
  unfold stipendlaw01_MoneyUnits.f
  refine Ev.bind counts_ev (Ev.pos rfl ?_)
  by_cases c : okAmt x = true ∧ okAmt u = true
  · obtain ⟨hx, hu⟩ := c
    have hx' := (okAmt_iff x).1 hx
    have hu' := (okAmt_iff u).1 hu
    by_cases h0 : 0 < u
    · obtain ⟨L, e, hL, hend⟩ : ∃ L e, Ev (fun k => money_Parts.f k x u) (L, e) ∧ Ev (fun k => stipendlaw01_MoneyUnits.j1 k x u L e) true := by
        by_cases hx0 : 0 ≤ x
        · obtain ⟨L, e, h1, h2⟩ := parts_ev x u hx hu h0 hx0
          refine ⟨L, e, h1, by
            refine Ev.shift (fun k => by rw [stipendlaw01_MoneyUnits.j1]) ?_
            exact Ev.neg (by omega) h2⟩
        · refine ⟨[], 1, parts_low x u hx hu (.inl (by omega)), by
            refine Ev.shift (fun k => by rw [stipendlaw01_MoneyUnits.j1]) ?_
            exact Ev.pos (by omega) (Ev.pos rfl (Ev.const rfl))⟩
      refine Ev.bind (quant_ev x u up hx hu h0) (Ev.bind hL (Ev.bindc (refRight_f x) (Ev.pos hx (Ev.bindc (refRight_f u) ?_))))
      rw [hu]
      refine Ev.shift (fun k => by rw [stipendlaw01_MoneyUnits.j0]) ?_
      refine Ev.neg (by decide) (Ev.neg (by omega) ?_)
      have h1 := Int.emod_nonneg x (by omega : u ≠ 0)
      have h2 := Int.emod_lt_of_pos x h0
      have hdm := Int.emod_add_mul_ediv x u
      by_cases ok : okAmt (lowOf x u up) = true
      · have ok' := (okAmt_iff _).1 ok
        rw [if_pos ok]
        have hdv : (lowOf x u up).tmod u = 0 := by
          refine Int.tmod_eq_zero_of_dvd ?_
          unfold lowOf
          split
          · exact ⟨x / u + 1, by rw [Int.mul_add]; omega⟩
          · exact ⟨x / u, by omega⟩
        refine Ev.pos rfl (Ev.neg (by omega) (Ev.pos hdv ?_))
        cases up with
        | true =>
          have hl : x ≤ lowOf x u true ∧ lowOf x u true - x < u := by
            unfold lowOf
            split
            · omega
            · rename_i h; simp at h; omega
          refine Ev.pos rfl (Ev.neg (by omega) ?_)
          rw [w64 (x := lowOf x u true - x) (by omega) (by omega)]
          exact Ev.neg (by omega) hend
        | false =>
          have hl : lowOf x u false ≤ x ∧ x - lowOf x u false < u := by
            unfold lowOf
            rw [if_neg (by simp)]
            omega
          refine Ev.neg (by decide) (Ev.neg (by omega) ?_)
          rw [w64 (x := x - lowOf x u false) (by omega) (by omega)]
          exact Ev.neg (by omega) hend
      · rw [if_neg ok]
        have hl : -u < lowOf x u up - x ∧ lowOf x u up - x < u := by
          unfold lowOf
          split <;> omega
        have ok' : ¬(-100000000000 ≤ lowOf x u up ∧ lowOf x u up ≤ 100000000000) := fun h => ok ((okAmt_iff _).2 h)
        refine Ev.neg (by decide) (Ev.pos rfl (Ev.pos rfl ?_))
        rw [w64 (x := 100000000000 - u) (by omega) (by omega), w64 (x := u - 100000000000) (by omega) (by omega)]
        by_cases d : x ≤ 100000000000 - u
        · exact Ev.pos d (Ev.neg (by omega) hend)
        · exact Ev.neg d hend
    · refine Ev.bind (quant_low x u up hx hu (by omega)) (Ev.bind (parts_low x u hx hu (.inr (by omega))) (Ev.bindc (refRight_f x) (Ev.pos hx (Ev.bindc (refRight_f u) ?_))))
      rw [hu]
      refine Ev.shift (fun k => by rw [stipendlaw01_MoneyUnits.j0]) ?_
      exact Ev.neg (by decide) (Ev.pos (by omega) (Ev.pos rfl (Ev.pos rfl (Ev.pos rfl (Ev.const rfl)))))
  · refine Ev.bind (quant_no x u up c) (Ev.bind (parts_no x u c) (Ev.bindc (refRight_f x) ?_))
    have hj : Ev (fun k => stipendlaw01_MoneyUnits.j0 k x u up 0 10 [] 10 true) true := by
      refine Ev.shift (fun k => by rw [stipendlaw01_MoneyUnits.j0]) ?_
      exact Ev.pos rfl (Ev.pos rfl (Ev.pos rfl (Ev.pos rfl (Ev.const rfl))))
    by_cases hx : okAmt x = true
    · refine Ev.pos hx (Ev.bindc (refRight_f u) ?_)
      have hu : okAmt u = false := Bool.eq_false_iff.2 fun h => c ⟨hx, h⟩
      rw [hu]
      exact hj
    · exact Ev.neg hx hj
end Go.Proofs.YtmocphafkimdpaaDoor.P
