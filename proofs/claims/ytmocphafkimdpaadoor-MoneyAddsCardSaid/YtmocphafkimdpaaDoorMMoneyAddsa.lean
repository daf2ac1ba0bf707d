/- A part of the proof of MoneyAdds's card: 'MoneyAdds' answers true for every input (the conditions: those of the given statement alone). Merged by a program (wip/merge.py) out of: Pf17. -/
import Derived.Test.YtmocphafkimdpaaDoorBMoneya
import Derived.Test.YtmocphafkimdpaaDoorBMoneyi
import Derived.Test.YtmocphafkimdpaaDoorBMoneyj
import Derived.Test.YtmocphafkimdpaaDoorBMoneyh

-- written by a program (a patched copy of the kit's print: wip/mkprint.py); Lean checks it
namespace Go.Proofs.YtmocphafkimdpaaDoor.P
open Go.RowKit Go.Proofs.YtmocphafkimdpaaDoorW.PrintWords Go.Proofs.YtmocphafkimdpaaDoorW.PrintLast Go.Proofs.YtmocphafkimdpaaDoorW.PrintMore
attribute [local go_sem] max2_int min2_int max_two min_two max_three min_three max_four min_four   -- for this text's walks alone
set_option linter.unusedVariables false
set_option linter.unusedSimpArgs false

/-! ### stipendlaw01_MoneyAdds: function 17 -/
mutual
def stipendlaw01_MoneyAdds.j0 : Nat → Int → Int → Int → Int → Int → Int → Bool → Option (Bool)
 | 0, _, _, _, _, _, _, _ => none
 | k + 1, x0, x1, x5, x6, x7, x8, x32 => if x32 = true then (if x6 = 10 then (if x8 = 10 then (if x5 = 0 then (if x7 = 0 then ((money_Right.f k (([x0, x1] : List Int))).bind fun t614 => (some (!t614))) else (some false)) else (some false)) else (some false)) else (some false)) else ((stipendref01_Right.f (wrap64 (x0 + x1))).bind fun t615 => (if (t615 != (x6 == 0)) = true then (stipendlaw01_MoneyAdds.j1 k x0 x1 x5 x6 x7 x8 (wrap64 (x0 + x1)) (wrap64 (x0 - x1)) true) else ((stipendref01_Right.f (wrap64 (x0 - x1))).bind fun t616 => (if (t616 != (x8 == 0)) = true then (stipendlaw01_MoneyAdds.j1 k x0 x1 x5 x6 x7 x8 (wrap64 (x0 + x1)) (wrap64 (x0 - x1)) true) else ((money_Right.f k (([x0, x1] : List Int))).bind fun t620 => (stipendlaw01_MoneyAdds.j1 k x0 x1 x5 x6 x7 x8 (wrap64 (x0 + x1)) (wrap64 (x0 - x1)) (!t620)))))))
def stipendlaw01_MoneyAdds.j1 : Nat → Int → Int → Int → Int → Int → Int → Int → Int → Bool → Option (Bool)
 | 0, _, _, _, _, _, _, _, _, _ => none
 | k + 1, x0, x1, x5, x6, x7, x8, x9, x10, x78 => if x78 = true then (some false) else (if x6 = 0 then (if x5 = x9 then (if x8 = 0 then (if x7 = x10 then ((money_Least.f x0 x1).bind fun t621 => ((money_Greatest.f x0 x1).bind fun t622 => (some ((wrap64 (t621 + t622)) == x9)))) else (if x8 = 10 then (if x7 = 0 then ((money_Least.f x0 x1).bind fun t623 => ((money_Greatest.f x0 x1).bind fun t624 => (some ((wrap64 (t623 + t624)) == x9)))) else (some false)) else (some false))) else (if x8 = 10 then (if x7 = 0 then ((money_Least.f x0 x1).bind fun t625 => ((money_Greatest.f x0 x1).bind fun t626 => (some ((wrap64 (t625 + t626)) == x9)))) else (some false)) else (some false))) else (if x6 = 10 then (if x5 = 0 then (if x8 = 0 then (if x7 = x10 then ((money_Least.f x0 x1).bind fun t627 => ((money_Greatest.f x0 x1).bind fun t628 => (some ((wrap64 (t627 + t628)) == x9)))) else (if x8 = 10 then (if x7 = 0 then ((money_Least.f x0 x1).bind fun t629 => ((money_Greatest.f x0 x1).bind fun t630 => (some ((wrap64 (t629 + t630)) == x9)))) else (some false)) else (some false))) else (if x8 = 10 then (if x7 = 0 then ((money_Least.f x0 x1).bind fun t631 => ((money_Greatest.f x0 x1).bind fun t632 => (some ((wrap64 (t631 + t632)) == x9)))) else (some false)) else (some false))) else (some false)) else (some false))) else (if x6 = 10 then (if x5 = 0 then (if x8 = 0 then (if x7 = x10 then ((money_Least.f x0 x1).bind fun t633 => ((money_Greatest.f x0 x1).bind fun t634 => (some ((wrap64 (t633 + t634)) == x9)))) else (if x8 = 10 then (if x7 = 0 then ((money_Least.f x0 x1).bind fun t635 => ((money_Greatest.f x0 x1).bind fun t636 => (some ((wrap64 (t635 + t636)) == x9)))) else (some false)) else (some false))) else (if x8 = 10 then (if x7 = 0 then ((money_Least.f x0 x1).bind fun t637 => ((money_Greatest.f x0 x1).bind fun t638 => (some ((wrap64 (t637 + t638)) == x9)))) else (some false)) else (some false))) else (some false)) else (some false)))
end
def stipendlaw01_MoneyAdds.f (k : Nat) (a0 : Int) (a1 : Int) : Option (Bool) := (stipendlaw01_counts.f k).bind fun t604 => (if t604 = true then ((money_Add.f k a0 a1).bind fun bt605 => ((money_Sub.f k a0 a1).bind fun bt607 => ((stipendref01_Right.f a0).bind fun t609 => (if t609 = true then ((stipendref01_Right.f a1).bind fun t610 => (stipendlaw01_MoneyAdds.j0 k a0 a1 bt605.1 bt605.2 bt607.1 bt607.2 (!t610))) else (stipendlaw01_MoneyAdds.j0 k a0 a1 bt605.1 bt605.2 bt607.1 bt607.2 true))))) else (some false))
theorem stipendlaw01_MoneyAdds.mono_l : ∀ k, (∀ y0 y1 y2 y3 y4 y5 y6, LeO (stipendlaw01_MoneyAdds.j0 k y0 y1 y2 y3 y4 y5 y6) (stipendlaw01_MoneyAdds.j0 (k + 1) y0 y1 y2 y3 y4 y5 y6)) ∧ (∀ y0 y1 y2 y3 y4 y5 y6 y7 y8, LeO (stipendlaw01_MoneyAdds.j1 k y0 y1 y2 y3 y4 y5 y6 y7 y8) (stipendlaw01_MoneyAdds.j1 (k + 1) y0 y1 y2 y3 y4 y5 y6 y7 y8))
 | 0 => ⟨fun _ _ _ _ _ _ _ r h => by simp [stipendlaw01_MoneyAdds.j0] at h, fun _ _ _ _ _ _ _ _ _ r h => by simp [stipendlaw01_MoneyAdds.j1] at h⟩
 | k + 1 => by
  obtain ⟨ih0, ih1⟩ := stipendlaw01_MoneyAdds.mono_l k
  refine ⟨?_, ?_⟩
  ·intro y0 y1 y2 y3 y4 y5 y6
   unfold stipendlaw01_MoneyAdds.j0
   repeat' first
   | (with_reducible exact ih0 _ _ _ _ _ _ _)
   | (with_reducible exact ih1 _ _ _ _ _ _ _ _ _)
   | (with_reducible exact money_Add.mono _ _ _)
   | (with_reducible exact money_Right.mono _ _)
   | (with_reducible exact money_Sub.mono _ _ _)
   | (with_reducible exact stipendlaw01_counts.mono _)
   | (with_reducible exact LeO.refl _)
   | (with_reducible exact LeO.none _)
   | (with_reducible refine LeO.ite ?_ ?_)
   | (with_reducible refine LeO.bind ?_ (fun _ => ?_))
   | exact ih0 _ _ _ _ _ _ _
   | exact ih1 _ _ _ _ _ _ _ _ _
   | exact money_Add.mono _ _ _
   | exact money_Right.mono _ _
   | exact money_Sub.mono _ _ _
   | exact stipendlaw01_counts.mono _
   | exact LeO.none _
   | refine LeO.ite ?_ ?_
   | refine LeO.bind ?_ (fun _ => ?_)
  ·intro y0 y1 y2 y3 y4 y5 y6 y7 y8
   unfold stipendlaw01_MoneyAdds.j1
   repeat' first
   | (with_reducible exact ih0 _ _ _ _ _ _ _)
   | (with_reducible exact ih1 _ _ _ _ _ _ _ _ _)
   | (with_reducible exact money_Add.mono _ _ _)
   | (with_reducible exact money_Right.mono _ _)
   | (with_reducible exact money_Sub.mono _ _ _)
   | (with_reducible exact stipendlaw01_counts.mono _)
   | (with_reducible exact LeO.refl _)
   | (with_reducible exact LeO.none _)
   | (with_reducible refine LeO.ite ?_ ?_)
   | (with_reducible refine LeO.bind ?_ (fun _ => ?_))
   | exact ih0 _ _ _ _ _ _ _
   | exact ih1 _ _ _ _ _ _ _ _ _
   | exact money_Add.mono _ _ _
   | exact money_Right.mono _ _
   | exact money_Sub.mono _ _ _
   | exact stipendlaw01_counts.mono _
   | exact LeO.none _
   | refine LeO.ite ?_ ?_
   | refine LeO.bind ?_ (fun _ => ?_)
theorem stipendlaw01_MoneyAdds.mono : ∀ a0 a1 k, LeO (stipendlaw01_MoneyAdds.f k a0 a1) (stipendlaw01_MoneyAdds.f (k + 1) a0 a1) := by
 intro a0 a1 k
 obtain ⟨ih0, ih1⟩ := stipendlaw01_MoneyAdds.mono_l k
 unfold stipendlaw01_MoneyAdds.f
 repeat' first
   | (with_reducible exact ih0 _ _ _ _ _ _ _)
   | (with_reducible exact ih1 _ _ _ _ _ _ _ _ _)
   | (with_reducible exact money_Add.mono _ _ _)
   | (with_reducible exact money_Right.mono _ _)
   | (with_reducible exact money_Sub.mono _ _ _)
   | (with_reducible exact stipendlaw01_counts.mono _)
   | (with_reducible exact LeO.refl _)
   | (with_reducible exact LeO.none _)
   | (with_reducible refine LeO.ite ?_ ?_)
   | (with_reducible refine LeO.bind ?_ (fun _ => ?_))
   | exact ih0 _ _ _ _ _ _ _
   | exact ih1 _ _ _ _ _ _ _ _ _
   | exact money_Add.mono _ _ _
   | exact money_Right.mono _ _
   | exact money_Sub.mono _ _ _
   | exact stipendlaw01_counts.mono _
   | exact LeO.none _
   | refine LeO.ite ?_ ?_
   | refine LeO.bind ?_ (fun _ => ?_)
set_option maxHeartbeats 8000000 in
set_option maxRecDepth 100000 in
theorem stipendlaw01_MoneyAdds.calls (k : Nat) (a0 : Int) (a1 : Int) (r : Bool) (w : World) (h : stipendlaw01_MoneyAdds.f k a0 a1 = some r) (hG : GTab w := by first | exact GTab.below HG.out (by repeat (first | (with_reducible first | exact HB.out | apply below_alloc | apply pw_below_drewN | apply below_drew1 | apply below_drew) | exact HB.out)) | exact HG.out) :
  Calls Tryd.prog 17 #[.int .i64 a0, .int .i64 a1] w fun e w' => e = .returned (.bool r) ∧ Below w.heap.size w w' := by
 have HG := Aside0.mk hG; clear hG
 have HB := Aside0.mk (Below.refl w.heap.size w)
 have H : ((stipendlaw01_counts.f k).bind fun t604 => (if t604 = true then ((money_Add.f k a0 a1).bind fun bt605 => ((money_Sub.f k a0 a1).bind fun bt607 => ((stipendref01_Right.f a0).bind fun t609 => (if t609 = true then ((stipendref01_Right.f a1).bind fun t610 => (stipendlaw01_MoneyAdds.j0 k a0 a1 bt605.1 bt605.2 bt607.1 bt607.2 (!t610))) else (stipendlaw01_MoneyAdds.j0 k a0 a1 bt605.1 bt605.2 bt607.1 bt607.2 true))))) else (some false))) = some r := h
 clear h
 replace H := Option.bind_eq_some_iff.mp H
 obtain ⟨t604, A30, H⟩ := H
 replace H : (if t604 = true then ((money_Add.f k a0 a1).bind fun bt605 => ((money_Sub.f k a0 a1).bind fun bt607 => ((stipendref01_Right.f a0).bind fun t609 => (if t609 = true then ((stipendref01_Right.f a1).bind fun t610 => (stipendlaw01_MoneyAdds.j0 k a0 a1 bt605.1 bt605.2 bt607.1 bt607.2 (!t610))) else (stipendlaw01_MoneyAdds.j0 k a0 a1 bt605.1 bt605.2 bt607.1 bt607.2 true))))) else (some false)) = some r := H
 have A3 := Aside0.mk A30
 clear A30
 by_cases c4 : t604 = true
 ·subst c4
  have H1 : ((money_Add.f k a0 a1).bind fun bt605 => ((money_Sub.f k a0 a1).bind fun bt607 => ((stipendref01_Right.f a0).bind fun t609 => (if t609 = true then ((stipendref01_Right.f a1).bind fun t610 => (stipendlaw01_MoneyAdds.j0 k a0 a1 bt605.1 bt605.2 bt607.1 bt607.2 (!t610))) else (stipendlaw01_MoneyAdds.j0 k a0 a1 bt605.1 bt605.2 bt607.1 bt607.2 true))))) = some r := by rw [if_pos rfl] at H; exact H
  clear H
  have H := H1
  clear H1
  replace H := Option.bind_eq_some_iff.mp H
  obtain ⟨⟨t605, t606⟩, A50, H⟩ := H
  replace H : ((money_Sub.f k a0 a1).bind fun bt607 => ((stipendref01_Right.f a0).bind fun t609 => (if t609 = true then ((stipendref01_Right.f a1).bind fun t610 => (stipendlaw01_MoneyAdds.j0 k a0 a1 t605 t606 bt607.1 bt607.2 (!t610))) else (stipendlaw01_MoneyAdds.j0 k a0 a1 t605 t606 bt607.1 bt607.2 true)))) = some r := H
  have A5 := Aside0.mk A50
  clear A50
  replace H := Option.bind_eq_some_iff.mp H
  obtain ⟨⟨t607, t608⟩, A60, H⟩ := H
  replace H : ((stipendref01_Right.f a0).bind fun t609 => (if t609 = true then ((stipendref01_Right.f a1).bind fun t610 => (stipendlaw01_MoneyAdds.j0 k a0 a1 t605 t606 t607 t608 (!t610))) else (stipendlaw01_MoneyAdds.j0 k a0 a1 t605 t606 t607 t608 true))) = some r := H
  have A6 := Aside0.mk A60
  clear A60
  have HC7 := Aside0.mk H
  clear H
  go_enter Tryd.func17, Tryd.ntmps17
  go_upto_region 5 with (first | ((with_reducible refine gate_callee (f := 57) rfl ?_); refine goesL_ (some 11) rfl rfl Tryd.func57 (by kernel_rfl) rfl #[] rfl (by (try simp only [List.map_toArray, List.map_cons, List.map_nil]); first | done | rfl | (simp only [List.length_drop, List.length_take]; rfl)) ?_; (with_reducible refine (stipendlaw01_counts.calls k  true _ A3.out).mono ?_); rintro e w8 ⟨rfl, hb⟩; refine ⟨_, rfl, ?_⟩; have n0_ := Aside0.mk (below_step (by repeat (first | (with_reducible first | exact HB.out | apply below_alloc | apply pw_below_drewN | apply below_drew1) | exact HB.out)) hb); clear HB; have HB := n0_; clear n0_; (try clear hb); (try clear hb2); (try clear hk); (try clear hi)) | ((with_reducible refine gate_callee (f := 34) rfl ?_); refine goesL_ (some 16) rfl rfl Tryd.func34 (by kernel_rfl) rfl #[.int .i64 a0, .int .i64 a1] rfl (by (try simp only [List.map_toArray, List.map_cons, List.map_nil]); first | done | rfl | (simp only [List.length_drop, List.length_take]; rfl)) ?_; (with_reducible refine (money_Add.calls k a0 a1 t605 t606 _ A5.out).mono ?_); rintro e w9 ⟨rfl, hb⟩; refine ⟨_, rfl, ?_⟩; have n0_ := Aside0.mk (below_step (by repeat (first | (with_reducible first | exact HB.out | apply below_alloc | apply pw_below_drewN | apply below_drew1) | exact HB.out)) hb); clear HB; have HB := n0_; clear n0_; (try clear hb); (try clear hb2); (try clear hk); (try clear hi)) | ((with_reducible refine gate_callee (f := 64) rfl ?_); refine goesL_ (some 22) rfl rfl Tryd.func64 (by kernel_rfl) rfl #[.int .i64 a0, .int .i64 a1] rfl (by (try simp only [List.map_toArray, List.map_cons, List.map_nil]); first | done | rfl | (simp only [List.length_drop, List.length_take]; rfl)) ?_; (with_reducible refine (money_Sub.calls k a0 a1 t607 t608 _ A6.out).mono ?_); rintro e w10 ⟨rfl, hb⟩; refine ⟨_, rfl, ?_⟩; have n0_ := Aside0.mk (below_step (by repeat (first | (with_reducible first | exact HB.out | apply below_alloc | apply pw_below_drewN | apply below_drew1) | exact HB.out)) hb); clear HB; have HB := n0_; clear n0_; (try clear hb); (try clear hb2); (try clear hk); (try clear hi)))
  (try simp only [Act.put, List.setIfInBounds_toArray, List.set_cons_zero, List.set_cons_succ])
  go_cut [32] (fun v32 wc => ∃ (kq : Nat) (x32_6 : Bool), v32 = .bool x32_6 ∧ Aside0 (stipendlaw01_MoneyAdds.j0 kq a0 a1 t605 t606 t607 t608 x32_6 = some r) ∧ Aside0 (kq ≤ k) ∧ Aside0 (Below w.heap.size w wc))
  case first =>
   have H := HC7.out
   clear HC7
   replace H := Option.bind_eq_some_iff.mp H
   obtain ⟨t609, A110, H⟩ := H
   replace H : (if t609 = true then ((stipendref01_Right.f a1).bind fun t610 => (stipendlaw01_MoneyAdds.j0 k a0 a1 t605 t606 t607 t608 (!t610))) else (stipendlaw01_MoneyAdds.j0 k a0 a1 t605 t606 t607 t608 true)) = some r := H
   have A11 := Aside0.mk A110
   clear A110
   by_cases c12 : t609 = true
   ·subst c12
    have H1 : ((stipendref01_Right.f a1).bind fun t610 => (stipendlaw01_MoneyAdds.j0 k a0 a1 t605 t606 t607 t608 (!t610))) = some r := by rw [if_pos rfl] at H; exact H
    clear H
    have H := H1
    clear H1
    replace H := Option.bind_eq_some_iff.mp H
    obtain ⟨t610, A130, H⟩ := H
    replace H : (stipendlaw01_MoneyAdds.j0 k a0 a1 t605 t606 t607 t608 (!t610)) = some r := H
    have A13 := Aside0.mk A130
    clear A130
    have H' := Aside0.mk H
    clear H
    go_wp2_with (first | ((with_reducible refine gate_callee (f := 59) rfl ?_); refine goesL_ (some 26) rfl rfl Tryd.func59 (by kernel_rfl) rfl #[.int .i64 a0] rfl (by (try simp only [List.map_toArray, List.map_cons, List.map_nil]); first | done | rfl | (simp only [List.length_drop, List.length_take]; rfl)) ?_; (with_reducible refine (stipendref01_Right.calls a0 true _ A11.out).mono ?_); rintro e w' ⟨rfl, ⟨nd, rfl⟩⟩; refine ⟨_, rfl, ?_⟩) | (go_at_call 59; (with_reducible refine (stipendref01_Right.calls a1 t610 _ A13.out).mono ?_); rintro e w' ⟨rfl, ⟨nd, rfl⟩⟩))
    go_meet
    case rel => exact ⟨_, (!t610), (by first | rfl | (simp; done) | (simp [*]; done)), H', ⟨by first | omega | exact Nat.le_refl _⟩, ⟨by repeat (first | (with_reducible first | exact HB.out | apply below_alloc | apply pw_below_drewN | apply below_drew1) | exact HB.out)⟩⟩
   ·replace c12 := Bool.eq_false_iff.mpr c12
    subst c12
    have H1 : (stipendlaw01_MoneyAdds.j0 k a0 a1 t605 t606 t607 t608 true) = some r := by rw [if_neg (show ¬ (false = true) by decide)] at H; exact H
    clear H
    have H := H1
    clear H1
    have H' := Aside0.mk H
    clear H
    go_wp2_with (first | ((with_reducible refine gate_callee (f := 59) rfl ?_); refine goesL_ (some 26) rfl rfl Tryd.func59 (by kernel_rfl) rfl #[.int .i64 a0] rfl (by (try simp only [List.map_toArray, List.map_cons, List.map_nil]); first | done | rfl | (simp only [List.length_drop, List.length_take]; rfl)) ?_; (with_reducible refine (stipendref01_Right.calls a0 false _ A11.out).mono ?_); rintro e w' ⟨rfl, ⟨nd, rfl⟩⟩; refine ⟨_, rfl, ?_⟩))
    go_meet
    case rel => exact ⟨_, (true), (by first | rfl | (simp; done) | (simp [*]; done)), H', ⟨by first | omega | exact Nat.le_refl _⟩, ⟨by repeat (first | (with_reducible first | exact HB.out | apply below_alloc | apply pw_below_drewN | apply below_drew1) | exact HB.out)⟩⟩
  case rest =>
   clear HC7
   try clear c1
   try clear p2
   try clear c3
   try clear c4
   try clear c5
   try clear c6
   try clear c12
   obtain ⟨kq, x32_6, rfl, HA, HJ6, HB⟩ := hcut
   cases kq with
   | zero => exact absurd HA.out (by simp [stipendlaw01_MoneyAdds.j0])
   | succ kj6 =>
    have H := HA.out
    clear HA
    simp only [stipendlaw01_MoneyAdds.j0] at H
    by_cases c14 : x32_6 = true
    ·subst c14
     have H1 : (if t606 = 10 then (if t608 = 10 then (if t605 = 0 then (if t607 = 0 then ((money_Right.f kj6 (([a0, a1] : List Int))).bind fun t614 => (some (!t614))) else (some false)) else (some false)) else (some false)) else (some false)) = some r := by rw [if_pos rfl] at H; exact H
     clear H
     have H := H1
     clear H1
     by_cases c15 : t606 = 10
     ·rw [if_pos c15] at H
      have c15b0 : (t606 == 10) = true := beq_iff_eq.mpr c15
      have c15b1 : (t606 != 10) = false := bne_eq_false_iff_eq.mpr c15
      clear c15
      by_cases c16 : t608 = 10
      ·rw [if_pos c16] at H
       have c16b0 : (t608 == 10) = true := beq_iff_eq.mpr c16
       have c16b1 : (t608 != 10) = false := bne_eq_false_iff_eq.mpr c16
       clear c16
       by_cases c17 : t605 = 0
       ·rw [if_pos c17] at H
        have c17b0 : (t605 == 0) = true := beq_iff_eq.mpr c17
        have c17b1 : (t605 != 0) = false := bne_eq_false_iff_eq.mpr c17
        clear c17
        by_cases c18 : t607 = 0
        ·rw [if_pos c18] at H
         have c18b0 : (t607 == 0) = true := beq_iff_eq.mpr c18
         have c18b1 : (t607 != 0) = false := bne_eq_false_iff_eq.mpr c18
         clear c18
         obtain ⟨y611, hy611⟩ : ∃ y_ : List Int, y_ = (([a0, a1] : List Int)) := ⟨_, rfl⟩
         replace H : ((money_Right.f kj6 y611).bind fun t614 => (some (!t614))) = some r := by first | (rw [hy611]; with_reducible exact H) | (have H2_ := (Option.bind_some _ _).symm.trans H; rw [hy611]; with_reducible exact H2_) | (have H2_ := (Option.bind_some _ _).symm.trans H; with_reducible exact H2_) | with_reducible exact H | (rw [hy611]; exact H) | exact H
         have Ny611 := Aside0.mk hy611
         clear hy611
         replace H := Option.bind_eq_some_iff.mp H
         obtain ⟨t614, A190, H⟩ := H
         replace H : (some (!t614)) = some r := H
         have A19 := Aside0.mk A190
         clear A190
         obtain rfl := Option.some.inj H
         go_wp2_with (first | ((with_reducible refine gate_dst (N := 50) rfl ?_); (try (refine gate_guard (by rfl) ?_; dsimp only)); refine Kd.R_lit (Kd.int .i64) _ 2 ?hg (N := 50) ?hd (xs := ([a0, a1] : List Int)) (inner := [.int .i64 a0, .int .i64 a1]) (ok := fun _ => True) (okp := fun _ => True) ?hr ?hp (fun _ hk => hk) trivial (Below.refl _ _) (Nat.le_refl _) (by simp) ?_; (case hd => rfl); (case hg => rfl); (case hr => first | (go_simp; done) | (go_simp; rfl)); (case hp => exact (Reps.one (show Kd.M (Kd.int .i64) _ _ _ a0 [.int .i64 a0] from rfl) (Reps.one (show Kd.M (Kd.int .i64) _ _ _ a1 [.int .i64 a1] from rfl) (Reps.none _ _)))); intro v612 w20 ho21 hb hg_ hnew_; clear hg_ hnew_; (first | rw [← Ny611.out] at ho21 | (simp only [Int.reduceToNat] at ho21; rw [← Ny611.out] at ho21)); have n0_ := Aside0.mk (Kd.R_lower ho21 (below_size (by repeat (first | (with_reducible first | exact HB.out | apply below_alloc | apply pw_below_drewN | apply below_drew1) | exact HB.out)))); have n1_ := Aside0.mk (below_step (by repeat (first | (with_reducible first | exact HB.out | apply below_alloc | apply pw_below_drewN | apply below_drew1) | exact HB.out)) hb); clear HB; have HO613 := n0_; have HB := n1_; clear n0_ n1_; clear hb ho21; obtain ⟨Ao22, co22, eo22⟩ := Kd.R_slice HO613.out; subst eo22) | (go_at_call 65; (with_reducible refine (money_Right.calls kj6 _ _ y611 t614 _ ?side1 ?side2 A19.out).mono ?_); (case side1 => repeat (first | exact (Kd.R_reads' HO613.out).2.2 | (with_reducible refine Kd.C_alloc ?_ _) | (with_reducible refine Kd.C_drewN ?_ _) | (with_reducible refine Kd.C_drew ?_))); (case side2 => exact (Kd.R_reads' HO613.out).2.1); rintro e w' ⟨rfl, ⟨nd, rfl⟩⟩))
         go_ret
         exact ⟨by first | rfl | (simp [errW_none, errW_some] <;> rfl) | (simp [*, errW_none, errW_some] <;> rfl), by repeat (first | (with_reducible first | exact HB.out | apply below_alloc | apply pw_below_drewN | apply below_drew1) | exact HB.out)⟩
        ·rw [if_neg c18] at H
         have c18b0 : (t607 == 0) = false := beq_eq_false_iff_ne.mpr c18
         have c18b1 : (t607 != 0) = true := bne_iff_ne.mpr c18
         obtain rfl := Option.some.inj H
         go_wp2
         go_ret
         exact ⟨by first | rfl | (simp [errW_none, errW_some] <;> rfl) | (simp [*, errW_none, errW_some] <;> rfl), by repeat (first | (with_reducible first | exact HB.out | apply below_alloc | apply pw_below_drewN | apply below_drew1) | exact HB.out)⟩
       ·rw [if_neg c17] at H
        have c17b0 : (t605 == 0) = false := beq_eq_false_iff_ne.mpr c17
        have c17b1 : (t605 != 0) = true := bne_iff_ne.mpr c17
        obtain rfl := Option.some.inj H
        go_wp2
        go_ret
        exact ⟨by first | rfl | (simp [errW_none, errW_some] <;> rfl) | (simp [*, errW_none, errW_some] <;> rfl), by repeat (first | (with_reducible first | exact HB.out | apply below_alloc | apply pw_below_drewN | apply below_drew1) | exact HB.out)⟩
      ·rw [if_neg c16] at H
       have c16b0 : (t608 == 10) = false := beq_eq_false_iff_ne.mpr c16
       have c16b1 : (t608 != 10) = true := bne_iff_ne.mpr c16
       obtain rfl := Option.some.inj H
       go_wp2
       go_ret
       exact ⟨by first | rfl | (simp [errW_none, errW_some] <;> rfl) | (simp [*, errW_none, errW_some] <;> rfl), by repeat (first | (with_reducible first | exact HB.out | apply below_alloc | apply pw_below_drewN | apply below_drew1) | exact HB.out)⟩
     ·rw [if_neg c15] at H
      have c15b0 : (t606 == 10) = false := beq_eq_false_iff_ne.mpr c15
      have c15b1 : (t606 != 10) = true := bne_iff_ne.mpr c15
      obtain rfl := Option.some.inj H
      go_wp2
      go_ret
      exact ⟨by first | rfl | (simp [errW_none, errW_some] <;> rfl) | (simp [*, errW_none, errW_some] <;> rfl), by repeat (first | (with_reducible first | exact HB.out | apply below_alloc | apply pw_below_drewN | apply below_drew1) | exact HB.out)⟩
    ·replace c14 := Bool.eq_false_iff.mpr c14
     subst c14
     have H1 : ((stipendref01_Right.f (wrap64 (a0 + a1))).bind fun t615 => (if (t615 != (t606 == 0)) = true then (stipendlaw01_MoneyAdds.j1 kj6 a0 a1 t605 t606 t607 t608 (wrap64 (a0 + a1)) (wrap64 (a0 - a1)) true) else ((stipendref01_Right.f (wrap64 (a0 - a1))).bind fun t616 => (if (t616 != (t608 == 0)) = true then (stipendlaw01_MoneyAdds.j1 kj6 a0 a1 t605 t606 t607 t608 (wrap64 (a0 + a1)) (wrap64 (a0 - a1)) true) else ((money_Right.f kj6 (([a0, a1] : List Int))).bind fun t620 => (stipendlaw01_MoneyAdds.j1 kj6 a0 a1 t605 t606 t607 t608 (wrap64 (a0 + a1)) (wrap64 (a0 - a1)) (!t620))))))) = some r := by rw [if_neg (show ¬ (false = true) by decide)] at H; exact H
     clear H
     have H := H1
     clear H1
     have HC23 := Aside0.mk H
     clear H
     go_upto_region 8 with (fail)
     go_cut [78] (fun v78 wc => ∃ (kq : Nat) (x78_22 : Bool), v78 = .bool x78_22 ∧ Aside0 (stipendlaw01_MoneyAdds.j1 kq a0 a1 t605 t606 t607 t608 (wrap64 (a0 + a1)) (wrap64 (a0 - a1)) x78_22 = some r) ∧ Aside0 (kq ≤ kj6) ∧ Aside0 (Below w.heap.size w wc))
     case first =>
      have H := HC23.out
      clear HC23
      replace H := Option.bind_eq_some_iff.mp H
      obtain ⟨t615, A240, H⟩ := H
      replace H : (if (t615 != (t606 == 0)) = true then (stipendlaw01_MoneyAdds.j1 kj6 a0 a1 t605 t606 t607 t608 (wrap64 (a0 + a1)) (wrap64 (a0 - a1)) true) else ((stipendref01_Right.f (wrap64 (a0 - a1))).bind fun t616 => (if (t616 != (t608 == 0)) = true then (stipendlaw01_MoneyAdds.j1 kj6 a0 a1 t605 t606 t607 t608 (wrap64 (a0 + a1)) (wrap64 (a0 - a1)) true) else ((money_Right.f kj6 (([a0, a1] : List Int))).bind fun t620 => (stipendlaw01_MoneyAdds.j1 kj6 a0 a1 t605 t606 t607 t608 (wrap64 (a0 + a1)) (wrap64 (a0 - a1)) (!t620)))))) = some r := H
      have A24 := Aside0.mk A240
      clear A240
      by_cases c25 : (t615 != (t606 == 0)) = true
      ·rw [if_pos c25] at H
       have c25b0 : (t615 != (t606 == 0)) = true := c25
       (try (have c25b1 : decide (t615 = (t606 == 0)) = false := by simpa using c25))
       (try (have c25b2 : (t615 == (t606 == 0)) = false := by simpa using c25))
       (try (have c25b3 : ¬ (t615 = (t606 == 0)) := by simpa using c25))
       clear c25
       (first | rw [c25b0] | (simp only [i64_w, i32_w]; rw [c25b0]) | skip)
       have H' := Aside0.mk H
       clear H
       go_wp2_with (first | ((with_reducible refine gate_callee (f := 59) rfl ?_); refine goesL_ (some 61) rfl rfl Tryd.func59 (by kernel_rfl) rfl #[.int .i64 (wrap64 (a0 + a1))] rfl (by (try simp only [List.map_toArray, List.map_cons, List.map_nil]); first | done | rfl | (simp only [List.length_drop, List.length_take]; rfl)) ?_; (with_reducible refine (stipendref01_Right.calls (wrap64 (a0 + a1)) t615 _ A24.out).mono ?_); rintro e w' ⟨rfl, ⟨nd, rfl⟩⟩; refine ⟨_, rfl, ?_⟩))
       go_meet
       case rel => exact ⟨_, (true), (by first | rfl | (simp; done) | (simp [*]; done)), H', ⟨by have := HJ6.out; first | omega | exact Nat.le_refl _⟩, ⟨by repeat (first | (with_reducible first | exact HB.out | apply below_alloc | apply pw_below_drewN | apply below_drew1) | exact HB.out)⟩⟩
      ·rw [if_neg c25] at H
       have c25b0 : (t615 != (t606 == 0)) = false := by simpa using c25
       (try (have c25b1 : decide (t615 = (t606 == 0)) = true := by simpa using c25))
       (try (have c25b2 : (t615 == (t606 == 0)) = true := by simpa using c25))
       clear c25
       (first | rw [c25b0] | (simp only [i64_w, i32_w]; rw [c25b0]) | skip)
       replace H := Option.bind_eq_some_iff.mp H
       obtain ⟨t616, A260, H⟩ := H
       replace H : (if (t616 != (t608 == 0)) = true then (stipendlaw01_MoneyAdds.j1 kj6 a0 a1 t605 t606 t607 t608 (wrap64 (a0 + a1)) (wrap64 (a0 - a1)) true) else ((money_Right.f kj6 (([a0, a1] : List Int))).bind fun t620 => (stipendlaw01_MoneyAdds.j1 kj6 a0 a1 t605 t606 t607 t608 (wrap64 (a0 + a1)) (wrap64 (a0 - a1)) (!t620)))) = some r := H
       have A26 := Aside0.mk A260
       clear A260
       by_cases c27 : (t616 != (t608 == 0)) = true
       ·rw [if_pos c27] at H
        have c27b0 : (t616 != (t608 == 0)) = true := c27
        (try (have c27b1 : decide (t616 = (t608 == 0)) = false := by simpa using c27))
        (try (have c27b2 : (t616 == (t608 == 0)) = false := by simpa using c27))
        (try (have c27b3 : ¬ (t616 = (t608 == 0)) := by simpa using c27))
        clear c27
        have H' := Aside0.mk H
        clear H
        go_wp2_with (first | ((with_reducible refine gate_callee (f := 59) rfl ?_); refine goesL_ (some 61) rfl rfl Tryd.func59 (by kernel_rfl) rfl #[.int .i64 (wrap64 (a0 + a1))] rfl (by (try simp only [List.map_toArray, List.map_cons, List.map_nil]); first | done | rfl | (simp only [List.length_drop, List.length_take]; rfl)) ?_; (with_reducible refine (stipendref01_Right.calls (wrap64 (a0 + a1)) t615 _ A24.out).mono ?_); rintro e w' ⟨rfl, ⟨nd, rfl⟩⟩; refine ⟨_, rfl, ?_⟩) | (go_at_call 59; (with_reducible refine (stipendref01_Right.calls (wrap64 (a0 - a1)) t616 _ A26.out).mono ?_); rintro e w' ⟨rfl, ⟨nd, rfl⟩⟩))
        go_meet
        case rel => exact ⟨_, (true), (by first | rfl | (simp; done) | (simp [*]; done)), H', ⟨by have := HJ6.out; first | omega | exact Nat.le_refl _⟩, ⟨by repeat (first | (with_reducible first | exact HB.out | apply below_alloc | apply pw_below_drewN | apply below_drew1) | exact HB.out)⟩⟩
       ·rw [if_neg c27] at H
        have c27b0 : (t616 != (t608 == 0)) = false := by simpa using c27
        (try (have c27b1 : decide (t616 = (t608 == 0)) = true := by simpa using c27))
        (try (have c27b2 : (t616 == (t608 == 0)) = true := by simpa using c27))
        clear c27
        obtain ⟨y617, hy617⟩ : ∃ y_ : List Int, y_ = (([a0, a1] : List Int)) := ⟨_, rfl⟩
        replace H : ((money_Right.f kj6 y617).bind fun t620 => (stipendlaw01_MoneyAdds.j1 kj6 a0 a1 t605 t606 t607 t608 (wrap64 (a0 + a1)) (wrap64 (a0 - a1)) (!t620))) = some r := by first | (rw [hy617]; with_reducible exact H) | (have H2_ := (Option.bind_some _ _).symm.trans H; rw [hy617]; with_reducible exact H2_) | (have H2_ := (Option.bind_some _ _).symm.trans H; with_reducible exact H2_) | with_reducible exact H | (rw [hy617]; exact H) | exact H
        have Ny617 := Aside0.mk hy617
        clear hy617
        replace H := Option.bind_eq_some_iff.mp H
        obtain ⟨t620, A280, H⟩ := H
        replace H : (stipendlaw01_MoneyAdds.j1 kj6 a0 a1 t605 t606 t607 t608 (wrap64 (a0 + a1)) (wrap64 (a0 - a1)) (!t620)) = some r := H
        have A28 := Aside0.mk A280
        clear A280
        have H' := Aside0.mk H
        clear H
        go_wp2_with (first | ((with_reducible refine gate_callee (f := 59) rfl ?_); refine goesL_ (some 61) rfl rfl Tryd.func59 (by kernel_rfl) rfl #[.int .i64 (wrap64 (a0 + a1))] rfl (by (try simp only [List.map_toArray, List.map_cons, List.map_nil]); first | done | rfl | (simp only [List.length_drop, List.length_take]; rfl)) ?_; (with_reducible refine (stipendref01_Right.calls (wrap64 (a0 + a1)) t615 _ A24.out).mono ?_); rintro e w' ⟨rfl, ⟨nd, rfl⟩⟩; refine ⟨_, rfl, ?_⟩) | (go_at_call 59; (with_reducible refine (stipendref01_Right.calls (wrap64 (a0 - a1)) t616 _ A26.out).mono ?_); rintro e w' ⟨rfl, ⟨nd, rfl⟩⟩) | ((with_reducible refine gate_dst (N := 75) rfl ?_); (try (refine gate_guard (by rfl) ?_; dsimp only)); refine Kd.R_lit (Kd.int .i64) _ 2 ?hg (N := 75) ?hd (xs := ([a0, a1] : List Int)) (inner := [.int .i64 a0, .int .i64 a1]) (ok := fun _ => True) (okp := fun _ => True) ?hr ?hp (fun _ hk => hk) trivial (Below.refl _ _) (Nat.le_refl _) (by simp) ?_; (case hd => rfl); (case hg => rfl); (case hr => first | (go_simp; done) | (go_simp; rfl)); (case hp => exact (Reps.one (show Kd.M (Kd.int .i64) _ _ _ a0 [.int .i64 a0] from rfl) (Reps.one (show Kd.M (Kd.int .i64) _ _ _ a1 [.int .i64 a1] from rfl) (Reps.none _ _)))); intro v618 w29 ho30 hb hg_ hnew_; clear hg_ hnew_; (first | rw [← Ny617.out] at ho30 | (simp only [Int.reduceToNat] at ho30; rw [← Ny617.out] at ho30)); have n0_ := Aside0.mk (Kd.R_lower ho30 (below_size (by repeat (first | (with_reducible first | exact HB.out | apply below_alloc | apply pw_below_drewN | apply below_drew1) | exact HB.out)))); have n1_ := Aside0.mk (below_step (by repeat (first | (with_reducible first | exact HB.out | apply below_alloc | apply pw_below_drewN | apply below_drew1) | exact HB.out)) hb); clear HB; have HO619 := n0_; have HB := n1_; clear n0_ n1_; clear hb ho30; obtain ⟨Ao31, co31, eo31⟩ := Kd.R_slice HO619.out; subst eo31) | (go_at_call 65; (with_reducible refine (money_Right.calls kj6 _ _ y617 t620 _ ?side1 ?side2 A28.out).mono ?_); (case side1 => repeat (first | exact (Kd.R_reads' HO619.out).2.2 | (with_reducible refine Kd.C_alloc ?_ _) | (with_reducible refine Kd.C_drewN ?_ _) | (with_reducible refine Kd.C_drew ?_))); (case side2 => exact (Kd.R_reads' HO619.out).2.1); rintro e w' ⟨rfl, ⟨nd, rfl⟩⟩))
        go_meet
        case rel => exact ⟨_, (!t620), (by first | rfl | (simp; done) | (simp [*]; done)), H', ⟨by have := HJ6.out; first | omega | exact Nat.le_refl _⟩, ⟨by repeat (first | (with_reducible first | exact HB.out | apply below_alloc | apply pw_below_drewN | apply below_drew1) | exact HB.out)⟩⟩
     case rest =>
      clear HC23
      try clear c1
      try clear c2
      try clear p2
      try clear c3
      try clear c4
      try clear c5
      try clear c6
      try clear p6
      try clear c12
      try clear c14
      try clear c15
      try clear c15b0
      try clear c15b1
      try clear c16
      try clear c16b0
      try clear c16b1
      try clear c17
      try clear c17b0
      try clear c17b1
      try clear c18
      try clear c18b0
      try clear c18b1
      try clear c25
      try clear c25b0
      try clear c25b1
      try clear c25b2
      try clear c27
      try clear c27b0
      try clear c27b1
      try clear c27b2
      try clear p2
      obtain ⟨kq, x78_22, rfl, HA, HJ22, HB⟩ := hcut
      cases kq with
      | zero => exact absurd HA.out (by simp [stipendlaw01_MoneyAdds.j1])
      | succ kj22 =>
       have H := HA.out
       clear HA
       simp only [stipendlaw01_MoneyAdds.j1] at H
       by_cases c32 : x78_22 = true
       ·subst c32
        have H1 : (some false) = some r := by rw [if_pos rfl] at H; exact H
        clear H
        have H := H1
        clear H1
        obtain rfl := Option.some.inj H
        go_wp2
        go_ret
        exact ⟨by first | rfl | (simp [errW_none, errW_some] <;> rfl) | (simp [*, errW_none, errW_some] <;> rfl), by repeat (first | (with_reducible first | exact HB.out | apply below_alloc | apply pw_below_drewN | apply below_drew1) | exact HB.out)⟩
       ·replace c32 := Bool.eq_false_iff.mpr c32
        subst c32
        have H1 : (if t606 = 0 then (if t605 = (wrap64 (a0 + a1)) then (if t608 = 0 then (if t607 = (wrap64 (a0 - a1)) then ((money_Least.f a0 a1).bind fun t621 => ((money_Greatest.f a0 a1).bind fun t622 => (some ((wrap64 (t621 + t622)) == (wrap64 (a0 + a1)))))) else (if t608 = 10 then (if t607 = 0 then ((money_Least.f a0 a1).bind fun t623 => ((money_Greatest.f a0 a1).bind fun t624 => (some ((wrap64 (t623 + t624)) == (wrap64 (a0 + a1)))))) else (some false)) else (some false))) else (if t608 = 10 then (if t607 = 0 then ((money_Least.f a0 a1).bind fun t625 => ((money_Greatest.f a0 a1).bind fun t626 => (some ((wrap64 (t625 + t626)) == (wrap64 (a0 + a1)))))) else (some false)) else (some false))) else (if t606 = 10 then (if t605 = 0 then (if t608 = 0 then (if t607 = (wrap64 (a0 - a1)) then ((money_Least.f a0 a1).bind fun t627 => ((money_Greatest.f a0 a1).bind fun t628 => (some ((wrap64 (t627 + t628)) == (wrap64 (a0 + a1)))))) else (if t608 = 10 then (if t607 = 0 then ((money_Least.f a0 a1).bind fun t629 => ((money_Greatest.f a0 a1).bind fun t630 => (some ((wrap64 (t629 + t630)) == (wrap64 (a0 + a1)))))) else (some false)) else (some false))) else (if t608 = 10 then (if t607 = 0 then ((money_Least.f a0 a1).bind fun t631 => ((money_Greatest.f a0 a1).bind fun t632 => (some ((wrap64 (t631 + t632)) == (wrap64 (a0 + a1)))))) else (some false)) else (some false))) else (some false)) else (some false))) else (if t606 = 10 then (if t605 = 0 then (if t608 = 0 then (if t607 = (wrap64 (a0 - a1)) then ((money_Least.f a0 a1).bind fun t633 => ((money_Greatest.f a0 a1).bind fun t634 => (some ((wrap64 (t633 + t634)) == (wrap64 (a0 + a1)))))) else (if t608 = 10 then (if t607 = 0 then ((money_Least.f a0 a1).bind fun t635 => ((money_Greatest.f a0 a1).bind fun t636 => (some ((wrap64 (t635 + t636)) == (wrap64 (a0 + a1)))))) else (some false)) else (some false))) else (if t608 = 10 then (if t607 = 0 then ((money_Least.f a0 a1).bind fun t637 => ((money_Greatest.f a0 a1).bind fun t638 => (some ((wrap64 (t637 + t638)) == (wrap64 (a0 + a1)))))) else (some false)) else (some false))) else (some false)) else (some false))) = some r := by rw [if_neg (show ¬ (false = true) by decide)] at H; exact H
        clear H
        have H := H1
        clear H1
        by_cases c33 : t606 = 0
        ·rw [if_pos c33] at H
         have c33b0 : (t606 == 0) = true := beq_iff_eq.mpr c33
         have c33b1 : (t606 != 0) = false := bne_eq_false_iff_eq.mpr c33
         clear c33
         by_cases c34 : t605 = (wrap64 (a0 + a1))
         ·rw [if_pos c34] at H
          have c34b0 : (t605 == (wrap64 (a0 + a1))) = true := beq_iff_eq.mpr c34
          have c34b1 : (t605 != (wrap64 (a0 + a1))) = false := bne_eq_false_iff_eq.mpr c34
          clear c34
          by_cases c35 : t608 = 0
          ·rw [if_pos c35] at H
           have c35b0 : (t608 == 0) = true := beq_iff_eq.mpr c35
           have c35b1 : (t608 != 0) = false := bne_eq_false_iff_eq.mpr c35
           clear c35
           by_cases c36 : t607 = (wrap64 (a0 - a1))
           ·rw [if_pos c36] at H
            have c36b0 : (t607 == (wrap64 (a0 - a1))) = true := beq_iff_eq.mpr c36
            have c36b1 : (t607 != (wrap64 (a0 - a1))) = false := bne_eq_false_iff_eq.mpr c36
            clear c36
            replace H := Option.bind_eq_some_iff.mp H
            obtain ⟨t621, A370, H⟩ := H
            replace H : ((money_Greatest.f a0 a1).bind fun t622 => (some ((wrap64 (t621 + t622)) == (wrap64 (a0 + a1))))) = some r := H
            have A37 := Aside0.mk A370
            clear A370
            replace H := Option.bind_eq_some_iff.mp H
            obtain ⟨t622, A380, H⟩ := H
            replace H : (some ((wrap64 (t621 + t622)) == (wrap64 (a0 + a1)))) = some r := H
            have A38 := Aside0.mk A380
            clear A380
            obtain rfl := Option.some.inj H
            go_wp2_with (first | (go_at_call 66; (with_reducible refine (money_Least.calls a0 a1 t621 _ A37.out).mono ?_); rintro e w39 ⟨rfl, hb⟩; have n0_ := Aside0.mk (below_step (by repeat (first | (with_reducible first | exact HB.out | apply below_alloc | apply pw_below_drewN | apply below_drew1) | exact HB.out)) hb); clear HB; have HB := n0_; clear n0_; (try clear hb); (try clear hb2); (try clear hk); (try clear hi)) | (go_at_call 67; (with_reducible refine (money_Greatest.calls a0 a1 t622 _ A38.out).mono ?_); rintro e w40 ⟨rfl, hb⟩; have n0_ := Aside0.mk (below_step (by repeat (first | (with_reducible first | exact HB.out | apply below_alloc | apply pw_below_drewN | apply below_drew1) | exact HB.out)) hb); clear HB; have HB := n0_; clear n0_; (try clear hb); (try clear hb2); (try clear hk); (try clear hi)))
            go_ret
            exact ⟨by first | rfl | (simp [errW_none, errW_some] <;> rfl) | (simp [*, errW_none, errW_some] <;> rfl), by repeat (first | (with_reducible first | exact HB.out | apply below_alloc | apply pw_below_drewN | apply below_drew1) | exact HB.out)⟩
           ·rw [if_neg c36] at H
            have c36b0 : (t607 == (wrap64 (a0 - a1))) = false := beq_eq_false_iff_ne.mpr c36
            have c36b1 : (t607 != (wrap64 (a0 - a1))) = true := bne_iff_ne.mpr c36
            by_cases c41 : t608 = 10
            ·rw [if_pos c41] at H
             have c41b0 : (t608 == 10) = true := beq_iff_eq.mpr c41
             have c41b1 : (t608 != 10) = false := bne_eq_false_iff_eq.mpr c41
             clear c41
             by_cases c42 : t607 = 0
             ·rw [if_pos c42] at H
              have c42b0 : (t607 == 0) = true := beq_iff_eq.mpr c42
              have c42b1 : (t607 != 0) = false := bne_eq_false_iff_eq.mpr c42
              clear c42
              replace H := Option.bind_eq_some_iff.mp H
              obtain ⟨t623, A430, H⟩ := H
              replace H : ((money_Greatest.f a0 a1).bind fun t624 => (some ((wrap64 (t623 + t624)) == (wrap64 (a0 + a1))))) = some r := H
              have A43 := Aside0.mk A430
              clear A430
              replace H := Option.bind_eq_some_iff.mp H
              obtain ⟨t624, A440, H⟩ := H
              replace H : (some ((wrap64 (t623 + t624)) == (wrap64 (a0 + a1)))) = some r := H
              have A44 := Aside0.mk A440
              clear A440
              obtain rfl := Option.some.inj H
              go_wp2_with (first | (go_at_call 66; (with_reducible refine (money_Least.calls a0 a1 t623 _ A43.out).mono ?_); rintro e w45 ⟨rfl, hb⟩; have n0_ := Aside0.mk (below_step (by repeat (first | (with_reducible first | exact HB.out | apply below_alloc | apply pw_below_drewN | apply below_drew1) | exact HB.out)) hb); clear HB; have HB := n0_; clear n0_; (try clear hb); (try clear hb2); (try clear hk); (try clear hi)) | (go_at_call 67; (with_reducible refine (money_Greatest.calls a0 a1 t624 _ A44.out).mono ?_); rintro e w46 ⟨rfl, hb⟩; have n0_ := Aside0.mk (below_step (by repeat (first | (with_reducible first | exact HB.out | apply below_alloc | apply pw_below_drewN | apply below_drew1) | exact HB.out)) hb); clear HB; have HB := n0_; clear n0_; (try clear hb); (try clear hb2); (try clear hk); (try clear hi)))
              go_ret
              exact ⟨by first | rfl | (simp [errW_none, errW_some] <;> rfl) | (simp [*, errW_none, errW_some] <;> rfl), by repeat (first | (with_reducible first | exact HB.out | apply below_alloc | apply pw_below_drewN | apply below_drew1) | exact HB.out)⟩
             ·rw [if_neg c42] at H
              have c42b0 : (t607 == 0) = false := beq_eq_false_iff_ne.mpr c42
              have c42b1 : (t607 != 0) = true := bne_iff_ne.mpr c42
              obtain rfl := Option.some.inj H
              go_wp2
              go_ret
              exact ⟨by first | rfl | (simp [errW_none, errW_some] <;> rfl) | (simp [*, errW_none, errW_some] <;> rfl), by repeat (first | (with_reducible first | exact HB.out | apply below_alloc | apply pw_below_drewN | apply below_drew1) | exact HB.out)⟩
            ·rw [if_neg c41] at H
             have c41b0 : (t608 == 10) = false := beq_eq_false_iff_ne.mpr c41
             have c41b1 : (t608 != 10) = true := bne_iff_ne.mpr c41
             obtain rfl := Option.some.inj H
             go_wp2
             go_ret
             exact ⟨by first | rfl | (simp [errW_none, errW_some] <;> rfl) | (simp [*, errW_none, errW_some] <;> rfl), by repeat (first | (with_reducible first | exact HB.out | apply below_alloc | apply pw_below_drewN | apply below_drew1) | exact HB.out)⟩
          ·rw [if_neg c35] at H
           have c35b0 : (t608 == 0) = false := beq_eq_false_iff_ne.mpr c35
           have c35b1 : (t608 != 0) = true := bne_iff_ne.mpr c35
           by_cases c47 : t608 = 10
           ·rw [if_pos c47] at H
            have c47b0 : (t608 == 10) = true := beq_iff_eq.mpr c47
            have c47b1 : (t608 != 10) = false := bne_eq_false_iff_eq.mpr c47
            clear c47
            by_cases c48 : t607 = 0
            ·rw [if_pos c48] at H
             have c48b0 : (t607 == 0) = true := beq_iff_eq.mpr c48
             have c48b1 : (t607 != 0) = false := bne_eq_false_iff_eq.mpr c48
             clear c48
             replace H := Option.bind_eq_some_iff.mp H
             obtain ⟨t625, A490, H⟩ := H
             replace H : ((money_Greatest.f a0 a1).bind fun t626 => (some ((wrap64 (t625 + t626)) == (wrap64 (a0 + a1))))) = some r := H
             have A49 := Aside0.mk A490
             clear A490
             replace H := Option.bind_eq_some_iff.mp H
             obtain ⟨t626, A500, H⟩ := H
             replace H : (some ((wrap64 (t625 + t626)) == (wrap64 (a0 + a1)))) = some r := H
             have A50 := Aside0.mk A500
             clear A500
             obtain rfl := Option.some.inj H
             go_wp2_with (first | (go_at_call 66; (with_reducible refine (money_Least.calls a0 a1 t625 _ A49.out).mono ?_); rintro e w51 ⟨rfl, hb⟩; have n0_ := Aside0.mk (below_step (by repeat (first | (with_reducible first | exact HB.out | apply below_alloc | apply pw_below_drewN | apply below_drew1) | exact HB.out)) hb); clear HB; have HB := n0_; clear n0_; (try clear hb); (try clear hb2); (try clear hk); (try clear hi)) | (go_at_call 67; (with_reducible refine (money_Greatest.calls a0 a1 t626 _ A50.out).mono ?_); rintro e w52 ⟨rfl, hb⟩; have n0_ := Aside0.mk (below_step (by repeat (first | (with_reducible first | exact HB.out | apply below_alloc | apply pw_below_drewN | apply below_drew1) | exact HB.out)) hb); clear HB; have HB := n0_; clear n0_; (try clear hb); (try clear hb2); (try clear hk); (try clear hi)))
             go_ret
             exact ⟨by first | rfl | (simp [errW_none, errW_some] <;> rfl) | (simp [*, errW_none, errW_some] <;> rfl), by repeat (first | (with_reducible first | exact HB.out | apply below_alloc | apply pw_below_drewN | apply below_drew1) | exact HB.out)⟩
            ·rw [if_neg c48] at H
             have c48b0 : (t607 == 0) = false := beq_eq_false_iff_ne.mpr c48
             have c48b1 : (t607 != 0) = true := bne_iff_ne.mpr c48
             obtain rfl := Option.some.inj H
             go_wp2
             go_ret
             exact ⟨by first | rfl | (simp [errW_none, errW_some] <;> rfl) | (simp [*, errW_none, errW_some] <;> rfl), by repeat (first | (with_reducible first | exact HB.out | apply below_alloc | apply pw_below_drewN | apply below_drew1) | exact HB.out)⟩
           ·rw [if_neg c47] at H
            have c47b0 : (t608 == 10) = false := beq_eq_false_iff_ne.mpr c47
            have c47b1 : (t608 != 10) = true := bne_iff_ne.mpr c47
            obtain rfl := Option.some.inj H
            go_wp2
            go_ret
            exact ⟨by first | rfl | (simp [errW_none, errW_some] <;> rfl) | (simp [*, errW_none, errW_some] <;> rfl), by repeat (first | (with_reducible first | exact HB.out | apply below_alloc | apply pw_below_drewN | apply below_drew1) | exact HB.out)⟩
         ·rw [if_neg c34] at H
          have c34b0 : (t605 == (wrap64 (a0 + a1))) = false := beq_eq_false_iff_ne.mpr c34
          have c34b1 : (t605 != (wrap64 (a0 + a1))) = true := bne_iff_ne.mpr c34
          by_cases c53 : t606 = 10
          ·rw [if_pos c53] at H
           have c53b0 : (t606 == 10) = true := beq_iff_eq.mpr c53
           have c53b1 : (t606 != 10) = false := bne_eq_false_iff_eq.mpr c53
           clear c53
           by_cases c54 : t605 = 0
           ·rw [if_pos c54] at H
            have c54b0 : (t605 == 0) = true := beq_iff_eq.mpr c54
            have c54b1 : (t605 != 0) = false := bne_eq_false_iff_eq.mpr c54
            clear c54
            by_cases c55 : t608 = 0
            ·rw [if_pos c55] at H
             have c55b0 : (t608 == 0) = true := beq_iff_eq.mpr c55
             have c55b1 : (t608 != 0) = false := bne_eq_false_iff_eq.mpr c55
             clear c55
             by_cases c56 : t607 = (wrap64 (a0 - a1))
             ·rw [if_pos c56] at H
              have c56b0 : (t607 == (wrap64 (a0 - a1))) = true := beq_iff_eq.mpr c56
              have c56b1 : (t607 != (wrap64 (a0 - a1))) = false := bne_eq_false_iff_eq.mpr c56
              clear c56
              replace H := Option.bind_eq_some_iff.mp H
              obtain ⟨t627, A570, H⟩ := H
              replace H : ((money_Greatest.f a0 a1).bind fun t628 => (some ((wrap64 (t627 + t628)) == (wrap64 (a0 + a1))))) = some r := H
              have A57 := Aside0.mk A570
              clear A570
              replace H := Option.bind_eq_some_iff.mp H
              obtain ⟨t628, A580, H⟩ := H
              replace H : (some ((wrap64 (t627 + t628)) == (wrap64 (a0 + a1)))) = some r := H
              have A58 := Aside0.mk A580
              clear A580
              obtain rfl := Option.some.inj H
              go_wp2_with (first | (go_at_call 66; (with_reducible refine (money_Least.calls a0 a1 t627 _ A57.out).mono ?_); rintro e w59 ⟨rfl, hb⟩; have n0_ := Aside0.mk (below_step (by repeat (first | (with_reducible first | exact HB.out | apply below_alloc | apply pw_below_drewN | apply below_drew1) | exact HB.out)) hb); clear HB; have HB := n0_; clear n0_; (try clear hb); (try clear hb2); (try clear hk); (try clear hi)) | (go_at_call 67; (with_reducible refine (money_Greatest.calls a0 a1 t628 _ A58.out).mono ?_); rintro e w60 ⟨rfl, hb⟩; have n0_ := Aside0.mk (below_step (by repeat (first | (with_reducible first | exact HB.out | apply below_alloc | apply pw_below_drewN | apply below_drew1) | exact HB.out)) hb); clear HB; have HB := n0_; clear n0_; (try clear hb); (try clear hb2); (try clear hk); (try clear hi)))
              go_ret
              exact ⟨by first | rfl | (simp [errW_none, errW_some] <;> rfl) | (simp [*, errW_none, errW_some] <;> rfl), by repeat (first | (with_reducible first | exact HB.out | apply below_alloc | apply pw_below_drewN | apply below_drew1) | exact HB.out)⟩
             ·rw [if_neg c56] at H
              have c56b0 : (t607 == (wrap64 (a0 - a1))) = false := beq_eq_false_iff_ne.mpr c56
              have c56b1 : (t607 != (wrap64 (a0 - a1))) = true := bne_iff_ne.mpr c56
              by_cases c61 : t608 = 10
              ·rw [if_pos c61] at H
               have c61b0 : (t608 == 10) = true := beq_iff_eq.mpr c61
               have c61b1 : (t608 != 10) = false := bne_eq_false_iff_eq.mpr c61
               clear c61
               by_cases c62 : t607 = 0
               ·rw [if_pos c62] at H
                have c62b0 : (t607 == 0) = true := beq_iff_eq.mpr c62
                have c62b1 : (t607 != 0) = false := bne_eq_false_iff_eq.mpr c62
                clear c62
                replace H := Option.bind_eq_some_iff.mp H
                obtain ⟨t629, A630, H⟩ := H
                replace H : ((money_Greatest.f a0 a1).bind fun t630 => (some ((wrap64 (t629 + t630)) == (wrap64 (a0 + a1))))) = some r := H
                have A63 := Aside0.mk A630
                clear A630
                replace H := Option.bind_eq_some_iff.mp H
                obtain ⟨t630, A640, H⟩ := H
                replace H : (some ((wrap64 (t629 + t630)) == (wrap64 (a0 + a1)))) = some r := H
                have A64 := Aside0.mk A640
                clear A640
                obtain rfl := Option.some.inj H
                go_wp2_with (first | (go_at_call 66; (with_reducible refine (money_Least.calls a0 a1 t629 _ A63.out).mono ?_); rintro e w65 ⟨rfl, hb⟩; have n0_ := Aside0.mk (below_step (by repeat (first | (with_reducible first | exact HB.out | apply below_alloc | apply pw_below_drewN | apply below_drew1) | exact HB.out)) hb); clear HB; have HB := n0_; clear n0_; (try clear hb); (try clear hb2); (try clear hk); (try clear hi)) | (go_at_call 67; (with_reducible refine (money_Greatest.calls a0 a1 t630 _ A64.out).mono ?_); rintro e w66 ⟨rfl, hb⟩; have n0_ := Aside0.mk (below_step (by repeat (first | (with_reducible first | exact HB.out | apply below_alloc | apply pw_below_drewN | apply below_drew1) | exact HB.out)) hb); clear HB; have HB := n0_; clear n0_; (try clear hb); (try clear hb2); (try clear hk); (try clear hi)))
                go_ret
                exact ⟨by first | rfl | (simp [errW_none, errW_some] <;> rfl) | (simp [*, errW_none, errW_some] <;> rfl), by repeat (first | (with_reducible first | exact HB.out | apply below_alloc | apply pw_below_drewN | apply below_drew1) | exact HB.out)⟩
               ·rw [if_neg c62] at H
                have c62b0 : (t607 == 0) = false := beq_eq_false_iff_ne.mpr c62
                have c62b1 : (t607 != 0) = true := bne_iff_ne.mpr c62
                obtain rfl := Option.some.inj H
                go_wp2
                go_ret
                exact ⟨by first | rfl | (simp [errW_none, errW_some] <;> rfl) | (simp [*, errW_none, errW_some] <;> rfl), by repeat (first | (with_reducible first | exact HB.out | apply below_alloc | apply pw_below_drewN | apply below_drew1) | exact HB.out)⟩
              ·rw [if_neg c61] at H
               have c61b0 : (t608 == 10) = false := beq_eq_false_iff_ne.mpr c61
               have c61b1 : (t608 != 10) = true := bne_iff_ne.mpr c61
               obtain rfl := Option.some.inj H
               go_wp2
               go_ret
               exact ⟨by first | rfl | (simp [errW_none, errW_some] <;> rfl) | (simp [*, errW_none, errW_some] <;> rfl), by repeat (first | (with_reducible first | exact HB.out | apply below_alloc | apply pw_below_drewN | apply below_drew1) | exact HB.out)⟩
            ·rw [if_neg c55] at H
             have c55b0 : (t608 == 0) = false := beq_eq_false_iff_ne.mpr c55
             have c55b1 : (t608 != 0) = true := bne_iff_ne.mpr c55
             by_cases c67 : t608 = 10
             ·rw [if_pos c67] at H
              have c67b0 : (t608 == 10) = true := beq_iff_eq.mpr c67
              have c67b1 : (t608 != 10) = false := bne_eq_false_iff_eq.mpr c67
              clear c67
              by_cases c68 : t607 = 0
              ·rw [if_pos c68] at H
               have c68b0 : (t607 == 0) = true := beq_iff_eq.mpr c68
               have c68b1 : (t607 != 0) = false := bne_eq_false_iff_eq.mpr c68
               clear c68
               replace H := Option.bind_eq_some_iff.mp H
               obtain ⟨t631, A690, H⟩ := H
               replace H : ((money_Greatest.f a0 a1).bind fun t632 => (some ((wrap64 (t631 + t632)) == (wrap64 (a0 + a1))))) = some r := H
               have A69 := Aside0.mk A690
               clear A690
               replace H := Option.bind_eq_some_iff.mp H
               obtain ⟨t632, A700, H⟩ := H
               replace H : (some ((wrap64 (t631 + t632)) == (wrap64 (a0 + a1)))) = some r := H
               have A70 := Aside0.mk A700
               clear A700
               obtain rfl := Option.some.inj H
               go_wp2_with (first | (go_at_call 66; (with_reducible refine (money_Least.calls a0 a1 t631 _ A69.out).mono ?_); rintro e w71 ⟨rfl, hb⟩; have n0_ := Aside0.mk (below_step (by repeat (first | (with_reducible first | exact HB.out | apply below_alloc | apply pw_below_drewN | apply below_drew1) | exact HB.out)) hb); clear HB; have HB := n0_; clear n0_; (try clear hb); (try clear hb2); (try clear hk); (try clear hi)) | (go_at_call 67; (with_reducible refine (money_Greatest.calls a0 a1 t632 _ A70.out).mono ?_); rintro e w72 ⟨rfl, hb⟩; have n0_ := Aside0.mk (below_step (by repeat (first | (with_reducible first | exact HB.out | apply below_alloc | apply pw_below_drewN | apply below_drew1) | exact HB.out)) hb); clear HB; have HB := n0_; clear n0_; (try clear hb); (try clear hb2); (try clear hk); (try clear hi)))
               go_ret
               exact ⟨by first | rfl | (simp [errW_none, errW_some] <;> rfl) | (simp [*, errW_none, errW_some] <;> rfl), by repeat (first | (with_reducible first | exact HB.out | apply below_alloc | apply pw_below_drewN | apply below_drew1) | exact HB.out)⟩
              ·rw [if_neg c68] at H
               have c68b0 : (t607 == 0) = false := beq_eq_false_iff_ne.mpr c68
               have c68b1 : (t607 != 0) = true := bne_iff_ne.mpr c68
               obtain rfl := Option.some.inj H
               go_wp2
               go_ret
               exact ⟨by first | rfl | (simp [errW_none, errW_some] <;> rfl) | (simp [*, errW_none, errW_some] <;> rfl), by repeat (first | (with_reducible first | exact HB.out | apply below_alloc | apply pw_below_drewN | apply below_drew1) | exact HB.out)⟩
             ·rw [if_neg c67] at H
              have c67b0 : (t608 == 10) = false := beq_eq_false_iff_ne.mpr c67
              have c67b1 : (t608 != 10) = true := bne_iff_ne.mpr c67
              obtain rfl := Option.some.inj H
              go_wp2
              go_ret
              exact ⟨by first | rfl | (simp [errW_none, errW_some] <;> rfl) | (simp [*, errW_none, errW_some] <;> rfl), by repeat (first | (with_reducible first | exact HB.out | apply below_alloc | apply pw_below_drewN | apply below_drew1) | exact HB.out)⟩
           ·rw [if_neg c54] at H
            have c54b0 : (t605 == 0) = false := beq_eq_false_iff_ne.mpr c54
            have c54b1 : (t605 != 0) = true := bne_iff_ne.mpr c54
            obtain rfl := Option.some.inj H
            go_wp2
            go_ret
            exact ⟨by first | rfl | (simp [errW_none, errW_some] <;> rfl) | (simp [*, errW_none, errW_some] <;> rfl), by repeat (first | (with_reducible first | exact HB.out | apply below_alloc | apply pw_below_drewN | apply below_drew1) | exact HB.out)⟩
          ·rw [if_neg c53] at H
           have c53b0 : (t606 == 10) = false := beq_eq_false_iff_ne.mpr c53
           have c53b1 : (t606 != 10) = true := bne_iff_ne.mpr c53
           obtain rfl := Option.some.inj H
           go_wp2
           go_ret
           exact ⟨by first | rfl | (simp [errW_none, errW_some] <;> rfl) | (simp [*, errW_none, errW_some] <;> rfl), by repeat (first | (with_reducible first | exact HB.out | apply below_alloc | apply pw_below_drewN | apply below_drew1) | exact HB.out)⟩
        ·rw [if_neg c33] at H
         have c33b0 : (t606 == 0) = false := beq_eq_false_iff_ne.mpr c33
         have c33b1 : (t606 != 0) = true := bne_iff_ne.mpr c33
         by_cases c73 : t606 = 10
         ·rw [if_pos c73] at H
          have c73b0 : (t606 == 10) = true := beq_iff_eq.mpr c73
          have c73b1 : (t606 != 10) = false := bne_eq_false_iff_eq.mpr c73
          clear c73
          by_cases c74 : t605 = 0
          ·rw [if_pos c74] at H
           have c74b0 : (t605 == 0) = true := beq_iff_eq.mpr c74
           have c74b1 : (t605 != 0) = false := bne_eq_false_iff_eq.mpr c74
           clear c74
           by_cases c75 : t608 = 0
           ·rw [if_pos c75] at H
            have c75b0 : (t608 == 0) = true := beq_iff_eq.mpr c75
            have c75b1 : (t608 != 0) = false := bne_eq_false_iff_eq.mpr c75
            clear c75
            by_cases c76 : t607 = (wrap64 (a0 - a1))
            ·rw [if_pos c76] at H
             have c76b0 : (t607 == (wrap64 (a0 - a1))) = true := beq_iff_eq.mpr c76
             have c76b1 : (t607 != (wrap64 (a0 - a1))) = false := bne_eq_false_iff_eq.mpr c76
             clear c76
             replace H := Option.bind_eq_some_iff.mp H
             obtain ⟨t633, A770, H⟩ := H
             replace H : ((money_Greatest.f a0 a1).bind fun t634 => (some ((wrap64 (t633 + t634)) == (wrap64 (a0 + a1))))) = some r := H
             have A77 := Aside0.mk A770
             clear A770
             replace H := Option.bind_eq_some_iff.mp H
             obtain ⟨t634, A780, H⟩ := H
             replace H : (some ((wrap64 (t633 + t634)) == (wrap64 (a0 + a1)))) = some r := H
             have A78 := Aside0.mk A780
             clear A780
             obtain rfl := Option.some.inj H
             go_wp2_with (first | (go_at_call 66; (with_reducible refine (money_Least.calls a0 a1 t633 _ A77.out).mono ?_); rintro e w79 ⟨rfl, hb⟩; have n0_ := Aside0.mk (below_step (by repeat (first | (with_reducible first | exact HB.out | apply below_alloc | apply pw_below_drewN | apply below_drew1) | exact HB.out)) hb); clear HB; have HB := n0_; clear n0_; (try clear hb); (try clear hb2); (try clear hk); (try clear hi)) | (go_at_call 67; (with_reducible refine (money_Greatest.calls a0 a1 t634 _ A78.out).mono ?_); rintro e w80 ⟨rfl, hb⟩; have n0_ := Aside0.mk (below_step (by repeat (first | (with_reducible first | exact HB.out | apply below_alloc | apply pw_below_drewN | apply below_drew1) | exact HB.out)) hb); clear HB; have HB := n0_; clear n0_; (try clear hb); (try clear hb2); (try clear hk); (try clear hi)))
             go_ret
             exact ⟨by first | rfl | (simp [errW_none, errW_some] <;> rfl) | (simp [*, errW_none, errW_some] <;> rfl), by repeat (first | (with_reducible first | exact HB.out | apply below_alloc | apply pw_below_drewN | apply below_drew1) | exact HB.out)⟩
            ·rw [if_neg c76] at H
             have c76b0 : (t607 == (wrap64 (a0 - a1))) = false := beq_eq_false_iff_ne.mpr c76
             have c76b1 : (t607 != (wrap64 (a0 - a1))) = true := bne_iff_ne.mpr c76
             by_cases c81 : t608 = 10
             ·rw [if_pos c81] at H
              have c81b0 : (t608 == 10) = true := beq_iff_eq.mpr c81
              have c81b1 : (t608 != 10) = false := bne_eq_false_iff_eq.mpr c81
              clear c81
              by_cases c82 : t607 = 0
              ·rw [if_pos c82] at H
               have c82b0 : (t607 == 0) = true := beq_iff_eq.mpr c82
               have c82b1 : (t607 != 0) = false := bne_eq_false_iff_eq.mpr c82
               clear c82
               replace H := Option.bind_eq_some_iff.mp H
               obtain ⟨t635, A830, H⟩ := H
               replace H : ((money_Greatest.f a0 a1).bind fun t636 => (some ((wrap64 (t635 + t636)) == (wrap64 (a0 + a1))))) = some r := H
               have A83 := Aside0.mk A830
               clear A830
               replace H := Option.bind_eq_some_iff.mp H
               obtain ⟨t636, A840, H⟩ := H
               replace H : (some ((wrap64 (t635 + t636)) == (wrap64 (a0 + a1)))) = some r := H
               have A84 := Aside0.mk A840
               clear A840
               obtain rfl := Option.some.inj H
               go_wp2_with (first | (go_at_call 66; (with_reducible refine (money_Least.calls a0 a1 t635 _ A83.out).mono ?_); rintro e w85 ⟨rfl, hb⟩; have n0_ := Aside0.mk (below_step (by repeat (first | (with_reducible first | exact HB.out | apply below_alloc | apply pw_below_drewN | apply below_drew1) | exact HB.out)) hb); clear HB; have HB := n0_; clear n0_; (try clear hb); (try clear hb2); (try clear hk); (try clear hi)) | (go_at_call 67; (with_reducible refine (money_Greatest.calls a0 a1 t636 _ A84.out).mono ?_); rintro e w86 ⟨rfl, hb⟩; have n0_ := Aside0.mk (below_step (by repeat (first | (with_reducible first | exact HB.out | apply below_alloc | apply pw_below_drewN | apply below_drew1) | exact HB.out)) hb); clear HB; have HB := n0_; clear n0_; (try clear hb); (try clear hb2); (try clear hk); (try clear hi)))
               go_ret
               exact ⟨by first | rfl | (simp [errW_none, errW_some] <;> rfl) | (simp [*, errW_none, errW_some] <;> rfl), by repeat (first | (with_reducible first | exact HB.out | apply below_alloc | apply pw_below_drewN | apply below_drew1) | exact HB.out)⟩
              ·rw [if_neg c82] at H
               have c82b0 : (t607 == 0) = false := beq_eq_false_iff_ne.mpr c82
               have c82b1 : (t607 != 0) = true := bne_iff_ne.mpr c82
               obtain rfl := Option.some.inj H
               go_wp2
               go_ret
               exact ⟨by first | rfl | (simp [errW_none, errW_some] <;> rfl) | (simp [*, errW_none, errW_some] <;> rfl), by repeat (first | (with_reducible first | exact HB.out | apply below_alloc | apply pw_below_drewN | apply below_drew1) | exact HB.out)⟩
             ·rw [if_neg c81] at H
              have c81b0 : (t608 == 10) = false := beq_eq_false_iff_ne.mpr c81
              have c81b1 : (t608 != 10) = true := bne_iff_ne.mpr c81
              obtain rfl := Option.some.inj H
              go_wp2
              go_ret
              exact ⟨by first | rfl | (simp [errW_none, errW_some] <;> rfl) | (simp [*, errW_none, errW_some] <;> rfl), by repeat (first | (with_reducible first | exact HB.out | apply below_alloc | apply pw_below_drewN | apply below_drew1) | exact HB.out)⟩
           ·rw [if_neg c75] at H
            have c75b0 : (t608 == 0) = false := beq_eq_false_iff_ne.mpr c75
            have c75b1 : (t608 != 0) = true := bne_iff_ne.mpr c75
            by_cases c87 : t608 = 10
            ·rw [if_pos c87] at H
             have c87b0 : (t608 == 10) = true := beq_iff_eq.mpr c87
             have c87b1 : (t608 != 10) = false := bne_eq_false_iff_eq.mpr c87
             clear c87
             by_cases c88 : t607 = 0
             ·rw [if_pos c88] at H
              have c88b0 : (t607 == 0) = true := beq_iff_eq.mpr c88
              have c88b1 : (t607 != 0) = false := bne_eq_false_iff_eq.mpr c88
              clear c88
              replace H := Option.bind_eq_some_iff.mp H
              obtain ⟨t637, A890, H⟩ := H
              replace H : ((money_Greatest.f a0 a1).bind fun t638 => (some ((wrap64 (t637 + t638)) == (wrap64 (a0 + a1))))) = some r := H
              have A89 := Aside0.mk A890
              clear A890
              replace H := Option.bind_eq_some_iff.mp H
              obtain ⟨t638, A900, H⟩ := H
              replace H : (some ((wrap64 (t637 + t638)) == (wrap64 (a0 + a1)))) = some r := H
              have A90 := Aside0.mk A900
              clear A900
              obtain rfl := Option.some.inj H
              go_wp2_with (first | (go_at_call 66; (with_reducible refine (money_Least.calls a0 a1 t637 _ A89.out).mono ?_); rintro e w91 ⟨rfl, hb⟩; have n0_ := Aside0.mk (below_step (by repeat (first | (with_reducible first | exact HB.out | apply below_alloc | apply pw_below_drewN | apply below_drew1) | exact HB.out)) hb); clear HB; have HB := n0_; clear n0_; (try clear hb); (try clear hb2); (try clear hk); (try clear hi)) | (go_at_call 67; (with_reducible refine (money_Greatest.calls a0 a1 t638 _ A90.out).mono ?_); rintro e w92 ⟨rfl, hb⟩; have n0_ := Aside0.mk (below_step (by repeat (first | (with_reducible first | exact HB.out | apply below_alloc | apply pw_below_drewN | apply below_drew1) | exact HB.out)) hb); clear HB; have HB := n0_; clear n0_; (try clear hb); (try clear hb2); (try clear hk); (try clear hi)))
              go_ret
              exact ⟨by first | rfl | (simp [errW_none, errW_some] <;> rfl) | (simp [*, errW_none, errW_some] <;> rfl), by repeat (first | (with_reducible first | exact HB.out | apply below_alloc | apply pw_below_drewN | apply below_drew1) | exact HB.out)⟩
             ·rw [if_neg c88] at H
              have c88b0 : (t607 == 0) = false := beq_eq_false_iff_ne.mpr c88
              have c88b1 : (t607 != 0) = true := bne_iff_ne.mpr c88
              obtain rfl := Option.some.inj H
              go_wp2
              go_ret
              exact ⟨by first | rfl | (simp [errW_none, errW_some] <;> rfl) | (simp [*, errW_none, errW_some] <;> rfl), by repeat (first | (with_reducible first | exact HB.out | apply below_alloc | apply pw_below_drewN | apply below_drew1) | exact HB.out)⟩
            ·rw [if_neg c87] at H
             have c87b0 : (t608 == 10) = false := beq_eq_false_iff_ne.mpr c87
             have c87b1 : (t608 != 10) = true := bne_iff_ne.mpr c87
             obtain rfl := Option.some.inj H
             go_wp2
             go_ret
             exact ⟨by first | rfl | (simp [errW_none, errW_some] <;> rfl) | (simp [*, errW_none, errW_some] <;> rfl), by repeat (first | (with_reducible first | exact HB.out | apply below_alloc | apply pw_below_drewN | apply below_drew1) | exact HB.out)⟩
          ·rw [if_neg c74] at H
           have c74b0 : (t605 == 0) = false := beq_eq_false_iff_ne.mpr c74
           have c74b1 : (t605 != 0) = true := bne_iff_ne.mpr c74
           obtain rfl := Option.some.inj H
           go_wp2
           go_ret
           exact ⟨by first | rfl | (simp [errW_none, errW_some] <;> rfl) | (simp [*, errW_none, errW_some] <;> rfl), by repeat (first | (with_reducible first | exact HB.out | apply below_alloc | apply pw_below_drewN | apply below_drew1) | exact HB.out)⟩
         ·rw [if_neg c73] at H
          have c73b0 : (t606 == 10) = false := beq_eq_false_iff_ne.mpr c73
          have c73b1 : (t606 != 10) = true := bne_iff_ne.mpr c73
          obtain rfl := Option.some.inj H
          go_wp2
          go_ret
          exact ⟨by first | rfl | (simp [errW_none, errW_some] <;> rfl) | (simp [*, errW_none, errW_some] <;> rfl), by repeat (first | (with_reducible first | exact HB.out | apply below_alloc | apply pw_below_drewN | apply below_drew1) | exact HB.out)⟩
 ·replace c4 := Bool.eq_false_iff.mpr c4
  subst c4
  have H1 : (some false) = some r := by rw [if_neg (show ¬ (false = true) by decide)] at H; exact H
  clear H
  have H := H1
  clear H1
  obtain rfl := Option.some.inj H
  go_enter Tryd.func17, Tryd.ntmps17
  go_wp2_with (first | ((with_reducible refine gate_callee (f := 57) rfl ?_); refine goesL_ (some 11) rfl rfl Tryd.func57 (by kernel_rfl) rfl #[] rfl (by (try simp only [List.map_toArray, List.map_cons, List.map_nil]); first | done | rfl | (simp only [List.length_drop, List.length_take]; rfl)) ?_; (with_reducible refine (stipendlaw01_counts.calls k  false _ A3.out).mono ?_); rintro e w93 ⟨rfl, hb⟩; refine ⟨_, rfl, ?_⟩; have n0_ := Aside0.mk (below_step (by repeat (first | (with_reducible first | exact HB.out | apply below_alloc | apply pw_below_drewN | apply below_drew1) | exact HB.out)) hb); clear HB; have HB := n0_; clear n0_; (try clear hb); (try clear hb2); (try clear hk); (try clear hi)))
  go_ret
  exact ⟨by first | rfl | (simp [errW_none, errW_some] <;> rfl) | (simp [*, errW_none, errW_some] <;> rfl), by repeat (first | (with_reducible first | exact HB.out | apply below_alloc | apply pw_below_drewN | apply below_drew1) | exact HB.out)⟩

end Go.Proofs.YtmocphafkimdpaaDoor.P
