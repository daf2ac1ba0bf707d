/- A part of the proof of MoneySpreads's card: 'MoneySpreads' answers true for every input (the conditions: those of the given statement alone). Merged by a program (wip/merge.py) out of: Pf16. -/
import Derived.Test.YtmocphafkimdpaaDoorBMoneya
import Derived.Test.YtmocphafkimdpaaDoorMMoneySpreadsc
import Derived.Test.YtmocphafkimdpaaDoorBMoneye
import Derived.Test.YtmocphafkimdpaaDoorBMoneyi
import Derived.Test.YtmocphafkimdpaaDoorBMoneyj
import Derived.Test.YtmocphafkimdpaaDoorMMoneySpreadsb

-- written by a program (a patched copy of the kit's print: wip/mkprint.py, wip/mk16.py, wip/fix16.py); Lean checks it
namespace Go.Proofs.YtmocphafkimdpaaDoor.P
open Go.RowKit Go.Proofs.YtmocphafkimdpaaDoorW.PrintWords Go.Proofs.YtmocphafkimdpaaDoorW.PrintLast Go.Proofs.YtmocphafkimdpaaDoorW.PrintMore
attribute [local go_sem] max2_int min2_int max_two min_two max_three min_three max_four min_four   -- for this text's walks alone
set_option linter.unusedVariables false
set_option linter.unusedSimpArgs false

/-! ### stipendlaw01_MoneySpreads: function 16 -/
mutual
def stipendlaw01_MoneySpreads.j0 : Nat → Int → List Int → List Int → Int → Bool → Option (Bool)
 | 0, _, _, _, _, _ => none
 | k + 1, x0, x1, x5, x6, x44 => if x44 = true then (if x6 = 2 then (some ((x5.length : Int) == 0)) else (some false)) else (stipendlaw01_MoneySpreads.l0 k x0 x1 x5 x6 0 x1 (x1.length : Int) 0)
def stipendlaw01_MoneySpreads.l0 : Nat → Int → List Int → List Int → Int → Int → List Int → Int → Int → Option (Bool)
 | 0, _, _, _, _, _, _, _, _ => none
 | k + 1, x0, x1, x5, x6, x7, x52, x53, x54 => if x54 < x53 then (if 0 ≤ x54 then (if x54 < (x52.length : Int) then (if (rd x52 x54) < 0 then (if x6 = 1 then (some ((x5.length : Int) == 0)) else (some false)) else (if (rd x52 x54) > 1048576 then (if x6 = 1 then (some ((x5.length : Int) == 0)) else (some false)) else (stipendlaw01_MoneySpreads.l0 k x0 x1 x5 x6 (wrap64 (x7 + (rd x52 x54))) x52 x53 (wrap64 (x54 + 1))))) else (none)) else (none)) else (if x7 = 0 then (if x6 = 1 then (some ((x5.length : Int) == 0)) else (some false)) else (if x6 = 0 then (stipendlaw01_MoneySpreads.j2 k x0 x1 x5 x7 ((x5.length : Int) != (x1.length : Int))) else (stipendlaw01_MoneySpreads.j2 k x0 x1 x5 x7 true)))
def stipendlaw01_MoneySpreads.j2 : Nat → Int → List Int → List Int → Int → Bool → Option (Bool)
 | 0, _, _, _, _, _ => none
 | k + 1, x0, x1, x5, x7, x92 => if x92 = true then (some false) else (stipendlaw01_MoneySpreads.l1 k x0 x1 x5 x7 0 x5 (x5.length : Int) 0)
def stipendlaw01_MoneySpreads.l1 : Nat → Int → List Int → List Int → Int → Int → List Int → Int → Int → Option (Bool)
 | 0, _, _, _, _, _, _, _, _ => none
 | k + 1, x0, x1, x5, x7, x10, x93, x94, x95 => if x95 < x94 then (if 0 ≤ x95 then (if x95 < (x93.length : Int) then (if x95 < (x1.length : Int) then ((math_Abs.f x0 (rd x1 x95) x7 (rd x93 x95)).bind fun t599 => (if t599 = true then (some false) else (stipendlaw01_MoneySpreads.l1 k x0 x1 x5 x7 (wrap64 (x10 + (rd x93 x95))) x93 x94 (wrap64 (x95 + 1))))) else (none)) else (none)) else (none)) else (if x10 = x0 then (if x0 > 1000000 then (stipendlaw01_MoneySpreads.j4 k x0 x1 x5 true) else (stipendlaw01_MoneySpreads.j4 k x0 x1 x5 (decide (x0 < (-1000000))))) else (some false))
def stipendlaw01_MoneySpreads.j4 : Nat → Int → List Int → List Int → Bool → Option (Bool)
 | 0, _, _, _, _ => none
 | k + 1, x0, x1, x5, x129 => if x129 = true then (some true) else ((stipendref01_Spread.f k x0 x1).bind fun t600 => (stipendlaw01_MoneySpreads.l2 k x5 t600 (t600.length : Int) 0))
def stipendlaw01_MoneySpreads.l2 : Nat → List Int → List Int → Int → Int → Option (Bool)
 | 0, _, _, _, _ => none
 | k + 1, x5, x132, x133, x134 => if x134 < x133 then (if 0 ≤ x134 then (if x134 < (x132.length : Int) then (if x134 < (x5.length : Int) then (if (rd x132 x134) = (rd x5 x134) then (stipendlaw01_MoneySpreads.l2 k x5 x132 x133 (wrap64 (x134 + 1))) else (some false)) else (none)) else (none)) else (none)) else (some true)
end
def stipendlaw01_MoneySpreads.f (k : Nat) (a0 : Int) (l1 : List Int) : Option (Bool) := (stipendlaw01_counts.f k).bind fun t590 => (if t590 = true then (if (l1.length : Int) > 100 then (some true) else ((money_Spread.f k a0 l1).bind fun bt591 => ((stipendref01_Right.f a0).bind fun t595 => (if t595 = true then (if (l1.length : Int) = 0 then (stipendlaw01_MoneySpreads.j0 k a0 l1 bt591.1 bt591.2 true) else (stipendlaw01_MoneySpreads.j0 k a0 l1 bt591.1 bt591.2 (decide ((l1.length : Int) > 64)))) else (if bt591.2 = 10 then (some ((bt591.1.length : Int) == 0)) else (some false)))))) else (some false))
theorem stipendlaw01_MoneySpreads.mono_l : ∀ k, (∀ y0 y1 y2 y3 y4, LeO (stipendlaw01_MoneySpreads.j0 k y0 y1 y2 y3 y4) (stipendlaw01_MoneySpreads.j0 (k + 1) y0 y1 y2 y3 y4)) ∧ (∀ y0 y1 y2 y3 y4 y5 y6 y7, LeO (stipendlaw01_MoneySpreads.l0 k y0 y1 y2 y3 y4 y5 y6 y7) (stipendlaw01_MoneySpreads.l0 (k + 1) y0 y1 y2 y3 y4 y5 y6 y7)) ∧ (∀ y0 y1 y2 y3 y4, LeO (stipendlaw01_MoneySpreads.j2 k y0 y1 y2 y3 y4) (stipendlaw01_MoneySpreads.j2 (k + 1) y0 y1 y2 y3 y4)) ∧ (∀ y0 y1 y2 y3 y4 y5 y6 y7, LeO (stipendlaw01_MoneySpreads.l1 k y0 y1 y2 y3 y4 y5 y6 y7) (stipendlaw01_MoneySpreads.l1 (k + 1) y0 y1 y2 y3 y4 y5 y6 y7)) ∧ (∀ y0 y1 y2 y3, LeO (stipendlaw01_MoneySpreads.j4 k y0 y1 y2 y3) (stipendlaw01_MoneySpreads.j4 (k + 1) y0 y1 y2 y3)) ∧ (∀ y0 y1 y2 y3, LeO (stipendlaw01_MoneySpreads.l2 k y0 y1 y2 y3) (stipendlaw01_MoneySpreads.l2 (k + 1) y0 y1 y2 y3))
 | 0 => ⟨fun _ _ _ _ _ r h => by simp [stipendlaw01_MoneySpreads.j0] at h, fun _ _ _ _ _ _ _ _ r h => by simp [stipendlaw01_MoneySpreads.l0] at h, fun _ _ _ _ _ r h => by simp [stipendlaw01_MoneySpreads.j2] at h, fun _ _ _ _ _ _ _ _ r h => by simp [stipendlaw01_MoneySpreads.l1] at h, fun _ _ _ _ r h => by simp [stipendlaw01_MoneySpreads.j4] at h, fun _ _ _ _ r h => by simp [stipendlaw01_MoneySpreads.l2] at h⟩
 | k + 1 => by
  obtain ⟨ih0, ih1, ih2, ih3, ih4, ih5⟩ := stipendlaw01_MoneySpreads.mono_l k
  refine ⟨?_, ?_, ?_, ?_, ?_, ?_⟩
  ·intro y0 y1 y2 y3 y4
   unfold stipendlaw01_MoneySpreads.j0
   repeat' first
   | (with_reducible exact ih0 _ _ _ _ _)
   | (with_reducible exact ih1 _ _ _ _ _ _ _ _)
   | (with_reducible exact ih2 _ _ _ _ _)
   | (with_reducible exact ih3 _ _ _ _ _ _ _ _)
   | (with_reducible exact ih4 _ _ _ _)
   | (with_reducible exact ih5 _ _ _ _)
   | (with_reducible exact money_Spread.mono _ _ _)
   | (with_reducible exact stipendlaw01_counts.mono _)
   | (with_reducible exact stipendref01_Spread.mono _ _ _)
   | (with_reducible exact LeO.refl _)
   | (with_reducible exact LeO.none _)
   | (with_reducible refine LeO.ite ?_ ?_)
   | (with_reducible refine LeO.bind ?_ (fun _ => ?_))
   | exact ih0 _ _ _ _ _
   | exact ih1 _ _ _ _ _ _ _ _
   | exact ih2 _ _ _ _ _
   | exact ih3 _ _ _ _ _ _ _ _
   | exact ih4 _ _ _ _
   | exact ih5 _ _ _ _
   | exact money_Spread.mono _ _ _
   | exact stipendlaw01_counts.mono _
   | exact stipendref01_Spread.mono _ _ _
   | exact LeO.none _
   | refine LeO.ite ?_ ?_
   | refine LeO.bind ?_ (fun _ => ?_)
  ·intro y0 y1 y2 y3 y4 y5 y6 y7
   unfold stipendlaw01_MoneySpreads.l0
   repeat' first
   | (with_reducible exact ih0 _ _ _ _ _)
   | (with_reducible exact ih1 _ _ _ _ _ _ _ _)
   | (with_reducible exact ih2 _ _ _ _ _)
   | (with_reducible exact ih3 _ _ _ _ _ _ _ _)
   | (with_reducible exact ih4 _ _ _ _)
   | (with_reducible exact ih5 _ _ _ _)
   | (with_reducible exact money_Spread.mono _ _ _)
   | (with_reducible exact stipendlaw01_counts.mono _)
   | (with_reducible exact stipendref01_Spread.mono _ _ _)
   | (with_reducible exact LeO.refl _)
   | (with_reducible exact LeO.none _)
   | (with_reducible refine LeO.ite ?_ ?_)
   | (with_reducible refine LeO.bind ?_ (fun _ => ?_))
   | exact ih0 _ _ _ _ _
   | exact ih1 _ _ _ _ _ _ _ _
   | exact ih2 _ _ _ _ _
   | exact ih3 _ _ _ _ _ _ _ _
   | exact ih4 _ _ _ _
   | exact ih5 _ _ _ _
   | exact money_Spread.mono _ _ _
   | exact stipendlaw01_counts.mono _
   | exact stipendref01_Spread.mono _ _ _
   | exact LeO.none _
   | refine LeO.ite ?_ ?_
   | refine LeO.bind ?_ (fun _ => ?_)
  ·intro y0 y1 y2 y3 y4
   unfold stipendlaw01_MoneySpreads.j2
   repeat' first
   | (with_reducible exact ih0 _ _ _ _ _)
   | (with_reducible exact ih1 _ _ _ _ _ _ _ _)
   | (with_reducible exact ih2 _ _ _ _ _)
   | (with_reducible exact ih3 _ _ _ _ _ _ _ _)
   | (with_reducible exact ih4 _ _ _ _)
   | (with_reducible exact ih5 _ _ _ _)
   | (with_reducible exact money_Spread.mono _ _ _)
   | (with_reducible exact stipendlaw01_counts.mono _)
   | (with_reducible exact stipendref01_Spread.mono _ _ _)
   | (with_reducible exact LeO.refl _)
   | (with_reducible exact LeO.none _)
   | (with_reducible refine LeO.ite ?_ ?_)
   | (with_reducible refine LeO.bind ?_ (fun _ => ?_))
   | exact ih0 _ _ _ _ _
   | exact ih1 _ _ _ _ _ _ _ _
   | exact ih2 _ _ _ _ _
   | exact ih3 _ _ _ _ _ _ _ _
   | exact ih4 _ _ _ _
   | exact ih5 _ _ _ _
   | exact money_Spread.mono _ _ _
   | exact stipendlaw01_counts.mono _
   | exact stipendref01_Spread.mono _ _ _
   | exact LeO.none _
   | refine LeO.ite ?_ ?_
   | refine LeO.bind ?_ (fun _ => ?_)
  ·intro y0 y1 y2 y3 y4 y5 y6 y7
   unfold stipendlaw01_MoneySpreads.l1
   repeat' first
   | (with_reducible exact ih0 _ _ _ _ _)
   | (with_reducible exact ih1 _ _ _ _ _ _ _ _)
   | (with_reducible exact ih2 _ _ _ _ _)
   | (with_reducible exact ih3 _ _ _ _ _ _ _ _)
   | (with_reducible exact ih4 _ _ _ _)
   | (with_reducible exact ih5 _ _ _ _)
   | (with_reducible exact money_Spread.mono _ _ _)
   | (with_reducible exact stipendlaw01_counts.mono _)
   | (with_reducible exact stipendref01_Spread.mono _ _ _)
   | (with_reducible exact LeO.refl _)
   | (with_reducible exact LeO.none _)
   | (with_reducible refine LeO.ite ?_ ?_)
   | (with_reducible refine LeO.bind ?_ (fun _ => ?_))
   | exact ih0 _ _ _ _ _
   | exact ih1 _ _ _ _ _ _ _ _
   | exact ih2 _ _ _ _ _
   | exact ih3 _ _ _ _ _ _ _ _
   | exact ih4 _ _ _ _
   | exact ih5 _ _ _ _
   | exact money_Spread.mono _ _ _
   | exact stipendlaw01_counts.mono _
   | exact stipendref01_Spread.mono _ _ _
   | exact LeO.none _
   | refine LeO.ite ?_ ?_
   | refine LeO.bind ?_ (fun _ => ?_)
  ·intro y0 y1 y2 y3
   unfold stipendlaw01_MoneySpreads.j4
   repeat' first
   | (with_reducible exact ih0 _ _ _ _ _)
   | (with_reducible exact ih1 _ _ _ _ _ _ _ _)
   | (with_reducible exact ih2 _ _ _ _ _)
   | (with_reducible exact ih3 _ _ _ _ _ _ _ _)
   | (with_reducible exact ih4 _ _ _ _)
   | (with_reducible exact ih5 _ _ _ _)
   | (with_reducible exact money_Spread.mono _ _ _)
   | (with_reducible exact stipendlaw01_counts.mono _)
   | (with_reducible exact stipendref01_Spread.mono _ _ _)
   | (with_reducible exact LeO.refl _)
   | (with_reducible exact LeO.none _)
   | (with_reducible refine LeO.ite ?_ ?_)
   | (with_reducible refine LeO.bind ?_ (fun _ => ?_))
   | exact ih0 _ _ _ _ _
   | exact ih1 _ _ _ _ _ _ _ _
   | exact ih2 _ _ _ _ _
   | exact ih3 _ _ _ _ _ _ _ _
   | exact ih4 _ _ _ _
   | exact ih5 _ _ _ _
   | exact money_Spread.mono _ _ _
   | exact stipendlaw01_counts.mono _
   | exact stipendref01_Spread.mono _ _ _
   | exact LeO.none _
   | refine LeO.ite ?_ ?_
   | refine LeO.bind ?_ (fun _ => ?_)
  ·intro y0 y1 y2 y3
   unfold stipendlaw01_MoneySpreads.l2
   repeat' first
   | (with_reducible exact ih0 _ _ _ _ _)
   | (with_reducible exact ih1 _ _ _ _ _ _ _ _)
   | (with_reducible exact ih2 _ _ _ _ _)
   | (with_reducible exact ih3 _ _ _ _ _ _ _ _)
   | (with_reducible exact ih4 _ _ _ _)
   | (with_reducible exact ih5 _ _ _ _)
   | (with_reducible exact money_Spread.mono _ _ _)
   | (with_reducible exact stipendlaw01_counts.mono _)
   | (with_reducible exact stipendref01_Spread.mono _ _ _)
   | (with_reducible exact LeO.refl _)
   | (with_reducible exact LeO.none _)
   | (with_reducible refine LeO.ite ?_ ?_)
   | (with_reducible refine LeO.bind ?_ (fun _ => ?_))
   | exact ih0 _ _ _ _ _
   | exact ih1 _ _ _ _ _ _ _ _
   | exact ih2 _ _ _ _ _
   | exact ih3 _ _ _ _ _ _ _ _
   | exact ih4 _ _ _ _
   | exact ih5 _ _ _ _
   | exact money_Spread.mono _ _ _
   | exact stipendlaw01_counts.mono _
   | exact stipendref01_Spread.mono _ _ _
   | exact LeO.none _
   | refine LeO.ite ?_ ?_
   | refine LeO.bind ?_ (fun _ => ?_)
theorem stipendlaw01_MoneySpreads.mono : ∀ a0 a1 k, LeO (stipendlaw01_MoneySpreads.f k a0 a1) (stipendlaw01_MoneySpreads.f (k + 1) a0 a1) := by
 intro a0 a1 k
 obtain ⟨ih0, ih1, ih2, ih3, ih4, ih5⟩ := stipendlaw01_MoneySpreads.mono_l k
 unfold stipendlaw01_MoneySpreads.f
 repeat' first
   | (with_reducible exact ih0 _ _ _ _ _)
   | (with_reducible exact ih1 _ _ _ _ _ _ _ _)
   | (with_reducible exact ih2 _ _ _ _ _)
   | (with_reducible exact ih3 _ _ _ _ _ _ _ _)
   | (with_reducible exact ih4 _ _ _ _)
   | (with_reducible exact ih5 _ _ _ _)
   | (with_reducible exact money_Spread.mono _ _ _)
   | (with_reducible exact stipendlaw01_counts.mono _)
   | (with_reducible exact stipendref01_Spread.mono _ _ _)
   | (with_reducible exact LeO.refl _)
   | (with_reducible exact LeO.none _)
   | (with_reducible refine LeO.ite ?_ ?_)
   | (with_reducible refine LeO.bind ?_ (fun _ => ?_))
   | exact ih0 _ _ _ _ _
   | exact ih1 _ _ _ _ _ _ _ _
   | exact ih2 _ _ _ _ _
   | exact ih3 _ _ _ _ _ _ _ _
   | exact ih4 _ _ _ _
   | exact ih5 _ _ _ _
   | exact money_Spread.mono _ _ _
   | exact stipendlaw01_counts.mono _
   | exact stipendref01_Spread.mono _ _ _
   | exact LeO.none _
   | refine LeO.ite ?_ ?_
   | refine LeO.bind ?_ (fun _ => ?_)
set_option maxHeartbeats 8000000 in
set_option maxRecDepth 100000 in
theorem stipendlaw01_MoneySpreads.calls (k : Nat) (a0 : Int) (A1 : Option Addr) (c1 : Nat) (l1 : List Int) (r : Bool) (w : World) (hr1 : Kd.C (Kd.int .i64) w A1 l1.length l1) (hc1 : l1.length ≤ c1) (h : stipendlaw01_MoneySpreads.f k a0 l1 = some r) (hG : GTab w := by first | exact GTab.below HG.out (by repeat (first | (with_reducible first | exact HB.out | apply below_alloc | apply pw_below_drewN | apply below_drew1 | apply below_drew) | exact HB.out)) | exact HG.out) :
  Calls Tryd.prog 16 #[.int .i64 a0, .slice A1 l1.length c1] w fun e w' => e = .returned (.bool r) ∧ Below w.heap.size w w' := by
 have HG := Aside0.mk hG; clear hG
 have HR1 := Aside0.mk hr1
 have HC1 := Aside0.mk hc1
 clear hr1 hc1
 have HB := Aside0.mk (Below.refl w.heap.size w)
 have H : ((stipendlaw01_counts.f k).bind fun t590 => (if t590 = true then (if (l1.length : Int) > 100 then (some true) else ((money_Spread.f k a0 l1).bind fun bt591 => ((stipendref01_Right.f a0).bind fun t595 => (if t595 = true then (if (l1.length : Int) = 0 then (stipendlaw01_MoneySpreads.j0 k a0 l1 bt591.1 bt591.2 true) else (stipendlaw01_MoneySpreads.j0 k a0 l1 bt591.1 bt591.2 (decide ((l1.length : Int) > 64)))) else (if bt591.2 = 10 then (some ((bt591.1.length : Int) == 0)) else (some false)))))) else (some false))) = some r := h
 clear h
 replace H := Option.bind_eq_some_iff.mp H
 obtain ⟨t590, A30, H⟩ := H
 replace H : (if t590 = true then (if (l1.length : Int) > 100 then (some true) else ((money_Spread.f k a0 l1).bind fun bt591 => ((stipendref01_Right.f a0).bind fun t595 => (if t595 = true then (if (l1.length : Int) = 0 then (stipendlaw01_MoneySpreads.j0 k a0 l1 bt591.1 bt591.2 true) else (stipendlaw01_MoneySpreads.j0 k a0 l1 bt591.1 bt591.2 (decide ((l1.length : Int) > 64)))) else (if bt591.2 = 10 then (some ((bt591.1.length : Int) == 0)) else (some false)))))) else (some false)) = some r := H
 have A3 := Aside0.mk A30
 clear A30
 by_cases c4 : t590 = true
 ·subst c4
  have H1 : (if (l1.length : Int) > 100 then (some true) else ((money_Spread.f k a0 l1).bind fun bt591 => ((stipendref01_Right.f a0).bind fun t595 => (if t595 = true then (if (l1.length : Int) = 0 then (stipendlaw01_MoneySpreads.j0 k a0 l1 bt591.1 bt591.2 true) else (stipendlaw01_MoneySpreads.j0 k a0 l1 bt591.1 bt591.2 (decide ((l1.length : Int) > 64)))) else (if bt591.2 = 10 then (some ((bt591.1.length : Int) == 0)) else (some false)))))) = some r := by rw [if_pos rfl] at H; exact H
  clear H
  have H := H1
  clear H1
  by_cases c5 : (l1.length : Int) > 100
  ·rw [if_pos c5] at H
   have c5b0 : decide (100 < (l1.length : Int)) = true := decide_eq_true c5
   have c5b1 : decide (100 < l1.length) = true := decide_eq_true (by omega)
   clear c5
   obtain rfl := Option.some.inj H
   go_enter Tryd.func16, Tryd.ntmps16
   go_wp2_with (first | ((with_reducible refine gate_callee (f := 57) rfl ?_); refine goesL_ (some 16) rfl rfl Tryd.func57 (by kernel_rfl) rfl #[] rfl (by (try simp only [List.map_toArray, List.map_cons, List.map_nil]); first | done | rfl | (simp only [List.length_drop, List.length_take]; rfl)) ?_; (with_reducible refine (stipendlaw01_counts.calls k  true _ A3.out).mono ?_); rintro e w6 ⟨rfl, hb⟩; refine ⟨_, rfl, ?_⟩; have n0_ := Aside0.mk (below_step (by repeat (first | (with_reducible first | exact HB.out | apply below_alloc | apply pw_below_drewN | apply below_drew1) | exact HB.out)) hb); clear HB; have HB := n0_; clear n0_; (try clear hb); (try clear hb2); (try clear hk); (try clear hi)))
   go_ret
   exact ⟨by first | rfl | (simp [errW_none, errW_some] <;> rfl) | (simp [*, errW_none, errW_some] <;> rfl), by repeat (first | (with_reducible first | exact HB.out | apply below_alloc | apply pw_below_drewN | apply below_drew1) | exact HB.out)⟩
  ·rw [if_neg c5] at H
   have c5b0 : decide (100 < (l1.length : Int)) = false := decide_eq_false c5
   have c5b1 : decide (100 < l1.length) = false := decide_eq_false (by omega)
   clear c5
   replace H := Option.bind_eq_some_iff.mp H
   obtain ⟨⟨t591, t592⟩, A70, H⟩ := H
   replace H : ((stipendref01_Right.f a0).bind fun t595 => (if t595 = true then (if (l1.length : Int) = 0 then (stipendlaw01_MoneySpreads.j0 k a0 l1 t591 t592 true) else (stipendlaw01_MoneySpreads.j0 k a0 l1 t591 t592 (decide ((l1.length : Int) > 64)))) else (if t592 = 10 then (some ((t591.length : Int) == 0)) else (some false)))) = some r := H
   have A7 := Aside0.mk A70
   clear A70
   replace H := Option.bind_eq_some_iff.mp H
   obtain ⟨t595, A80, H⟩ := H
   replace H : (if t595 = true then (if (l1.length : Int) = 0 then (stipendlaw01_MoneySpreads.j0 k a0 l1 t591 t592 true) else (stipendlaw01_MoneySpreads.j0 k a0 l1 t591 t592 (decide ((l1.length : Int) > 64)))) else (if t592 = 10 then (some ((t591.length : Int) == 0)) else (some false))) = some r := H
   have A8 := Aside0.mk A80
   clear A80
   by_cases c9 : t595 = true
   ·subst c9
    have H1 : (if (l1.length : Int) = 0 then (stipendlaw01_MoneySpreads.j0 k a0 l1 t591 t592 true) else (stipendlaw01_MoneySpreads.j0 k a0 l1 t591 t592 (decide ((l1.length : Int) > 64)))) = some r := by rw [if_pos rfl] at H; exact H
    clear H
    have H := H1
    clear H1
    have HC10 := Aside0.mk H
    clear H
    go_enter Tryd.func16, Tryd.ntmps16
    go_upto_region 8 with (first | ((with_reducible refine gate_callee (f := 57) rfl ?_); refine goesL_ (some 16) rfl rfl Tryd.func57 (by kernel_rfl) rfl #[] rfl (by (try simp only [List.map_toArray, List.map_cons, List.map_nil]); first | done | rfl | (simp only [List.length_drop, List.length_take]; rfl)) ?_; (with_reducible refine (stipendlaw01_counts.calls k  true _ A3.out).mono ?_); rintro e w11 ⟨rfl, hb⟩; refine ⟨_, rfl, ?_⟩; have n0_ := Aside0.mk (below_step (by repeat (first | (with_reducible first | exact HB.out | apply below_alloc | apply pw_below_drewN | apply below_drew1) | exact HB.out)) hb); clear HB; have HB := n0_; clear n0_; (try clear hb); (try clear hb2); (try clear hk); (try clear hi)) | ((with_reducible refine gate_callee (f := 41) rfl ?_); refine goesL_ (some 24) rfl rfl Tryd.func41 (by kernel_rfl) rfl #[.int .i64 a0, .slice A1 l1.length c1] rfl (by (try simp only [List.map_toArray, List.map_cons, List.map_nil]); first | done | rfl | (simp only [List.length_drop, List.length_take]; rfl)) ?_; (with_reducible refine (money_Spread.calls k a0 _ _ l1 t591 t592 _ ?side1 ?side2 A7.out).mono ?_); (case side1 => repeat (first | exact (Kd.C_below HR1.out HB.out) | (with_reducible refine Kd.C_alloc ?_ _) | (with_reducible refine Kd.C_drewN ?_ _) | (with_reducible refine Kd.C_drew ?_))); (case side2 => exact HC1.out); rintro e w12 ⟨v593, rfl, ho0, hb⟩; refine ⟨_, rfl, ?_⟩; have n0_ := Aside0.mk (Kd.R_lower ho0 (below_size (by repeat (first | (with_reducible first | exact HB.out | apply below_alloc | apply pw_below_drewN | apply below_drew1) | exact HB.out)))); have n1_ := Aside0.mk (below_step (by repeat (first | (with_reducible first | exact HB.out | apply below_alloc | apply pw_below_drewN | apply below_drew1) | exact HB.out)) hb); clear HB; have HO594 := n0_; have HB := n1_; clear n0_ n1_; (try clear hb); (try clear hb2); (try clear hk); (try clear hi); (try clear ho0)) | ((with_reducible refine gate_callee (f := 59) rfl ?_); refine goesL_ (some 28) rfl rfl Tryd.func59 (by kernel_rfl) rfl #[.int .i64 a0] rfl (by (try simp only [List.map_toArray, List.map_cons, List.map_nil]); first | done | rfl | (simp only [List.length_drop, List.length_take]; rfl)) ?_; (with_reducible refine (stipendref01_Right.calls a0 true _ A8.out).mono ?_); rintro e w' ⟨rfl, ⟨nd, rfl⟩⟩; refine ⟨_, rfl, ?_⟩))
    (try simp only [Act.put, List.setIfInBounds_toArray, List.set_cons_zero, List.set_cons_succ])
    go_cut [44] (fun v44 wc => ∃ (kq : Nat) (x44_9 : Bool), v44 = .bool x44_9 ∧ Aside0 (stipendlaw01_MoneySpreads.j0 kq a0 l1 t591 t592 x44_9 = some r) ∧ Aside0 (kq ≤ k) ∧ Aside0 (Kd.R (Kd.int .i64) 2 wc w.heap.size (fun _ => True) v593 t591) ∧ Aside0 (Below w.heap.size w wc))
    case first =>
     have H := HC10.out
     clear HC10
     by_cases c13 : (l1.length : Int) = 0
     ·rw [if_pos c13] at H
      have c13b0 : ((l1.length : Int) == 0) = true := beq_iff_eq.mpr c13
      have c13b1 : ((l1.length : Int) != 0) = false := bne_eq_false_iff_eq.mpr c13
      clear c13
      (first | rw [c13b0] | (simp only [i64_w, i32_w]; rw [c13b0]) | skip)
      have H' := Aside0.mk H
      clear H
      go_wp2
      go_meet
      case rel => exact ⟨_, (true), (by first | rfl | (simp; done) | (simp [*]; done)), H', ⟨by first | omega | exact Nat.le_refl _⟩, ⟨by (with_reducible repeat (first | apply Kd.R_alloc | apply Kd.R_drewN | apply Kd.R_drew)); exact HO594.out⟩, ⟨by repeat (first | (with_reducible first | exact HB.out | apply below_alloc | apply pw_below_drewN | apply below_drew1) | exact HB.out)⟩⟩
     ·rw [if_neg c13] at H
      have c13b0 : ((l1.length : Int) == 0) = false := beq_eq_false_iff_ne.mpr c13
      have c13b1 : ((l1.length : Int) != 0) = true := bne_iff_ne.mpr c13
      have c13b2 : ¬ (l1 = []) := fun h_ => c13 (by rw [h_]; rfl)
      (first | rw [c13b0] | (simp only [i64_w, i32_w]; rw [c13b0]) | skip)
      have H' := Aside0.mk H
      clear H
      go_wp2
      go_meet
      case rel => exact ⟨_, (decide ((l1.length : Int) > 64)), (by first | rfl | (simp; done) | (simp [*]; done)), H', ⟨by first | omega | exact Nat.le_refl _⟩, ⟨by (with_reducible repeat (first | apply Kd.R_alloc | apply Kd.R_drewN | apply Kd.R_drew)); exact HO594.out⟩, ⟨by repeat (first | (with_reducible first | exact HB.out | apply below_alloc | apply pw_below_drewN | apply below_drew1) | exact HB.out)⟩⟩
    case rest =>
     clear HC10
     try clear c1
     try clear p2
     try clear c4
     try clear c5
     try clear c5b0
     try clear c5b1
     try clear c9
     try clear c13
     try clear c13b0
     try clear c13b1
     try clear c13b2
     obtain ⟨kq, x44_9, rfl, HA, HJ9, HO_5, HB⟩ := hcut
     cases kq with
     | zero => exact absurd HA.out (by simp [stipendlaw01_MoneySpreads.j0])
     | succ kj9 =>
      have H := HA.out
      clear HA
      simp only [stipendlaw01_MoneySpreads.j0] at H
      by_cases c14 : x44_9 = true
      ·subst c14
       have H1 : (if t592 = 2 then (some ((t591.length : Int) == 0)) else (some false)) = some r := by rw [if_pos rfl] at H; exact H
       clear H
       have H := H1
       clear H1
       by_cases c15 : t592 = 2
       ·rw [if_pos c15] at H
        have c15b0 : (t592 == 2) = true := beq_iff_eq.mpr c15
        have c15b1 : (t592 != 2) = false := bne_eq_false_iff_eq.mpr c15
        clear c15
        obtain rfl := Option.some.inj H
        obtain ⟨Ao16, co16, eo16⟩ := Kd.R_slice HO_5.out
        subst eo16
        go_wp2
        go_ret
        exact ⟨by first | rfl | (simp [errW_none, errW_some] <;> rfl) | (simp [*, errW_none, errW_some] <;> rfl), by repeat (first | (with_reducible first | exact HB.out | apply below_alloc | apply pw_below_drewN | apply below_drew1) | exact HB.out)⟩
       ·rw [if_neg c15] at H
        have c15b0 : (t592 == 2) = false := beq_eq_false_iff_ne.mpr c15
        have c15b1 : (t592 != 2) = true := bne_iff_ne.mpr c15
        obtain rfl := Option.some.inj H
        go_wp2
        go_ret
        exact ⟨by first | rfl | (simp [errW_none, errW_some] <;> rfl) | (simp [*, errW_none, errW_some] <;> rfl), by repeat (first | (with_reducible first | exact HB.out | apply below_alloc | apply pw_below_drewN | apply below_drew1) | exact HB.out)⟩
      ·replace c14 := Bool.eq_false_iff.mpr c14
       subst c14
       have H1 : (stipendlaw01_MoneySpreads.l0 kj9 a0 l1 t591 t592 0 l1 (l1.length : Int) 0) = some r := by rw [if_neg (show ¬ (false = true) by decide)] at H; exact H
       clear H
       have H := H1
       clear H1
       have H' := Aside0.mk H
       clear H
       go_wp2
       go_loopg [7, 54] kj9 (fun kq v7 v54 w' => ∃ (x7_2 : Int) (x54_2 : Int), v7 = .int .i64 x7_2 ∧ v54 = .int .i64 x54_2 ∧ Aside0 (stipendlaw01_MoneySpreads.l0 kq a0 l1 t591 t592 x7_2 l1 (l1.length : Int) x54_2 = some r) ∧ Aside0 (kq ≤ kj9) ∧ Aside0 (Kd.R (Kd.int .i64) 2 w' w.heap.size (fun _ => True) v593 t591) ∧ Aside0 (Below w.heap.size w w'))
       case atStart => exact ⟨(0), (0), (by first | rfl | (simp; done) | (simp [*]; done)), (by first | rfl | (simp; done) | (simp [*]; done)), H', ⟨Nat.le_refl _⟩, ⟨by (with_reducible repeat (first | apply Kd.R_alloc | apply Kd.R_drewN | apply Kd.R_drew)); exact HO_5.out⟩, ⟨by repeat (first | (with_reducible first | exact HB.out | apply below_alloc | apply pw_below_drewN | apply below_drew1) | exact HB.out)⟩⟩
       case round =>
        clear H'
        try clear c1
        try clear p2
        try clear c4
        try clear c5
        try clear c5b0
        try clear c5b1
        try clear c9
        try clear c13
        try clear c13b0
        try clear c13b1
        try clear c13b2
        try clear c14
        try clear c15
        try clear c15b0
        try clear c15b1
        try clear c16
        try clear p2
        obtain ⟨x7_2, x54_2, rfl, rfl, HA, HK2, HO_5, HB⟩ := hrel
        cases gk with
        | zero => exact absurd HA.out (by simp [stipendlaw01_MoneySpreads.l0])
        | succ k2 =>
         have H := HA.out
         clear HA
         simp only [stipendlaw01_MoneySpreads.l0] at H
         by_cases c17 : x54_2 < (l1.length : Int)
         ·rw [if_pos c17] at H
          have c17b0 : decide (x54_2 < (l1.length : Int)) = true := decide_eq_true c17
          clear c17
          by_cases c18 : 0 ≤ x54_2
          ·rw [if_pos c18] at H
           have c18b0 : decide (0 ≤ x54_2) = true := decide_eq_true c18
           clear c18
           by_cases c19 : x54_2 < (l1.length : Int)
           ·rw [if_pos c19] at H
            have c19b0 : decide (x54_2 < (l1.length : Int)) = true := decide_eq_true c19
            clear c19
            by_cases c20 : (rd l1 x54_2) < 0
            ·rw [if_pos c20] at H
             have c20b0 : decide ((rd l1 x54_2) < 0) = true := decide_eq_true c20
             clear c20
             by_cases c21 : t592 = 1
             ·rw [if_pos c21] at H
              have c21b0 : (t592 == 1) = true := beq_iff_eq.mpr c21
              have c21b1 : (t592 != 1) = false := bne_eq_false_iff_eq.mpr c21
              clear c21
              obtain rfl := Option.some.inj H
              have p596 : 0 ≤ (x54_2 : Int) := of_decide_eq_true (by first | (with_reducible assumption) | assumption)
              have q596 : x54_2 < (l1.length : Int) := of_decide_eq_true (by first | (with_reducible assumption) | assumption)
              obtain ⟨ad596, e596, hx596_0⟩ := Kd.at_int HR1.out x54_2 p596 q596
              cases e596
              replace hx596_0 := (HB.out.cell (World.block_lt_of_cell? w _ hx596_0)).trans hx596_0
              replace p596 := eq_true p596
              replace q596 := eq_true q596
              obtain ⟨Ao22, co22, eo22⟩ := Kd.R_slice HO_5.out
              subst eo22
              go_wp2
              go_ret
              exact ⟨by first | rfl | (simp [errW_none, errW_some] <;> rfl) | (simp [*, errW_none, errW_some] <;> rfl), by repeat (first | (with_reducible first | exact HB.out | apply below_alloc | apply pw_below_drewN | apply below_drew1) | exact HB.out)⟩
             ·rw [if_neg c21] at H
              have c21b0 : (t592 == 1) = false := beq_eq_false_iff_ne.mpr c21
              have c21b1 : (t592 != 1) = true := bne_iff_ne.mpr c21
              obtain rfl := Option.some.inj H
              have p596 : 0 ≤ (x54_2 : Int) := of_decide_eq_true (by first | (with_reducible assumption) | assumption)
              have q596 : x54_2 < (l1.length : Int) := of_decide_eq_true (by first | (with_reducible assumption) | assumption)
              obtain ⟨ad596, e596, hx596_0⟩ := Kd.at_int HR1.out x54_2 p596 q596
              cases e596
              replace hx596_0 := (HB.out.cell (World.block_lt_of_cell? w _ hx596_0)).trans hx596_0
              replace p596 := eq_true p596
              replace q596 := eq_true q596
              go_wp2
              go_ret
              exact ⟨by first | rfl | (simp [errW_none, errW_some] <;> rfl) | (simp [*, errW_none, errW_some] <;> rfl), by repeat (first | (with_reducible first | exact HB.out | apply below_alloc | apply pw_below_drewN | apply below_drew1) | exact HB.out)⟩
            ·rw [if_neg c20] at H
             have c20b0 : decide ((rd l1 x54_2) < 0) = false := decide_eq_false c20
             clear c20
             by_cases c23 : (rd l1 x54_2) > 1048576
             ·rw [if_pos c23] at H
              have c23b0 : decide (1048576 < (rd l1 x54_2)) = true := decide_eq_true c23
              clear c23
              by_cases c24 : t592 = 1
              ·rw [if_pos c24] at H
               have c24b0 : (t592 == 1) = true := beq_iff_eq.mpr c24
               have c24b1 : (t592 != 1) = false := bne_eq_false_iff_eq.mpr c24
               clear c24
               obtain rfl := Option.some.inj H
               have p596 : 0 ≤ (x54_2 : Int) := of_decide_eq_true (by first | (with_reducible assumption) | assumption)
               have q596 : x54_2 < (l1.length : Int) := of_decide_eq_true (by first | (with_reducible assumption) | assumption)
               obtain ⟨ad596, e596, hx596_0⟩ := Kd.at_int HR1.out x54_2 p596 q596
               cases e596
               replace hx596_0 := (HB.out.cell (World.block_lt_of_cell? w _ hx596_0)).trans hx596_0
               replace p596 := eq_true p596
               replace q596 := eq_true q596
               obtain ⟨Ao25, co25, eo25⟩ := Kd.R_slice HO_5.out
               subst eo25
               go_wp2
               go_ret
               exact ⟨by first | rfl | (simp [errW_none, errW_some] <;> rfl) | (simp [*, errW_none, errW_some] <;> rfl), by repeat (first | (with_reducible first | exact HB.out | apply below_alloc | apply pw_below_drewN | apply below_drew1) | exact HB.out)⟩
              ·rw [if_neg c24] at H
               have c24b0 : (t592 == 1) = false := beq_eq_false_iff_ne.mpr c24
               have c24b1 : (t592 != 1) = true := bne_iff_ne.mpr c24
               obtain rfl := Option.some.inj H
               have p596 : 0 ≤ (x54_2 : Int) := of_decide_eq_true (by first | (with_reducible assumption) | assumption)
               have q596 : x54_2 < (l1.length : Int) := of_decide_eq_true (by first | (with_reducible assumption) | assumption)
               obtain ⟨ad596, e596, hx596_0⟩ := Kd.at_int HR1.out x54_2 p596 q596
               cases e596
               replace hx596_0 := (HB.out.cell (World.block_lt_of_cell? w _ hx596_0)).trans hx596_0
               replace p596 := eq_true p596
               replace q596 := eq_true q596
               go_wp2
               go_ret
               exact ⟨by first | rfl | (simp [errW_none, errW_some] <;> rfl) | (simp [*, errW_none, errW_some] <;> rfl), by repeat (first | (with_reducible first | exact HB.out | apply below_alloc | apply pw_below_drewN | apply below_drew1) | exact HB.out)⟩
             ·rw [if_neg c23] at H
              have c23b0 : decide (1048576 < (rd l1 x54_2)) = false := decide_eq_false c23
              clear c23
              have H' := Aside0.mk H
              clear H
              have p596 : 0 ≤ (x54_2 : Int) := of_decide_eq_true (by first | (with_reducible assumption) | assumption)
              have q596 : x54_2 < (l1.length : Int) := of_decide_eq_true (by first | (with_reducible assumption) | assumption)
              obtain ⟨ad596, e596, hx596_0⟩ := Kd.at_int HR1.out x54_2 p596 q596
              cases e596
              replace hx596_0 := (HB.out.cell (World.block_lt_of_cell? w _ hx596_0)).trans hx596_0
              replace p596 := eq_true p596
              replace q596 := eq_true q596
              go_wp2
              go_roundg k2
              case measure => have := HJ9.out; have := HK2.out; omega
              case rel => exact ⟨(wrap64 (x7_2 + (rd l1 x54_2))), (wrap64 (x54_2 + 1)), (by first | rfl | (simp; done) | (simp [*]; done)), (by first | rfl | (simp; done) | (simp [*]; done)), H', ⟨by have := HJ9.out; have := HK2.out; omega⟩, ⟨by (with_reducible repeat (first | apply Kd.R_alloc | apply Kd.R_drewN | apply Kd.R_drew)); exact HO_5.out⟩, ⟨by repeat (first | (with_reducible first | exact HB.out | apply below_alloc | apply pw_below_drewN | apply below_drew1) | exact HB.out)⟩⟩
           ·rw [if_neg c19] at H
            exact absurd H (by simp)
          ·rw [if_neg c18] at H
           exact absurd H (by simp)
         ·rw [if_neg c17] at H
          have c17b0 : decide (x54_2 < (l1.length : Int)) = false := decide_eq_false c17
          clear c17
          by_cases c26 : x7_2 = 0
          ·rw [if_pos c26] at H
           have c26b0 : (x7_2 == 0) = true := beq_iff_eq.mpr c26
           have c26b1 : (x7_2 != 0) = false := bne_eq_false_iff_eq.mpr c26
           clear c26
           by_cases c27 : t592 = 1
           ·rw [if_pos c27] at H
            have c27b0 : (t592 == 1) = true := beq_iff_eq.mpr c27
            have c27b1 : (t592 != 1) = false := bne_eq_false_iff_eq.mpr c27
            clear c27
            obtain rfl := Option.some.inj H
            obtain ⟨Ao28, co28, eo28⟩ := Kd.R_slice HO_5.out
            subst eo28
            go_wp2
            go_ret
            exact ⟨by first | rfl | (simp [errW_none, errW_some] <;> rfl) | (simp [*, errW_none, errW_some] <;> rfl), by repeat (first | (with_reducible first | exact HB.out | apply below_alloc | apply pw_below_drewN | apply below_drew1) | exact HB.out)⟩
           ·rw [if_neg c27] at H
            have c27b0 : (t592 == 1) = false := beq_eq_false_iff_ne.mpr c27
            have c27b1 : (t592 != 1) = true := bne_iff_ne.mpr c27
            obtain rfl := Option.some.inj H
            go_wp2
            go_ret
            exact ⟨by first | rfl | (simp [errW_none, errW_some] <;> rfl) | (simp [*, errW_none, errW_some] <;> rfl), by repeat (first | (with_reducible first | exact HB.out | apply below_alloc | apply pw_below_drewN | apply below_drew1) | exact HB.out)⟩
          ·rw [if_neg c26] at H
           have c26b0 : (x7_2 == 0) = false := beq_eq_false_iff_ne.mpr c26
           have c26b1 : (x7_2 != 0) = true := bne_iff_ne.mpr c26
           have HC29 := Aside0.mk H
           clear H
           go_upto_region 20 with (fail)
           go_cut [92] (fun v92 wc => ∃ (kq : Nat) (x92_28 : Bool), v92 = .bool x92_28 ∧ Aside0 (stipendlaw01_MoneySpreads.j2 kq a0 l1 t591 x7_2 x92_28 = some r) ∧ Aside0 (kq ≤ k2) ∧ Aside0 (Kd.R (Kd.int .i64) 2 wc w.heap.size (fun _ => True) v593 t591) ∧ Aside0 (Below w.heap.size w wc))
           case first =>
            have H := HC29.out
            clear HC29
            by_cases c30 : t592 = 0
            ·rw [if_pos c30] at H
             have c30b0 : (t592 == 0) = true := beq_iff_eq.mpr c30
             have c30b1 : (t592 != 0) = false := bne_eq_false_iff_eq.mpr c30
             clear c30
             (first | rw [c30b0] | (simp only [i64_w, i32_w]; rw [c30b0]) | skip)
             have H' := Aside0.mk H
             clear H
             obtain ⟨Ao31, co31, eo31⟩ := Kd.R_slice HO_5.out
             subst eo31
             go_wp2
             go_meet
             case rel => exact ⟨_, (((t591.length : Int) != (l1.length : Int))), (by first | rfl | (simp; done) | (simp [*]; done)), H', ⟨by have := HJ9.out; have := HK2.out; first | omega | exact Nat.le_refl _⟩, ⟨by (with_reducible repeat (first | apply Kd.R_alloc | apply Kd.R_drewN | apply Kd.R_drew)); exact HO_5.out⟩, ⟨by repeat (first | (with_reducible first | exact HB.out | apply below_alloc | apply pw_below_drewN | apply below_drew1) | exact HB.out)⟩⟩
            ·rw [if_neg c30] at H
             have c30b0 : (t592 == 0) = false := beq_eq_false_iff_ne.mpr c30
             have c30b1 : (t592 != 0) = true := bne_iff_ne.mpr c30
             (first | rw [c30b0] | (simp only [i64_w, i32_w]; rw [c30b0]) | skip)
             have H' := Aside0.mk H
             clear H
             go_wp2
             go_meet
             case rel => exact ⟨_, (true), (by first | rfl | (simp; done) | (simp [*]; done)), H', ⟨by have := HJ9.out; have := HK2.out; first | omega | exact Nat.le_refl _⟩, ⟨by (with_reducible repeat (first | apply Kd.R_alloc | apply Kd.R_drewN | apply Kd.R_drew)); exact HO_5.out⟩, ⟨by repeat (first | (with_reducible first | exact HB.out | apply below_alloc | apply pw_below_drewN | apply below_drew1) | exact HB.out)⟩⟩
           case rest =>
            clear HC29
            try clear c1
            try clear c2
            try clear p2
            try clear c3
            try clear c4
            try clear c5
            try clear c5b0
            try clear c5b1
            try clear p5
            try clear q5
            try clear hx5
            try clear p6
            try clear c9
            try clear c13
            try clear c13b0
            try clear c13b1
            try clear c13b2
            try clear c14
            try clear c15
            try clear c15b0
            try clear c15b1
            try clear c16
            try clear c17
            try clear c17b0
            try clear c18
            try clear c18b0
            try clear c19
            try clear c19b0
            try clear c20
            try clear c20b0
            try clear c21
            try clear c21b0
            try clear c21b1
            try clear c23
            try clear c23b0
            try clear c24
            try clear c24b0
            try clear c24b1
            try clear c26
            try clear c26b0
            try clear c26b1
            try clear c27
            try clear c27b0
            try clear c27b1
            try clear c30
            try clear c30b0
            try clear c30b1
            try clear hx596_0
            try clear p2
            try clear p596
            try clear q596
            obtain ⟨kq, x92_28, rfl, HA, HJ28, HO_5, HB⟩ := hcut
            cases kq with
            | zero => exact absurd HA.out (by simp [stipendlaw01_MoneySpreads.j2])
            | succ kj28 =>
             have H := HA.out
             clear HA
             simp only [stipendlaw01_MoneySpreads.j2] at H
             by_cases c32 : x92_28 = true
             ·subst c32
              have H1 : (some false) = some r := by rw [if_pos rfl] at H; exact H
              clear H
              have H := H1
              clear H1
              obtain rfl := Option.some.inj H
              go_wp2
              go_ret
              exact ⟨by first | rfl | (simp [errW_none, errW_some] <;> rfl) | (simp [*, errW_none, errW_some] <;> rfl), by repeat (first | (with_reducible first | exact HB.out | apply below_alloc | apply pw_below_drewN | apply below_drew1) | exact HB.out)⟩
             ·replace c32 := Bool.eq_false_iff.mpr c32
              subst c32
              have H1 : (stipendlaw01_MoneySpreads.l1 kj28 a0 l1 t591 x7_2 0 t591 (t591.length : Int) 0) = some r := by rw [if_neg (show ¬ (false = true) by decide)] at H; exact H
              clear H
              have H := H1
              clear H1
              have H' := Aside0.mk H
              clear H
              obtain ⟨Ao33, co33, eo33⟩ := Kd.R_slice HO_5.out
              subst eo33
              go_wp2
              go_loopg [10, 95] kj28 (fun kq v10 v95 w' => ∃ (x10_4 : Int) (x95_4 : Int), v10 = .int .i64 x10_4 ∧ v95 = .int .i64 x95_4 ∧ Aside0 (stipendlaw01_MoneySpreads.l1 kq a0 l1 t591 x7_2 x10_4 t591 (t591.length : Int) x95_4 = some r) ∧ Aside0 (kq ≤ kj28) ∧ Aside0 (Kd.R (Kd.int .i64) 2 w' w.heap.size (fun _ => True) (.slice Ao33 t591.length co33) t591) ∧ Aside0 (Kd.R (Kd.int .i64) 2 w' w.heap.size (fun _ => True) (.slice Ao33 t591.length co33) t591) ∧ Aside0 (Below w.heap.size w w'))
              case atStart => exact ⟨(0), (0), (by first | rfl | (simp; done) | (simp [*]; done)), (by first | rfl | (simp; done) | (simp [*]; done)), H', ⟨Nat.le_refl _⟩, ⟨by (with_reducible repeat (first | apply Kd.R_alloc | apply Kd.R_drewN | apply Kd.R_drew)); exact HO_5.out⟩, ⟨by (with_reducible repeat (first | apply Kd.R_alloc | apply Kd.R_drewN | apply Kd.R_drew)); exact HO_5.out⟩, ⟨by repeat (first | (with_reducible first | exact HB.out | apply below_alloc | apply pw_below_drewN | apply below_drew1) | exact HB.out)⟩⟩
              case round =>
               clear H'
               try clear c1
               try clear c2
               try clear p2
               try clear c3
               try clear c4
               try clear c5
               try clear c5b0
               try clear c5b1
               try clear p5
               try clear q5
               try clear hx5
               try clear p6
               try clear c9
               try clear c13
               try clear c13b0
               try clear c13b1
               try clear c13b2
               try clear c14
               try clear c15
               try clear c15b0
               try clear c15b1
               try clear c16
               try clear c17
               try clear c17b0
               try clear c18
               try clear c18b0
               try clear c19
               try clear c19b0
               try clear c20
               try clear c20b0
               try clear c21
               try clear c21b0
               try clear c21b1
               try clear c23
               try clear c23b0
               try clear c24
               try clear c24b0
               try clear c24b1
               try clear c26
               try clear c26b0
               try clear c26b1
               try clear c27
               try clear c27b0
               try clear c27b1
               try clear c30
               try clear c30b0
               try clear c30b1
               try clear c32
               try clear hx596_0
               try clear p2
               try clear p5
               try clear p596
               try clear p6
               try clear q5
               try clear q596
               obtain ⟨x10_4, x95_4, rfl, rfl, HA, HK4, HO_5, HO_93, HB⟩ := hrel
               cases gk with
               | zero => exact absurd HA.out (by simp [stipendlaw01_MoneySpreads.l1])
               | succ k4 =>
                have H := HA.out
                clear HA
                simp only [stipendlaw01_MoneySpreads.l1] at H
                by_cases c34 : x95_4 < (t591.length : Int)
                ·rw [if_pos c34] at H
                 have c34b0 : decide (x95_4 < (t591.length : Int)) = true := decide_eq_true c34
                 clear c34
                 by_cases c35 : 0 ≤ x95_4
                 ·rw [if_pos c35] at H
                  have c35b0 : decide (0 ≤ x95_4) = true := decide_eq_true c35
                  clear c35
                  by_cases c36 : x95_4 < (t591.length : Int)
                  ·rw [if_pos c36] at H
                   have c36b0 : decide (x95_4 < (t591.length : Int)) = true := decide_eq_true c36
                   clear c36
                   by_cases c37 : x95_4 < (l1.length : Int)
                   ·rw [if_pos c37] at H
                    have c37b0 : decide (x95_4 < (l1.length : Int)) = true := decide_eq_true c37
                    clear c37
                    replace H := Option.bind_eq_some_iff.mp H
                    obtain ⟨t599, A380, H⟩ := H
                    replace H : (if t599 = true then (some false) else (stipendlaw01_MoneySpreads.l1 k4 a0 l1 t591 x7_2 (wrap64 (x10_4 + (rd t591 x95_4))) t591 (t591.length : Int) (wrap64 (x95_4 + 1)))) = some r := H
                    have A38 := Aside0.mk A380
                    clear A380
                    by_cases c39 : t599 = true
                    ·subst c39
                     exact absurd (math_Abs_out A38.out).1 (by decide)
                    ·replace c39 := Bool.eq_false_iff.mpr c39
                     subst c39
                     have H1 : (stipendlaw01_MoneySpreads.l1 k4 a0 l1 t591 x7_2 (wrap64 (x10_4 + (rd t591 x95_4))) t591 (t591.length : Int) (wrap64 (x95_4 + 1))) = some r := by rw [if_neg (show ¬ (false = true) by decide)] at H; exact H
                     clear H
                     have H := H1
                     clear H1
                     have H' := Aside0.mk H
                     clear H
                     have p597 : 0 ≤ (x95_4 : Int) := of_decide_eq_true (by first | (with_reducible assumption) | assumption)
                     have q597 : x95_4 < (t591.length : Int) := of_decide_eq_true (by first | (with_reducible assumption) | assumption)
                     obtain ⟨ad597, e597, hx597_0⟩ := Kd.at_int (Kd.R_reads' HO_93.out).2.2 x95_4 p597 q597
                     cases e597
                     replace p597 := eq_true p597
                     replace q597 := eq_true q597
                     have p598 : 0 ≤ (x95_4 : Int) := of_decide_eq_true (by first | (with_reducible assumption) | assumption)
                     have q598 : x95_4 < (l1.length : Int) := of_decide_eq_true (by first | (with_reducible assumption) | assumption)
                     obtain ⟨ad598, e598, hx598_0⟩ := Kd.at_int HR1.out x95_4 p598 q598
                     cases e598
                     replace hx598_0 := (HB.out.cell (World.block_lt_of_cell? w _ hx598_0)).trans hx598_0
                     replace p598 := eq_true p598
                     replace q598 := eq_true q598
                     obtain ⟨_, bm, qd, dd, F1, F2, F3, F4, F5⟩ := math_Abs_out A38.out
                     have fm : ∀ t w, (binOp .mul t (.float .f64 (floatOfInt .f64 a0)) (.float .f64 (floatOfInt .f64 (rd l1 x95_4)))).run Tryd.prog w = .ok (.float .f64 bm) w := fun t w => run_float_arith w .mul t .f64 _ _ bm F1
                     have fq : ∀ t w, (binOp .quo t (.float .f64 bm) (.float .f64 (floatOfInt .f64 x7_2))).run Tryd.prog w = .ok (.float .f64 qd) w := fun t w => run_float_arith w .quo t .f64 _ _ qd F2
                     have fs : ∀ t w, (binOp .sub t (.float .f64 (floatOfInt .f64 (rd t591 x95_4))) (.float .f64 qd)).run Tryd.prog w = .ok (.float .f64 dd) w := fun t w => run_float_arith w .sub t .f64 _ _ dd F3
                     have FA := Aside0.mk F4
                     clear F1 F2 F3 F4
                     go_wp2_with (first | (simp only [conv_run, fm, fq, fs]; done) | ((with_reducible refine gate_callee (f := 62) rfl ?_); refine goesL_ (some 118) rfl rfl Tryd.func62 (by kernel_rfl) rfl #[.float .f64 dd] rfl (by (try simp only [List.map_toArray, List.map_cons, List.map_nil]); first | done | rfl) ?_; (with_reducible refine (abs_calls dd _ FA.out).mono ?_); rintro e w' ⟨rfl, rfl⟩; refine ⟨_, rfl, ?_⟩) | simp only [conv_run, fm, fq, fs, F5])
                     go_roundg k4
                     case measure => have := HJ9.out; have := HK2.out; have := HJ28.out; have := HK4.out; omega
                     case rel => exact ⟨(wrap64 (x10_4 + (rd t591 x95_4))), (wrap64 (x95_4 + 1)), (by first | rfl | (simp; done) | (simp [*]; done)), (by first | rfl | (simp; done) | (simp [*]; done)), H', ⟨by have := HJ9.out; have := HK2.out; have := HJ28.out; have := HK4.out; omega⟩, ⟨by (with_reducible repeat (first | apply Kd.R_alloc | apply Kd.R_drewN | apply Kd.R_drew)); exact HO_5.out⟩, ⟨by (with_reducible repeat (first | apply Kd.R_alloc | apply Kd.R_drewN | apply Kd.R_drew)); exact HO_93.out⟩, ⟨by repeat (first | (with_reducible first | exact HB.out | apply below_alloc | apply pw_below_drewN | apply below_drew1) | exact HB.out)⟩⟩
                   ·rw [if_neg c37] at H
                    exact absurd H (by simp)
                  ·rw [if_neg c36] at H
                   exact absurd H (by simp)
                 ·rw [if_neg c35] at H
                  exact absurd H (by simp)
                ·rw [if_neg c34] at H
                 have c34b0 : decide (x95_4 < (t591.length : Int)) = false := decide_eq_false c34
                 clear c34
                 by_cases c40 : x10_4 = a0
                 ·rw [if_pos c40] at H
                  have c40b0 : (x10_4 == a0) = true := beq_iff_eq.mpr c40
                  have c40b1 : (x10_4 != a0) = false := bne_eq_false_iff_eq.mpr c40
                  clear c40
                  have HC41 := Aside0.mk H
                  clear H
                  go_upto_region 33 with (fail)
                  go_cut [129] (fun v129 wc => ∃ (kq : Nat) (x129_40 : Bool), v129 = .bool x129_40 ∧ Aside0 (stipendlaw01_MoneySpreads.j4 kq a0 l1 t591 x129_40 = some r) ∧ Aside0 (kq ≤ k4) ∧ Aside0 (Kd.R (Kd.int .i64) 2 wc w.heap.size (fun _ => True) (.slice Ao33 t591.length co33) t591) ∧ Aside0 (Below w.heap.size w wc))
                  case first =>
                   have H := HC41.out
                   clear HC41
                   by_cases c42 : a0 > 1000000
                   ·rw [if_pos c42] at H
                    have c42b0 : decide (1000000 < a0) = true := decide_eq_true c42
                    clear c42
                    (first | rw [c42b0] | (simp only [i64_w, i32_w]; rw [c42b0]) | skip)
                    have H' := Aside0.mk H
                    clear H
                    go_wp2
                    go_meet
                    case rel => exact ⟨_, (true), (by first | rfl | (simp; done) | (simp [*]; done)), H', ⟨by have := HJ9.out; have := HK2.out; have := HJ28.out; have := HK4.out; first | omega | exact Nat.le_refl _⟩, ⟨by (with_reducible repeat (first | apply Kd.R_alloc | apply Kd.R_drewN | apply Kd.R_drew)); exact HO_5.out⟩, ⟨by repeat (first | (with_reducible first | exact HB.out | apply below_alloc | apply pw_below_drewN | apply below_drew1) | exact HB.out)⟩⟩
                   ·rw [if_neg c42] at H
                    have c42b0 : decide (1000000 < a0) = false := decide_eq_false c42
                    clear c42
                    (first | rw [c42b0] | (simp only [i64_w, i32_w]; rw [c42b0]) | skip)
                    have H' := Aside0.mk H
                    clear H
                    go_wp2
                    go_meet
                    case rel => exact ⟨_, (decide (a0 < (-1000000))), (by first | rfl | (simp; done) | (simp [*]; done)), H', ⟨by have := HJ9.out; have := HK2.out; have := HJ28.out; have := HK4.out; first | omega | exact Nat.le_refl _⟩, ⟨by (with_reducible repeat (first | apply Kd.R_alloc | apply Kd.R_drewN | apply Kd.R_drew)); exact HO_5.out⟩, ⟨by repeat (first | (with_reducible first | exact HB.out | apply below_alloc | apply pw_below_drewN | apply below_drew1) | exact HB.out)⟩⟩
                  case rest =>
                   clear HC41
                   try clear c1
                   try clear c2
                   try clear p2
                   try clear c3
                   try clear c4
                   try clear c5
                   try clear c5b0
                   try clear c5b1
                   try clear p5
                   try clear q5
                   try clear hx5
                   try clear c6
                   try clear p6
                   try clear c9
                   try clear c13
                   try clear c13b0
                   try clear c13b1
                   try clear c13b2
                   try clear c14
                   try clear c15
                   try clear c15b0
                   try clear c15b1
                   try clear c16
                   try clear c17
                   try clear c17b0
                   try clear c18
                   try clear c18b0
                   try clear c19
                   try clear c19b0
                   try clear c20
                   try clear c20b0
                   try clear c21
                   try clear c21b0
                   try clear c21b1
                   try clear c23
                   try clear c23b0
                   try clear c24
                   try clear c24b0
                   try clear c24b1
                   try clear c26
                   try clear c26b0
                   try clear c26b1
                   try clear c27
                   try clear c27b0
                   try clear c27b1
                   try clear c30
                   try clear c30b0
                   try clear c30b1
                   try clear c32
                   try clear c34
                   try clear c34b0
                   try clear c35
                   try clear c35b0
                   try clear c36
                   try clear c36b0
                   try clear c37
                   try clear c37b0
                   try clear c39
                   try clear c40
                   try clear c40b0
                   try clear c40b1
                   try clear c41
                   try clear c42
                   try clear c42b0
                   try clear hx596_0
                   try clear hx597_0
                   try clear hx598_0
                   try clear p2
                   try clear p5
                   try clear p596
                   try clear p597
                   try clear p598
                   try clear p6
                   try clear q5
                   try clear q596
                   try clear q597
                   try clear q598
                   obtain ⟨kq, x129_40, rfl, HA, HJ40, HO_5, HB⟩ := hcut
                   cases kq with
                   | zero => exact absurd HA.out (by simp [stipendlaw01_MoneySpreads.j4])
                   | succ kj40 =>
                    have H := HA.out
                    clear HA
                    simp only [stipendlaw01_MoneySpreads.j4] at H
                    by_cases c43 : x129_40 = true
                    ·subst c43
                     have H1 : (some true) = some r := by rw [if_pos rfl] at H; exact H
                     clear H
                     have H := H1
                     clear H1
                     obtain rfl := Option.some.inj H
                     go_wp2
                     go_ret
                     exact ⟨by first | rfl | (simp [errW_none, errW_some] <;> rfl) | (simp [*, errW_none, errW_some] <;> rfl), by repeat (first | (with_reducible first | exact HB.out | apply below_alloc | apply pw_below_drewN | apply below_drew1) | exact HB.out)⟩
                    ·replace c43 := Bool.eq_false_iff.mpr c43
                     subst c43
                     have H1 : ((stipendref01_Spread.f kj40 a0 l1).bind fun t600 => (stipendlaw01_MoneySpreads.l2 kj40 t591 t600 (t600.length : Int) 0)) = some r := by rw [if_neg (show ¬ (false = true) by decide)] at H; exact H
                     clear H
                     have H := H1
                     clear H1
                     replace H := Option.bind_eq_some_iff.mp H
                     obtain ⟨t600, A440, H⟩ := H
                     replace H : (stipendlaw01_MoneySpreads.l2 kj40 t591 t600 (t600.length : Int) 0) = some r := H
                     have A44 := Aside0.mk A440
                     clear A440
                     have H' := Aside0.mk H
                     clear H
                     go_wp2_with (first | ((with_reducible refine gate_callee (f := 63) rfl ?_); refine goesL_ (some 132) rfl rfl Tryd.func63 (by kernel_rfl) rfl #[.int .i64 a0, .slice A1 l1.length c1] rfl (by (try simp only [List.map_toArray, List.map_cons, List.map_nil]); first | done | rfl | (simp only [List.length_drop, List.length_take]; rfl)) ?_; (with_reducible refine (stipendref01_Spread.calls kj40 a0 _ _ l1 t600 _ ?side1 ?side2 A44.out).mono ?_); (case side1 => repeat (first | exact (Kd.C_below HR1.out HB.out) | (with_reducible refine Kd.C_alloc ?_ _) | (with_reducible refine Kd.C_drewN ?_ _) | (with_reducible refine Kd.C_drew ?_))); (case side2 => exact HC1.out); rintro e w45 ⟨v601, rfl, ho0, hb⟩; refine ⟨_, rfl, ?_⟩; have n0_ := Aside0.mk (Kd.R_elder' (by (with_reducible repeat (first | apply Kd.R_alloc | apply Kd.R_drewN | apply Kd.R_drew)); exact HO_5.out) (Kd.R_base ho0) hb); have n1_ := Aside0.mk (Kd.R_lower (Kd.R_new' ho0 (Kd.R_lt (by (with_reducible repeat (first | apply Kd.R_alloc | apply Kd.R_drewN | apply Kd.R_drew)); exact HO_5.out))) (below_size (by repeat (first | (with_reducible first | exact HB.out | apply below_alloc | apply pw_below_drewN | apply below_drew1) | exact HB.out)))); have n2_ := Aside0.mk (below_step (by repeat (first | (with_reducible first | exact HB.out | apply below_alloc | apply pw_below_drewN | apply below_drew1) | exact HB.out)) hb); clear HO_5; clear HB; have HO_5 := n0_; have HO602 := n1_; have HB := n2_; clear n0_ n1_ n2_; (try clear hb); (try clear hb2); (try clear hk); (try clear hi); (try clear ho0); obtain ⟨Ao46, co46, eo46⟩ := Kd.R_slice HO602.out; subst eo46))
                     go_loopg [134] kj40 (fun kq v134 w' => ∃ (x134_6 : Int), v134 = .int .i64 x134_6 ∧ Aside0 (stipendlaw01_MoneySpreads.l2 kq t591 t600 (t600.length : Int) x134_6 = some r) ∧ Aside0 (kq ≤ kj40) ∧ Aside0 (Kd.R (Kd.int .i64) 2 w' w.heap.size (fun k_ => some k_ ≠ ((.slice Ao46 t600.length co46) : Value).ownBlock) (.slice Ao33 t591.length co33) t591) ∧ Aside0 (Kd.R (Kd.int .i64) 2 w' w.heap.size (fun k_ => some k_ ≠ ((.slice Ao33 t591.length co33) : Value).ownBlock) (.slice Ao46 t600.length co46) t600) ∧ Aside0 (Below w.heap.size w w'))
                     case atStart => exact ⟨(0), (by first | rfl | (simp; done) | (simp [*]; done)), H', ⟨Nat.le_refl _⟩, ⟨by (with_reducible repeat (first | apply Kd.R_alloc | apply Kd.R_drewN | apply Kd.R_drew)); exact Kd.R_mono HO_5.out (fun _ hk => hk.2)⟩, ⟨by (with_reducible repeat (first | apply Kd.R_alloc | apply Kd.R_drewN | apply Kd.R_drew)); exact Kd.R_mono HO602.out (fun _ hk => hk.2)⟩, ⟨by repeat (first | (with_reducible first | exact HB.out | apply below_alloc | apply pw_below_drewN | apply below_drew1) | exact HB.out)⟩⟩
                     case round =>
                      clear H'
                      try clear c1
                      try clear c2
                      try clear p2
                      try clear c3
                      try clear c4
                      try clear c5
                      try clear c5b0
                      try clear c5b1
                      try clear p5
                      try clear q5
                      try clear hx5
                      try clear c6
                      try clear p6
                      try clear c9
                      try clear c13
                      try clear c13b0
                      try clear c13b1
                      try clear c13b2
                      try clear c14
                      try clear c15
                      try clear c15b0
                      try clear c15b1
                      try clear c16
                      try clear c17
                      try clear c17b0
                      try clear c18
                      try clear c18b0
                      try clear c19
                      try clear c19b0
                      try clear c20
                      try clear c20b0
                      try clear c21
                      try clear c21b0
                      try clear c21b1
                      try clear c23
                      try clear c23b0
                      try clear c24
                      try clear c24b0
                      try clear c24b1
                      try clear c26
                      try clear c26b0
                      try clear c26b1
                      try clear c27
                      try clear c27b0
                      try clear c27b1
                      try clear c30
                      try clear c30b0
                      try clear c30b1
                      try clear c32
                      try clear c34
                      try clear c34b0
                      try clear c35
                      try clear c35b0
                      try clear c36
                      try clear c36b0
                      try clear c37
                      try clear c37b0
                      try clear c39
                      try clear c40
                      try clear c40b0
                      try clear c40b1
                      try clear c41
                      try clear c42
                      try clear c42b0
                      try clear c43
                      try clear hx596_0
                      try clear hx597_0
                      try clear hx598_0
                      try clear p2
                      try clear p5
                      try clear p596
                      try clear p597
                      try clear p598
                      try clear p6
                      try clear q5
                      try clear q596
                      try clear q597
                      try clear q598
                      obtain ⟨x134_6, rfl, HA, HK6, HO_5, HO_132, HB⟩ := hrel
                      cases gk with
                      | zero => exact absurd HA.out (by simp [stipendlaw01_MoneySpreads.l2])
                      | succ k6 =>
                       have H := HA.out
                       clear HA
                       simp only [stipendlaw01_MoneySpreads.l2] at H
                       by_cases c47 : x134_6 < (t600.length : Int)
                       ·rw [if_pos c47] at H
                        have c47b0 : decide (x134_6 < (t600.length : Int)) = true := decide_eq_true c47
                        clear c47
                        by_cases c48 : 0 ≤ x134_6
                        ·rw [if_pos c48] at H
                         have c48b0 : decide (0 ≤ x134_6) = true := decide_eq_true c48
                         clear c48
                         by_cases c49 : x134_6 < (t600.length : Int)
                         ·rw [if_pos c49] at H
                          have c49b0 : decide (x134_6 < (t600.length : Int)) = true := decide_eq_true c49
                          clear c49
                          by_cases c50 : x134_6 < (t591.length : Int)
                          ·rw [if_pos c50] at H
                           have c50b0 : decide (x134_6 < (t591.length : Int)) = true := decide_eq_true c50
                           clear c50
                           by_cases c51 : (rd t600 x134_6) = (rd t591 x134_6)
                           ·rw [if_pos c51] at H
                            have c51b0 : ((rd t600 x134_6) == (rd t591 x134_6)) = true := beq_iff_eq.mpr c51
                            have c51b1 : ((rd t600 x134_6) != (rd t591 x134_6)) = false := bne_eq_false_iff_eq.mpr c51
                            clear c51
                            have H' := Aside0.mk H
                            clear H
                            have p603 : 0 ≤ (x134_6 : Int) := of_decide_eq_true (by first | (with_reducible assumption) | assumption)
                            have q603 : x134_6 < (t600.length : Int) := of_decide_eq_true (by first | (with_reducible assumption) | assumption)
                            obtain ⟨ad603, e603, hx603_0⟩ := Kd.at_int (Kd.R_reads' HO_132.out).2.2 x134_6 p603 q603
                            cases e603
                            replace p603 := eq_true p603
                            replace q603 := eq_true q603
                            have p604 : 0 ≤ (x134_6 : Int) := of_decide_eq_true (by first | (with_reducible assumption) | assumption)
                            have q604 : x134_6 < (t591.length : Int) := of_decide_eq_true (by first | (with_reducible assumption) | assumption)
                            obtain ⟨ad604, e604, hx604_0⟩ := Kd.at_int (Kd.R_reads' HO_5.out).2.2 x134_6 p604 q604
                            cases e604
                            replace p604 := eq_true p604
                            replace q604 := eq_true q604
                            go_wp2
                            go_roundg k6
                            case measure => have := HJ9.out; have := HK2.out; have := HJ28.out; have := HK4.out; have := HJ40.out; have := HK6.out; omega
                            case rel => exact ⟨(wrap64 (x134_6 + 1)), (by first | rfl | (simp; done) | (simp [*]; done)), H', ⟨by have := HJ9.out; have := HK2.out; have := HJ28.out; have := HK4.out; have := HJ40.out; have := HK6.out; omega⟩, ⟨by (with_reducible repeat (first | apply Kd.R_alloc | apply Kd.R_drewN | apply Kd.R_drew)); exact HO_5.out⟩, ⟨by (with_reducible repeat (first | apply Kd.R_alloc | apply Kd.R_drewN | apply Kd.R_drew)); exact HO_132.out⟩, ⟨by repeat (first | (with_reducible first | exact HB.out | apply below_alloc | apply pw_below_drewN | apply below_drew1) | exact HB.out)⟩⟩
                           ·rw [if_neg c51] at H
                            have c51b0 : ((rd t600 x134_6) == (rd t591 x134_6)) = false := beq_eq_false_iff_ne.mpr c51
                            have c51b1 : ((rd t600 x134_6) != (rd t591 x134_6)) = true := bne_iff_ne.mpr c51
                            obtain rfl := Option.some.inj H
                            have p603 : 0 ≤ (x134_6 : Int) := of_decide_eq_true (by first | (with_reducible assumption) | assumption)
                            have q603 : x134_6 < (t600.length : Int) := of_decide_eq_true (by first | (with_reducible assumption) | assumption)
                            obtain ⟨ad603, e603, hx603_0⟩ := Kd.at_int (Kd.R_reads' HO_132.out).2.2 x134_6 p603 q603
                            cases e603
                            replace p603 := eq_true p603
                            replace q603 := eq_true q603
                            have p604 : 0 ≤ (x134_6 : Int) := of_decide_eq_true (by first | (with_reducible assumption) | assumption)
                            have q604 : x134_6 < (t591.length : Int) := of_decide_eq_true (by first | (with_reducible assumption) | assumption)
                            obtain ⟨ad604, e604, hx604_0⟩ := Kd.at_int (Kd.R_reads' HO_5.out).2.2 x134_6 p604 q604
                            cases e604
                            replace p604 := eq_true p604
                            replace q604 := eq_true q604
                            go_wp2
                            go_ret
                            exact ⟨by first | rfl | (simp [errW_none, errW_some] <;> rfl) | (simp [*, errW_none, errW_some] <;> rfl), by repeat (first | (with_reducible first | exact HB.out | apply below_alloc | apply pw_below_drewN | apply below_drew1) | exact HB.out)⟩
                          ·rw [if_neg c50] at H
                           exact absurd H (by simp)
                         ·rw [if_neg c49] at H
                          exact absurd H (by simp)
                        ·rw [if_neg c48] at H
                         exact absurd H (by simp)
                       ·rw [if_neg c47] at H
                        have c47b0 : decide (x134_6 < (t600.length : Int)) = false := decide_eq_false c47
                        clear c47
                        obtain rfl := Option.some.inj H
                        go_wp2
                        go_ret
                        exact ⟨by first | rfl | (simp [errW_none, errW_some] <;> rfl) | (simp [*, errW_none, errW_some] <;> rfl), by repeat (first | (with_reducible first | exact HB.out | apply below_alloc | apply pw_below_drewN | apply below_drew1) | exact HB.out)⟩
                 ·rw [if_neg c40] at H
                  have c40b0 : (x10_4 == a0) = false := beq_eq_false_iff_ne.mpr c40
                  have c40b1 : (x10_4 != a0) = true := bne_iff_ne.mpr c40
                  obtain rfl := Option.some.inj H
                  go_wp2
                  go_ret
                  exact ⟨by first | rfl | (simp [errW_none, errW_some] <;> rfl) | (simp [*, errW_none, errW_some] <;> rfl), by repeat (first | (with_reducible first | exact HB.out | apply below_alloc | apply pw_below_drewN | apply below_drew1) | exact HB.out)⟩
   ·replace c9 := Bool.eq_false_iff.mpr c9
    subst c9
    have H1 : (if t592 = 10 then (some ((t591.length : Int) == 0)) else (some false)) = some r := by rw [if_neg (show ¬ (false = true) by decide)] at H; exact H
    clear H
    have H := H1
    clear H1
    by_cases c52 : t592 = 10
    ·rw [if_pos c52] at H
     have c52b0 : (t592 == 10) = true := beq_iff_eq.mpr c52
     have c52b1 : (t592 != 10) = false := bne_eq_false_iff_eq.mpr c52
     clear c52
     obtain rfl := Option.some.inj H
     go_enter Tryd.func16, Tryd.ntmps16
     go_wp2_with (first | ((with_reducible refine gate_callee (f := 57) rfl ?_); refine goesL_ (some 16) rfl rfl Tryd.func57 (by kernel_rfl) rfl #[] rfl (by (try simp only [List.map_toArray, List.map_cons, List.map_nil]); first | done | rfl | (simp only [List.length_drop, List.length_take]; rfl)) ?_; (with_reducible refine (stipendlaw01_counts.calls k  true _ A3.out).mono ?_); rintro e w53 ⟨rfl, hb⟩; refine ⟨_, rfl, ?_⟩; have n0_ := Aside0.mk (below_step (by repeat (first | (with_reducible first | exact HB.out | apply below_alloc | apply pw_below_drewN | apply below_drew1) | exact HB.out)) hb); clear HB; have HB := n0_; clear n0_; (try clear hb); (try clear hb2); (try clear hk); (try clear hi)) | ((with_reducible refine gate_callee (f := 41) rfl ?_); refine goesL_ (some 24) rfl rfl Tryd.func41 (by kernel_rfl) rfl #[.int .i64 a0, .slice A1 l1.length c1] rfl (by (try simp only [List.map_toArray, List.map_cons, List.map_nil]); first | done | rfl | (simp only [List.length_drop, List.length_take]; rfl)) ?_; (with_reducible refine (money_Spread.calls k a0 _ _ l1 t591 t592 _ ?side1 ?side2 A7.out).mono ?_); (case side1 => repeat (first | exact (Kd.C_below HR1.out HB.out) | (with_reducible refine Kd.C_alloc ?_ _) | (with_reducible refine Kd.C_drewN ?_ _) | (with_reducible refine Kd.C_drew ?_))); (case side2 => exact HC1.out); rintro e w54 ⟨v593, rfl, ho0, hb⟩; refine ⟨_, rfl, ?_⟩; have n0_ := Aside0.mk (Kd.R_lower ho0 (below_size (by repeat (first | (with_reducible first | exact HB.out | apply below_alloc | apply pw_below_drewN | apply below_drew1) | exact HB.out)))); have n1_ := Aside0.mk (below_step (by repeat (first | (with_reducible first | exact HB.out | apply below_alloc | apply pw_below_drewN | apply below_drew1) | exact HB.out)) hb); clear HB; have HO594 := n0_; have HB := n1_; clear n0_ n1_; (try clear hb); (try clear hb2); (try clear hk); (try clear hi); (try clear ho0)) | ((with_reducible refine gate_callee (f := 59) rfl ?_); refine goesL_ (some 28) rfl rfl Tryd.func59 (by kernel_rfl) rfl #[.int .i64 a0] rfl (by (try simp only [List.map_toArray, List.map_cons, List.map_nil]); first | done | rfl | (simp only [List.length_drop, List.length_take]; rfl)) ?_; (with_reducible refine (stipendref01_Right.calls a0 false _ A8.out).mono ?_); rintro e w' ⟨rfl, ⟨nd, rfl⟩⟩; refine ⟨_, rfl, ?_⟩; obtain ⟨Ao55, co55, eo55⟩ := Kd.R_slice HO594.out; subst eo55))
     go_ret
     exact ⟨by first | rfl | (simp [errW_none, errW_some] <;> rfl) | (simp [*, errW_none, errW_some] <;> rfl), by repeat (first | (with_reducible first | exact HB.out | apply below_alloc | apply pw_below_drewN | apply below_drew1) | exact HB.out)⟩
    ·rw [if_neg c52] at H
     have c52b0 : (t592 == 10) = false := beq_eq_false_iff_ne.mpr c52
     have c52b1 : (t592 != 10) = true := bne_iff_ne.mpr c52
     obtain rfl := Option.some.inj H
     go_enter Tryd.func16, Tryd.ntmps16
     go_wp2_with (first | ((with_reducible refine gate_callee (f := 57) rfl ?_); refine goesL_ (some 16) rfl rfl Tryd.func57 (by kernel_rfl) rfl #[] rfl (by (try simp only [List.map_toArray, List.map_cons, List.map_nil]); first | done | rfl | (simp only [List.length_drop, List.length_take]; rfl)) ?_; (with_reducible refine (stipendlaw01_counts.calls k  true _ A3.out).mono ?_); rintro e w56 ⟨rfl, hb⟩; refine ⟨_, rfl, ?_⟩; have n0_ := Aside0.mk (below_step (by repeat (first | (with_reducible first | exact HB.out | apply below_alloc | apply pw_below_drewN | apply below_drew1) | exact HB.out)) hb); clear HB; have HB := n0_; clear n0_; (try clear hb); (try clear hb2); (try clear hk); (try clear hi)) | ((with_reducible refine gate_callee (f := 41) rfl ?_); refine goesL_ (some 24) rfl rfl Tryd.func41 (by kernel_rfl) rfl #[.int .i64 a0, .slice A1 l1.length c1] rfl (by (try simp only [List.map_toArray, List.map_cons, List.map_nil]); first | done | rfl | (simp only [List.length_drop, List.length_take]; rfl)) ?_; (with_reducible refine (money_Spread.calls k a0 _ _ l1 t591 t592 _ ?side1 ?side2 A7.out).mono ?_); (case side1 => repeat (first | exact (Kd.C_below HR1.out HB.out) | (with_reducible refine Kd.C_alloc ?_ _) | (with_reducible refine Kd.C_drewN ?_ _) | (with_reducible refine Kd.C_drew ?_))); (case side2 => exact HC1.out); rintro e w57 ⟨v593, rfl, ho0, hb⟩; refine ⟨_, rfl, ?_⟩; have n0_ := Aside0.mk (Kd.R_lower ho0 (below_size (by repeat (first | (with_reducible first | exact HB.out | apply below_alloc | apply pw_below_drewN | apply below_drew1) | exact HB.out)))); have n1_ := Aside0.mk (below_step (by repeat (first | (with_reducible first | exact HB.out | apply below_alloc | apply pw_below_drewN | apply below_drew1) | exact HB.out)) hb); clear HB; have HO594 := n0_; have HB := n1_; clear n0_ n1_; (try clear hb); (try clear hb2); (try clear hk); (try clear hi); (try clear ho0)) | ((with_reducible refine gate_callee (f := 59) rfl ?_); refine goesL_ (some 28) rfl rfl Tryd.func59 (by kernel_rfl) rfl #[.int .i64 a0] rfl (by (try simp only [List.map_toArray, List.map_cons, List.map_nil]); first | done | rfl | (simp only [List.length_drop, List.length_take]; rfl)) ?_; (with_reducible refine (stipendref01_Right.calls a0 false _ A8.out).mono ?_); rintro e w' ⟨rfl, ⟨nd, rfl⟩⟩; refine ⟨_, rfl, ?_⟩))
     go_ret
     exact ⟨by first | rfl | (simp [errW_none, errW_some] <;> rfl) | (simp [*, errW_none, errW_some] <;> rfl), by repeat (first | (with_reducible first | exact HB.out | apply below_alloc | apply pw_below_drewN | apply below_drew1) | exact HB.out)⟩
 ·replace c4 := Bool.eq_false_iff.mpr c4
  subst c4
  have H1 : (some false) = some r := by rw [if_neg (show ¬ (false = true) by decide)] at H; exact H
  clear H
  have H := H1
  clear H1
  obtain rfl := Option.some.inj H
  go_enter Tryd.func16, Tryd.ntmps16
  go_wp2_with (first | ((with_reducible refine gate_callee (f := 57) rfl ?_); refine goesL_ (some 16) rfl rfl Tryd.func57 (by kernel_rfl) rfl #[] rfl (by (try simp only [List.map_toArray, List.map_cons, List.map_nil]); first | done | rfl | (simp only [List.length_drop, List.length_take]; rfl)) ?_; (with_reducible refine (stipendlaw01_counts.calls k  false _ A3.out).mono ?_); rintro e w58 ⟨rfl, hb⟩; refine ⟨_, rfl, ?_⟩; have n0_ := Aside0.mk (below_step (by repeat (first | (with_reducible first | exact HB.out | apply below_alloc | apply pw_below_drewN | apply below_drew1) | exact HB.out)) hb); clear HB; have HB := n0_; clear n0_; (try clear hb); (try clear hb2); (try clear hk); (try clear hi)))
  go_ret
  exact ⟨by first | rfl | (simp [errW_none, errW_some] <;> rfl) | (simp [*, errW_none, errW_some] <;> rfl), by repeat (first | (with_reducible first | exact HB.out | apply below_alloc | apply pw_below_drewN | apply below_drew1) | exact HB.out)⟩

end Go.Proofs.YtmocphafkimdpaaDoor.P
