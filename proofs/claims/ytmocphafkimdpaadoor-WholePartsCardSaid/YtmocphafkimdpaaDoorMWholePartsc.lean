/- A part of the proof of WholeParts's card: 'WholeParts' answers true for every input (the conditions: those of the given statement alone). Merged by a program (wip/merge.py) out of: Pf7. -/
import Derived.Test.YtmocphafkimdpaaDoorBMoneya
import Derived.Test.YtmocphafkimdpaaDoorMWholePartsa
import Derived.Test.YtmocphafkimdpaaDoorBMoneye
import Derived.Test.YtmocphafkimdpaaDoorMWholePartsb

-- written by a program (a patched copy of the kit's print: wip/mkprint.py); Lean checks it
namespace Go.Proofs.YtmocphafkimdpaaDoor.P
open Go.RowKit Go.Proofs.YtmocphafkimdpaaDoorW.PrintWords Go.Proofs.YtmocphafkimdpaaDoorW.PrintLast Go.Proofs.YtmocphafkimdpaaDoorW.PrintMore
attribute [local go_sem] max2_int min2_int max_two min_two max_three min_three max_four min_four   -- for this text's walks alone
set_option linter.unusedVariables false
set_option linter.unusedSimpArgs false

/-! ### stipendtop_WholeParts: function 7 -/
mutual
def stipendtop_WholeParts.j0 : Nat → Int → List Int → Int → Bool → Option (Bool)
 | 0, _, _, _, _ => none
 | k + 1, x0, x1, x2, x42 => if x42 = true then (some false) else ((stipendtop_right.f k (([x0] : List Int))).bind fun t392 => (if t392 = true then (if (x1.length : Int) = 0 then (stipendtop_WholeParts.j1 k x0 x1 x2 true) else (if (x1.length : Int) > 30 then (stipendtop_WholeParts.j1 k x0 x1 x2 true) else (if x2 < 1 then (stipendtop_WholeParts.j1 k x0 x1 x2 true) else (stipendtop_WholeParts.j1 k x0 x1 x2 (decide (x2 > 6)))))) else (stipendtop_WholeParts.j1 k x0 x1 x2 true)))
def stipendtop_WholeParts.j1 : Nat → Int → List Int → Int → Bool → Option (Bool)
 | 0, _, _, _, _ => none
 | k + 1, x0, x1, x2, x64 => if x64 = true then (some true) else (stipendtop_WholeParts.l0 k x0 x1 x2 0 ([] : List Int) x1 (x1.length : Int) 0)
def stipendtop_WholeParts.l0 : Nat → Int → List Int → Int → Int → List Int → List Int → Int → Int → Option (Bool)
 | 0, _, _, _, _, _, _, _, _ => none
 | k + 1, x0, x1, x2, x9, x10, x65, x66, x67 => if x67 < x66 then (if 0 ≤ x67 then (if x67 < (x65.length : Int) then (if (rd x65 x67) < 0 then (some true) else (if (rd x65 x67) > 10000 then (some true) else (if x10.length < 17592186044416 then (stipendtop_WholeParts.l0 k x0 x1 x2 (wrap64 (x9 + (rd x65 x67))) (x10 ++ [rd x65 x67]) x65 x66 (wrap64 (x67 + 1))) else (none)))) else (none)) else (none)) else (if x9 = 10000 then ((money_Spread.f k x0 x10).bind fun bt397 => (if bt397.2 = 0 then (stipendtop_WholeParts.j3 k x0 x1 x2 0 0 bt397.1 ((bt397.1.length : Int) != (x1.length : Int))) else (stipendtop_WholeParts.j3 k x0 x1 x2 0 0 bt397.1 true))) else (some true))
def stipendtop_WholeParts.j3 : Nat → Int → List Int → Int → Int → Int → List Int → Bool → Option (Bool)
 | 0, _, _, _, _, _, _, _ => none
 | k + 1, x0, x1, x2, x13, x14, x15, x101 => if x101 = true then (some false) else (stipendtop_WholeParts.l1 k x0 x1 x2 x13 x14 x15 x1 (x1.length : Int) 0)
def stipendtop_WholeParts.l1 : Nat → Int → List Int → Int → Int → Int → List Int → List Int → Int → Int → Option (Bool)
 | 0, _, _, _, _, _, _, _, _, _ => none
 | k + 1, x0, x1, x2, x13, x14, x15, x102, x103, x104 => if x104 < x103 then (if 0 ≤ x104 then (if x104 < (x102.length : Int) then ((frac_Part.f k x0 (rd x102 x104)).bind fun bt406 => ((frac_Take.f k x0 (rd x102 x104) x2).bind fun bt408 => (if bt406.2 = 0 then (stipendtop_WholeParts.j5 k x0 x1 x2 x13 x14 x15 x104 bt406.1 bt408.1 x102 x103 x104 (bt408.2 != 0)) else (stipendtop_WholeParts.j5 k x0 x1 x2 x13 x14 x15 x104 bt406.1 bt408.1 x102 x103 x104 true)))) else (none)) else (none)) else ((frac_Of.f k x0).bind fun bt401 => ((money_Sum.f k x15).bind fun bt403 => (if bt401.2 = 0 then (if bt403.2 = 0 then (if x13 = bt401.1 then (if bt403.1 = x0 then (if (wrap64 (x14 - x0)) < (x1.length : Int) then (some (decide ((wrap64 (x0 - x14)) < (x1.length : Int)))) else (some false)) else (some false)) else (some false)) else (some false)) else (some false))))
def stipendtop_WholeParts.j5 : Nat → Int → List Int → Int → Int → Int → List Int → Int → Int → Int → List Int → Int → Int → Bool → Option (Bool)
 | 0, _, _, _, _, _, _, _, _, _, _, _, _, _ => none
 | k + 1, x0, x1, x2, x13, x14, x15, x17, x19, x21, x102, x103, x104, x127 => if x127 = true then (some false) else (if 0 ≤ x17 then (if x17 < (x15.length : Int) then (if (wrap64 ((rd x15 x17) - x21)) > 1 then (some false) else (if (wrap64 ((rd x15 x17) - x21)) < (-1) then (some false) else (stipendtop_WholeParts.l1 k x0 x1 x2 (wrap64 (x13 + x19)) (wrap64 (x14 + x21)) x15 x102 x103 (wrap64 (x104 + 1))))) else (none)) else (none))
end
def stipendtop_WholeParts.f (k : Nat) (a0 : Int) (l1 : List Int) (a2 : Int) : Option (Bool) := (frac_Take.f k 200 5000 4).bind fun bt386 => (if bt386.1 = 100 then (if bt386.2 = 0 then ((money_Text.f bt386.1).bind fun t388 => (stipendtop_WholeParts.j0 k a0 l1 a2 (t388.toList != ([49, 46, 48, 48] : List UInt8)))) else (stipendtop_WholeParts.j0 k a0 l1 a2 true)) else (stipendtop_WholeParts.j0 k a0 l1 a2 true))
theorem stipendtop_WholeParts.mono_l : ∀ k, (∀ y0 y1 y2 y3, LeO (stipendtop_WholeParts.j0 k y0 y1 y2 y3) (stipendtop_WholeParts.j0 (k + 1) y0 y1 y2 y3)) ∧ (∀ y0 y1 y2 y3, LeO (stipendtop_WholeParts.j1 k y0 y1 y2 y3) (stipendtop_WholeParts.j1 (k + 1) y0 y1 y2 y3)) ∧ (∀ y0 y1 y2 y3 y4 y5 y6 y7, LeO (stipendtop_WholeParts.l0 k y0 y1 y2 y3 y4 y5 y6 y7) (stipendtop_WholeParts.l0 (k + 1) y0 y1 y2 y3 y4 y5 y6 y7)) ∧ (∀ y0 y1 y2 y3 y4 y5 y6, LeO (stipendtop_WholeParts.j3 k y0 y1 y2 y3 y4 y5 y6) (stipendtop_WholeParts.j3 (k + 1) y0 y1 y2 y3 y4 y5 y6)) ∧ (∀ y0 y1 y2 y3 y4 y5 y6 y7 y8, LeO (stipendtop_WholeParts.l1 k y0 y1 y2 y3 y4 y5 y6 y7 y8) (stipendtop_WholeParts.l1 (k + 1) y0 y1 y2 y3 y4 y5 y6 y7 y8)) ∧ (∀ y0 y1 y2 y3 y4 y5 y6 y7 y8 y9 y10 y11 y12, LeO (stipendtop_WholeParts.j5 k y0 y1 y2 y3 y4 y5 y6 y7 y8 y9 y10 y11 y12) (stipendtop_WholeParts.j5 (k + 1) y0 y1 y2 y3 y4 y5 y6 y7 y8 y9 y10 y11 y12))
 | 0 => ⟨fun _ _ _ _ r h => by simp [stipendtop_WholeParts.j0] at h, fun _ _ _ _ r h => by simp [stipendtop_WholeParts.j1] at h, fun _ _ _ _ _ _ _ _ r h => by simp [stipendtop_WholeParts.l0] at h, fun _ _ _ _ _ _ _ r h => by simp [stipendtop_WholeParts.j3] at h, fun _ _ _ _ _ _ _ _ _ r h => by simp [stipendtop_WholeParts.l1] at h, fun _ _ _ _ _ _ _ _ _ _ _ _ _ r h => by simp [stipendtop_WholeParts.j5] at h⟩
 | k + 1 => by
  obtain ⟨ih0, ih1, ih2, ih3, ih4, ih5⟩ := stipendtop_WholeParts.mono_l k
  refine ⟨?_, ?_, ?_, ?_, ?_, ?_⟩
  ·intro y0 y1 y2 y3
   unfold stipendtop_WholeParts.j0
   repeat' first
   | (with_reducible exact ih0 _ _ _ _)
   | (with_reducible exact ih1 _ _ _ _)
   | (with_reducible exact ih2 _ _ _ _ _ _ _ _)
   | (with_reducible exact ih3 _ _ _ _ _ _ _)
   | (with_reducible exact ih4 _ _ _ _ _ _ _ _ _)
   | (with_reducible exact ih5 _ _ _ _ _ _ _ _ _ _ _ _ _)
   | (with_reducible exact frac_Of.mono _ _)
   | (with_reducible exact frac_Part.mono _ _ _)
   | (with_reducible exact frac_Take.mono _ _ _ _)
   | (with_reducible exact money_Spread.mono _ _ _)
   | (with_reducible exact money_Sum.mono _ _)
   | (with_reducible exact stipendtop_right.mono _ _)
   | (with_reducible exact LeO.refl _)
   | (with_reducible exact LeO.none _)
   | (with_reducible refine LeO.ite ?_ ?_)
   | (with_reducible refine LeO.bind ?_ (fun _ => ?_))
   | exact ih0 _ _ _ _
   | exact ih1 _ _ _ _
   | exact ih2 _ _ _ _ _ _ _ _
   | exact ih3 _ _ _ _ _ _ _
   | exact ih4 _ _ _ _ _ _ _ _ _
   | exact ih5 _ _ _ _ _ _ _ _ _ _ _ _ _
   | exact frac_Of.mono _ _
   | exact frac_Part.mono _ _ _
   | exact frac_Take.mono _ _ _ _
   | exact money_Spread.mono _ _ _
   | exact money_Sum.mono _ _
   | exact stipendtop_right.mono _ _
   | exact LeO.none _
   | refine LeO.ite ?_ ?_
   | refine LeO.bind ?_ (fun _ => ?_)
  ·intro y0 y1 y2 y3
   unfold stipendtop_WholeParts.j1
   repeat' first
   | (with_reducible exact ih0 _ _ _ _)
   | (with_reducible exact ih1 _ _ _ _)
   | (with_reducible exact ih2 _ _ _ _ _ _ _ _)
   | (with_reducible exact ih3 _ _ _ _ _ _ _)
   | (with_reducible exact ih4 _ _ _ _ _ _ _ _ _)
   | (with_reducible exact ih5 _ _ _ _ _ _ _ _ _ _ _ _ _)
   | (with_reducible exact frac_Of.mono _ _)
   | (with_reducible exact frac_Part.mono _ _ _)
   | (with_reducible exact frac_Take.mono _ _ _ _)
   | (with_reducible exact money_Spread.mono _ _ _)
   | (with_reducible exact money_Sum.mono _ _)
   | (with_reducible exact stipendtop_right.mono _ _)
   | (with_reducible exact LeO.refl _)
   | (with_reducible exact LeO.none _)
   | (with_reducible refine LeO.ite ?_ ?_)
   | (with_reducible refine LeO.bind ?_ (fun _ => ?_))
   | exact ih0 _ _ _ _
   | exact ih1 _ _ _ _
   | exact ih2 _ _ _ _ _ _ _ _
   | exact ih3 _ _ _ _ _ _ _
   | exact ih4 _ _ _ _ _ _ _ _ _
   | exact ih5 _ _ _ _ _ _ _ _ _ _ _ _ _
   | exact frac_Of.mono _ _
   | exact frac_Part.mono _ _ _
   | exact frac_Take.mono _ _ _ _
   | exact money_Spread.mono _ _ _
   | exact money_Sum.mono _ _
   | exact stipendtop_right.mono _ _
   | exact LeO.none _
   | refine LeO.ite ?_ ?_
   | refine LeO.bind ?_ (fun _ => ?_)
  ·intro y0 y1 y2 y3 y4 y5 y6 y7
   unfold stipendtop_WholeParts.l0
   repeat' first
   | (with_reducible exact ih0 _ _ _ _)
   | (with_reducible exact ih1 _ _ _ _)
   | (with_reducible exact ih2 _ _ _ _ _ _ _ _)
   | (with_reducible exact ih3 _ _ _ _ _ _ _)
   | (with_reducible exact ih4 _ _ _ _ _ _ _ _ _)
   | (with_reducible exact ih5 _ _ _ _ _ _ _ _ _ _ _ _ _)
   | (with_reducible exact frac_Of.mono _ _)
   | (with_reducible exact frac_Part.mono _ _ _)
   | (with_reducible exact frac_Take.mono _ _ _ _)
   | (with_reducible exact money_Spread.mono _ _ _)
   | (with_reducible exact money_Sum.mono _ _)
   | (with_reducible exact stipendtop_right.mono _ _)
   | (with_reducible exact LeO.refl _)
   | (with_reducible exact LeO.none _)
   | (with_reducible refine LeO.ite ?_ ?_)
   | (with_reducible refine LeO.bind ?_ (fun _ => ?_))
   | exact ih0 _ _ _ _
   | exact ih1 _ _ _ _
   | exact ih2 _ _ _ _ _ _ _ _
   | exact ih3 _ _ _ _ _ _ _
   | exact ih4 _ _ _ _ _ _ _ _ _
   | exact ih5 _ _ _ _ _ _ _ _ _ _ _ _ _
   | exact frac_Of.mono _ _
   | exact frac_Part.mono _ _ _
   | exact frac_Take.mono _ _ _ _
   | exact money_Spread.mono _ _ _
   | exact money_Sum.mono _ _
   | exact stipendtop_right.mono _ _
   | exact LeO.none _
   | refine LeO.ite ?_ ?_
   | refine LeO.bind ?_ (fun _ => ?_)
  ·intro y0 y1 y2 y3 y4 y5 y6
   unfold stipendtop_WholeParts.j3
   repeat' first
   | (with_reducible exact ih0 _ _ _ _)
   | (with_reducible exact ih1 _ _ _ _)
   | (with_reducible exact ih2 _ _ _ _ _ _ _ _)
   | (with_reducible exact ih3 _ _ _ _ _ _ _)
   | (with_reducible exact ih4 _ _ _ _ _ _ _ _ _)
   | (with_reducible exact ih5 _ _ _ _ _ _ _ _ _ _ _ _ _)
   | (with_reducible exact frac_Of.mono _ _)
   | (with_reducible exact frac_Part.mono _ _ _)
   | (with_reducible exact frac_Take.mono _ _ _ _)
   | (with_reducible exact money_Spread.mono _ _ _)
   | (with_reducible exact money_Sum.mono _ _)
   | (with_reducible exact stipendtop_right.mono _ _)
   | (with_reducible exact LeO.refl _)
   | (with_reducible exact LeO.none _)
   | (with_reducible refine LeO.ite ?_ ?_)
   | (with_reducible refine LeO.bind ?_ (fun _ => ?_))
   | exact ih0 _ _ _ _
   | exact ih1 _ _ _ _
   | exact ih2 _ _ _ _ _ _ _ _
   | exact ih3 _ _ _ _ _ _ _
   | exact ih4 _ _ _ _ _ _ _ _ _
   | exact ih5 _ _ _ _ _ _ _ _ _ _ _ _ _
   | exact frac_Of.mono _ _
   | exact frac_Part.mono _ _ _
   | exact frac_Take.mono _ _ _ _
   | exact money_Spread.mono _ _ _
   | exact money_Sum.mono _ _
   | exact stipendtop_right.mono _ _
   | exact LeO.none _
   | refine LeO.ite ?_ ?_
   | refine LeO.bind ?_ (fun _ => ?_)
  ·intro y0 y1 y2 y3 y4 y5 y6 y7 y8
   unfold stipendtop_WholeParts.l1
   repeat' first
   | (with_reducible exact ih0 _ _ _ _)
   | (with_reducible exact ih1 _ _ _ _)
   | (with_reducible exact ih2 _ _ _ _ _ _ _ _)
   | (with_reducible exact ih3 _ _ _ _ _ _ _)
   | (with_reducible exact ih4 _ _ _ _ _ _ _ _ _)
   | (with_reducible exact ih5 _ _ _ _ _ _ _ _ _ _ _ _ _)
   | (with_reducible exact frac_Of.mono _ _)
   | (with_reducible exact frac_Part.mono _ _ _)
   | (with_reducible exact frac_Take.mono _ _ _ _)
   | (with_reducible exact money_Spread.mono _ _ _)
   | (with_reducible exact money_Sum.mono _ _)
   | (with_reducible exact stipendtop_right.mono _ _)
   | (with_reducible exact LeO.refl _)
   | (with_reducible exact LeO.none _)
   | (with_reducible refine LeO.ite ?_ ?_)
   | (with_reducible refine LeO.bind ?_ (fun _ => ?_))
   | exact ih0 _ _ _ _
   | exact ih1 _ _ _ _
   | exact ih2 _ _ _ _ _ _ _ _
   | exact ih3 _ _ _ _ _ _ _
   | exact ih4 _ _ _ _ _ _ _ _ _
   | exact ih5 _ _ _ _ _ _ _ _ _ _ _ _ _
   | exact frac_Of.mono _ _
   | exact frac_Part.mono _ _ _
   | exact frac_Take.mono _ _ _ _
   | exact money_Spread.mono _ _ _
   | exact money_Sum.mono _ _
   | exact stipendtop_right.mono _ _
   | exact LeO.none _
   | refine LeO.ite ?_ ?_
   | refine LeO.bind ?_ (fun _ => ?_)
  ·intro y0 y1 y2 y3 y4 y5 y6 y7 y8 y9 y10 y11 y12
   unfold stipendtop_WholeParts.j5
   repeat' first
   | (with_reducible exact ih0 _ _ _ _)
   | (with_reducible exact ih1 _ _ _ _)
   | (with_reducible exact ih2 _ _ _ _ _ _ _ _)
   | (with_reducible exact ih3 _ _ _ _ _ _ _)
   | (with_reducible exact ih4 _ _ _ _ _ _ _ _ _)
   | (with_reducible exact ih5 _ _ _ _ _ _ _ _ _ _ _ _ _)
   | (with_reducible exact frac_Of.mono _ _)
   | (with_reducible exact frac_Part.mono _ _ _)
   | (with_reducible exact frac_Take.mono _ _ _ _)
   | (with_reducible exact money_Spread.mono _ _ _)
   | (with_reducible exact money_Sum.mono _ _)
   | (with_reducible exact stipendtop_right.mono _ _)
   | (with_reducible exact LeO.refl _)
   | (with_reducible exact LeO.none _)
   | (with_reducible refine LeO.ite ?_ ?_)
   | (with_reducible refine LeO.bind ?_ (fun _ => ?_))
   | exact ih0 _ _ _ _
   | exact ih1 _ _ _ _
   | exact ih2 _ _ _ _ _ _ _ _
   | exact ih3 _ _ _ _ _ _ _
   | exact ih4 _ _ _ _ _ _ _ _ _
   | exact ih5 _ _ _ _ _ _ _ _ _ _ _ _ _
   | exact frac_Of.mono _ _
   | exact frac_Part.mono _ _ _
   | exact frac_Take.mono _ _ _ _
   | exact money_Spread.mono _ _ _
   | exact money_Sum.mono _ _
   | exact stipendtop_right.mono _ _
   | exact LeO.none _
   | refine LeO.ite ?_ ?_
   | refine LeO.bind ?_ (fun _ => ?_)
theorem stipendtop_WholeParts.mono : ∀ a0 a1 a2 k, LeO (stipendtop_WholeParts.f k a0 a1 a2) (stipendtop_WholeParts.f (k + 1) a0 a1 a2) := by
 intro a0 a1 a2 k
 obtain ⟨ih0, ih1, ih2, ih3, ih4, ih5⟩ := stipendtop_WholeParts.mono_l k
 unfold stipendtop_WholeParts.f
 repeat' first
   | (with_reducible exact ih0 _ _ _ _)
   | (with_reducible exact ih1 _ _ _ _)
   | (with_reducible exact ih2 _ _ _ _ _ _ _ _)
   | (with_reducible exact ih3 _ _ _ _ _ _ _)
   | (with_reducible exact ih4 _ _ _ _ _ _ _ _ _)
   | (with_reducible exact ih5 _ _ _ _ _ _ _ _ _ _ _ _ _)
   | (with_reducible exact frac_Of.mono _ _)
   | (with_reducible exact frac_Part.mono _ _ _)
   | (with_reducible exact frac_Take.mono _ _ _ _)
   | (with_reducible exact money_Spread.mono _ _ _)
   | (with_reducible exact money_Sum.mono _ _)
   | (with_reducible exact stipendtop_right.mono _ _)
   | (with_reducible exact LeO.refl _)
   | (with_reducible exact LeO.none _)
   | (with_reducible refine LeO.ite ?_ ?_)
   | (with_reducible refine LeO.bind ?_ (fun _ => ?_))
   | exact ih0 _ _ _ _
   | exact ih1 _ _ _ _
   | exact ih2 _ _ _ _ _ _ _ _
   | exact ih3 _ _ _ _ _ _ _
   | exact ih4 _ _ _ _ _ _ _ _ _
   | exact ih5 _ _ _ _ _ _ _ _ _ _ _ _ _
   | exact frac_Of.mono _ _
   | exact frac_Part.mono _ _ _
   | exact frac_Take.mono _ _ _ _
   | exact money_Spread.mono _ _ _
   | exact money_Sum.mono _ _
   | exact stipendtop_right.mono _ _
   | exact LeO.none _
   | refine LeO.ite ?_ ?_
   | refine LeO.bind ?_ (fun _ => ?_)
set_option maxHeartbeats 8000000 in
set_option maxRecDepth 100000 in
theorem stipendtop_WholeParts.calls (k : Nat) (a0 : Int) (A1 : Option Addr) (c1 : Nat) (l1 : List Int) (a2 : Int) (r : Bool) (w : World) (hr1 : Kd.C (Kd.int .i64) w A1 l1.length l1) (hc1 : l1.length ≤ c1) (h : stipendtop_WholeParts.f k a0 l1 a2 = some r) (hG : GTab w := by first | exact GTab.below HG.out (by repeat (first | (with_reducible first | exact HB.out | apply below_alloc | apply pw_below_drewN | apply below_drew1 | apply below_drew) | exact HB.out)) | exact HG.out) :
  Calls Tryd.prog 7 #[.int .i64 a0, .slice A1 l1.length c1, .int .i64 a2] w fun e w' => e = .returned (.bool r) ∧ Below w.heap.size w w' := by
 have HG := Aside0.mk hG; clear hG
 have HR1 := Aside0.mk hr1
 have HC1 := Aside0.mk hc1
 clear hr1 hc1
 have HB := Aside0.mk (Below.refl w.heap.size w)
 have H : ((frac_Take.f k 200 5000 4).bind fun bt386 => (if bt386.1 = 100 then (if bt386.2 = 0 then ((money_Text.f bt386.1).bind fun t388 => (stipendtop_WholeParts.j0 k a0 l1 a2 (t388.toList != ([49, 46, 48, 48] : List UInt8)))) else (stipendtop_WholeParts.j0 k a0 l1 a2 true)) else (stipendtop_WholeParts.j0 k a0 l1 a2 true))) = some r := h
 clear h
 replace H := Option.bind_eq_some_iff.mp H
 obtain ⟨⟨t386, t387⟩, A40, H⟩ := H
 replace H : (if t386 = 100 then (if t387 = 0 then ((money_Text.f t386).bind fun t388 => (stipendtop_WholeParts.j0 k a0 l1 a2 (t388.toList != ([49, 46, 48, 48] : List UInt8)))) else (stipendtop_WholeParts.j0 k a0 l1 a2 true)) else (stipendtop_WholeParts.j0 k a0 l1 a2 true)) = some r := H
 have A4 := Aside0.mk A40
 clear A40
 have HC5 := Aside0.mk H
 clear H
 go_enter Tryd.func7, Tryd.ntmps7
 go_upto_region 2 with (first | ((with_reducible refine gate_callee (f := 38) rfl ?_); refine goesL_ (some 29) rfl rfl Tryd.func38 (by kernel_rfl) rfl #[.int .i64 200, .int .i64 5000, .int .i64 4] rfl (by (try simp only [List.map_toArray, List.map_cons, List.map_nil]); first | done | rfl | (simp only [List.length_drop, List.length_take]; rfl)) ?_; (with_reducible refine (frac_Take.calls k 200 5000 4 t386 t387 _ A4.out).mono ?_); rintro e w6 ⟨rfl, hb⟩; refine ⟨_, rfl, ?_⟩; have n0_ := Aside0.mk (below_step (by repeat (first | (with_reducible first | exact HB.out | apply below_alloc | apply pw_below_drewN | apply below_drew1) | exact HB.out)) hb); clear HB; have HB := n0_; clear n0_; (try clear hb); (try clear hb2); (try clear hk); (try clear hi)))
 (try simp only [Act.put, List.setIfInBounds_toArray, List.set_cons_zero, List.set_cons_succ])
 go_cut [42] (fun v42 wc => ∃ (kq : Nat) (x42_4 : Bool), v42 = .bool x42_4 ∧ Aside0 (stipendtop_WholeParts.j0 kq a0 l1 a2 x42_4 = some r) ∧ Aside0 (kq ≤ k) ∧ Aside0 (Below w.heap.size w wc))
 case first =>
  have H := HC5.out
  clear HC5
  by_cases c7 : t386 = 100
  ·rw [if_pos c7] at H
   have c7b0 : (t386 == 100) = true := beq_iff_eq.mpr c7
   have c7b1 : (t386 != 100) = false := bne_eq_false_iff_eq.mpr c7
   clear c7
   (first | rw [c7b0] | (simp only [i64_w, i32_w]; rw [c7b0]) | skip)
   by_cases c8 : t387 = 0
   ·rw [if_pos c8] at H
    have c8b0 : (t387 == 0) = true := beq_iff_eq.mpr c8
    have c8b1 : (t387 != 0) = false := bne_eq_false_iff_eq.mpr c8
    clear c8
    replace H := Option.bind_eq_some_iff.mp H
    obtain ⟨t388, A90, H⟩ := H
    replace H : (stipendtop_WholeParts.j0 k a0 l1 a2 (t388.toList != ([49, 46, 48, 48] : List UInt8))) = some r := H
    have A9 := Aside0.mk A90
    clear A90
    have H' := Aside0.mk H
    clear H
    go_wp2_with (first | (go_at_call 39; (with_reducible refine (money_Text.calls t386 t388 _ A9.out).mono ?_); rintro e w10 ⟨rfl, hb⟩; have n0_ := Aside0.mk (below_step (by repeat (first | (with_reducible first | exact HB.out | apply below_alloc | apply pw_below_drewN | apply below_drew1) | exact HB.out)) hb); clear HB; have HB := n0_; clear n0_; (try clear hb); (try clear hb2); (try clear hk); (try clear hi)))
    go_meet
    case rel => exact ⟨_, ((t388.toList != ([49, 46, 48, 48] : List UInt8))), (by first | rfl | (simp; done) | (simp [*]; done)), H', ⟨by first | omega | exact Nat.le_refl _⟩, ⟨by repeat (first | (with_reducible first | exact HB.out | apply below_alloc | apply pw_below_drewN | apply below_drew1) | exact HB.out)⟩⟩
   ·rw [if_neg c8] at H
    have c8b0 : (t387 == 0) = false := beq_eq_false_iff_ne.mpr c8
    have c8b1 : (t387 != 0) = true := bne_iff_ne.mpr c8
    have H' := Aside0.mk H
    clear H
    go_wp2
    go_meet
    case rel => exact ⟨_, (true), (by first | rfl | (simp; done) | (simp [*]; done)), H', ⟨by first | omega | exact Nat.le_refl _⟩, ⟨by repeat (first | (with_reducible first | exact HB.out | apply below_alloc | apply pw_below_drewN | apply below_drew1) | exact HB.out)⟩⟩
  ·rw [if_neg c7] at H
   have c7b0 : (t386 == 100) = false := beq_eq_false_iff_ne.mpr c7
   have c7b1 : (t386 != 100) = true := bne_iff_ne.mpr c7
   (first | rw [c7b0] | (simp only [i64_w, i32_w]; rw [c7b0]) | skip)
   have H' := Aside0.mk H
   clear H
   go_wp2
   go_meet
   case rel => exact ⟨_, (true), (by first | rfl | (simp; done) | (simp [*]; done)), H', ⟨by first | omega | exact Nat.le_refl _⟩, ⟨by repeat (first | (with_reducible first | exact HB.out | apply below_alloc | apply pw_below_drewN | apply below_drew1) | exact HB.out)⟩⟩
 case rest =>
  clear HC5
  try clear c1
  try clear p2
  try clear c3
  try clear c7
  try clear c7b0
  try clear c7b1
  try clear c8
  try clear c8b0
  try clear c8b1
  obtain ⟨kq, x42_4, rfl, HA, HJ4, HB⟩ := hcut
  cases kq with
  | zero => exact absurd HA.out (by simp [stipendtop_WholeParts.j0])
  | succ kj4 =>
   have H := HA.out
   clear HA
   simp only [stipendtop_WholeParts.j0] at H
   by_cases c11 : x42_4 = true
   ·subst c11
    have H1 : (some false) = some r := by rw [if_pos rfl] at H; exact H
    clear H
    have H := H1
    clear H1
    obtain rfl := Option.some.inj H
    go_wp2
    go_ret
    exact ⟨by first | rfl | (simp [errW_none, errW_some] <;> rfl) | (simp [*, errW_none, errW_some] <;> rfl), by repeat (first | (with_reducible first | exact HB.out | apply below_alloc | apply pw_below_drewN | apply below_drew1) | exact HB.out)⟩
   ·replace c11 := Bool.eq_false_iff.mpr c11
    subst c11
    have H1 : ((stipendtop_right.f kj4 (([a0] : List Int))).bind fun t392 => (if t392 = true then (if (l1.length : Int) = 0 then (stipendtop_WholeParts.j1 kj4 a0 l1 a2 true) else (if (l1.length : Int) > 30 then (stipendtop_WholeParts.j1 kj4 a0 l1 a2 true) else (if a2 < 1 then (stipendtop_WholeParts.j1 kj4 a0 l1 a2 true) else (stipendtop_WholeParts.j1 kj4 a0 l1 a2 (decide (a2 > 6)))))) else (stipendtop_WholeParts.j1 kj4 a0 l1 a2 true))) = some r := by rw [if_neg (show ¬ (false = true) by decide)] at H; exact H
    clear H
    have H := H1
    clear H1
    have HC12 := Aside0.mk H
    clear H
    go_upto_region 4 with (fail)
    go_cut [64] (fun v64 wc => ∃ (kq : Nat) (x64_11 : Bool), v64 = .bool x64_11 ∧ Aside0 (stipendtop_WholeParts.j1 kq a0 l1 a2 x64_11 = some r) ∧ Aside0 (kq ≤ kj4) ∧ Aside0 (Below w.heap.size w wc))
    case first =>
     have H := HC12.out
     clear HC12
     obtain ⟨y389, hy389⟩ : ∃ y_ : List Int, y_ = (([a0] : List Int)) := ⟨_, rfl⟩
     replace H : ((stipendtop_right.f kj4 y389).bind fun t392 => (if t392 = true then (if (l1.length : Int) = 0 then (stipendtop_WholeParts.j1 kj4 a0 l1 a2 true) else (if (l1.length : Int) > 30 then (stipendtop_WholeParts.j1 kj4 a0 l1 a2 true) else (if a2 < 1 then (stipendtop_WholeParts.j1 kj4 a0 l1 a2 true) else (stipendtop_WholeParts.j1 kj4 a0 l1 a2 (decide (a2 > 6)))))) else (stipendtop_WholeParts.j1 kj4 a0 l1 a2 true))) = some r := by first | (rw [hy389]; with_reducible exact H) | (have H2_ := (Option.bind_some _ _).symm.trans H; rw [hy389]; with_reducible exact H2_) | (have H2_ := (Option.bind_some _ _).symm.trans H; with_reducible exact H2_) | with_reducible exact H | (rw [hy389]; exact H) | exact H
     have Ny389 := Aside0.mk hy389
     clear hy389
     replace H := Option.bind_eq_some_iff.mp H
     obtain ⟨t392, A130, H⟩ := H
     replace H : (if t392 = true then (if (l1.length : Int) = 0 then (stipendtop_WholeParts.j1 kj4 a0 l1 a2 true) else (if (l1.length : Int) > 30 then (stipendtop_WholeParts.j1 kj4 a0 l1 a2 true) else (if a2 < 1 then (stipendtop_WholeParts.j1 kj4 a0 l1 a2 true) else (stipendtop_WholeParts.j1 kj4 a0 l1 a2 (decide (a2 > 6)))))) else (stipendtop_WholeParts.j1 kj4 a0 l1 a2 true)) = some r := H
     have A13 := Aside0.mk A130
     clear A130
     by_cases c14 : t392 = true
     ·subst c14
      have H1 : (if (l1.length : Int) = 0 then (stipendtop_WholeParts.j1 kj4 a0 l1 a2 true) else (if (l1.length : Int) > 30 then (stipendtop_WholeParts.j1 kj4 a0 l1 a2 true) else (if a2 < 1 then (stipendtop_WholeParts.j1 kj4 a0 l1 a2 true) else (stipendtop_WholeParts.j1 kj4 a0 l1 a2 (decide (a2 > 6)))))) = some r := by rw [if_pos rfl] at H; exact H
      clear H
      have H := H1
      clear H1
      by_cases c15 : (l1.length : Int) = 0
      ·rw [if_pos c15] at H
       have c15b0 : ((l1.length : Int) == 0) = true := beq_iff_eq.mpr c15
       have c15b1 : ((l1.length : Int) != 0) = false := bne_eq_false_iff_eq.mpr c15
       clear c15
       (first | rw [c15b0] | (simp only [i64_w, i32_w]; rw [c15b0]) | skip)
       have H' := Aside0.mk H
       clear H
       go_wp2_with (first | ((with_reducible refine gate_dst (N := 44) rfl ?_); (try (refine gate_guard (by rfl) ?_; dsimp only)); refine Kd.R_lit (Kd.int .i64) _ 2 ?hg (N := 44) ?hd (xs := ([a0] : List Int)) (inner := [.int .i64 a0]) (ok := fun _ => True) (okp := fun _ => True) ?hr ?hp (fun _ hk => hk) trivial (Below.refl _ _) (Nat.le_refl _) (by simp) ?_; (case hd => rfl); (case hg => rfl); (case hr => first | (go_simp; done) | (go_simp; rfl)); (case hp => exact (Reps.one (show Kd.M (Kd.int .i64) _ _ _ a0 [.int .i64 a0] from rfl) (Reps.none _ _))); intro v390 w16 ho17 hb hg_ hnew_; clear hg_ hnew_; (first | rw [← Ny389.out] at ho17 | (simp only [Int.reduceToNat] at ho17; rw [← Ny389.out] at ho17)); have n0_ := Aside0.mk (Kd.R_lower ho17 (below_size (by repeat (first | (with_reducible first | exact HB.out | apply below_alloc | apply pw_below_drewN | apply below_drew1) | exact HB.out)))); have n1_ := Aside0.mk (below_step (by repeat (first | (with_reducible first | exact HB.out | apply below_alloc | apply pw_below_drewN | apply below_drew1) | exact HB.out)) hb); clear HB; have HO391 := n0_; have HB := n1_; clear n0_ n1_; clear hb ho17; obtain ⟨Ao18, co18, eo18⟩ := Kd.R_slice HO391.out; subst eo18) | ((with_reducible refine gate_callee (f := 40) rfl ?_); refine goesL_ (some 45) rfl rfl Tryd.func40 (by kernel_rfl) rfl #[.slice Ao18 y389.length co18] rfl (by (try simp only [List.map_toArray, List.map_cons, List.map_nil]); first | done | rfl | (simp only [List.length_drop, List.length_take]; rfl)) ?_; (with_reducible refine (stipendtop_right.calls kj4 _ _ y389 true _ ?side1 ?side2 A13.out).mono ?_); (case side1 => repeat (first | exact (Kd.R_reads' HO391.out).2.2 | (with_reducible refine Kd.C_alloc ?_ _) | (with_reducible refine Kd.C_drewN ?_ _) | (with_reducible refine Kd.C_drew ?_))); (case side2 => exact (Kd.R_reads' HO391.out).2.1); rintro e w' ⟨rfl, ⟨nd, rfl⟩⟩; refine ⟨_, rfl, ?_⟩))
       go_meet
       case rel => exact ⟨_, (true), (by first | rfl | (simp; done) | (simp [*]; done)), H', ⟨by have := HJ4.out; first | omega | exact Nat.le_refl _⟩, ⟨by repeat (first | (with_reducible first | exact HB.out | apply below_alloc | apply pw_below_drewN | apply below_drew1) | exact HB.out)⟩⟩
      ·rw [if_neg c15] at H
       have c15b0 : ((l1.length : Int) == 0) = false := beq_eq_false_iff_ne.mpr c15
       have c15b1 : ((l1.length : Int) != 0) = true := bne_iff_ne.mpr c15
       have c15b2 : ¬ (l1 = []) := fun h_ => c15 (by rw [h_]; rfl)
       (first | rw [c15b0] | (simp only [i64_w, i32_w]; rw [c15b0]) | skip)
       by_cases c19 : (l1.length : Int) > 30
       ·rw [if_pos c19] at H
        have c19b0 : decide (30 < (l1.length : Int)) = true := decide_eq_true c19
        have c19b1 : decide (30 < l1.length) = true := decide_eq_true (by omega)
        clear c19
        have H' := Aside0.mk H
        clear H
        go_wp2_with (first | ((with_reducible refine gate_dst (N := 44) rfl ?_); (try (refine gate_guard (by rfl) ?_; dsimp only)); refine Kd.R_lit (Kd.int .i64) _ 2 ?hg (N := 44) ?hd (xs := ([a0] : List Int)) (inner := [.int .i64 a0]) (ok := fun _ => True) (okp := fun _ => True) ?hr ?hp (fun _ hk => hk) trivial (Below.refl _ _) (Nat.le_refl _) (by simp) ?_; (case hd => rfl); (case hg => rfl); (case hr => first | (go_simp; done) | (go_simp; rfl)); (case hp => exact (Reps.one (show Kd.M (Kd.int .i64) _ _ _ a0 [.int .i64 a0] from rfl) (Reps.none _ _))); intro v390 w20 ho21 hb hg_ hnew_; clear hg_ hnew_; (first | rw [← Ny389.out] at ho21 | (simp only [Int.reduceToNat] at ho21; rw [← Ny389.out] at ho21)); have n0_ := Aside0.mk (Kd.R_lower ho21 (below_size (by repeat (first | (with_reducible first | exact HB.out | apply below_alloc | apply pw_below_drewN | apply below_drew1) | exact HB.out)))); have n1_ := Aside0.mk (below_step (by repeat (first | (with_reducible first | exact HB.out | apply below_alloc | apply pw_below_drewN | apply below_drew1) | exact HB.out)) hb); clear HB; have HO391 := n0_; have HB := n1_; clear n0_ n1_; clear hb ho21; obtain ⟨Ao22, co22, eo22⟩ := Kd.R_slice HO391.out; subst eo22) | ((with_reducible refine gate_callee (f := 40) rfl ?_); refine goesL_ (some 45) rfl rfl Tryd.func40 (by kernel_rfl) rfl #[.slice Ao22 y389.length co22] rfl (by (try simp only [List.map_toArray, List.map_cons, List.map_nil]); first | done | rfl | (simp only [List.length_drop, List.length_take]; rfl)) ?_; (with_reducible refine (stipendtop_right.calls kj4 _ _ y389 true _ ?side1 ?side2 A13.out).mono ?_); (case side1 => repeat (first | exact (Kd.R_reads' HO391.out).2.2 | (with_reducible refine Kd.C_alloc ?_ _) | (with_reducible refine Kd.C_drewN ?_ _) | (with_reducible refine Kd.C_drew ?_))); (case side2 => exact (Kd.R_reads' HO391.out).2.1); rintro e w' ⟨rfl, ⟨nd, rfl⟩⟩; refine ⟨_, rfl, ?_⟩))
        go_meet
        case rel => exact ⟨_, (true), (by first | rfl | (simp; done) | (simp [*]; done)), H', ⟨by have := HJ4.out; first | omega | exact Nat.le_refl _⟩, ⟨by repeat (first | (with_reducible first | exact HB.out | apply below_alloc | apply pw_below_drewN | apply below_drew1) | exact HB.out)⟩⟩
       ·rw [if_neg c19] at H
        have c19b0 : decide (30 < (l1.length : Int)) = false := decide_eq_false c19
        have c19b1 : decide (30 < l1.length) = false := decide_eq_false (by omega)
        clear c19
        by_cases c23 : a2 < 1
        ·rw [if_pos c23] at H
         have c23b0 : decide (a2 < 1) = true := decide_eq_true c23
         clear c23
         have H' := Aside0.mk H
         clear H
         go_wp2_with (first | ((with_reducible refine gate_dst (N := 44) rfl ?_); (try (refine gate_guard (by rfl) ?_; dsimp only)); refine Kd.R_lit (Kd.int .i64) _ 2 ?hg (N := 44) ?hd (xs := ([a0] : List Int)) (inner := [.int .i64 a0]) (ok := fun _ => True) (okp := fun _ => True) ?hr ?hp (fun _ hk => hk) trivial (Below.refl _ _) (Nat.le_refl _) (by simp) ?_; (case hd => rfl); (case hg => rfl); (case hr => first | (go_simp; done) | (go_simp; rfl)); (case hp => exact (Reps.one (show Kd.M (Kd.int .i64) _ _ _ a0 [.int .i64 a0] from rfl) (Reps.none _ _))); intro v390 w24 ho25 hb hg_ hnew_; clear hg_ hnew_; (first | rw [← Ny389.out] at ho25 | (simp only [Int.reduceToNat] at ho25; rw [← Ny389.out] at ho25)); have n0_ := Aside0.mk (Kd.R_lower ho25 (below_size (by repeat (first | (with_reducible first | exact HB.out | apply below_alloc | apply pw_below_drewN | apply below_drew1) | exact HB.out)))); have n1_ := Aside0.mk (below_step (by repeat (first | (with_reducible first | exact HB.out | apply below_alloc | apply pw_below_drewN | apply below_drew1) | exact HB.out)) hb); clear HB; have HO391 := n0_; have HB := n1_; clear n0_ n1_; clear hb ho25; obtain ⟨Ao26, co26, eo26⟩ := Kd.R_slice HO391.out; subst eo26) | ((with_reducible refine gate_callee (f := 40) rfl ?_); refine goesL_ (some 45) rfl rfl Tryd.func40 (by kernel_rfl) rfl #[.slice Ao26 y389.length co26] rfl (by (try simp only [List.map_toArray, List.map_cons, List.map_nil]); first | done | rfl | (simp only [List.length_drop, List.length_take]; rfl)) ?_; (with_reducible refine (stipendtop_right.calls kj4 _ _ y389 true _ ?side1 ?side2 A13.out).mono ?_); (case side1 => repeat (first | exact (Kd.R_reads' HO391.out).2.2 | (with_reducible refine Kd.C_alloc ?_ _) | (with_reducible refine Kd.C_drewN ?_ _) | (with_reducible refine Kd.C_drew ?_))); (case side2 => exact (Kd.R_reads' HO391.out).2.1); rintro e w' ⟨rfl, ⟨nd, rfl⟩⟩; refine ⟨_, rfl, ?_⟩))
         go_meet
         case rel => exact ⟨_, (true), (by first | rfl | (simp; done) | (simp [*]; done)), H', ⟨by have := HJ4.out; first | omega | exact Nat.le_refl _⟩, ⟨by repeat (first | (with_reducible first | exact HB.out | apply below_alloc | apply pw_below_drewN | apply below_drew1) | exact HB.out)⟩⟩
        ·rw [if_neg c23] at H
         have c23b0 : decide (a2 < 1) = false := decide_eq_false c23
         clear c23
         have H' := Aside0.mk H
         clear H
         go_wp2_with (first | ((with_reducible refine gate_dst (N := 44) rfl ?_); (try (refine gate_guard (by rfl) ?_; dsimp only)); refine Kd.R_lit (Kd.int .i64) _ 2 ?hg (N := 44) ?hd (xs := ([a0] : List Int)) (inner := [.int .i64 a0]) (ok := fun _ => True) (okp := fun _ => True) ?hr ?hp (fun _ hk => hk) trivial (Below.refl _ _) (Nat.le_refl _) (by simp) ?_; (case hd => rfl); (case hg => rfl); (case hr => first | (go_simp; done) | (go_simp; rfl)); (case hp => exact (Reps.one (show Kd.M (Kd.int .i64) _ _ _ a0 [.int .i64 a0] from rfl) (Reps.none _ _))); intro v390 w27 ho28 hb hg_ hnew_; clear hg_ hnew_; (first | rw [← Ny389.out] at ho28 | (simp only [Int.reduceToNat] at ho28; rw [← Ny389.out] at ho28)); have n0_ := Aside0.mk (Kd.R_lower ho28 (below_size (by repeat (first | (with_reducible first | exact HB.out | apply below_alloc | apply pw_below_drewN | apply below_drew1) | exact HB.out)))); have n1_ := Aside0.mk (below_step (by repeat (first | (with_reducible first | exact HB.out | apply below_alloc | apply pw_below_drewN | apply below_drew1) | exact HB.out)) hb); clear HB; have HO391 := n0_; have HB := n1_; clear n0_ n1_; clear hb ho28; obtain ⟨Ao29, co29, eo29⟩ := Kd.R_slice HO391.out; subst eo29) | ((with_reducible refine gate_callee (f := 40) rfl ?_); refine goesL_ (some 45) rfl rfl Tryd.func40 (by kernel_rfl) rfl #[.slice Ao29 y389.length co29] rfl (by (try simp only [List.map_toArray, List.map_cons, List.map_nil]); first | done | rfl | (simp only [List.length_drop, List.length_take]; rfl)) ?_; (with_reducible refine (stipendtop_right.calls kj4 _ _ y389 true _ ?side1 ?side2 A13.out).mono ?_); (case side1 => repeat (first | exact (Kd.R_reads' HO391.out).2.2 | (with_reducible refine Kd.C_alloc ?_ _) | (with_reducible refine Kd.C_drewN ?_ _) | (with_reducible refine Kd.C_drew ?_))); (case side2 => exact (Kd.R_reads' HO391.out).2.1); rintro e w' ⟨rfl, ⟨nd, rfl⟩⟩; refine ⟨_, rfl, ?_⟩))
         go_meet
         case rel => exact ⟨_, (decide (a2 > 6)), (by first | rfl | (simp; done) | (simp [*]; done)), H', ⟨by have := HJ4.out; first | omega | exact Nat.le_refl _⟩, ⟨by repeat (first | (with_reducible first | exact HB.out | apply below_alloc | apply pw_below_drewN | apply below_drew1) | exact HB.out)⟩⟩
     ·replace c14 := Bool.eq_false_iff.mpr c14
      subst c14
      have H1 : (stipendtop_WholeParts.j1 kj4 a0 l1 a2 true) = some r := by rw [if_neg (show ¬ (false = true) by decide)] at H; exact H
      clear H
      have H := H1
      clear H1
      have H' := Aside0.mk H
      clear H
      go_wp2_with (first | ((with_reducible refine gate_dst (N := 44) rfl ?_); (try (refine gate_guard (by rfl) ?_; dsimp only)); refine Kd.R_lit (Kd.int .i64) _ 2 ?hg (N := 44) ?hd (xs := ([a0] : List Int)) (inner := [.int .i64 a0]) (ok := fun _ => True) (okp := fun _ => True) ?hr ?hp (fun _ hk => hk) trivial (Below.refl _ _) (Nat.le_refl _) (by simp) ?_; (case hd => rfl); (case hg => rfl); (case hr => first | (go_simp; done) | (go_simp; rfl)); (case hp => exact (Reps.one (show Kd.M (Kd.int .i64) _ _ _ a0 [.int .i64 a0] from rfl) (Reps.none _ _))); intro v390 w30 ho31 hb hg_ hnew_; clear hg_ hnew_; (first | rw [← Ny389.out] at ho31 | (simp only [Int.reduceToNat] at ho31; rw [← Ny389.out] at ho31)); have n0_ := Aside0.mk (Kd.R_lower ho31 (below_size (by repeat (first | (with_reducible first | exact HB.out | apply below_alloc | apply pw_below_drewN | apply below_drew1) | exact HB.out)))); have n1_ := Aside0.mk (below_step (by repeat (first | (with_reducible first | exact HB.out | apply below_alloc | apply pw_below_drewN | apply below_drew1) | exact HB.out)) hb); clear HB; have HO391 := n0_; have HB := n1_; clear n0_ n1_; clear hb ho31; obtain ⟨Ao32, co32, eo32⟩ := Kd.R_slice HO391.out; subst eo32) | ((with_reducible refine gate_callee (f := 40) rfl ?_); refine goesL_ (some 45) rfl rfl Tryd.func40 (by kernel_rfl) rfl #[.slice Ao32 y389.length co32] rfl (by (try simp only [List.map_toArray, List.map_cons, List.map_nil]); first | done | rfl | (simp only [List.length_drop, List.length_take]; rfl)) ?_; (with_reducible refine (stipendtop_right.calls kj4 _ _ y389 false _ ?side1 ?side2 A13.out).mono ?_); (case side1 => repeat (first | exact (Kd.R_reads' HO391.out).2.2 | (with_reducible refine Kd.C_alloc ?_ _) | (with_reducible refine Kd.C_drewN ?_ _) | (with_reducible refine Kd.C_drew ?_))); (case side2 => exact (Kd.R_reads' HO391.out).2.1); rintro e w' ⟨rfl, ⟨nd, rfl⟩⟩; refine ⟨_, rfl, ?_⟩))
      go_meet
      case rel => exact ⟨_, (true), (by first | rfl | (simp; done) | (simp [*]; done)), H', ⟨by have := HJ4.out; first | omega | exact Nat.le_refl _⟩, ⟨by repeat (first | (with_reducible first | exact HB.out | apply below_alloc | apply pw_below_drewN | apply below_drew1) | exact HB.out)⟩⟩
    case rest =>
     clear HC12
     try clear c1
     try clear c2
     try clear p2
     try clear c3
     try clear c4
     try clear c7
     try clear c7b0
     try clear c7b1
     try clear c8
     try clear c8b0
     try clear c8b1
     try clear c11
     try clear c14
     try clear c15
     try clear c15b0
     try clear c15b1
     try clear c15b2
     try clear c19
     try clear c19b0
     try clear c19b1
     try clear c23
     try clear c23b0
     try clear p2
     obtain ⟨kq, x64_11, rfl, HA, HJ11, HB⟩ := hcut
     cases kq with
     | zero => exact absurd HA.out (by simp [stipendtop_WholeParts.j1])
     | succ kj11 =>
      have H := HA.out
      clear HA
      simp only [stipendtop_WholeParts.j1] at H
      by_cases c33 : x64_11 = true
      ·subst c33
       have H1 : (some true) = some r := by rw [if_pos rfl] at H; exact H
       clear H
       have H := H1
       clear H1
       obtain rfl := Option.some.inj H
       go_wp2
       go_ret
       exact ⟨by first | rfl | (simp [errW_none, errW_some] <;> rfl) | (simp [*, errW_none, errW_some] <;> rfl), by repeat (first | (with_reducible first | exact HB.out | apply below_alloc | apply pw_below_drewN | apply below_drew1) | exact HB.out)⟩
      ·replace c33 := Bool.eq_false_iff.mpr c33
       subst c33
       have H1 : (stipendtop_WholeParts.l0 kj11 a0 l1 a2 0 ([] : List Int) l1 (l1.length : Int) 0) = some r := by rw [if_neg (show ¬ (false = true) by decide)] at H; exact H
       clear H
       have H := H1
       clear H1
       have H' := Aside0.mk H
       clear H
       go_wp2
       go_loopg [9, 10, 67] kj11 (fun kq v9 v10 v67 w' => ∃ (x9_3 : Int) (x10_3 : List Int) (x67_3 : Int), v9 = .int .i64 x9_3 ∧ v67 = .int .i64 x67_3 ∧ Aside0 (stipendtop_WholeParts.l0 kq a0 l1 a2 x9_3 x10_3 l1 (l1.length : Int) x67_3 = some r) ∧ Aside0 (kq ≤ kj11) ∧ Aside0 (Kd.R (Kd.int .i64) 2 w' w.heap.size (fun _ => True) v10 x10_3) ∧ Aside0 (Below w.heap.size w w'))
       case atStart => exact ⟨(0), (([] : List Int)), (0), (by first | rfl | (simp; done) | (simp [*]; done)), (by first | rfl | (simp; done) | (simp [*]; done)), H', ⟨Nat.le_refl _⟩, ⟨by first | exact Kd.R_nil _ _ _ _ _ | exact Kd.N_nil _ _ _ _ _ | exact Kd.V_nil _ _ _ _ _ | exact Kd.Q_nil _ _ _ _ _ | exact Kd.S_nil _ _ _ _ _⟩, ⟨by repeat (first | (with_reducible first | exact HB.out | apply below_alloc | apply pw_below_drewN | apply below_drew1) | exact HB.out)⟩⟩
       case round =>
        clear H'
        try clear c1
        try clear c2
        try clear p2
        try clear c3
        try clear c4
        try clear c7
        try clear c7b0
        try clear c7b1
        try clear c8
        try clear c8b0
        try clear c8b1
        try clear c11
        try clear c14
        try clear c15
        try clear c15b0
        try clear c15b1
        try clear c15b2
        try clear c19
        try clear c19b0
        try clear c19b1
        try clear c23
        try clear c23b0
        try clear c33
        try clear p2
        obtain ⟨x9_3, x10_3, x67_3, rfl, rfl, HA, HK3, HO_10, HB⟩ := hrel
        cases gk with
        | zero => exact absurd HA.out (by simp [stipendtop_WholeParts.l0])
        | succ k3 =>
         have H := HA.out
         clear HA
         simp only [stipendtop_WholeParts.l0] at H
         by_cases c34 : x67_3 < (l1.length : Int)
         ·rw [if_pos c34] at H
          have c34b0 : decide (x67_3 < (l1.length : Int)) = true := decide_eq_true c34
          clear c34
          by_cases c35 : 0 ≤ x67_3
          ·rw [if_pos c35] at H
           have c35b0 : decide (0 ≤ x67_3) = true := decide_eq_true c35
           clear c35
           by_cases c36 : x67_3 < (l1.length : Int)
           ·rw [if_pos c36] at H
            have c36b0 : decide (x67_3 < (l1.length : Int)) = true := decide_eq_true c36
            clear c36
            by_cases c37 : (rd l1 x67_3) < 0
            ·rw [if_pos c37] at H
             have c37b0 : decide ((rd l1 x67_3) < 0) = true := decide_eq_true c37
             clear c37
             obtain rfl := Option.some.inj H
             have p393 : 0 ≤ (x67_3 : Int) := of_decide_eq_true (by first | (with_reducible assumption) | assumption)
             have q393 : x67_3 < (l1.length : Int) := of_decide_eq_true (by first | (with_reducible assumption) | assumption)
             obtain ⟨ad393, e393, hx393_0⟩ := Kd.at_int HR1.out x67_3 p393 q393
             cases e393
             replace hx393_0 := (HB.out.cell (World.block_lt_of_cell? w _ hx393_0)).trans hx393_0
             replace p393 := eq_true p393
             replace q393 := eq_true q393
             go_wp2
             go_ret
             exact ⟨by first | rfl | (simp [errW_none, errW_some] <;> rfl) | (simp [*, errW_none, errW_some] <;> rfl), by repeat (first | (with_reducible first | exact HB.out | apply below_alloc | apply pw_below_drewN | apply below_drew1) | exact HB.out)⟩
            ·rw [if_neg c37] at H
             have c37b0 : decide ((rd l1 x67_3) < 0) = false := decide_eq_false c37
             clear c37
             by_cases c38 : (rd l1 x67_3) > 10000
             ·rw [if_pos c38] at H
              have c38b0 : decide (10000 < (rd l1 x67_3)) = true := decide_eq_true c38
              clear c38
              obtain rfl := Option.some.inj H
              have p393 : 0 ≤ (x67_3 : Int) := of_decide_eq_true (by first | (with_reducible assumption) | assumption)
              have q393 : x67_3 < (l1.length : Int) := of_decide_eq_true (by first | (with_reducible assumption) | assumption)
              obtain ⟨ad393, e393, hx393_0⟩ := Kd.at_int HR1.out x67_3 p393 q393
              cases e393
              replace hx393_0 := (HB.out.cell (World.block_lt_of_cell? w _ hx393_0)).trans hx393_0
              replace p393 := eq_true p393
              replace q393 := eq_true q393
              go_wp2
              go_ret
              exact ⟨by first | rfl | (simp [errW_none, errW_some] <;> rfl) | (simp [*, errW_none, errW_some] <;> rfl), by repeat (first | (with_reducible first | exact HB.out | apply below_alloc | apply pw_below_drewN | apply below_drew1) | exact HB.out)⟩
             ·rw [if_neg c38] at H
              have c38b0 : decide (10000 < (rd l1 x67_3)) = false := decide_eq_false c38
              clear c38
              by_cases c39 : x10_3.length < 17592186044416
              ·rw [if_pos c39] at H
               have LMc39 := Aside0.mk c39
               clear c39
               obtain ⟨y394, hy394⟩ : ∃ y_ : List Int, y_ = (x10_3 ++ [rd l1 x67_3]) := ⟨_, rfl⟩
               replace H : (stipendtop_WholeParts.l0 k3 a0 l1 a2 (wrap64 (x9_3 + (rd l1 x67_3))) y394 l1 (l1.length : Int) (wrap64 (x67_3 + 1))) = some r := by first | (rw [hy394]; with_reducible exact H) | (have H2_ := (Option.bind_some _ _).symm.trans H; rw [hy394]; with_reducible exact H2_) | (have H2_ := (Option.bind_some _ _).symm.trans H; with_reducible exact H2_) | with_reducible exact H | (rw [hy394]; exact H) | exact H
               have Ny394 := Aside0.mk hy394
               clear hy394
               have H' := Aside0.mk H
               clear H
               have p393 : 0 ≤ (x67_3 : Int) := of_decide_eq_true (by first | (with_reducible assumption) | assumption)
               have q393 : x67_3 < (l1.length : Int) := of_decide_eq_true (by first | (with_reducible assumption) | assumption)
               obtain ⟨ad393, e393, hx393_0⟩ := Kd.at_int HR1.out x67_3 p393 q393
               cases e393
               replace hx393_0 := (HB.out.cell (World.block_lt_of_cell? w _ hx393_0)).trans hx393_0
               replace p393 := eq_true p393
               replace q393 := eq_true q393
               go_wp2_with (first | ((with_reducible refine gate_builtin (b := .append) (xs := #[.tmp 80, .tmp 82]) rfl ?_); (try (refine gate_guard (by rfl) ?_; dsimp only)); at_builtin; refine Kd.R_append (Kd.int .i64) (w0 := w) w.heap.size rfl (.tmp 80) (.tmp 82) 56 2 (.int .i64 0) 8 rfl Tryd.underlying56 info2 rfl (by decide) (by omega) u10 x10_3 (rd l1 x67_3) [.int .i64 (rd l1 x67_3)] (fun _ => True) (fun _ => False) rfl rfl ?aP (fun _ hk => hk.elim) ?aF ?aO ?aB ?aS ?aL ?_; (case aP => exact rfl); (case aB => exact (by repeat (first | (with_reducible first | exact HB.out | apply below_alloc | apply pw_below_drewN | apply below_drew1) | exact HB.out))); (case aF => exact (fun _ _ => trivial)); (case aO => exact (by (with_reducible repeat (first | apply Kd.R_alloc | apply Kd.R_drewN | apply Kd.R_drew)); exact HO_10.out)); (case aS => exact (below_size (by repeat (first | (with_reducible first | exact HB.out | apply below_alloc | apply pw_below_drewN | apply below_drew1) | exact HB.out)))); (case aL => have := LMc39.out; omega); intro v395 w40 ho hb hg hat; rw [← Ny394.out] at ho; have n0_ := Aside0.mk (hb); have n1_ := Aside0.mk (ho); clear HB; clear HO_10; have HB := n0_; have HO396 := n1_; clear n0_ n1_; clear ho hb hg hat))
               go_roundg k3
               case measure => have := HJ4.out; have := HJ11.out; have := HK3.out; omega
               case rel => exact ⟨(wrap64 (x9_3 + (rd l1 x67_3))), (y394), (wrap64 (x67_3 + 1)), (by first | rfl | (simp; done) | (simp [*]; done)), (by first | rfl | (simp; done) | (simp [*]; done)), H', ⟨by have := HJ4.out; have := HJ11.out; have := HK3.out; omega⟩, ⟨by (with_reducible repeat (first | apply Kd.R_alloc | apply Kd.R_drewN | apply Kd.R_drew)); exact HO396.out⟩, ⟨by repeat (first | (with_reducible first | exact HB.out | apply below_alloc | apply pw_below_drewN | apply below_drew1) | exact HB.out)⟩⟩
              ·rw [if_neg c39] at H
               exact absurd H (by simp)
           ·rw [if_neg c36] at H
            exact absurd H (by simp)
          ·rw [if_neg c35] at H
           exact absurd H (by simp)
         ·rw [if_neg c34] at H
          have c34b0 : decide (x67_3 < (l1.length : Int)) = false := decide_eq_false c34
          clear c34
          by_cases c41 : x9_3 = 10000
          ·rw [if_pos c41] at H
           have c41b0 : (x9_3 == 10000) = true := beq_iff_eq.mpr c41
           have c41b1 : (x9_3 != 10000) = false := bne_eq_false_iff_eq.mpr c41
           clear c41
           replace H := Option.bind_eq_some_iff.mp H
           obtain ⟨⟨t397, t398⟩, A420, H⟩ := H
           replace H : (if t398 = 0 then (stipendtop_WholeParts.j3 k3 a0 l1 a2 0 0 t397 ((t397.length : Int) != (l1.length : Int))) else (stipendtop_WholeParts.j3 k3 a0 l1 a2 0 0 t397 true)) = some r := H
           have A42 := Aside0.mk A420
           clear A420
           have HC43 := Aside0.mk H
           clear H
           obtain ⟨Ao44, co44, eo44⟩ := Kd.R_slice HO_10.out
           subst eo44
           go_upto_region 20 with (first | ((with_reducible refine gate_callee (f := 41) rfl ?_); refine goesL_ (some 90) rfl rfl Tryd.func41 (by kernel_rfl) rfl #[.int .i64 a0, .slice Ao44 x10_3.length co44] rfl (by (try simp only [List.map_toArray, List.map_cons, List.map_nil]); first | done | rfl | (simp only [List.length_drop, List.length_take]; rfl)) ?_; (with_reducible refine (money_Spread.calls k3 a0 _ _ x10_3 t397 t398 _ ?side1 ?side2 A42.out).mono ?_); (case side1 => repeat (first | exact (Kd.R_reads' HO_10.out).2.2 | (with_reducible refine Kd.C_alloc ?_ _) | (with_reducible refine Kd.C_drewN ?_ _) | (with_reducible refine Kd.C_drew ?_))); (case side2 => exact (Kd.R_reads' HO_10.out).2.1); rintro e w45 ⟨v399, rfl, ho0, hb⟩; refine ⟨_, rfl, ?_⟩; have n0_ := Aside0.mk (Kd.R_elder' (by (with_reducible repeat (first | apply Kd.R_alloc | apply Kd.R_drewN | apply Kd.R_drew)); exact HO_10.out) (Kd.R_base ho0) hb); have n1_ := Aside0.mk (Kd.R_lower (Kd.R_new' ho0 (Kd.R_lt (by (with_reducible repeat (first | apply Kd.R_alloc | apply Kd.R_drewN | apply Kd.R_drew)); exact HO_10.out))) (below_size (by repeat (first | (with_reducible first | exact HB.out | apply below_alloc | apply pw_below_drewN | apply below_drew1) | exact HB.out)))); have n2_ := Aside0.mk (below_step (by repeat (first | (with_reducible first | exact HB.out | apply below_alloc | apply pw_below_drewN | apply below_drew1) | exact HB.out)) hb); clear HO_10; clear HB; have HO_10 := n0_; have HO400 := n1_; have HB := n2_; clear n0_ n1_ n2_; (try clear hb); (try clear hb2); (try clear hk); (try clear hi); (try clear ho0)))
           (try simp only [Act.put, List.setIfInBounds_toArray, List.set_cons_zero, List.set_cons_succ])
           go_cut [101] (fun v101 wc => ∃ (kq : Nat) (x101_42 : Bool), v101 = .bool x101_42 ∧ Aside0 (stipendtop_WholeParts.j3 kq a0 l1 a2 0 0 t397 x101_42 = some r) ∧ Aside0 (kq ≤ k3) ∧ Aside0 (Kd.R (Kd.int .i64) 2 wc w.heap.size (fun _ => True) v399 t397) ∧ Aside0 (Below w.heap.size w wc))
           case first =>
            have H := HC43.out
            clear HC43
            by_cases c46 : t398 = 0
            ·rw [if_pos c46] at H
             have c46b0 : (t398 == 0) = true := beq_iff_eq.mpr c46
             have c46b1 : (t398 != 0) = false := bne_eq_false_iff_eq.mpr c46
             clear c46
             (first | rw [c46b0] | (simp only [i64_w, i32_w]; rw [c46b0]) | skip)
             have H' := Aside0.mk H
             clear H
             obtain ⟨Ao47, co47, eo47⟩ := Kd.R_slice HO400.out
             subst eo47
             go_wp2
             go_meet
             case rel => exact ⟨_, (((t397.length : Int) != (l1.length : Int))), (by first | rfl | (simp; done) | (simp [*]; done)), H', ⟨by have := HJ4.out; have := HJ11.out; have := HK3.out; first | omega | exact Nat.le_refl _⟩, ⟨by (with_reducible repeat (first | apply Kd.R_alloc | apply Kd.R_drewN | apply Kd.R_drew)); exact Kd.R_mono HO400.out (fun _ hk => trivial)⟩, ⟨by repeat (first | (with_reducible first | exact HB.out | apply below_alloc | apply pw_below_drewN | apply below_drew1) | exact HB.out)⟩⟩
            ·rw [if_neg c46] at H
             have c46b0 : (t398 == 0) = false := beq_eq_false_iff_ne.mpr c46
             have c46b1 : (t398 != 0) = true := bne_iff_ne.mpr c46
             (first | rw [c46b0] | (simp only [i64_w, i32_w]; rw [c46b0]) | skip)
             have H' := Aside0.mk H
             clear H
             go_wp2
             go_meet
             case rel => exact ⟨_, (true), (by first | rfl | (simp; done) | (simp [*]; done)), H', ⟨by have := HJ4.out; have := HJ11.out; have := HK3.out; first | omega | exact Nat.le_refl _⟩, ⟨by (with_reducible repeat (first | apply Kd.R_alloc | apply Kd.R_drewN | apply Kd.R_drew)); exact Kd.R_mono HO400.out (fun _ hk => trivial)⟩, ⟨by repeat (first | (with_reducible first | exact HB.out | apply below_alloc | apply pw_below_drewN | apply below_drew1) | exact HB.out)⟩⟩
           case rest =>
            clear HC43
            try clear c1
            try clear c2
            try clear p2
            try clear c3
            try clear p3
            try clear q3
            try clear hx3
            try clear c4
            try clear p6
            try clear c7
            try clear c7b0
            try clear c7b1
            try clear c8
            try clear c8b0
            try clear c8b1
            try clear c11
            try clear c14
            try clear c15
            try clear c15b0
            try clear c15b1
            try clear c15b2
            try clear c19
            try clear c19b0
            try clear c19b1
            try clear c23
            try clear c23b0
            try clear c33
            try clear c34
            try clear c34b0
            try clear c35
            try clear c35b0
            try clear c36
            try clear c36b0
            try clear c37
            try clear c37b0
            try clear c38
            try clear c38b0
            try clear c39
            try clear p39
            try clear q39
            try clear hx39
            try clear c40
            try clear c41
            try clear c41b0
            try clear c41b1
            try clear c46
            try clear c46b0
            try clear c46b1
            try clear hx393_0
            try clear p2
            try clear p393
            try clear q393
            obtain ⟨kq, x101_42, rfl, HA, HJ42, HO_15, HB⟩ := hcut
            cases kq with
            | zero => exact absurd HA.out (by simp [stipendtop_WholeParts.j3])
            | succ kj42 =>
             have H := HA.out
             clear HA
             simp only [stipendtop_WholeParts.j3] at H
             by_cases c48 : x101_42 = true
             ·subst c48
              have H1 : (some false) = some r := by rw [if_pos rfl] at H; exact H
              clear H
              have H := H1
              clear H1
              obtain rfl := Option.some.inj H
              go_wp2
              go_ret
              exact ⟨by first | rfl | (simp [errW_none, errW_some] <;> rfl) | (simp [*, errW_none, errW_some] <;> rfl), by repeat (first | (with_reducible first | exact HB.out | apply below_alloc | apply pw_below_drewN | apply below_drew1) | exact HB.out)⟩
             ·replace c48 := Bool.eq_false_iff.mpr c48
              subst c48
              have H1 : (stipendtop_WholeParts.l1 kj42 a0 l1 a2 0 0 t397 l1 (l1.length : Int) 0) = some r := by rw [if_neg (show ¬ (false = true) by decide)] at H; exact H
              clear H
              have H := H1
              clear H1
              have H' := Aside0.mk H
              clear H
              go_wp2
              go_loopg [13, 14, 104] kj42 (fun kq v13 v14 v104 w' => ∃ (x13_5 : Int) (x14_5 : Int) (x104_5 : Int), v13 = .int .i64 x13_5 ∧ v14 = .int .i64 x14_5 ∧ v104 = .int .i64 x104_5 ∧ Aside0 (stipendtop_WholeParts.l1 kq a0 l1 a2 x13_5 x14_5 t397 l1 (l1.length : Int) x104_5 = some r) ∧ Aside0 (kq ≤ kj42) ∧ Aside0 (Kd.R (Kd.int .i64) 2 w' w.heap.size (fun _ => True) v399 t397) ∧ Aside0 (Below w.heap.size w w'))
              case atStart => exact ⟨(0), (0), (0), (by first | rfl | (simp; done) | (simp [*]; done)), (by first | rfl | (simp; done) | (simp [*]; done)), (by first | rfl | (simp; done) | (simp [*]; done)), H', ⟨Nat.le_refl _⟩, ⟨by (with_reducible repeat (first | apply Kd.R_alloc | apply Kd.R_drewN | apply Kd.R_drew)); exact HO_15.out⟩, ⟨by repeat (first | (with_reducible first | exact HB.out | apply below_alloc | apply pw_below_drewN | apply below_drew1) | exact HB.out)⟩⟩
              case round =>
               clear H'
               try clear c1
               try clear c2
               try clear p2
               try clear c3
               try clear p3
               try clear q3
               try clear hx3
               try clear c4
               try clear p6
               try clear c7
               try clear c7b0
               try clear c7b1
               try clear c8
               try clear c8b0
               try clear c8b1
               try clear c11
               try clear c14
               try clear c15
               try clear c15b0
               try clear c15b1
               try clear c15b2
               try clear c19
               try clear c19b0
               try clear c19b1
               try clear c23
               try clear c23b0
               try clear c33
               try clear c34
               try clear c34b0
               try clear c35
               try clear c35b0
               try clear c36
               try clear c36b0
               try clear c37
               try clear c37b0
               try clear c38
               try clear c38b0
               try clear c39
               try clear p39
               try clear q39
               try clear hx39
               try clear c40
               try clear c41
               try clear c41b0
               try clear c41b1
               try clear c46
               try clear c46b0
               try clear c46b1
               try clear c48
               try clear hx393_0
               try clear p2
               try clear p3
               try clear p39
               try clear p393
               try clear p6
               try clear q3
               try clear q39
               try clear q393
               obtain ⟨x13_5, x14_5, x104_5, rfl, rfl, rfl, HA, HK5, HO_15, HB⟩ := hrel
               cases gk with
               | zero => exact absurd HA.out (by simp [stipendtop_WholeParts.l1])
               | succ k5 =>
                have H := HA.out
                clear HA
                simp only [stipendtop_WholeParts.l1] at H
                by_cases c49 : x104_5 < (l1.length : Int)
                ·rw [if_pos c49] at H
                 have c49b0 : decide (x104_5 < (l1.length : Int)) = true := decide_eq_true c49
                 clear c49
                 by_cases c50 : 0 ≤ x104_5
                 ·rw [if_pos c50] at H
                  have c50b0 : decide (0 ≤ x104_5) = true := decide_eq_true c50
                  clear c50
                  by_cases c51 : x104_5 < (l1.length : Int)
                  ·rw [if_pos c51] at H
                   have c51b0 : decide (x104_5 < (l1.length : Int)) = true := decide_eq_true c51
                   clear c51
                   replace H := Option.bind_eq_some_iff.mp H
                   obtain ⟨⟨t406, t407⟩, A520, H⟩ := H
                   replace H : ((frac_Take.f k5 a0 (rd l1 x104_5) a2).bind fun bt408 => (if t407 = 0 then (stipendtop_WholeParts.j5 k5 a0 l1 a2 x13_5 x14_5 t397 x104_5 t406 bt408.1 l1 (l1.length : Int) x104_5 (bt408.2 != 0)) else (stipendtop_WholeParts.j5 k5 a0 l1 a2 x13_5 x14_5 t397 x104_5 t406 bt408.1 l1 (l1.length : Int) x104_5 true))) = some r := H
                   have A52 := Aside0.mk A520
                   clear A520
                   replace H := Option.bind_eq_some_iff.mp H
                   obtain ⟨⟨t408, t409⟩, A530, H⟩ := H
                   replace H : (if t407 = 0 then (stipendtop_WholeParts.j5 k5 a0 l1 a2 x13_5 x14_5 t397 x104_5 t406 t408 l1 (l1.length : Int) x104_5 (t409 != 0)) else (stipendtop_WholeParts.j5 k5 a0 l1 a2 x13_5 x14_5 t397 x104_5 t406 t408 l1 (l1.length : Int) x104_5 true)) = some r := H
                   have A53 := Aside0.mk A530
                   clear A530
                   have HC54 := Aside0.mk H
                   clear H
                   have p405 : 0 ≤ (x104_5 : Int) := of_decide_eq_true (by first | (with_reducible assumption) | assumption)
                   have q405 : x104_5 < (l1.length : Int) := of_decide_eq_true (by first | (with_reducible assumption) | assumption)
                   obtain ⟨ad405, e405, hx405_0⟩ := Kd.at_int HR1.out x104_5 p405 q405
                   cases e405
                   replace hx405_0 := (HB.out.cell (World.block_lt_of_cell? w _ hx405_0)).trans hx405_0
                   replace p405 := eq_true p405
                   replace q405 := eq_true q405
                   go_upto_region 27 with (first | ((with_reducible refine gate_callee (f := 42) rfl ?_); refine goesL_ (some 112) rfl rfl Tryd.func42 (by kernel_rfl) rfl #[.int .i64 a0, .int .i64 (rd l1 x104_5)] rfl (by (try simp only [List.map_toArray, List.map_cons, List.map_nil]); first | done | rfl | (simp only [List.length_drop, List.length_take]; rfl)) ?_; (with_reducible refine (frac_Part.calls k5 a0 (rd l1 x104_5) t406 t407 _ A52.out).mono ?_); rintro e w55 ⟨rfl, hb⟩; refine ⟨_, rfl, ?_⟩; have n0_ := Aside0.mk (Kd.R_below (by (with_reducible repeat (first | apply Kd.R_alloc | apply Kd.R_drewN | apply Kd.R_drew)); exact HO_15.out) hb); have n1_ := Aside0.mk (below_step (by repeat (first | (with_reducible first | exact HB.out | apply below_alloc | apply pw_below_drewN | apply below_drew1) | exact HB.out)) hb); clear HO_15; clear HB; have HO_15 := n0_; have HB := n1_; clear n0_ n1_; (try clear hb); (try clear hb2); (try clear hk); (try clear hi)) | ((with_reducible refine gate_callee (f := 38) rfl ?_); refine goesL_ (some 119) rfl rfl Tryd.func38 (by kernel_rfl) rfl #[.int .i64 a0, .int .i64 (rd l1 x104_5), .int .i64 a2] rfl (by (try simp only [List.map_toArray, List.map_cons, List.map_nil]); first | done | rfl | (simp only [List.length_drop, List.length_take]; rfl)) ?_; (with_reducible refine (frac_Take.calls k5 a0 (rd l1 x104_5) a2 t408 t409 _ A53.out).mono ?_); rintro e w56 ⟨rfl, hb⟩; refine ⟨_, rfl, ?_⟩; have n0_ := Aside0.mk (Kd.R_below (by (with_reducible repeat (first | apply Kd.R_alloc | apply Kd.R_drewN | apply Kd.R_drew)); exact HO_15.out) hb); have n1_ := Aside0.mk (below_step (by repeat (first | (with_reducible first | exact HB.out | apply below_alloc | apply pw_below_drewN | apply below_drew1) | exact HB.out)) hb); clear HO_15; clear HB; have HO_15 := n0_; have HB := n1_; clear n0_ n1_; (try clear hb); (try clear hb2); (try clear hk); (try clear hi)))
                   (try simp only [Act.put, List.setIfInBounds_toArray, List.set_cons_zero, List.set_cons_succ])
                   go_cut [127] (fun v127 wc => ∃ (kq : Nat) (x127_53 : Bool), v127 = .bool x127_53 ∧ Aside0 (stipendtop_WholeParts.j5 kq a0 l1 a2 x13_5 x14_5 t397 x104_5 t406 t408 l1 (l1.length : Int) x104_5 x127_53 = some r) ∧ Aside0 (kq ≤ k5) ∧ Aside0 (Kd.R (Kd.int .i64) 2 wc w.heap.size (fun _ => True) v399 t397) ∧ Aside0 (Below w.heap.size w wc))
                   case first =>
                    have H := HC54.out
                    clear HC54
                    by_cases c57 : t407 = 0
                    ·rw [if_pos c57] at H
                     have c57b0 : (t407 == 0) = true := beq_iff_eq.mpr c57
                     have c57b1 : (t407 != 0) = false := bne_eq_false_iff_eq.mpr c57
                     clear c57
                     (first | rw [c57b0] | (simp only [i64_w, i32_w]; rw [c57b0]) | skip)
                     have H' := Aside0.mk H
                     clear H
                     go_wp2
                     go_meet
                     case rel => exact ⟨_, ((t409 != 0)), (by first | rfl | (simp; done) | (simp [*]; done)), H', ⟨by have := HJ4.out; have := HJ11.out; have := HK3.out; have := HJ42.out; have := HK5.out; first | omega | exact Nat.le_refl _⟩, ⟨by (with_reducible repeat (first | apply Kd.R_alloc | apply Kd.R_drewN | apply Kd.R_drew)); exact HO_15.out⟩, ⟨by repeat (first | (with_reducible first | exact HB.out | apply below_alloc | apply pw_below_drewN | apply below_drew1) | exact HB.out)⟩⟩
                    ·rw [if_neg c57] at H
                     have c57b0 : (t407 == 0) = false := beq_eq_false_iff_ne.mpr c57
                     have c57b1 : (t407 != 0) = true := bne_iff_ne.mpr c57
                     (first | rw [c57b0] | (simp only [i64_w, i32_w]; rw [c57b0]) | skip)
                     have H' := Aside0.mk H
                     clear H
                     go_wp2
                     go_meet
                     case rel => exact ⟨_, (true), (by first | rfl | (simp; done) | (simp [*]; done)), H', ⟨by have := HJ4.out; have := HJ11.out; have := HK3.out; have := HJ42.out; have := HK5.out; first | omega | exact Nat.le_refl _⟩, ⟨by (with_reducible repeat (first | apply Kd.R_alloc | apply Kd.R_drewN | apply Kd.R_drew)); exact HO_15.out⟩, ⟨by repeat (first | (with_reducible first | exact HB.out | apply below_alloc | apply pw_below_drewN | apply below_drew1) | exact HB.out)⟩⟩
                   case rest =>
                    clear HC54
                    try clear c1
                    try clear c2
                    try clear p2
                    try clear c3
                    try clear p3
                    try clear q3
                    try clear hx3
                    try clear c4
                    try clear p4
                    try clear q4
                    try clear hx4
                    try clear c5
                    try clear p6
                    try clear c7
                    try clear c7b0
                    try clear c7b1
                    try clear c8
                    try clear c8b0
                    try clear c8b1
                    try clear c11
                    try clear c14
                    try clear c15
                    try clear c15b0
                    try clear c15b1
                    try clear c15b2
                    try clear c19
                    try clear c19b0
                    try clear c19b1
                    try clear c23
                    try clear c23b0
                    try clear c33
                    try clear c34
                    try clear c34b0
                    try clear c35
                    try clear c35b0
                    try clear c36
                    try clear c36b0
                    try clear c37
                    try clear c37b0
                    try clear c38
                    try clear c38b0
                    try clear c39
                    try clear p39
                    try clear q39
                    try clear hx39
                    try clear c40
                    try clear p40
                    try clear q40
                    try clear hx40
                    try clear c41
                    try clear c41b0
                    try clear c41b1
                    try clear c42
                    try clear c46
                    try clear c46b0
                    try clear c46b1
                    try clear c48
                    try clear c49
                    try clear c49b0
                    try clear c50
                    try clear c50b0
                    try clear c51
                    try clear c51b0
                    try clear c57
                    try clear c57b0
                    try clear c57b1
                    try clear hx393_0
                    try clear hx405_0
                    try clear p2
                    try clear p3
                    try clear p39
                    try clear p393
                    try clear p405
                    try clear p6
                    try clear q3
                    try clear q39
                    try clear q393
                    try clear q405
                    obtain ⟨kq, x127_53, rfl, HA, HJ53, HO_15, HB⟩ := hcut
                    cases kq with
                    | zero => exact absurd HA.out (by simp [stipendtop_WholeParts.j5])
                    | succ kj53 =>
                     have H := HA.out
                     clear HA
                     simp only [stipendtop_WholeParts.j5] at H
                     by_cases c58 : x127_53 = true
                     ·subst c58
                      have H1 : (some false) = some r := by rw [if_pos rfl] at H; exact H
                      clear H
                      have H := H1
                      clear H1
                      obtain rfl := Option.some.inj H
                      go_wp2
                      go_ret
                      exact ⟨by first | rfl | (simp [errW_none, errW_some] <;> rfl) | (simp [*, errW_none, errW_some] <;> rfl), by repeat (first | (with_reducible first | exact HB.out | apply below_alloc | apply pw_below_drewN | apply below_drew1) | exact HB.out)⟩
                     ·replace c58 := Bool.eq_false_iff.mpr c58
                      subst c58
                      have H1 : (if 0 ≤ x104_5 then (if x104_5 < (t397.length : Int) then (if (wrap64 ((rd t397 x104_5) - t408)) > 1 then (some false) else (if (wrap64 ((rd t397 x104_5) - t408)) < (-1) then (some false) else (stipendtop_WholeParts.l1 kj53 a0 l1 a2 (wrap64 (x13_5 + t406)) (wrap64 (x14_5 + t408)) t397 l1 (l1.length : Int) (wrap64 (x104_5 + 1))))) else (none)) else (none)) = some r := by rw [if_neg (show ¬ (false = true) by decide)] at H; exact H
                      clear H
                      have H := H1
                      clear H1
                      by_cases c59 : 0 ≤ x104_5
                      ·rw [if_pos c59] at H
                       have c59b0 : decide (0 ≤ x104_5) = true := decide_eq_true c59
                       clear c59
                       by_cases c60 : x104_5 < (t397.length : Int)
                       ·rw [if_pos c60] at H
                        have c60b0 : decide (x104_5 < (t397.length : Int)) = true := decide_eq_true c60
                        clear c60
                        by_cases c61 : (wrap64 ((rd t397 x104_5) - t408)) > 1
                        ·rw [if_pos c61] at H
                         have c61b0 : decide (1 < (wrap64 ((rd t397 x104_5) - t408))) = true := decide_eq_true c61
                         clear c61
                         obtain rfl := Option.some.inj H
                         obtain ⟨Ao62, co62, eo62⟩ := Kd.R_slice HO_15.out
                         subst eo62
                         have p410 : 0 ≤ (x104_5 : Int) := of_decide_eq_true (by first | (with_reducible assumption) | assumption)
                         have q410 : x104_5 < (t397.length : Int) := of_decide_eq_true (by first | (with_reducible assumption) | assumption)
                         obtain ⟨ad410, e410, hx410_0⟩ := Kd.at_int (Kd.R_reads' HO_15.out).2.2 x104_5 p410 q410
                         cases e410
                         replace p410 := eq_true p410
                         replace q410 := eq_true q410
                         go_wp2
                         go_ret
                         exact ⟨by first | rfl | (simp [errW_none, errW_some] <;> rfl) | (simp [*, errW_none, errW_some] <;> rfl), by repeat (first | (with_reducible first | exact HB.out | apply below_alloc | apply pw_below_drewN | apply below_drew1) | exact HB.out)⟩
                        ·rw [if_neg c61] at H
                         have c61b0 : decide (1 < (wrap64 ((rd t397 x104_5) - t408))) = false := decide_eq_false c61
                         clear c61
                         by_cases c63 : (wrap64 ((rd t397 x104_5) - t408)) < (-1)
                         ·rw [if_pos c63] at H
                          have c63b0 : decide ((wrap64 ((rd t397 x104_5) - t408)) < (-1)) = true := decide_eq_true c63
                          clear c63
                          obtain rfl := Option.some.inj H
                          obtain ⟨Ao64, co64, eo64⟩ := Kd.R_slice HO_15.out
                          subst eo64
                          have p410 : 0 ≤ (x104_5 : Int) := of_decide_eq_true (by first | (with_reducible assumption) | assumption)
                          have q410 : x104_5 < (t397.length : Int) := of_decide_eq_true (by first | (with_reducible assumption) | assumption)
                          obtain ⟨ad410, e410, hx410_0⟩ := Kd.at_int (Kd.R_reads' HO_15.out).2.2 x104_5 p410 q410
                          cases e410
                          replace p410 := eq_true p410
                          replace q410 := eq_true q410
                          go_wp2
                          go_ret
                          exact ⟨by first | rfl | (simp [errW_none, errW_some] <;> rfl) | (simp [*, errW_none, errW_some] <;> rfl), by repeat (first | (with_reducible first | exact HB.out | apply below_alloc | apply pw_below_drewN | apply below_drew1) | exact HB.out)⟩
                         ·rw [if_neg c63] at H
                          have c63b0 : decide ((wrap64 ((rd t397 x104_5) - t408)) < (-1)) = false := decide_eq_false c63
                          clear c63
                          have H' := Aside0.mk H
                          clear H
                          obtain ⟨Ao65, co65, eo65⟩ := Kd.R_slice HO_15.out
                          subst eo65
                          have p410 : 0 ≤ (x104_5 : Int) := of_decide_eq_true (by first | (with_reducible assumption) | assumption)
                          have q410 : x104_5 < (t397.length : Int) := of_decide_eq_true (by first | (with_reducible assumption) | assumption)
                          obtain ⟨ad410, e410, hx410_0⟩ := Kd.at_int (Kd.R_reads' HO_15.out).2.2 x104_5 p410 q410
                          cases e410
                          replace p410 := eq_true p410
                          replace q410 := eq_true q410
                          go_wp2
                          go_roundg kj53
                          case measure => have := HJ4.out; have := HJ11.out; have := HK3.out; have := HJ42.out; have := HK5.out; have := HJ53.out; omega
                          case rel => exact ⟨(wrap64 (x13_5 + t406)), (wrap64 (x14_5 + t408)), (wrap64 (x104_5 + 1)), (by first | rfl | (simp; done) | (simp [*]; done)), (by first | rfl | (simp; done) | (simp [*]; done)), (by first | rfl | (simp; done) | (simp [*]; done)), H', ⟨by have := HJ4.out; have := HJ11.out; have := HK3.out; have := HJ42.out; have := HK5.out; have := HJ53.out; omega⟩, ⟨by (with_reducible repeat (first | apply Kd.R_alloc | apply Kd.R_drewN | apply Kd.R_drew)); exact HO_15.out⟩, ⟨by repeat (first | (with_reducible first | exact HB.out | apply below_alloc | apply pw_below_drewN | apply below_drew1) | exact HB.out)⟩⟩
                       ·rw [if_neg c60] at H
                        exact absurd H (by simp)
                      ·rw [if_neg c59] at H
                       exact absurd H (by simp)
                  ·rw [if_neg c51] at H
                   exact absurd H (by simp)
                 ·rw [if_neg c50] at H
                  exact absurd H (by simp)
                ·rw [if_neg c49] at H
                 have c49b0 : decide (x104_5 < (l1.length : Int)) = false := decide_eq_false c49
                 clear c49
                 replace H := Option.bind_eq_some_iff.mp H
                 obtain ⟨⟨t401, t402⟩, A660, H⟩ := H
                 replace H : ((money_Sum.f k5 t397).bind fun bt403 => (if t402 = 0 then (if bt403.2 = 0 then (if x13_5 = t401 then (if bt403.1 = a0 then (if (wrap64 (x14_5 - a0)) < (l1.length : Int) then (some (decide ((wrap64 (a0 - x14_5)) < (l1.length : Int)))) else (some false)) else (some false)) else (some false)) else (some false)) else (some false))) = some r := H
                 have A66 := Aside0.mk A660
                 clear A660
                 replace H := Option.bind_eq_some_iff.mp H
                 obtain ⟨⟨t403, t404⟩, A670, H⟩ := H
                 replace H : (if t402 = 0 then (if t404 = 0 then (if x13_5 = t401 then (if t403 = a0 then (if (wrap64 (x14_5 - a0)) < (l1.length : Int) then (some (decide ((wrap64 (a0 - x14_5)) < (l1.length : Int)))) else (some false)) else (some false)) else (some false)) else (some false)) else (some false)) = some r := H
                 have A67 := Aside0.mk A670
                 clear A670
                 by_cases c68 : t402 = 0
                 ·rw [if_pos c68] at H
                  have c68b0 : (t402 == 0) = true := beq_iff_eq.mpr c68
                  have c68b1 : (t402 != 0) = false := bne_eq_false_iff_eq.mpr c68
                  clear c68
                  by_cases c69 : t404 = 0
                  ·rw [if_pos c69] at H
                   have c69b0 : (t404 == 0) = true := beq_iff_eq.mpr c69
                   have c69b1 : (t404 != 0) = false := bne_eq_false_iff_eq.mpr c69
                   clear c69
                   by_cases c70 : x13_5 = t401
                   ·rw [if_pos c70] at H
                    have c70b0 : (x13_5 == t401) = true := beq_iff_eq.mpr c70
                    have c70b1 : (x13_5 != t401) = false := bne_eq_false_iff_eq.mpr c70
                    clear c70
                    by_cases c71 : t403 = a0
                    ·rw [if_pos c71] at H
                     have c71b0 : (t403 == a0) = true := beq_iff_eq.mpr c71
                     have c71b1 : (t403 != a0) = false := bne_eq_false_iff_eq.mpr c71
                     clear c71
                     by_cases c72 : (wrap64 (x14_5 - a0)) < (l1.length : Int)
                     ·rw [if_pos c72] at H
                      have c72b0 : decide ((wrap64 (x14_5 - a0)) < (l1.length : Int)) = true := decide_eq_true c72
                      clear c72
                      obtain rfl := Option.some.inj H
                      go_wp2_with (first | ((with_reducible refine gate_callee (f := 43) rfl ?_); refine goesL_ (some 149) rfl rfl Tryd.func43 (by kernel_rfl) rfl #[.int .i64 a0] rfl (by (try simp only [List.map_toArray, List.map_cons, List.map_nil]); first | done | rfl | (simp only [List.length_drop, List.length_take]; rfl)) ?_; (with_reducible refine (frac_Of.calls k5 a0 t401 t402 _ A66.out).mono ?_); rintro e w73 ⟨rfl, hb⟩; refine ⟨_, rfl, ?_⟩; have n0_ := Aside0.mk (Kd.R_below (by (with_reducible repeat (first | apply Kd.R_alloc | apply Kd.R_drewN | apply Kd.R_drew)); exact HO_15.out) hb); have n1_ := Aside0.mk (below_step (by repeat (first | (with_reducible first | exact HB.out | apply below_alloc | apply pw_below_drewN | apply below_drew1) | exact HB.out)) hb); clear HO_15; clear HB; have HO_15 := n0_; have HB := n1_; clear n0_ n1_; (try clear hb); (try clear hb2); (try clear hk); (try clear hi); obtain ⟨Ao74, co74, eo74⟩ := Kd.R_slice HO_15.out; subst eo74) | ((with_reducible refine gate_callee (f := 44) rfl ?_); refine goesL_ (some 156) rfl rfl Tryd.func44 (by kernel_rfl) rfl #[.slice Ao74 t397.length co74] rfl (by (try simp only [List.map_toArray, List.map_cons, List.map_nil]); first | done | rfl | (simp only [List.length_drop, List.length_take]; rfl)) ?_; (with_reducible refine (money_Sum.calls k5 _ _ t397 t403 t404 _ ?side1 ?side2 A67.out).mono ?_); (case side1 => repeat (first | exact (Kd.R_reads' HO_15.out).2.2 | (with_reducible refine Kd.C_alloc ?_ _) | (with_reducible refine Kd.C_drewN ?_ _) | (with_reducible refine Kd.C_drew ?_))); (case side2 => exact (Kd.R_reads' HO_15.out).2.1); rintro e w75 ⟨rfl, hb⟩; refine ⟨_, rfl, ?_⟩; have n0_ := Aside0.mk (Kd.R_below (by (with_reducible repeat (first | apply Kd.R_alloc | apply Kd.R_drewN | apply Kd.R_drew)); exact HO_15.out) hb); have n1_ := Aside0.mk (below_step (by repeat (first | (with_reducible first | exact HB.out | apply below_alloc | apply pw_below_drewN | apply below_drew1) | exact HB.out)) hb); clear HO_15; clear HB; have HO_15 := n0_; have HB := n1_; clear n0_ n1_; (try clear hb); (try clear hb2); (try clear hk); (try clear hi)))
                      go_ret
                      exact ⟨by first | rfl | (simp [errW_none, errW_some] <;> rfl) | (simp [*, errW_none, errW_some] <;> rfl), by repeat (first | (with_reducible first | exact HB.out | apply below_alloc | apply pw_below_drewN | apply below_drew1) | exact HB.out)⟩
                     ·rw [if_neg c72] at H
                      have c72b0 : decide ((wrap64 (x14_5 - a0)) < (l1.length : Int)) = false := decide_eq_false c72
                      clear c72
                      obtain rfl := Option.some.inj H
                      go_wp2_with (first | ((with_reducible refine gate_callee (f := 43) rfl ?_); refine goesL_ (some 149) rfl rfl Tryd.func43 (by kernel_rfl) rfl #[.int .i64 a0] rfl (by (try simp only [List.map_toArray, List.map_cons, List.map_nil]); first | done | rfl | (simp only [List.length_drop, List.length_take]; rfl)) ?_; (with_reducible refine (frac_Of.calls k5 a0 t401 t402 _ A66.out).mono ?_); rintro e w76 ⟨rfl, hb⟩; refine ⟨_, rfl, ?_⟩; have n0_ := Aside0.mk (Kd.R_below (by (with_reducible repeat (first | apply Kd.R_alloc | apply Kd.R_drewN | apply Kd.R_drew)); exact HO_15.out) hb); have n1_ := Aside0.mk (below_step (by repeat (first | (with_reducible first | exact HB.out | apply below_alloc | apply pw_below_drewN | apply below_drew1) | exact HB.out)) hb); clear HO_15; clear HB; have HO_15 := n0_; have HB := n1_; clear n0_ n1_; (try clear hb); (try clear hb2); (try clear hk); (try clear hi); obtain ⟨Ao77, co77, eo77⟩ := Kd.R_slice HO_15.out; subst eo77) | ((with_reducible refine gate_callee (f := 44) rfl ?_); refine goesL_ (some 156) rfl rfl Tryd.func44 (by kernel_rfl) rfl #[.slice Ao77 t397.length co77] rfl (by (try simp only [List.map_toArray, List.map_cons, List.map_nil]); first | done | rfl | (simp only [List.length_drop, List.length_take]; rfl)) ?_; (with_reducible refine (money_Sum.calls k5 _ _ t397 t403 t404 _ ?side1 ?side2 A67.out).mono ?_); (case side1 => repeat (first | exact (Kd.R_reads' HO_15.out).2.2 | (with_reducible refine Kd.C_alloc ?_ _) | (with_reducible refine Kd.C_drewN ?_ _) | (with_reducible refine Kd.C_drew ?_))); (case side2 => exact (Kd.R_reads' HO_15.out).2.1); rintro e w78 ⟨rfl, hb⟩; refine ⟨_, rfl, ?_⟩; have n0_ := Aside0.mk (Kd.R_below (by (with_reducible repeat (first | apply Kd.R_alloc | apply Kd.R_drewN | apply Kd.R_drew)); exact HO_15.out) hb); have n1_ := Aside0.mk (below_step (by repeat (first | (with_reducible first | exact HB.out | apply below_alloc | apply pw_below_drewN | apply below_drew1) | exact HB.out)) hb); clear HO_15; clear HB; have HO_15 := n0_; have HB := n1_; clear n0_ n1_; (try clear hb); (try clear hb2); (try clear hk); (try clear hi)))
                      go_ret
                      exact ⟨by first | rfl | (simp [errW_none, errW_some] <;> rfl) | (simp [*, errW_none, errW_some] <;> rfl), by repeat (first | (with_reducible first | exact HB.out | apply below_alloc | apply pw_below_drewN | apply below_drew1) | exact HB.out)⟩
                    ·rw [if_neg c71] at H
                     have c71b0 : (t403 == a0) = false := beq_eq_false_iff_ne.mpr c71
                     have c71b1 : (t403 != a0) = true := bne_iff_ne.mpr c71
                     obtain rfl := Option.some.inj H
                     go_wp2_with (first | ((with_reducible refine gate_callee (f := 43) rfl ?_); refine goesL_ (some 149) rfl rfl Tryd.func43 (by kernel_rfl) rfl #[.int .i64 a0] rfl (by (try simp only [List.map_toArray, List.map_cons, List.map_nil]); first | done | rfl | (simp only [List.length_drop, List.length_take]; rfl)) ?_; (with_reducible refine (frac_Of.calls k5 a0 t401 t402 _ A66.out).mono ?_); rintro e w79 ⟨rfl, hb⟩; refine ⟨_, rfl, ?_⟩; have n0_ := Aside0.mk (Kd.R_below (by (with_reducible repeat (first | apply Kd.R_alloc | apply Kd.R_drewN | apply Kd.R_drew)); exact HO_15.out) hb); have n1_ := Aside0.mk (below_step (by repeat (first | (with_reducible first | exact HB.out | apply below_alloc | apply pw_below_drewN | apply below_drew1) | exact HB.out)) hb); clear HO_15; clear HB; have HO_15 := n0_; have HB := n1_; clear n0_ n1_; (try clear hb); (try clear hb2); (try clear hk); (try clear hi); obtain ⟨Ao80, co80, eo80⟩ := Kd.R_slice HO_15.out; subst eo80) | ((with_reducible refine gate_callee (f := 44) rfl ?_); refine goesL_ (some 156) rfl rfl Tryd.func44 (by kernel_rfl) rfl #[.slice Ao80 t397.length co80] rfl (by (try simp only [List.map_toArray, List.map_cons, List.map_nil]); first | done | rfl | (simp only [List.length_drop, List.length_take]; rfl)) ?_; (with_reducible refine (money_Sum.calls k5 _ _ t397 t403 t404 _ ?side1 ?side2 A67.out).mono ?_); (case side1 => repeat (first | exact (Kd.R_reads' HO_15.out).2.2 | (with_reducible refine Kd.C_alloc ?_ _) | (with_reducible refine Kd.C_drewN ?_ _) | (with_reducible refine Kd.C_drew ?_))); (case side2 => exact (Kd.R_reads' HO_15.out).2.1); rintro e w81 ⟨rfl, hb⟩; refine ⟨_, rfl, ?_⟩; have n0_ := Aside0.mk (Kd.R_below (by (with_reducible repeat (first | apply Kd.R_alloc | apply Kd.R_drewN | apply Kd.R_drew)); exact HO_15.out) hb); have n1_ := Aside0.mk (below_step (by repeat (first | (with_reducible first | exact HB.out | apply below_alloc | apply pw_below_drewN | apply below_drew1) | exact HB.out)) hb); clear HO_15; clear HB; have HO_15 := n0_; have HB := n1_; clear n0_ n1_; (try clear hb); (try clear hb2); (try clear hk); (try clear hi)))
                     go_ret
                     exact ⟨by first | rfl | (simp [errW_none, errW_some] <;> rfl) | (simp [*, errW_none, errW_some] <;> rfl), by repeat (first | (with_reducible first | exact HB.out | apply below_alloc | apply pw_below_drewN | apply below_drew1) | exact HB.out)⟩
                   ·rw [if_neg c70] at H
                    have c70b0 : (x13_5 == t401) = false := beq_eq_false_iff_ne.mpr c70
                    have c70b1 : (x13_5 != t401) = true := bne_iff_ne.mpr c70
                    obtain rfl := Option.some.inj H
                    go_wp2_with (first | ((with_reducible refine gate_callee (f := 43) rfl ?_); refine goesL_ (some 149) rfl rfl Tryd.func43 (by kernel_rfl) rfl #[.int .i64 a0] rfl (by (try simp only [List.map_toArray, List.map_cons, List.map_nil]); first | done | rfl | (simp only [List.length_drop, List.length_take]; rfl)) ?_; (with_reducible refine (frac_Of.calls k5 a0 t401 t402 _ A66.out).mono ?_); rintro e w82 ⟨rfl, hb⟩; refine ⟨_, rfl, ?_⟩; have n0_ := Aside0.mk (Kd.R_below (by (with_reducible repeat (first | apply Kd.R_alloc | apply Kd.R_drewN | apply Kd.R_drew)); exact HO_15.out) hb); have n1_ := Aside0.mk (below_step (by repeat (first | (with_reducible first | exact HB.out | apply below_alloc | apply pw_below_drewN | apply below_drew1) | exact HB.out)) hb); clear HO_15; clear HB; have HO_15 := n0_; have HB := n1_; clear n0_ n1_; (try clear hb); (try clear hb2); (try clear hk); (try clear hi); obtain ⟨Ao83, co83, eo83⟩ := Kd.R_slice HO_15.out; subst eo83) | ((with_reducible refine gate_callee (f := 44) rfl ?_); refine goesL_ (some 156) rfl rfl Tryd.func44 (by kernel_rfl) rfl #[.slice Ao83 t397.length co83] rfl (by (try simp only [List.map_toArray, List.map_cons, List.map_nil]); first | done | rfl | (simp only [List.length_drop, List.length_take]; rfl)) ?_; (with_reducible refine (money_Sum.calls k5 _ _ t397 t403 t404 _ ?side1 ?side2 A67.out).mono ?_); (case side1 => repeat (first | exact (Kd.R_reads' HO_15.out).2.2 | (with_reducible refine Kd.C_alloc ?_ _) | (with_reducible refine Kd.C_drewN ?_ _) | (with_reducible refine Kd.C_drew ?_))); (case side2 => exact (Kd.R_reads' HO_15.out).2.1); rintro e w84 ⟨rfl, hb⟩; refine ⟨_, rfl, ?_⟩; have n0_ := Aside0.mk (Kd.R_below (by (with_reducible repeat (first | apply Kd.R_alloc | apply Kd.R_drewN | apply Kd.R_drew)); exact HO_15.out) hb); have n1_ := Aside0.mk (below_step (by repeat (first | (with_reducible first | exact HB.out | apply below_alloc | apply pw_below_drewN | apply below_drew1) | exact HB.out)) hb); clear HO_15; clear HB; have HO_15 := n0_; have HB := n1_; clear n0_ n1_; (try clear hb); (try clear hb2); (try clear hk); (try clear hi)))
                    go_ret
                    exact ⟨by first | rfl | (simp [errW_none, errW_some] <;> rfl) | (simp [*, errW_none, errW_some] <;> rfl), by repeat (first | (with_reducible first | exact HB.out | apply below_alloc | apply pw_below_drewN | apply below_drew1) | exact HB.out)⟩
                  ·rw [if_neg c69] at H
                   have c69b0 : (t404 == 0) = false := beq_eq_false_iff_ne.mpr c69
                   have c69b1 : (t404 != 0) = true := bne_iff_ne.mpr c69
                   obtain rfl := Option.some.inj H
                   go_wp2_with (first | ((with_reducible refine gate_callee (f := 43) rfl ?_); refine goesL_ (some 149) rfl rfl Tryd.func43 (by kernel_rfl) rfl #[.int .i64 a0] rfl (by (try simp only [List.map_toArray, List.map_cons, List.map_nil]); first | done | rfl | (simp only [List.length_drop, List.length_take]; rfl)) ?_; (with_reducible refine (frac_Of.calls k5 a0 t401 t402 _ A66.out).mono ?_); rintro e w85 ⟨rfl, hb⟩; refine ⟨_, rfl, ?_⟩; have n0_ := Aside0.mk (Kd.R_below (by (with_reducible repeat (first | apply Kd.R_alloc | apply Kd.R_drewN | apply Kd.R_drew)); exact HO_15.out) hb); have n1_ := Aside0.mk (below_step (by repeat (first | (with_reducible first | exact HB.out | apply below_alloc | apply pw_below_drewN | apply below_drew1) | exact HB.out)) hb); clear HO_15; clear HB; have HO_15 := n0_; have HB := n1_; clear n0_ n1_; (try clear hb); (try clear hb2); (try clear hk); (try clear hi); obtain ⟨Ao86, co86, eo86⟩ := Kd.R_slice HO_15.out; subst eo86) | ((with_reducible refine gate_callee (f := 44) rfl ?_); refine goesL_ (some 156) rfl rfl Tryd.func44 (by kernel_rfl) rfl #[.slice Ao86 t397.length co86] rfl (by (try simp only [List.map_toArray, List.map_cons, List.map_nil]); first | done | rfl | (simp only [List.length_drop, List.length_take]; rfl)) ?_; (with_reducible refine (money_Sum.calls k5 _ _ t397 t403 t404 _ ?side1 ?side2 A67.out).mono ?_); (case side1 => repeat (first | exact (Kd.R_reads' HO_15.out).2.2 | (with_reducible refine Kd.C_alloc ?_ _) | (with_reducible refine Kd.C_drewN ?_ _) | (with_reducible refine Kd.C_drew ?_))); (case side2 => exact (Kd.R_reads' HO_15.out).2.1); rintro e w87 ⟨rfl, hb⟩; refine ⟨_, rfl, ?_⟩; have n0_ := Aside0.mk (Kd.R_below (by (with_reducible repeat (first | apply Kd.R_alloc | apply Kd.R_drewN | apply Kd.R_drew)); exact HO_15.out) hb); have n1_ := Aside0.mk (below_step (by repeat (first | (with_reducible first | exact HB.out | apply below_alloc | apply pw_below_drewN | apply below_drew1) | exact HB.out)) hb); clear HO_15; clear HB; have HO_15 := n0_; have HB := n1_; clear n0_ n1_; (try clear hb); (try clear hb2); (try clear hk); (try clear hi)))
                   go_ret
                   exact ⟨by first | rfl | (simp [errW_none, errW_some] <;> rfl) | (simp [*, errW_none, errW_some] <;> rfl), by repeat (first | (with_reducible first | exact HB.out | apply below_alloc | apply pw_below_drewN | apply below_drew1) | exact HB.out)⟩
                 ·rw [if_neg c68] at H
                  have c68b0 : (t402 == 0) = false := beq_eq_false_iff_ne.mpr c68
                  have c68b1 : (t402 != 0) = true := bne_iff_ne.mpr c68
                  obtain rfl := Option.some.inj H
                  go_wp2_with (first | ((with_reducible refine gate_callee (f := 43) rfl ?_); refine goesL_ (some 149) rfl rfl Tryd.func43 (by kernel_rfl) rfl #[.int .i64 a0] rfl (by (try simp only [List.map_toArray, List.map_cons, List.map_nil]); first | done | rfl | (simp only [List.length_drop, List.length_take]; rfl)) ?_; (with_reducible refine (frac_Of.calls k5 a0 t401 t402 _ A66.out).mono ?_); rintro e w88 ⟨rfl, hb⟩; refine ⟨_, rfl, ?_⟩; have n0_ := Aside0.mk (Kd.R_below (by (with_reducible repeat (first | apply Kd.R_alloc | apply Kd.R_drewN | apply Kd.R_drew)); exact HO_15.out) hb); have n1_ := Aside0.mk (below_step (by repeat (first | (with_reducible first | exact HB.out | apply below_alloc | apply pw_below_drewN | apply below_drew1) | exact HB.out)) hb); clear HO_15; clear HB; have HO_15 := n0_; have HB := n1_; clear n0_ n1_; (try clear hb); (try clear hb2); (try clear hk); (try clear hi); obtain ⟨Ao89, co89, eo89⟩ := Kd.R_slice HO_15.out; subst eo89) | ((with_reducible refine gate_callee (f := 44) rfl ?_); refine goesL_ (some 156) rfl rfl Tryd.func44 (by kernel_rfl) rfl #[.slice Ao89 t397.length co89] rfl (by (try simp only [List.map_toArray, List.map_cons, List.map_nil]); first | done | rfl | (simp only [List.length_drop, List.length_take]; rfl)) ?_; (with_reducible refine (money_Sum.calls k5 _ _ t397 t403 t404 _ ?side1 ?side2 A67.out).mono ?_); (case side1 => repeat (first | exact (Kd.R_reads' HO_15.out).2.2 | (with_reducible refine Kd.C_alloc ?_ _) | (with_reducible refine Kd.C_drewN ?_ _) | (with_reducible refine Kd.C_drew ?_))); (case side2 => exact (Kd.R_reads' HO_15.out).2.1); rintro e w90 ⟨rfl, hb⟩; refine ⟨_, rfl, ?_⟩; have n0_ := Aside0.mk (Kd.R_below (by (with_reducible repeat (first | apply Kd.R_alloc | apply Kd.R_drewN | apply Kd.R_drew)); exact HO_15.out) hb); have n1_ := Aside0.mk (below_step (by repeat (first | (with_reducible first | exact HB.out | apply below_alloc | apply pw_below_drewN | apply below_drew1) | exact HB.out)) hb); clear HO_15; clear HB; have HO_15 := n0_; have HB := n1_; clear n0_ n1_; (try clear hb); (try clear hb2); (try clear hk); (try clear hi)))
                  go_ret
                  exact ⟨by first | rfl | (simp [errW_none, errW_some] <;> rfl) | (simp [*, errW_none, errW_some] <;> rfl), by repeat (first | (with_reducible first | exact HB.out | apply below_alloc | apply pw_below_drewN | apply below_drew1) | exact HB.out)⟩
          ·rw [if_neg c41] at H
           have c41b0 : (x9_3 == 10000) = false := beq_eq_false_iff_ne.mpr c41
           have c41b1 : (x9_3 != 10000) = true := bne_iff_ne.mpr c41
           obtain rfl := Option.some.inj H
           go_wp2
           go_ret
           exact ⟨by first | rfl | (simp [errW_none, errW_some] <;> rfl) | (simp [*, errW_none, errW_some] <;> rfl), by repeat (first | (with_reducible first | exact HB.out | apply below_alloc | apply pw_below_drewN | apply below_drew1) | exact HB.out)⟩

end Go.Proofs.YtmocphafkimdpaaDoor.P
