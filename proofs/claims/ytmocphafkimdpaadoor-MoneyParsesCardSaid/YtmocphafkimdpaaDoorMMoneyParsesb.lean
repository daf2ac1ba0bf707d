/- A part of the proof of MoneyParses's card: 'MoneyParses' answers true for every input (the conditions: those of the given statement alone). Merged by a program (wip/merge.py) out of: Pf60. -/
import Derived.Test.YtmocphafkimdpaaDoorBMoneya

-- written by a program (a patched copy of the kit's print: wip/mkprint.py); Lean checks it
namespace Go.Proofs.YtmocphafkimdpaaDoor.P
open Go.RowKit Go.Proofs.YtmocphafkimdpaaDoorW.PrintWords Go.Proofs.YtmocphafkimdpaaDoorW.PrintLast Go.Proofs.YtmocphafkimdpaaDoorW.PrintMore
attribute [local go_sem] max2_int min2_int max_two min_two max_three min_three max_four min_four   -- for this text's walks alone
set_option linter.unusedVariables false
set_option linter.unusedSimpArgs false

/-! ### stipendref01_Parse: function 60 -/
mutual
def stipendref01_Parse.j0 : Nat → ByteArray → Bool → Bool → Option (Int × Int)
 | 0, _, _, _ => none
 | k + 1, x0, x4, x19 => if x19 = true then (if 1 ≤ (x0.size : Int) then (stipendref01_Parse.j1 k (x0.extract 1 x0.size) true) else (none)) else (stipendref01_Parse.j1 k x0 x4)
def stipendref01_Parse.j1 : Nat → ByteArray → Bool → Option (Int × Int)
 | 0, _, _ => none
 | k + 1, x0, x4 => stipendref01_Parse.l0 k x0 x4 (-1) 0
def stipendref01_Parse.l0 : Nat → ByteArray → Bool → Int → Int → Option (Int × Int)
 | 0, _, _, _, _ => none
 | k + 1, x0, x4, x5, x6 => if x6 < (x0.size : Int) then (if 0 ≤ x6 then (if (bt x0 x6) = 46 then (stipendref01_Parse.j3 k x0 x4 x5 x6 (decide (x5 < 0))) else (stipendref01_Parse.j3 k x0 x4 x5 x6 false)) else (none)) else (if x5 ≥ 0 then (if x5 = (wrap64 ((x0.size : Int) - 3)) then (if 0 ≤ x5 then (if x5 ≤ (x0.size : Int) then (stipendref01_Parse.j4 k x0 x4 x5 (x0.extract 0 (x5 : Int).toNat)) else (none)) else (none)) else (some (0, 5))) else (stipendref01_Parse.j4 k x0 x4 x5 x0))
def stipendref01_Parse.j3 : Nat → ByteArray → Bool → Int → Int → Bool → Option (Int × Int)
 | 0, _, _, _, _, _ => none
 | k + 1, x0, x4, x5, x6, x35 => if x35 = true then (stipendref01_Parse.l0 k x0 x4 x6 (wrap64 (x6 + 1))) else (if 0 ≤ x6 then (if x6 < (x0.size : Int) then (if (bt x0 x6) < 48 then (some (0, 5)) else (if (bt x0 x6) > 57 then (some (0, 5)) else (stipendref01_Parse.l0 k x0 x4 x5 (wrap64 (x6 + 1))))) else (none)) else (none))
def stipendref01_Parse.j4 : Nat → ByteArray → Bool → Int → ByteArray → Option (Int × Int)
 | 0, _, _, _, _ => none
 | k + 1, x0, x4, x5, x7 => if (x0.size : Int) > 20 then (stipendref01_Parse.j5 k x0 x4 x5 true) else (if x7.toList = ([] : List UInt8) then (stipendref01_Parse.j5 k x0 x4 x5 true) else (if (x7.size : Int) > 1 then (if 0 < (x7.size : Int) then (stipendref01_Parse.j5 k x0 x4 x5 ((bt x7 0) == 48)) else (none)) else (stipendref01_Parse.j5 k x0 x4 x5 false)))
def stipendref01_Parse.j5 : Nat → ByteArray → Bool → Int → Bool → Option (Int × Int)
 | 0, _, _, _, _ => none
 | k + 1, x0, x4, x5, x74 => if x74 = true then (some (0, 5)) else (stipendref01_Parse.l1 k x0 x4 x5 0 false false 0)
def stipendref01_Parse.l1 : Nat → ByteArray → Bool → Int → Int → Bool → Bool → Int → Option (Int × Int)
 | 0, _, _, _, _, _, _, _ => none
 | k + 1, x0, x4, x5, x8, x9, x10, x11 => if x11 < (x0.size : Int) then (if 0 ≤ x11 then (if (bt x0 x11) = 46 then (stipendref01_Parse.l1 k x0 x4 x5 x8 x9 x10 (wrap64 (x11 + 1))) else (if x10 = true then (if (wrap64 ((wrap64 (10 * x8)) + (((bt x0 x11) - 48) % 256))) > 10000000000000 then (stipendref01_Parse.l1 k x0 x4 x5 0 true true (wrap64 (x11 + 1))) else (stipendref01_Parse.l1 k x0 x4 x5 (wrap64 ((wrap64 (10 * x8)) + (((bt x0 x11) - 48) % 256))) x9 true (wrap64 (x11 + 1)))) else (if (wrap64 ((wrap64 (10 * x8)) + (((bt x0 x11) - 48) % 256))) > 10000000000000 then (stipendref01_Parse.l1 k x0 x4 x5 0 true ((bt x0 x11) != 48) (wrap64 (x11 + 1))) else (stipendref01_Parse.l1 k x0 x4 x5 (wrap64 ((wrap64 (10 * x8)) + (((bt x0 x11) - 48) % 256))) x9 ((bt x0 x11) != 48) (wrap64 (x11 + 1)))))) else (none)) else (if x5 < 0 then (stipendref01_Parse.j7 k x4 (wrap64 (x8 * 100)) x9 x10) else (stipendref01_Parse.j7 k x4 x8 x9 x10))
def stipendref01_Parse.j7 : Nat → Bool → Int → Bool → Bool → Option (Int × Int)
 | 0, _, _, _, _ => none
 | k + 1, x4, x8, x9, x10 => if x4 = true then (stipendref01_Parse.j8 k x4 x8 x9 (!x10)) else (stipendref01_Parse.j8 k x4 x8 x9 false)
def stipendref01_Parse.j8 : Nat → Bool → Int → Bool → Bool → Option (Int × Int)
 | 0, _, _, _, _ => none
 | k + 1, x4, x8, x9, x110 => if x110 = true then (some (0, 5)) else (if x9 = true then (stipendref01_Parse.j9 k x4 x8 true) else (stipendref01_Parse.j9 k x4 x8 (decide (x8 > 100000000000))))
def stipendref01_Parse.j9 : Nat → Bool → Int → Bool → Option (Int × Int)
 | 0, _, _, _ => none
 | k + 1, x4, x8, x115 => if x115 = true then (some (0, 10)) else (if x4 = true then (some (wrap64 (-x8), 0)) else (some (x8, 0)))
end
def stipendref01_Parse.f (k : Nat) (a0 : ByteArray) : Option (Int × Int) := if (a0.size : Int) > 0 then (if 0 < (a0.size : Int) then (stipendref01_Parse.j0 k a0 false ((bt a0 0) == 45)) else (none)) else (stipendref01_Parse.j0 k a0 false false)
theorem stipendref01_Parse.mono_l : ∀ k, (∀ y0 y1 y2, LeO (stipendref01_Parse.j0 k y0 y1 y2) (stipendref01_Parse.j0 (k + 1) y0 y1 y2)) ∧ (∀ y0 y1, LeO (stipendref01_Parse.j1 k y0 y1) (stipendref01_Parse.j1 (k + 1) y0 y1)) ∧ (∀ y0 y1 y2 y3, LeO (stipendref01_Parse.l0 k y0 y1 y2 y3) (stipendref01_Parse.l0 (k + 1) y0 y1 y2 y3)) ∧ (∀ y0 y1 y2 y3 y4, LeO (stipendref01_Parse.j3 k y0 y1 y2 y3 y4) (stipendref01_Parse.j3 (k + 1) y0 y1 y2 y3 y4)) ∧ (∀ y0 y1 y2 y3, LeO (stipendref01_Parse.j4 k y0 y1 y2 y3) (stipendref01_Parse.j4 (k + 1) y0 y1 y2 y3)) ∧ (∀ y0 y1 y2 y3, LeO (stipendref01_Parse.j5 k y0 y1 y2 y3) (stipendref01_Parse.j5 (k + 1) y0 y1 y2 y3)) ∧ (∀ y0 y1 y2 y3 y4 y5 y6, LeO (stipendref01_Parse.l1 k y0 y1 y2 y3 y4 y5 y6) (stipendref01_Parse.l1 (k + 1) y0 y1 y2 y3 y4 y5 y6)) ∧ (∀ y0 y1 y2 y3, LeO (stipendref01_Parse.j7 k y0 y1 y2 y3) (stipendref01_Parse.j7 (k + 1) y0 y1 y2 y3)) ∧ (∀ y0 y1 y2 y3, LeO (stipendref01_Parse.j8 k y0 y1 y2 y3) (stipendref01_Parse.j8 (k + 1) y0 y1 y2 y3)) ∧ (∀ y0 y1 y2, LeO (stipendref01_Parse.j9 k y0 y1 y2) (stipendref01_Parse.j9 (k + 1) y0 y1 y2))
 | 0 => ⟨fun _ _ _ r h => by simp [stipendref01_Parse.j0] at h, fun _ _ r h => by simp [stipendref01_Parse.j1] at h, fun _ _ _ _ r h => by simp [stipendref01_Parse.l0] at h, fun _ _ _ _ _ r h => by simp [stipendref01_Parse.j3] at h, fun _ _ _ _ r h => by simp [stipendref01_Parse.j4] at h, fun _ _ _ _ r h => by simp [stipendref01_Parse.j5] at h, fun _ _ _ _ _ _ _ r h => by simp [stipendref01_Parse.l1] at h, fun _ _ _ _ r h => by simp [stipendref01_Parse.j7] at h, fun _ _ _ _ r h => by simp [stipendref01_Parse.j8] at h, fun _ _ _ r h => by simp [stipendref01_Parse.j9] at h⟩
 | k + 1 => by
  obtain ⟨ih0, ih1, ih2, ih3, ih4, ih5, ih6, ih7, ih8, ih9⟩ := stipendref01_Parse.mono_l k
  refine ⟨?_, ?_, ?_, ?_, ?_, ?_, ?_, ?_, ?_, ?_⟩
  ·intro y0 y1 y2
   unfold stipendref01_Parse.j0
   repeat' first
   | (with_reducible exact ih0 _ _ _)
   | (with_reducible exact ih1 _ _)
   | (with_reducible exact ih2 _ _ _ _)
   | (with_reducible exact ih3 _ _ _ _ _)
   | (with_reducible exact ih4 _ _ _ _)
   | (with_reducible exact ih5 _ _ _ _)
   | (with_reducible exact ih6 _ _ _ _ _ _ _)
   | (with_reducible exact ih7 _ _ _ _)
   | (with_reducible exact ih8 _ _ _ _)
   | (with_reducible exact ih9 _ _ _)
   | (with_reducible exact LeO.refl _)
   | (with_reducible exact LeO.none _)
   | (with_reducible refine LeO.ite ?_ ?_)
   | (with_reducible refine LeO.bind ?_ (fun _ => ?_))
   | exact ih0 _ _ _
   | exact ih1 _ _
   | exact ih2 _ _ _ _
   | exact ih3 _ _ _ _ _
   | exact ih4 _ _ _ _
   | exact ih5 _ _ _ _
   | exact ih6 _ _ _ _ _ _ _
   | exact ih7 _ _ _ _
   | exact ih8 _ _ _ _
   | exact ih9 _ _ _
   | exact LeO.none _
   | refine LeO.ite ?_ ?_
   | refine LeO.bind ?_ (fun _ => ?_)
  ·intro y0 y1
   unfold stipendref01_Parse.j1
   repeat' first
   | (with_reducible exact ih0 _ _ _)
   | (with_reducible exact ih1 _ _)
   | (with_reducible exact ih2 _ _ _ _)
   | (with_reducible exact ih3 _ _ _ _ _)
   | (with_reducible exact ih4 _ _ _ _)
   | (with_reducible exact ih5 _ _ _ _)
   | (with_reducible exact ih6 _ _ _ _ _ _ _)
   | (with_reducible exact ih7 _ _ _ _)
   | (with_reducible exact ih8 _ _ _ _)
   | (with_reducible exact ih9 _ _ _)
   | (with_reducible exact LeO.refl _)
   | (with_reducible exact LeO.none _)
   | (with_reducible refine LeO.ite ?_ ?_)
   | (with_reducible refine LeO.bind ?_ (fun _ => ?_))
   | exact ih0 _ _ _
   | exact ih1 _ _
   | exact ih2 _ _ _ _
   | exact ih3 _ _ _ _ _
   | exact ih4 _ _ _ _
   | exact ih5 _ _ _ _
   | exact ih6 _ _ _ _ _ _ _
   | exact ih7 _ _ _ _
   | exact ih8 _ _ _ _
   | exact ih9 _ _ _
   | exact LeO.none _
   | refine LeO.ite ?_ ?_
   | refine LeO.bind ?_ (fun _ => ?_)
  ·intro y0 y1 y2 y3
   unfold stipendref01_Parse.l0
   repeat' first
   | (with_reducible exact ih0 _ _ _)
   | (with_reducible exact ih1 _ _)
   | (with_reducible exact ih2 _ _ _ _)
   | (with_reducible exact ih3 _ _ _ _ _)
   | (with_reducible exact ih4 _ _ _ _)
   | (with_reducible exact ih5 _ _ _ _)
   | (with_reducible exact ih6 _ _ _ _ _ _ _)
   | (with_reducible exact ih7 _ _ _ _)
   | (with_reducible exact ih8 _ _ _ _)
   | (with_reducible exact ih9 _ _ _)
   | (with_reducible exact LeO.refl _)
   | (with_reducible exact LeO.none _)
   | (with_reducible refine LeO.ite ?_ ?_)
   | (with_reducible refine LeO.bind ?_ (fun _ => ?_))
   | exact ih0 _ _ _
   | exact ih1 _ _
   | exact ih2 _ _ _ _
   | exact ih3 _ _ _ _ _
   | exact ih4 _ _ _ _
   | exact ih5 _ _ _ _
   | exact ih6 _ _ _ _ _ _ _
   | exact ih7 _ _ _ _
   | exact ih8 _ _ _ _
   | exact ih9 _ _ _
   | exact LeO.none _
   | refine LeO.ite ?_ ?_
   | refine LeO.bind ?_ (fun _ => ?_)
  ·intro y0 y1 y2 y3 y4
   unfold stipendref01_Parse.j3
   repeat' first
   | (with_reducible exact ih0 _ _ _)
   | (with_reducible exact ih1 _ _)
   | (with_reducible exact ih2 _ _ _ _)
   | (with_reducible exact ih3 _ _ _ _ _)
   | (with_reducible exact ih4 _ _ _ _)
   | (with_reducible exact ih5 _ _ _ _)
   | (with_reducible exact ih6 _ _ _ _ _ _ _)
   | (with_reducible exact ih7 _ _ _ _)
   | (with_reducible exact ih8 _ _ _ _)
   | (with_reducible exact ih9 _ _ _)
   | (with_reducible exact LeO.refl _)
   | (with_reducible exact LeO.none _)
   | (with_reducible refine LeO.ite ?_ ?_)
   | (with_reducible refine LeO.bind ?_ (fun _ => ?_))
   | exact ih0 _ _ _
   | exact ih1 _ _
   | exact ih2 _ _ _ _
   | exact ih3 _ _ _ _ _
   | exact ih4 _ _ _ _
   | exact ih5 _ _ _ _
   | exact ih6 _ _ _ _ _ _ _
   | exact ih7 _ _ _ _
   | exact ih8 _ _ _ _
   | exact ih9 _ _ _
   | exact LeO.none _
   | refine LeO.ite ?_ ?_
   | refine LeO.bind ?_ (fun _ => ?_)
  ·intro y0 y1 y2 y3
   unfold stipendref01_Parse.j4
   repeat' first
   | (with_reducible exact ih0 _ _ _)
   | (with_reducible exact ih1 _ _)
   | (with_reducible exact ih2 _ _ _ _)
   | (with_reducible exact ih3 _ _ _ _ _)
   | (with_reducible exact ih4 _ _ _ _)
   | (with_reducible exact ih5 _ _ _ _)
   | (with_reducible exact ih6 _ _ _ _ _ _ _)
   | (with_reducible exact ih7 _ _ _ _)
   | (with_reducible exact ih8 _ _ _ _)
   | (with_reducible exact ih9 _ _ _)
   | (with_reducible exact LeO.refl _)
   | (with_reducible exact LeO.none _)
   | (with_reducible refine LeO.ite ?_ ?_)
   | (with_reducible refine LeO.bind ?_ (fun _ => ?_))
   | exact ih0 _ _ _
   | exact ih1 _ _
   | exact ih2 _ _ _ _
   | exact ih3 _ _ _ _ _
   | exact ih4 _ _ _ _
   | exact ih5 _ _ _ _
   | exact ih6 _ _ _ _ _ _ _
   | exact ih7 _ _ _ _
   | exact ih8 _ _ _ _
   | exact ih9 _ _ _
   | exact LeO.none _
   | refine LeO.ite ?_ ?_
   | refine LeO.bind ?_ (fun _ => ?_)
  ·intro y0 y1 y2 y3
   unfold stipendref01_Parse.j5
   repeat' first
   | (with_reducible exact ih0 _ _ _)
   | (with_reducible exact ih1 _ _)
   | (with_reducible exact ih2 _ _ _ _)
   | (with_reducible exact ih3 _ _ _ _ _)
   | (with_reducible exact ih4 _ _ _ _)
   | (with_reducible exact ih5 _ _ _ _)
   | (with_reducible exact ih6 _ _ _ _ _ _ _)
   | (with_reducible exact ih7 _ _ _ _)
   | (with_reducible exact ih8 _ _ _ _)
   | (with_reducible exact ih9 _ _ _)
   | (with_reducible exact LeO.refl _)
   | (with_reducible exact LeO.none _)
   | (with_reducible refine LeO.ite ?_ ?_)
   | (with_reducible refine LeO.bind ?_ (fun _ => ?_))
   | exact ih0 _ _ _
   | exact ih1 _ _
   | exact ih2 _ _ _ _
   | exact ih3 _ _ _ _ _
   | exact ih4 _ _ _ _
   | exact ih5 _ _ _ _
   | exact ih6 _ _ _ _ _ _ _
   | exact ih7 _ _ _ _
   | exact ih8 _ _ _ _
   | exact ih9 _ _ _
   | exact LeO.none _
   | refine LeO.ite ?_ ?_
   | refine LeO.bind ?_ (fun _ => ?_)
  ·intro y0 y1 y2 y3 y4 y5 y6
   unfold stipendref01_Parse.l1
   repeat' first
   | (with_reducible exact ih0 _ _ _)
   | (with_reducible exact ih1 _ _)
   | (with_reducible exact ih2 _ _ _ _)
   | (with_reducible exact ih3 _ _ _ _ _)
   | (with_reducible exact ih4 _ _ _ _)
   | (with_reducible exact ih5 _ _ _ _)
   | (with_reducible exact ih6 _ _ _ _ _ _ _)
   | (with_reducible exact ih7 _ _ _ _)
   | (with_reducible exact ih8 _ _ _ _)
   | (with_reducible exact ih9 _ _ _)
   | (with_reducible exact LeO.refl _)
   | (with_reducible exact LeO.none _)
   | (with_reducible refine LeO.ite ?_ ?_)
   | (with_reducible refine LeO.bind ?_ (fun _ => ?_))
   | exact ih0 _ _ _
   | exact ih1 _ _
   | exact ih2 _ _ _ _
   | exact ih3 _ _ _ _ _
   | exact ih4 _ _ _ _
   | exact ih5 _ _ _ _
   | exact ih6 _ _ _ _ _ _ _
   | exact ih7 _ _ _ _
   | exact ih8 _ _ _ _
   | exact ih9 _ _ _
   | exact LeO.none _
   | refine LeO.ite ?_ ?_
   | refine LeO.bind ?_ (fun _ => ?_)
  ·intro y0 y1 y2 y3
   unfold stipendref01_Parse.j7
   repeat' first
   | (with_reducible exact ih0 _ _ _)
   | (with_reducible exact ih1 _ _)
   | (with_reducible exact ih2 _ _ _ _)
   | (with_reducible exact ih3 _ _ _ _ _)
   | (with_reducible exact ih4 _ _ _ _)
   | (with_reducible exact ih5 _ _ _ _)
   | (with_reducible exact ih6 _ _ _ _ _ _ _)
   | (with_reducible exact ih7 _ _ _ _)
   | (with_reducible exact ih8 _ _ _ _)
   | (with_reducible exact ih9 _ _ _)
   | (with_reducible exact LeO.refl _)
   | (with_reducible exact LeO.none _)
   | (with_reducible refine LeO.ite ?_ ?_)
   | (with_reducible refine LeO.bind ?_ (fun _ => ?_))
   | exact ih0 _ _ _
   | exact ih1 _ _
   | exact ih2 _ _ _ _
   | exact ih3 _ _ _ _ _
   | exact ih4 _ _ _ _
   | exact ih5 _ _ _ _
   | exact ih6 _ _ _ _ _ _ _
   | exact ih7 _ _ _ _
   | exact ih8 _ _ _ _
   | exact ih9 _ _ _
   | exact LeO.none _
   | refine LeO.ite ?_ ?_
   | refine LeO.bind ?_ (fun _ => ?_)
  ·intro y0 y1 y2 y3
   unfold stipendref01_Parse.j8
   repeat' first
   | (with_reducible exact ih0 _ _ _)
   | (with_reducible exact ih1 _ _)
   | (with_reducible exact ih2 _ _ _ _)
   | (with_reducible exact ih3 _ _ _ _ _)
   | (with_reducible exact ih4 _ _ _ _)
   | (with_reducible exact ih5 _ _ _ _)
   | (with_reducible exact ih6 _ _ _ _ _ _ _)
   | (with_reducible exact ih7 _ _ _ _)
   | (with_reducible exact ih8 _ _ _ _)
   | (with_reducible exact ih9 _ _ _)
   | (with_reducible exact LeO.refl _)
   | (with_reducible exact LeO.none _)
   | (with_reducible refine LeO.ite ?_ ?_)
   | (with_reducible refine LeO.bind ?_ (fun _ => ?_))
   | exact ih0 _ _ _
   | exact ih1 _ _
   | exact ih2 _ _ _ _
   | exact ih3 _ _ _ _ _
   | exact ih4 _ _ _ _
   | exact ih5 _ _ _ _
   | exact ih6 _ _ _ _ _ _ _
   | exact ih7 _ _ _ _
   | exact ih8 _ _ _ _
   | exact ih9 _ _ _
   | exact LeO.none _
   | refine LeO.ite ?_ ?_
   | refine LeO.bind ?_ (fun _ => ?_)
  ·intro y0 y1 y2
   unfold stipendref01_Parse.j9
   repeat' first
   | (with_reducible exact ih0 _ _ _)
   | (with_reducible exact ih1 _ _)
   | (with_reducible exact ih2 _ _ _ _)
   | (with_reducible exact ih3 _ _ _ _ _)
   | (with_reducible exact ih4 _ _ _ _)
   | (with_reducible exact ih5 _ _ _ _)
   | (with_reducible exact ih6 _ _ _ _ _ _ _)
   | (with_reducible exact ih7 _ _ _ _)
   | (with_reducible exact ih8 _ _ _ _)
   | (with_reducible exact ih9 _ _ _)
   | (with_reducible exact LeO.refl _)
   | (with_reducible exact LeO.none _)
   | (with_reducible refine LeO.ite ?_ ?_)
   | (with_reducible refine LeO.bind ?_ (fun _ => ?_))
   | exact ih0 _ _ _
   | exact ih1 _ _
   | exact ih2 _ _ _ _
   | exact ih3 _ _ _ _ _
   | exact ih4 _ _ _ _
   | exact ih5 _ _ _ _
   | exact ih6 _ _ _ _ _ _ _
   | exact ih7 _ _ _ _
   | exact ih8 _ _ _ _
   | exact ih9 _ _ _
   | exact LeO.none _
   | refine LeO.ite ?_ ?_
   | refine LeO.bind ?_ (fun _ => ?_)
theorem stipendref01_Parse.mono : ∀ a0 k, LeO (stipendref01_Parse.f k a0) (stipendref01_Parse.f (k + 1) a0) := by
 intro a0 k
 obtain ⟨ih0, ih1, ih2, ih3, ih4, ih5, ih6, ih7, ih8, ih9⟩ := stipendref01_Parse.mono_l k
 unfold stipendref01_Parse.f
 repeat' first
   | (with_reducible exact ih0 _ _ _)
   | (with_reducible exact ih1 _ _)
   | (with_reducible exact ih2 _ _ _ _)
   | (with_reducible exact ih3 _ _ _ _ _)
   | (with_reducible exact ih4 _ _ _ _)
   | (with_reducible exact ih5 _ _ _ _)
   | (with_reducible exact ih6 _ _ _ _ _ _ _)
   | (with_reducible exact ih7 _ _ _ _)
   | (with_reducible exact ih8 _ _ _ _)
   | (with_reducible exact ih9 _ _ _)
   | (with_reducible exact LeO.refl _)
   | (with_reducible exact LeO.none _)
   | (with_reducible refine LeO.ite ?_ ?_)
   | (with_reducible refine LeO.bind ?_ (fun _ => ?_))
   | exact ih0 _ _ _
   | exact ih1 _ _
   | exact ih2 _ _ _ _
   | exact ih3 _ _ _ _ _
   | exact ih4 _ _ _ _
   | exact ih5 _ _ _ _
   | exact ih6 _ _ _ _ _ _ _
   | exact ih7 _ _ _ _
   | exact ih8 _ _ _ _
   | exact ih9 _ _ _
   | exact LeO.none _
   | refine LeO.ite ?_ ?_
   | refine LeO.bind ?_ (fun _ => ?_)
set_option maxHeartbeats 8000000 in
set_option maxRecDepth 100000 in
theorem stipendref01_Parse.calls (k : Nat) (a0 : ByteArray) (r1 : Int) (r2 : Int) (w : World) (h : stipendref01_Parse.f k a0 = some (r1, r2)) :
  Calls Tryd.prog 60 #[.string a0] w fun e w' => e = .returned (.tuple #[.int .i64 r1, .int .i64 r2]) ∧ Drawn0 w w' := by
 have H : (if (a0.size : Int) > 0 then (if 0 < (a0.size : Int) then (stipendref01_Parse.j0 k a0 false ((bt a0 0) == 45)) else (none)) else (stipendref01_Parse.j0 k a0 false false)) = some (r1, r2) := h
 clear h
 have HC2 := Aside0.mk H
 clear H
 go_enter Tryd.func60, Tryd.ntmps60
 go_upto_region 2 with (fail)
 go_cut [19] (fun v19 wc => ∃ (kq : Nat) (x19_1 : Bool), v19 = .bool x19_1 ∧ Aside0 (stipendref01_Parse.j0 kq a0 false x19_1 = some (r1, r2)) ∧ Aside0 (kq ≤ k) ∧ Drawn0 w wc)
 case first =>
  have H := HC2.out
  clear HC2
  by_cases c3 : (a0.size : Int) > 0
  ·rw [if_pos c3] at H
   have c3b0 : decide (0 < (a0.size : Int)) = true := decide_eq_true c3
   have c3b1 : decide (0 < a0.size) = true := decide_eq_true (by omega)
   clear c3
   (first | rw [c3b0] | (simp only [i64_w, i32_w]; rw [c3b0]) | skip)
   by_cases c4 : 0 < (a0.size : Int)
   ·rw [if_pos c4] at H
    have c4b0 : decide (0 < (a0.size : Int)) = true := decide_eq_true c4
    have c4b1 : decide (0 < a0.size) = true := decide_eq_true (by omega)
    clear c4
    have H' := Aside0.mk H
    clear H
    have p5 : 0 ≤ (0 : Int) := (by omega)
    have q5 : 0 < a0.size := (by have : (0 : Int) < (a0.size : Int) := of_decide_eq_true (by first | (with_reducible assumption) | assumption); omega)
    have hx5 : ∀ h : 0 < a0.size, ((a0[0]'h).toNat : Int) = bt a0 0 := bt_at a0 0
    clear p5
    have qi5 : (0 < (a0.size : Int)) = True := eq_true (of_decide_eq_true (by first | (with_reducible assumption) | assumption))
    replace q5 := eq_true q5
    go_wp2
    go_meet
    case rel => exact ⟨_, (((bt a0 0) == 45)), (by first | rfl | (simp; done) | (simp [*]; done)), H', ⟨by first | omega | exact Nat.le_refl _⟩, by repeat (first | exact Drawn0.refl _ | apply Drawn0.step)⟩
   ·rw [if_neg c4] at H
    exact absurd H (by simp)
  ·rw [if_neg c3] at H
   have c3b0 : decide (0 < (a0.size : Int)) = false := decide_eq_false c3
   have c3b1 : decide (0 < a0.size) = false := decide_eq_false (by omega)
   clear c3
   (first | rw [c3b0] | (simp only [i64_w, i32_w]; rw [c3b0]) | skip)
   have H' := Aside0.mk H
   clear H
   go_wp2
   go_meet
   case rel => exact ⟨_, (false), (by first | rfl | (simp; done) | (simp [*]; done)), H', ⟨by first | omega | exact Nat.le_refl _⟩, by repeat (first | exact Drawn0.refl _ | apply Drawn0.step)⟩
 case rest =>
  clear HC2
  try clear p2
  try clear c3
  try clear c3b0
  try clear c3b1
  try clear c4
  try clear c4b0
  try clear c4b1
  try clear p5
  try clear q5
  try clear hx5
  try clear qi5
  try clear p5
  try clear q5
  obtain ⟨kq, x19_1, rfl, HA, HJ1, ⟨mc1, rfl⟩⟩ := hcut
  cases kq with
  | zero => exact absurd HA.out (by simp [stipendref01_Parse.j0])
  | succ kj1 =>
   have H := HA.out
   clear HA
   simp only [stipendref01_Parse.j0] at H
   have HC6 := Aside0.mk H
   clear H
   go_upto_if 19 with (fail)
   go_cut [0, 4] (fun v0 v4 wc => ∃ (kq : Nat) (x0_5 : ByteArray) (x4_5 : Bool), v0 = .string x0_5 ∧ v4 = .bool x4_5 ∧ Aside0 (stipendref01_Parse.j1 kq x0_5 x4_5 = some (r1, r2)) ∧ Aside0 (kq ≤ kj1) ∧ Drawn0 w wc)
   case first =>
    have H := HC6.out
    clear HC6
    by_cases c7 : x19_1 = true
    ·subst c7
     have H1 : (if 1 ≤ (a0.size : Int) then (stipendref01_Parse.j1 kj1 (a0.extract 1 a0.size) true) else (none)) = some (r1, r2) := by rw [if_pos rfl] at H; exact H
     clear H
     have H := H1
     clear H1
     by_cases c8 : 1 ≤ (a0.size : Int)
     ·rw [if_pos c8] at H
      have c8b0 := eq_true c8
      have c8b1 : decide (1 ≤ (a0.size : Int)) = true := decide_eq_true c8
      clear c8
      have H' := Aside0.mk H
      clear H
      go_wp2
      go_meet
      case rel => exact ⟨_, (a0.extract 1 a0.size), (true), (by first | rfl | (simp; done) | (simp [*]; done)), (by first | rfl | (simp; done) | (simp [*]; done)), H', ⟨by have := HJ1.out; first | omega | exact Nat.le_refl _⟩, by repeat (first | exact Drawn0.refl _ | apply Drawn0.step)⟩
     ·rw [if_neg c8] at H
      exact absurd H (by simp)
    ·replace c7 := Bool.eq_false_iff.mpr c7
     subst c7
     have H1 : (stipendref01_Parse.j1 kj1 a0 false) = some (r1, r2) := by rw [if_neg (show ¬ (false = true) by decide)] at H; exact H
     clear H
     have H := H1
     clear H1
     have H' := Aside0.mk H
     clear H
     go_wp2
     go_meet
     case rel => exact ⟨_, (a0), (false), (by first | rfl | (simp; done) | (simp [*]; done)), (by first | rfl | (simp; done) | (simp [*]; done)), H', ⟨by have := HJ1.out; first | omega | exact Nat.le_refl _⟩, by repeat (first | exact Drawn0.refl _ | apply Drawn0.step)⟩
   case rest =>
    clear HC6
    try clear c1
    try clear p2
    try clear c3
    try clear c3b0
    try clear c3b1
    try clear c4
    try clear c4b0
    try clear c4b1
    try clear p5
    try clear q5
    try clear hx5
    try clear qi5
    try clear c6
    try clear c7
    try clear c8
    try clear c8b0
    try clear c8b1
    try clear p2
    try clear p5
    try clear q5
    obtain ⟨kq, x0_5, x4_5, rfl, rfl, HA, HJ5, ⟨mc5, rfl⟩⟩ := hcut
    cases kq with
    | zero => exact absurd HA.out (by simp [stipendref01_Parse.j1])
    | succ kj5 =>
     have H := HA.out
     clear HA
     simp only [stipendref01_Parse.j1] at H
     have H' := Aside0.mk H
     clear H
     go_wp2
     go_loopg [5, 6] kj5 (fun kq v5 v6 w' => ∃ (x5_3 : Int) (x6_3 : Int), v5 = .int .i64 x5_3 ∧ v6 = .int .i64 x6_3 ∧ Aside0 (stipendref01_Parse.l0 kq x0_5 x4_5 x5_3 x6_3 = some (r1, r2)) ∧ Aside0 (kq ≤ kj5) ∧ Drawn0 w w')
     case atStart => exact ⟨((-1)), (0), (by first | rfl | (simp; done) | (simp [*]; done)), (by first | rfl | (simp; done) | (simp [*]; done)), H', ⟨Nat.le_refl _⟩, by repeat (first | exact Drawn0.refl _ | apply Drawn0.step)⟩
     case round =>
      clear H'
      try clear c1
      try clear p2
      try clear c3
      try clear c3b0
      try clear c3b1
      try clear c4
      try clear c4b0
      try clear c4b1
      try clear c5
      try clear p5
      try clear q5
      try clear hx5
      try clear qi5
      try clear c6
      try clear c7
      try clear c8
      try clear c8b0
      try clear c8b1
      try clear p2
      try clear p5
      try clear q5
      obtain ⟨x5_3, x6_3, rfl, rfl, HA, HK3, ⟨m3, rfl⟩⟩ := hrel
      cases gk with
      | zero => exact absurd HA.out (by simp [stipendref01_Parse.l0])
      | succ k3 =>
       have H := HA.out
       clear HA
       simp only [stipendref01_Parse.l0] at H
       by_cases c9 : x6_3 < (x0_5.size : Int)
       ·rw [if_pos c9] at H
        have c9b0 : decide (x6_3 < (x0_5.size : Int)) = true := decide_eq_true c9
        clear c9
        have HC10 := Aside0.mk H
        clear H
        go_upto_region 9 with (fail)
        go_cut [35] (fun v35 wc => ∃ (kq : Nat) (x35_9 : Bool), v35 = .bool x35_9 ∧ Aside0 (stipendref01_Parse.j3 kq x0_5 x4_5 x5_3 x6_3 x35_9 = some (r1, r2)) ∧ Aside0 (kq ≤ k3) ∧ Drawn0 w wc)
        case first =>
         have H := HC10.out
         clear HC10
         by_cases c11 : 0 ≤ x6_3
         ·rw [if_pos c11] at H
          have c11b0 : decide (0 ≤ x6_3) = true := decide_eq_true c11
          clear c11
          (first | rw [c11b0] | (simp only [i64_w, i32_w]; rw [c11b0]) | skip)
          by_cases c13 : (bt x0_5 x6_3) = 46
          ·rw [if_pos c13] at H
           have c13b0 : ((bt x0_5 x6_3) == 46) = true := beq_iff_eq.mpr c13
           have c13b1 : ((bt x0_5 x6_3) != 46) = false := bne_eq_false_iff_eq.mpr c13
           clear c13
           have H' := Aside0.mk H
           clear H
           have p12 : 0 ≤ (x6_3 : Int) := of_decide_eq_true (by first | (with_reducible assumption) | assumption)
           have q12 : x6_3 < (x0_5.size : Int) := of_decide_eq_true (by first | (with_reducible assumption) | assumption)
           have hx12 := bt_at x0_5 x6_3
           replace p12 := eq_true p12
           replace q12 := eq_true q12
           go_wp2
           go_meet
           case rel => exact ⟨_, (decide (x5_3 < 0)), (by first | rfl | (simp; done) | (simp [*]; done)), H', ⟨by have := HJ1.out; have := HJ5.out; have := HK3.out; first | omega | exact Nat.le_refl _⟩, by repeat (first | exact Drawn0.refl _ | apply Drawn0.step)⟩
          ·rw [if_neg c13] at H
           have c13b0 : ((bt x0_5 x6_3) == 46) = false := beq_eq_false_iff_ne.mpr c13
           have c13b1 : ((bt x0_5 x6_3) != 46) = true := bne_iff_ne.mpr c13
           have H' := Aside0.mk H
           clear H
           have p12 : 0 ≤ (x6_3 : Int) := of_decide_eq_true (by first | (with_reducible assumption) | assumption)
           have q12 : x6_3 < (x0_5.size : Int) := of_decide_eq_true (by first | (with_reducible assumption) | assumption)
           have hx12 := bt_at x0_5 x6_3
           replace p12 := eq_true p12
           replace q12 := eq_true q12
           go_wp2
           go_meet
           case rel => exact ⟨_, (false), (by first | rfl | (simp; done) | (simp [*]; done)), H', ⟨by have := HJ1.out; have := HJ5.out; have := HK3.out; first | omega | exact Nat.le_refl _⟩, by repeat (first | exact Drawn0.refl _ | apply Drawn0.step)⟩
         ·rw [if_neg c11] at H
          exact absurd H (by simp)
        case rest =>
         clear HC10
         try clear c1
         try clear p1
         try clear q1
         try clear hx1
         try clear p2
         try clear c3
         try clear c3b0
         try clear c3b1
         try clear c4
         try clear c4b0
         try clear c4b1
         try clear c5
         try clear p5
         try clear q5
         try clear hx5
         try clear qi5
         try clear c6
         try clear c7
         try clear c8
         try clear c8b0
         try clear c8b1
         try clear c9
         try clear c9b0
         try clear c11
         try clear c11b0
         try clear p12
         try clear q12
         try clear hx12
         try clear c13
         try clear c13b0
         try clear c13b1
         try clear p12
         try clear p2
         try clear p5
         try clear q12
         try clear q5
         obtain ⟨kq, x35_9, rfl, HA, HJ9, ⟨mc9, rfl⟩⟩ := hcut
         cases kq with
         | zero => exact absurd HA.out (by simp [stipendref01_Parse.j3])
         | succ kj9 =>
          have H := HA.out
          clear HA
          simp only [stipendref01_Parse.j3] at H
          by_cases c14 : x35_9 = true
          ·subst c14
           have H1 : (stipendref01_Parse.l0 kj9 x0_5 x4_5 x6_3 (wrap64 (x6_3 + 1))) = some (r1, r2) := by rw [if_pos rfl] at H; exact H
           clear H
           have H := H1
           clear H1
           have H' := Aside0.mk H
           clear H
           go_wp2
           go_roundg kj9
           case measure => have := HJ1.out; have := HJ5.out; have := HK3.out; have := HJ9.out; omega
           case rel => exact ⟨(x6_3), (wrap64 (x6_3 + 1)), (by first | rfl | (simp; done) | (simp [*]; done)), (by first | rfl | (simp; done) | (simp [*]; done)), H', ⟨by have := HJ1.out; have := HJ5.out; have := HK3.out; have := HJ9.out; omega⟩, by repeat (first | exact Drawn0.refl _ | apply Drawn0.step)⟩
          ·replace c14 := Bool.eq_false_iff.mpr c14
           subst c14
           have H1 : (if 0 ≤ x6_3 then (if x6_3 < (x0_5.size : Int) then (if (bt x0_5 x6_3) < 48 then (some (0, 5)) else (if (bt x0_5 x6_3) > 57 then (some (0, 5)) else (stipendref01_Parse.l0 kj9 x0_5 x4_5 x5_3 (wrap64 (x6_3 + 1))))) else (none)) else (none)) = some (r1, r2) := by rw [if_neg (show ¬ (false = true) by decide)] at H; exact H
           clear H
           have H := H1
           clear H1
           by_cases c15 : 0 ≤ x6_3
           ·rw [if_pos c15] at H
            have c15b0 : decide (0 ≤ x6_3) = true := decide_eq_true c15
            clear c15
            by_cases c16 : x6_3 < (x0_5.size : Int)
            ·rw [if_pos c16] at H
             have c16b0 : decide (x6_3 < (x0_5.size : Int)) = true := decide_eq_true c16
             clear c16
             by_cases c18 : (bt x0_5 x6_3) < 48
             ·rw [if_pos c18] at H
              have c18b0 : decide ((bt x0_5 x6_3) < 48) = true := decide_eq_true c18
              clear c18
              simp only [Option.some.injEq, Prod.mk.injEq] at H
              obtain ⟨rfl, rfl⟩ := H
              have p17 : 0 ≤ (x6_3 : Int) := of_decide_eq_true (by first | (with_reducible assumption) | assumption)
              have q17 : x6_3 < (x0_5.size : Int) := of_decide_eq_true (by first | (with_reducible assumption) | assumption)
              have hx17 := bt_at x0_5 x6_3
              replace p17 := eq_true p17
              replace q17 := eq_true q17
              go_wp2
              go_ret2
              exact ⟨by first | rfl | (simp; done) | (simp [*]; done), by repeat (first | exact Drawn0.refl _ | apply Drawn0.step)⟩
             ·rw [if_neg c18] at H
              have c18b0 : decide ((bt x0_5 x6_3) < 48) = false := decide_eq_false c18
              clear c18
              by_cases c20 : (bt x0_5 x6_3) > 57
              ·rw [if_pos c20] at H
               have c20b0 : decide (57 < (bt x0_5 x6_3)) = true := decide_eq_true c20
               clear c20
               simp only [Option.some.injEq, Prod.mk.injEq] at H
               obtain ⟨rfl, rfl⟩ := H
               have p17 : 0 ≤ (x6_3 : Int) := of_decide_eq_true (by first | (with_reducible assumption) | assumption)
               have q17 : x6_3 < (x0_5.size : Int) := of_decide_eq_true (by first | (with_reducible assumption) | assumption)
               have hx17 := bt_at x0_5 x6_3
               replace p17 := eq_true p17
               replace q17 := eq_true q17
               have p19 : 0 ≤ (x6_3 : Int) := of_decide_eq_true (by first | (with_reducible assumption) | assumption)
               have q19 : x6_3 < (x0_5.size : Int) := of_decide_eq_true (by first | (with_reducible assumption) | assumption)
               have hx19 := bt_at x0_5 x6_3
               replace p19 := eq_true p19
               replace q19 := eq_true q19
               go_wp2
               go_ret2
               exact ⟨by first | rfl | (simp; done) | (simp [*]; done), by repeat (first | exact Drawn0.refl _ | apply Drawn0.step)⟩
              ·rw [if_neg c20] at H
               have c20b0 : decide (57 < (bt x0_5 x6_3)) = false := decide_eq_false c20
               clear c20
               have H' := Aside0.mk H
               clear H
               have p17 : 0 ≤ (x6_3 : Int) := of_decide_eq_true (by first | (with_reducible assumption) | assumption)
               have q17 : x6_3 < (x0_5.size : Int) := of_decide_eq_true (by first | (with_reducible assumption) | assumption)
               have hx17 := bt_at x0_5 x6_3
               replace p17 := eq_true p17
               replace q17 := eq_true q17
               have p19 : 0 ≤ (x6_3 : Int) := of_decide_eq_true (by first | (with_reducible assumption) | assumption)
               have q19 : x6_3 < (x0_5.size : Int) := of_decide_eq_true (by first | (with_reducible assumption) | assumption)
               have hx19 := bt_at x0_5 x6_3
               replace p19 := eq_true p19
               replace q19 := eq_true q19
               go_wp2
               go_roundg kj9
               case measure => have := HJ1.out; have := HJ5.out; have := HK3.out; have := HJ9.out; omega
               case rel => exact ⟨(x5_3), (wrap64 (x6_3 + 1)), (by first | rfl | (simp; done) | (simp [*]; done)), (by first | rfl | (simp; done) | (simp [*]; done)), H', ⟨by have := HJ1.out; have := HJ5.out; have := HK3.out; have := HJ9.out; omega⟩, by repeat (first | exact Drawn0.refl _ | apply Drawn0.step)⟩
            ·rw [if_neg c16] at H
             exact absurd H (by simp)
           ·rw [if_neg c15] at H
            exact absurd H (by simp)
       ·rw [if_neg c9] at H
        have c9b0 : decide (x6_3 < (x0_5.size : Int)) = false := decide_eq_false c9
        clear c9
        have HC21 := Aside0.mk H
        clear H
        go_upto_if 49 with (fail)
        go_cut [7] (fun v7 wc => ∃ (kq : Nat) (x7_20 : ByteArray), v7 = .string x7_20 ∧ Aside0 (stipendref01_Parse.j4 kq x0_5 x4_5 x5_3 x7_20 = some (r1, r2)) ∧ Aside0 (kq ≤ k3) ∧ Drawn0 w wc)
        case first =>
         have H := HC21.out
         clear HC21
         by_cases c22 : x5_3 ≥ 0
         ·rw [if_pos c22] at H
          have c22b0 : decide (0 ≤ x5_3) = true := decide_eq_true c22
          clear c22
          (first | rw [c22b0] | (simp only [i64_w, i32_w]; rw [c22b0]) | skip)
          by_cases c23 : x5_3 = (wrap64 ((x0_5.size : Int) - 3))
          ·rw [if_pos c23] at H
           have c23b0 : (x5_3 == (wrap64 ((x0_5.size : Int) - 3))) = true := beq_iff_eq.mpr c23
           have c23b1 : (x5_3 != (wrap64 ((x0_5.size : Int) - 3))) = false := bne_eq_false_iff_eq.mpr c23
           clear c23
           by_cases c24 : 0 ≤ x5_3
           ·rw [if_pos c24] at H
            have c24b0 := eq_true c24
            have c24b1 : decide (0 ≤ x5_3) = true := decide_eq_true c24
            clear c24
            by_cases c25 : x5_3 ≤ (x0_5.size : Int)
            ·rw [if_pos c25] at H
             have c25b0 := eq_true c25
             have c25b1 : decide (x5_3 ≤ (x0_5.size : Int)) = true := decide_eq_true c25
             clear c25
             have H' := Aside0.mk H
             clear H
             go_wp2
             go_meet
             case rel => exact ⟨_, (x0_5.extract 0 (x5_3 : Int).toNat), (by first | rfl | (simp; done) | (simp [*]; done)), H', ⟨by have := HJ1.out; have := HJ5.out; have := HK3.out; first | omega | exact Nat.le_refl _⟩, by repeat (first | exact Drawn0.refl _ | apply Drawn0.step)⟩
            ·rw [if_neg c25] at H
             exact absurd H (by simp)
           ·rw [if_neg c24] at H
            exact absurd H (by simp)
          ·rw [if_neg c23] at H
           have c23b0 : (x5_3 == (wrap64 ((x0_5.size : Int) - 3))) = false := beq_eq_false_iff_ne.mpr c23
           have c23b1 : (x5_3 != (wrap64 ((x0_5.size : Int) - 3))) = true := bne_iff_ne.mpr c23
           simp only [Option.some.injEq, Prod.mk.injEq] at H
           obtain ⟨rfl, rfl⟩ := H
           go_wp2
           go_ret2
           exact ⟨by first | rfl | (simp; done) | (simp [*]; done), by repeat (first | exact Drawn0.refl _ | apply Drawn0.step)⟩
         ·rw [if_neg c22] at H
          have c22b0 : decide (0 ≤ x5_3) = false := decide_eq_false c22
          clear c22
          (first | rw [c22b0] | (simp only [i64_w, i32_w]; rw [c22b0]) | skip)
          have H' := Aside0.mk H
          clear H
          go_wp2
          go_meet
          case rel => exact ⟨_, (x0_5), (by first | rfl | (simp; done) | (simp [*]; done)), H', ⟨by have := HJ1.out; have := HJ5.out; have := HK3.out; first | omega | exact Nat.le_refl _⟩, by repeat (first | exact Drawn0.refl _ | apply Drawn0.step)⟩
        case rest =>
         clear HC21
         try clear c1
         try clear p1
         try clear q1
         try clear hx1
         try clear c2
         try clear p2
         try clear c3
         try clear c3b0
         try clear c3b1
         try clear c4
         try clear c4b0
         try clear c4b1
         try clear c5
         try clear p5
         try clear q5
         try clear hx5
         try clear qi5
         try clear c6
         try clear p6
         try clear c7
         try clear c8
         try clear c8b0
         try clear c8b1
         try clear c9
         try clear c9b0
         try clear c11
         try clear c11b0
         try clear p12
         try clear q12
         try clear hx12
         try clear c13
         try clear c13b0
         try clear c13b1
         try clear c14
         try clear c15
         try clear c15b0
         try clear c16
         try clear c16b0
         try clear p17
         try clear q17
         try clear hx17
         try clear c18
         try clear c18b0
         try clear p19
         try clear q19
         try clear hx19
         try clear c20
         try clear c20b0
         try clear c22
         try clear c22b0
         try clear c23
         try clear c23b0
         try clear c23b1
         try clear c24
         try clear c24b0
         try clear c24b1
         try clear c25
         try clear c25b0
         try clear c25b1
         try clear p1
         try clear p12
         try clear p17
         try clear p19
         try clear p2
         try clear p5
         try clear q1
         try clear q12
         try clear q17
         try clear q19
         try clear q5
         obtain ⟨kq, x7_20, rfl, HA, HJ20, ⟨mc20, rfl⟩⟩ := hcut
         cases kq with
         | zero => exact absurd HA.out (by simp [stipendref01_Parse.j4])
         | succ kj20 =>
          have H := HA.out
          clear HA
          simp only [stipendref01_Parse.j4] at H
          have HC26 := Aside0.mk H
          clear H
          go_upto_region 18 with (fail)
          go_cut [74] (fun v74 wc => ∃ (kq : Nat) (x74_25 : Bool), v74 = .bool x74_25 ∧ Aside0 (stipendref01_Parse.j5 kq x0_5 x4_5 x5_3 x74_25 = some (r1, r2)) ∧ Aside0 (kq ≤ kj20) ∧ Drawn0 w wc)
          case first =>
           have H := HC26.out
           clear HC26
           by_cases c27 : (x0_5.size : Int) > 20
           ·rw [if_pos c27] at H
            have c27b0 : decide (20 < (x0_5.size : Int)) = true := decide_eq_true c27
            have c27b1 : decide (20 < x0_5.size) = true := decide_eq_true (by omega)
            clear c27
            (first | rw [c27b0] | (simp only [i64_w, i32_w]; rw [c27b0]) | skip)
            have H' := Aside0.mk H
            clear H
            go_wp2
            go_meet
            case rel => exact ⟨_, (true), (by first | rfl | (simp; done) | (simp [*]; done)), H', ⟨by have := HJ1.out; have := HJ5.out; have := HK3.out; have := HJ20.out; first | omega | exact Nat.le_refl _⟩, by repeat (first | exact Drawn0.refl _ | apply Drawn0.step)⟩
           ·rw [if_neg c27] at H
            have c27b0 : decide (20 < (x0_5.size : Int)) = false := decide_eq_false c27
            have c27b1 : decide (20 < x0_5.size) = false := decide_eq_false (by omega)
            clear c27
            (first | rw [c27b0] | (simp only [i64_w, i32_w]; rw [c27b0]) | skip)
            by_cases c28 : x7_20.toList = ([] : List UInt8)
            ·rw [if_pos c28] at H
             have c28b0 : (x7_20.toList == ([] : List UInt8)) = true := beq_iff_eq.mpr c28
             have c28b1 : (x7_20.toList != ([] : List UInt8)) = false := bne_eq_false_iff_eq.mpr c28
             clear c28
             have H' := Aside0.mk H
             clear H
             go_wp2
             go_meet
             case rel => exact ⟨_, (true), (by first | rfl | (simp; done) | (simp [*]; done)), H', ⟨by have := HJ1.out; have := HJ5.out; have := HK3.out; have := HJ20.out; first | omega | exact Nat.le_refl _⟩, by repeat (first | exact Drawn0.refl _ | apply Drawn0.step)⟩
            ·rw [if_neg c28] at H
             have c28b0 : (x7_20.toList == ([] : List UInt8)) = false := beq_eq_false_iff_ne.mpr c28
             have c28b1 : (x7_20.toList != ([] : List UInt8)) = true := bne_iff_ne.mpr c28
             by_cases c29 : (x7_20.size : Int) > 1
             ·rw [if_pos c29] at H
              have c29b0 : decide (1 < (x7_20.size : Int)) = true := decide_eq_true c29
              have c29b1 : decide (1 < x7_20.size) = true := decide_eq_true (by omega)
              clear c29
              by_cases c30 : 0 < (x7_20.size : Int)
              ·rw [if_pos c30] at H
               have c30b0 : decide (0 < (x7_20.size : Int)) = true := decide_eq_true c30
               have c30b1 : decide (0 < x7_20.size) = true := decide_eq_true (by omega)
               clear c30
               have H' := Aside0.mk H
               clear H
               have p31 : 0 ≤ (0 : Int) := (by omega)
               have q31 : 0 < x7_20.size := (by have : (0 : Int) < (x7_20.size : Int) := of_decide_eq_true (by first | (with_reducible assumption) | assumption); omega)
               have hx31 : ∀ h : 0 < x7_20.size, ((x7_20[0]'h).toNat : Int) = bt x7_20 0 := bt_at x7_20 0
               clear p31
               have qi31 : (0 < (x7_20.size : Int)) = True := eq_true (of_decide_eq_true (by first | (with_reducible assumption) | assumption))
               replace q31 := eq_true q31
               go_wp2
               go_meet
               case rel => exact ⟨_, (((bt x7_20 0) == 48)), (by first | rfl | (simp; done) | (simp [*]; done)), H', ⟨by have := HJ1.out; have := HJ5.out; have := HK3.out; have := HJ20.out; first | omega | exact Nat.le_refl _⟩, by repeat (first | exact Drawn0.refl _ | apply Drawn0.step)⟩
              ·rw [if_neg c30] at H
               exact absurd H (by simp)
             ·rw [if_neg c29] at H
              have c29b0 : decide (1 < (x7_20.size : Int)) = false := decide_eq_false c29
              have c29b1 : decide (1 < x7_20.size) = false := decide_eq_false (by omega)
              clear c29
              have H' := Aside0.mk H
              clear H
              go_wp2
              go_meet
              case rel => exact ⟨_, (false), (by first | rfl | (simp; done) | (simp [*]; done)), H', ⟨by have := HJ1.out; have := HJ5.out; have := HK3.out; have := HJ20.out; first | omega | exact Nat.le_refl _⟩, by repeat (first | exact Drawn0.refl _ | apply Drawn0.step)⟩
          case rest =>
           clear HC26
           try clear c1
           try clear p1
           try clear q1
           try clear hx1
           try clear c2
           try clear p2
           try clear c3
           try clear c3b0
           try clear c3b1
           try clear p3
           try clear q3
           try clear hx3
           try clear qi3
           try clear c4
           try clear c4b0
           try clear c4b1
           try clear c5
           try clear p5
           try clear q5
           try clear hx5
           try clear qi5
           try clear c6
           try clear p6
           try clear c7
           try clear c8
           try clear c8b0
           try clear c8b1
           try clear c9
           try clear c9b0
           try clear c11
           try clear c11b0
           try clear p12
           try clear q12
           try clear hx12
           try clear c13
           try clear c13b0
           try clear c13b1
           try clear c14
           try clear c15
           try clear c15b0
           try clear c16
           try clear c16b0
           try clear p17
           try clear q17
           try clear hx17
           try clear c18
           try clear c18b0
           try clear p19
           try clear q19
           try clear hx19
           try clear c20
           try clear c20b0
           try clear c22
           try clear c22b0
           try clear c23
           try clear c23b0
           try clear c23b1
           try clear c24
           try clear c24b0
           try clear c24b1
           try clear c25
           try clear c25b0
           try clear c25b1
           try clear c27
           try clear c27b0
           try clear c27b1
           try clear c28
           try clear c28b0
           try clear c28b1
           try clear c29
           try clear c29b0
           try clear c29b1
           try clear c30
           try clear c30b0
           try clear c30b1
           try clear p31
           try clear q31
           try clear hx31
           try clear qi31
           try clear p1
           try clear p12
           try clear p17
           try clear p19
           try clear p2
           try clear p31
           try clear p5
           try clear p6
           try clear q1
           try clear q12
           try clear q17
           try clear q19
           try clear q31
           try clear q5
           obtain ⟨kq, x74_25, rfl, HA, HJ25, ⟨mc25, rfl⟩⟩ := hcut
           cases kq with
           | zero => exact absurd HA.out (by simp [stipendref01_Parse.j5])
           | succ kj25 =>
            have H := HA.out
            clear HA
            simp only [stipendref01_Parse.j5] at H
            by_cases c32 : x74_25 = true
            ·subst c32
             have H1 : (some (0, 5)) = some (r1, r2) := by rw [if_pos rfl] at H; exact H
             clear H
             have H := H1
             clear H1
             simp only [Option.some.injEq, Prod.mk.injEq] at H
             obtain ⟨rfl, rfl⟩ := H
             go_wp2
             go_ret2
             exact ⟨by first | rfl | (simp; done) | (simp [*]; done), by repeat (first | exact Drawn0.refl _ | apply Drawn0.step)⟩
            ·replace c32 := Bool.eq_false_iff.mpr c32
             subst c32
             have H1 : (stipendref01_Parse.l1 kj25 x0_5 x4_5 x5_3 0 false false 0) = some (r1, r2) := by rw [if_neg (show ¬ (false = true) by decide)] at H; exact H
             clear H
             have H := H1
             clear H1
             have H' := Aside0.mk H
             clear H
             go_wp2
             go_loopg [8, 9, 10, 11] kj25 (fun kq v8 v9 v10 v11 w' => ∃ (x8_6 : Int) (x9_6 : Bool) (x10_6 : Bool) (x11_6 : Int), v8 = .int .i64 x8_6 ∧ v9 = .bool x9_6 ∧ v10 = .bool x10_6 ∧ v11 = .int .i64 x11_6 ∧ Aside0 (stipendref01_Parse.l1 kq x0_5 x4_5 x5_3 x8_6 x9_6 x10_6 x11_6 = some (r1, r2)) ∧ Aside0 (kq ≤ kj25) ∧ Drawn0 w w')
             case atStart => exact ⟨(0), (false), (false), (0), (by first | rfl | (simp; done) | (simp [*]; done)), (by first | rfl | (simp; done) | (simp [*]; done)), (by first | rfl | (simp; done) | (simp [*]; done)), (by first | rfl | (simp; done) | (simp [*]; done)), H', ⟨Nat.le_refl _⟩, by repeat (first | exact Drawn0.refl _ | apply Drawn0.step)⟩
             case round =>
              clear H'
              try clear c1
              try clear p1
              try clear q1
              try clear hx1
              try clear c2
              try clear p2
              try clear c3
              try clear c3b0
              try clear c3b1
              try clear p3
              try clear q3
              try clear hx3
              try clear qi3
              try clear c4
              try clear c4b0
              try clear c4b1
              try clear c5
              try clear p5
              try clear q5
              try clear hx5
              try clear qi5
              try clear c6
              try clear p6
              try clear c7
              try clear c8
              try clear c8b0
              try clear c8b1
              try clear c9
              try clear c9b0
              try clear c11
              try clear c11b0
              try clear p12
              try clear q12
              try clear hx12
              try clear c13
              try clear c13b0
              try clear c13b1
              try clear c14
              try clear c15
              try clear c15b0
              try clear c16
              try clear c16b0
              try clear p17
              try clear q17
              try clear hx17
              try clear c18
              try clear c18b0
              try clear p19
              try clear q19
              try clear hx19
              try clear c20
              try clear c20b0
              try clear c22
              try clear c22b0
              try clear c23
              try clear c23b0
              try clear c23b1
              try clear c24
              try clear c24b0
              try clear c24b1
              try clear c25
              try clear c25b0
              try clear c25b1
              try clear c27
              try clear c27b0
              try clear c27b1
              try clear c28
              try clear c28b0
              try clear c28b1
              try clear c29
              try clear c29b0
              try clear c29b1
              try clear c30
              try clear c30b0
              try clear c30b1
              try clear p31
              try clear q31
              try clear hx31
              try clear qi31
              try clear c32
              try clear p1
              try clear p12
              try clear p17
              try clear p19
              try clear p2
              try clear p3
              try clear p31
              try clear p5
              try clear p6
              try clear q1
              try clear q12
              try clear q17
              try clear q19
              try clear q3
              try clear q31
              try clear q5
              obtain ⟨x8_6, x9_6, x10_6, x11_6, rfl, rfl, rfl, rfl, HA, HK6, ⟨m6, rfl⟩⟩ := hrel
              cases gk with
              | zero => exact absurd HA.out (by simp [stipendref01_Parse.l1])
              | succ k6 =>
               have H := HA.out
               clear HA
               simp only [stipendref01_Parse.l1] at H
               by_cases c33 : x11_6 < (x0_5.size : Int)
               ·rw [if_pos c33] at H
                have c33b0 : decide (x11_6 < (x0_5.size : Int)) = true := decide_eq_true c33
                clear c33
                by_cases c34 : 0 ≤ x11_6
                ·rw [if_pos c34] at H
                 have c34b0 : decide (0 ≤ x11_6) = true := decide_eq_true c34
                 clear c34
                 by_cases c36 : (bt x0_5 x11_6) = 46
                 ·rw [if_pos c36] at H
                  have c36b0 : ((bt x0_5 x11_6) == 46) = true := beq_iff_eq.mpr c36
                  have c36b1 : ((bt x0_5 x11_6) != 46) = false := bne_eq_false_iff_eq.mpr c36
                  clear c36
                  have H' := Aside0.mk H
                  clear H
                  have p35 : 0 ≤ (x11_6 : Int) := of_decide_eq_true (by first | (with_reducible assumption) | assumption)
                  have q35 : x11_6 < (x0_5.size : Int) := of_decide_eq_true (by first | (with_reducible assumption) | assumption)
                  have hx35 := bt_at x0_5 x11_6
                  replace p35 := eq_true p35
                  replace q35 := eq_true q35
                  go_wp2
                  go_roundg k6
                  case measure => have := HJ1.out; have := HJ5.out; have := HK3.out; have := HJ20.out; have := HJ25.out; have := HK6.out; omega
                  case rel => exact ⟨(x8_6), (x9_6), (x10_6), (wrap64 (x11_6 + 1)), (by first | rfl | (simp; done) | (simp [*]; done)), (by first | rfl | (simp; done) | (simp [*]; done)), (by first | rfl | (simp; done) | (simp [*]; done)), (by first | rfl | (simp; done) | (simp [*]; done)), H', ⟨by have := HJ1.out; have := HJ5.out; have := HK3.out; have := HJ20.out; have := HJ25.out; have := HK6.out; omega⟩, by repeat (first | exact Drawn0.refl _ | apply Drawn0.step)⟩
                 ·rw [if_neg c36] at H
                  have c36b0 : ((bt x0_5 x11_6) == 46) = false := beq_eq_false_iff_ne.mpr c36
                  have c36b1 : ((bt x0_5 x11_6) != 46) = true := bne_iff_ne.mpr c36
                  by_cases c37 : x10_6 = true
                  ·subst c37
                   have H1 : (if (wrap64 ((wrap64 (10 * x8_6)) + (((bt x0_5 x11_6) - 48) % 256))) > 10000000000000 then (stipendref01_Parse.l1 k6 x0_5 x4_5 x5_3 0 true true (wrap64 (x11_6 + 1))) else (stipendref01_Parse.l1 k6 x0_5 x4_5 x5_3 (wrap64 ((wrap64 (10 * x8_6)) + (((bt x0_5 x11_6) - 48) % 256))) x9_6 true (wrap64 (x11_6 + 1)))) = some (r1, r2) := by rw [if_pos rfl] at H; exact H
                   clear H
                   have H := H1
                   clear H1
                   by_cases c39 : (wrap64 ((wrap64 (10 * x8_6)) + (((bt x0_5 x11_6) - 48) % 256))) > 10000000000000
                   ·rw [if_pos c39] at H
                    have c39b0 : decide (10000000000000 < (wrap64 ((wrap64 (10 * x8_6)) + (((bt x0_5 x11_6) - 48) % 256)))) = true := decide_eq_true c39
                    clear c39
                    have H' := Aside0.mk H
                    clear H
                    have p35 : 0 ≤ (x11_6 : Int) := of_decide_eq_true (by first | (with_reducible assumption) | assumption)
                    have q35 : x11_6 < (x0_5.size : Int) := of_decide_eq_true (by first | (with_reducible assumption) | assumption)
                    have hx35 := bt_at x0_5 x11_6
                    replace p35 := eq_true p35
                    replace q35 := eq_true q35
                    have p38 : 0 ≤ (x11_6 : Int) := of_decide_eq_true (by first | (with_reducible assumption) | assumption)
                    have q38 : x11_6 < (x0_5.size : Int) := of_decide_eq_true (by first | (with_reducible assumption) | assumption)
                    have hx38 := bt_at x0_5 x11_6
                    replace p38 := eq_true p38
                    replace q38 := eq_true q38
                    go_wp2
                    go_roundg k6
                    case measure => have := HJ1.out; have := HJ5.out; have := HK3.out; have := HJ20.out; have := HJ25.out; have := HK6.out; omega
                    case rel => exact ⟨(0), (true), (true), (wrap64 (x11_6 + 1)), (by first | rfl | (simp; done) | (simp [*]; done)), (by first | rfl | (simp; done) | (simp [*]; done)), (by first | rfl | (simp; done) | (simp [*]; done)), (by first | rfl | (simp; done) | (simp [*]; done)), H', ⟨by have := HJ1.out; have := HJ5.out; have := HK3.out; have := HJ20.out; have := HJ25.out; have := HK6.out; omega⟩, by repeat (first | exact Drawn0.refl _ | apply Drawn0.step)⟩
                   ·rw [if_neg c39] at H
                    have c39b0 : decide (10000000000000 < (wrap64 ((wrap64 (10 * x8_6)) + (((bt x0_5 x11_6) - 48) % 256)))) = false := decide_eq_false c39
                    clear c39
                    have H' := Aside0.mk H
                    clear H
                    have p35 : 0 ≤ (x11_6 : Int) := of_decide_eq_true (by first | (with_reducible assumption) | assumption)
                    have q35 : x11_6 < (x0_5.size : Int) := of_decide_eq_true (by first | (with_reducible assumption) | assumption)
                    have hx35 := bt_at x0_5 x11_6
                    replace p35 := eq_true p35
                    replace q35 := eq_true q35
                    have p38 : 0 ≤ (x11_6 : Int) := of_decide_eq_true (by first | (with_reducible assumption) | assumption)
                    have q38 : x11_6 < (x0_5.size : Int) := of_decide_eq_true (by first | (with_reducible assumption) | assumption)
                    have hx38 := bt_at x0_5 x11_6
                    replace p38 := eq_true p38
                    replace q38 := eq_true q38
                    go_wp2
                    go_roundg k6
                    case measure => have := HJ1.out; have := HJ5.out; have := HK3.out; have := HJ20.out; have := HJ25.out; have := HK6.out; omega
                    case rel => exact ⟨(wrap64 ((wrap64 (10 * x8_6)) + (((bt x0_5 x11_6) - 48) % 256))), (x9_6), (true), (wrap64 (x11_6 + 1)), (by first | rfl | (simp; done) | (simp [*]; done)), (by first | rfl | (simp; done) | (simp [*]; done)), (by first | rfl | (simp; done) | (simp [*]; done)), (by first | rfl | (simp; done) | (simp [*]; done)), H', ⟨by have := HJ1.out; have := HJ5.out; have := HK3.out; have := HJ20.out; have := HJ25.out; have := HK6.out; omega⟩, by repeat (first | exact Drawn0.refl _ | apply Drawn0.step)⟩
                  ·replace c37 := Bool.eq_false_iff.mpr c37
                   subst c37
                   have H1 : (if (wrap64 ((wrap64 (10 * x8_6)) + (((bt x0_5 x11_6) - 48) % 256))) > 10000000000000 then (stipendref01_Parse.l1 k6 x0_5 x4_5 x5_3 0 true ((bt x0_5 x11_6) != 48) (wrap64 (x11_6 + 1))) else (stipendref01_Parse.l1 k6 x0_5 x4_5 x5_3 (wrap64 ((wrap64 (10 * x8_6)) + (((bt x0_5 x11_6) - 48) % 256))) x9_6 ((bt x0_5 x11_6) != 48) (wrap64 (x11_6 + 1)))) = some (r1, r2) := by rw [if_neg (show ¬ (false = true) by decide)] at H; exact H
                   clear H
                   have H := H1
                   clear H1
                   by_cases c42 : (wrap64 ((wrap64 (10 * x8_6)) + (((bt x0_5 x11_6) - 48) % 256))) > 10000000000000
                   ·rw [if_pos c42] at H
                    have c42b0 : decide (10000000000000 < (wrap64 ((wrap64 (10 * x8_6)) + (((bt x0_5 x11_6) - 48) % 256)))) = true := decide_eq_true c42
                    clear c42
                    have H' := Aside0.mk H
                    clear H
                    have p35 : 0 ≤ (x11_6 : Int) := of_decide_eq_true (by first | (with_reducible assumption) | assumption)
                    have q35 : x11_6 < (x0_5.size : Int) := of_decide_eq_true (by first | (with_reducible assumption) | assumption)
                    have hx35 := bt_at x0_5 x11_6
                    replace p35 := eq_true p35
                    replace q35 := eq_true q35
                    have p40 : 0 ≤ (x11_6 : Int) := of_decide_eq_true (by first | (with_reducible assumption) | assumption)
                    have q40 : x11_6 < (x0_5.size : Int) := of_decide_eq_true (by first | (with_reducible assumption) | assumption)
                    have hx40 := bt_at x0_5 x11_6
                    replace p40 := eq_true p40
                    replace q40 := eq_true q40
                    have p41 : 0 ≤ (x11_6 : Int) := of_decide_eq_true (by first | (with_reducible assumption) | assumption)
                    have q41 : x11_6 < (x0_5.size : Int) := of_decide_eq_true (by first | (with_reducible assumption) | assumption)
                    have hx41 := bt_at x0_5 x11_6
                    replace p41 := eq_true p41
                    replace q41 := eq_true q41
                    go_wp2
                    go_roundg k6
                    case measure => have := HJ1.out; have := HJ5.out; have := HK3.out; have := HJ20.out; have := HJ25.out; have := HK6.out; omega
                    case rel => exact ⟨(0), (true), (((bt x0_5 x11_6) != 48)), (wrap64 (x11_6 + 1)), (by first | rfl | (simp; done) | (simp [*]; done)), (by first | rfl | (simp; done) | (simp [*]; done)), (by first | rfl | (simp; done) | (simp [*]; done)), (by first | rfl | (simp; done) | (simp [*]; done)), H', ⟨by have := HJ1.out; have := HJ5.out; have := HK3.out; have := HJ20.out; have := HJ25.out; have := HK6.out; omega⟩, by repeat (first | exact Drawn0.refl _ | apply Drawn0.step)⟩
                   ·rw [if_neg c42] at H
                    have c42b0 : decide (10000000000000 < (wrap64 ((wrap64 (10 * x8_6)) + (((bt x0_5 x11_6) - 48) % 256)))) = false := decide_eq_false c42
                    clear c42
                    have H' := Aside0.mk H
                    clear H
                    have p35 : 0 ≤ (x11_6 : Int) := of_decide_eq_true (by first | (with_reducible assumption) | assumption)
                    have q35 : x11_6 < (x0_5.size : Int) := of_decide_eq_true (by first | (with_reducible assumption) | assumption)
                    have hx35 := bt_at x0_5 x11_6
                    replace p35 := eq_true p35
                    replace q35 := eq_true q35
                    have p40 : 0 ≤ (x11_6 : Int) := of_decide_eq_true (by first | (with_reducible assumption) | assumption)
                    have q40 : x11_6 < (x0_5.size : Int) := of_decide_eq_true (by first | (with_reducible assumption) | assumption)
                    have hx40 := bt_at x0_5 x11_6
                    replace p40 := eq_true p40
                    replace q40 := eq_true q40
                    have p41 : 0 ≤ (x11_6 : Int) := of_decide_eq_true (by first | (with_reducible assumption) | assumption)
                    have q41 : x11_6 < (x0_5.size : Int) := of_decide_eq_true (by first | (with_reducible assumption) | assumption)
                    have hx41 := bt_at x0_5 x11_6
                    replace p41 := eq_true p41
                    replace q41 := eq_true q41
                    go_wp2
                    go_roundg k6
                    case measure => have := HJ1.out; have := HJ5.out; have := HK3.out; have := HJ20.out; have := HJ25.out; have := HK6.out; omega
                    case rel => exact ⟨(wrap64 ((wrap64 (10 * x8_6)) + (((bt x0_5 x11_6) - 48) % 256))), (x9_6), (((bt x0_5 x11_6) != 48)), (wrap64 (x11_6 + 1)), (by first | rfl | (simp; done) | (simp [*]; done)), (by first | rfl | (simp; done) | (simp [*]; done)), (by first | rfl | (simp; done) | (simp [*]; done)), (by first | rfl | (simp; done) | (simp [*]; done)), H', ⟨by have := HJ1.out; have := HJ5.out; have := HK3.out; have := HJ20.out; have := HJ25.out; have := HK6.out; omega⟩, by repeat (first | exact Drawn0.refl _ | apply Drawn0.step)⟩
                ·rw [if_neg c34] at H
                 exact absurd H (by simp)
               ·rw [if_neg c33] at H
                have c33b0 : decide (x11_6 < (x0_5.size : Int)) = false := decide_eq_false c33
                clear c33
                have HC43 := Aside0.mk H
                clear H
                go_upto_if 103 with (fail)
                go_cut [8] (fun v8 wc => ∃ (kq : Nat) (x8_42 : Int), v8 = .int .i64 x8_42 ∧ Aside0 (stipendref01_Parse.j7 kq x4_5 x8_42 x9_6 x10_6 = some (r1, r2)) ∧ Aside0 (kq ≤ k6) ∧ Drawn0 w wc)
                case first =>
                 have H := HC43.out
                 clear HC43
                 by_cases c44 : x5_3 < 0
                 ·rw [if_pos c44] at H
                  have c44b0 : decide (x5_3 < 0) = true := decide_eq_true c44
                  clear c44
                  (first | rw [c44b0] | (simp only [i64_w, i32_w]; rw [c44b0]) | skip)
                  have H' := Aside0.mk H
                  clear H
                  go_wp2
                  go_meet
                  case rel => exact ⟨_, (wrap64 (x8_6 * 100)), (by first | rfl | (simp; done) | (simp [*]; done)), H', ⟨by have := HJ1.out; have := HJ5.out; have := HK3.out; have := HJ20.out; have := HJ25.out; have := HK6.out; first | omega | exact Nat.le_refl _⟩, by repeat (first | exact Drawn0.refl _ | apply Drawn0.step)⟩
                 ·rw [if_neg c44] at H
                  have c44b0 : decide (x5_3 < 0) = false := decide_eq_false c44
                  clear c44
                  (first | rw [c44b0] | (simp only [i64_w, i32_w]; rw [c44b0]) | skip)
                  have H' := Aside0.mk H
                  clear H
                  go_wp2
                  go_meet
                  case rel => exact ⟨_, (x8_6), (by first | rfl | (simp; done) | (simp [*]; done)), H', ⟨by have := HJ1.out; have := HJ5.out; have := HK3.out; have := HJ20.out; have := HJ25.out; have := HK6.out; first | omega | exact Nat.le_refl _⟩, by repeat (first | exact Drawn0.refl _ | apply Drawn0.step)⟩
                case rest =>
                 clear HC43
                 try clear c1
                 try clear p1
                 try clear q1
                 try clear hx1
                 try clear c2
                 try clear p2
                 try clear c3
                 try clear c3b0
                 try clear c3b1
                 try clear p3
                 try clear q3
                 try clear hx3
                 try clear qi3
                 try clear c4
                 try clear c4b0
                 try clear c4b1
                 try clear p4
                 try clear q4
                 try clear hx4
                 try clear c5
                 try clear p5
                 try clear q5
                 try clear hx5
                 try clear qi5
                 try clear c6
                 try clear p6
                 try clear c7
                 try clear c8
                 try clear c8b0
                 try clear c8b1
                 try clear c9
                 try clear c9b0
                 try clear c11
                 try clear c11b0
                 try clear p12
                 try clear q12
                 try clear hx12
                 try clear c13
                 try clear c13b0
                 try clear c13b1
                 try clear c14
                 try clear c15
                 try clear c15b0
                 try clear c16
                 try clear c16b0
                 try clear p17
                 try clear q17
                 try clear hx17
                 try clear c18
                 try clear c18b0
                 try clear p19
                 try clear q19
                 try clear hx19
                 try clear c20
                 try clear c20b0
                 try clear c22
                 try clear c22b0
                 try clear c23
                 try clear c23b0
                 try clear c23b1
                 try clear c24
                 try clear c24b0
                 try clear c24b1
                 try clear c25
                 try clear c25b0
                 try clear c25b1
                 try clear c27
                 try clear c27b0
                 try clear c27b1
                 try clear c28
                 try clear c28b0
                 try clear c28b1
                 try clear c29
                 try clear c29b0
                 try clear c29b1
                 try clear c30
                 try clear c30b0
                 try clear c30b1
                 try clear p31
                 try clear q31
                 try clear hx31
                 try clear qi31
                 try clear c32
                 try clear c33
                 try clear c33b0
                 try clear c34
                 try clear c34b0
                 try clear p35
                 try clear q35
                 try clear hx35
                 try clear c36
                 try clear c36b0
                 try clear c36b1
                 try clear c37
                 try clear p38
                 try clear q38
                 try clear hx38
                 try clear c39
                 try clear c39b0
                 try clear p40
                 try clear q40
                 try clear hx40
                 try clear p41
                 try clear q41
                 try clear hx41
                 try clear c42
                 try clear c42b0
                 try clear c44
                 try clear c44b0
                 try clear p1
                 try clear p12
                 try clear p17
                 try clear p19
                 try clear p2
                 try clear p3
                 try clear p31
                 try clear p35
                 try clear p38
                 try clear p40
                 try clear p41
                 try clear p5
                 try clear p6
                 try clear q1
                 try clear q12
                 try clear q17
                 try clear q19
                 try clear q3
                 try clear q31
                 try clear q35
                 try clear q38
                 try clear q40
                 try clear q41
                 try clear q5
                 obtain ⟨kq, x8_42, rfl, HA, HJ42, ⟨mc42, rfl⟩⟩ := hcut
                 cases kq with
                 | zero => exact absurd HA.out (by simp [stipendref01_Parse.j7])
                 | succ kj42 =>
                  have H := HA.out
                  clear HA
                  simp only [stipendref01_Parse.j7] at H
                  have HC45 := Aside0.mk H
                  clear H
                  go_upto_region 32 with (fail)
                  go_cut [110] (fun v110 wc => ∃ (kq : Nat) (x110_44 : Bool), v110 = .bool x110_44 ∧ Aside0 (stipendref01_Parse.j8 kq x4_5 x8_42 x9_6 x110_44 = some (r1, r2)) ∧ Aside0 (kq ≤ kj42) ∧ Drawn0 w wc)
                  case first =>
                   have H := HC45.out
                   clear HC45
                   by_cases c46 : x4_5 = true
                   ·subst c46
                    have H1 : (stipendref01_Parse.j8 kj42 true x8_42 x9_6 (!x10_6)) = some (r1, r2) := by rw [if_pos rfl] at H; exact H
                    clear H
                    have H := H1
                    clear H1
                    have H' := Aside0.mk H
                    clear H
                    go_wp2
                    go_meet
                    case rel => exact ⟨_, (!x10_6), (by first | rfl | (simp; done) | (simp [*]; done)), H', ⟨by have := HJ1.out; have := HJ5.out; have := HK3.out; have := HJ20.out; have := HJ25.out; have := HK6.out; have := HJ42.out; first | omega | exact Nat.le_refl _⟩, by repeat (first | exact Drawn0.refl _ | apply Drawn0.step)⟩
                   ·replace c46 := Bool.eq_false_iff.mpr c46
                    subst c46
                    have H1 : (stipendref01_Parse.j8 kj42 false x8_42 x9_6 false) = some (r1, r2) := by rw [if_neg (show ¬ (false = true) by decide)] at H; exact H
                    clear H
                    have H := H1
                    clear H1
                    have H' := Aside0.mk H
                    clear H
                    go_wp2
                    go_meet
                    case rel => exact ⟨_, (false), (by first | rfl | (simp; done) | (simp [*]; done)), H', ⟨by have := HJ1.out; have := HJ5.out; have := HK3.out; have := HJ20.out; have := HJ25.out; have := HK6.out; have := HJ42.out; first | omega | exact Nat.le_refl _⟩, by repeat (first | exact Drawn0.refl _ | apply Drawn0.step)⟩
                  case rest =>
                   clear HC45
                   try clear c1
                   try clear p1
                   try clear q1
                   try clear hx1
                   try clear c2
                   try clear p2
                   try clear c3
                   try clear c3b0
                   try clear c3b1
                   try clear p3
                   try clear q3
                   try clear hx3
                   try clear qi3
                   try clear c4
                   try clear c4b0
                   try clear c4b1
                   try clear p4
                   try clear q4
                   try clear hx4
                   try clear c5
                   try clear p5
                   try clear q5
                   try clear hx5
                   try clear qi5
                   try clear c6
                   try clear p6
                   try clear c7
                   try clear c8
                   try clear c8b0
                   try clear c8b1
                   try clear c9
                   try clear c9b0
                   try clear c11
                   try clear c11b0
                   try clear p12
                   try clear q12
                   try clear hx12
                   try clear c13
                   try clear c13b0
                   try clear c13b1
                   try clear c14
                   try clear c15
                   try clear c15b0
                   try clear c16
                   try clear c16b0
                   try clear p17
                   try clear q17
                   try clear hx17
                   try clear c18
                   try clear c18b0
                   try clear p19
                   try clear q19
                   try clear hx19
                   try clear c20
                   try clear c20b0
                   try clear c22
                   try clear c22b0
                   try clear c23
                   try clear c23b0
                   try clear c23b1
                   try clear c24
                   try clear c24b0
                   try clear c24b1
                   try clear c25
                   try clear c25b0
                   try clear c25b1
                   try clear c27
                   try clear c27b0
                   try clear c27b1
                   try clear c28
                   try clear c28b0
                   try clear c28b1
                   try clear c29
                   try clear c29b0
                   try clear c29b1
                   try clear c30
                   try clear c30b0
                   try clear c30b1
                   try clear p31
                   try clear q31
                   try clear hx31
                   try clear qi31
                   try clear c32
                   try clear c33
                   try clear c33b0
                   try clear c34
                   try clear c34b0
                   try clear p35
                   try clear q35
                   try clear hx35
                   try clear c36
                   try clear c36b0
                   try clear c36b1
                   try clear c37
                   try clear p38
                   try clear q38
                   try clear hx38
                   try clear c39
                   try clear c39b0
                   try clear p40
                   try clear q40
                   try clear hx40
                   try clear p41
                   try clear q41
                   try clear hx41
                   try clear c42
                   try clear c42b0
                   try clear c44
                   try clear c44b0
                   try clear c46
                   try clear p1
                   try clear p12
                   try clear p17
                   try clear p19
                   try clear p2
                   try clear p3
                   try clear p31
                   try clear p35
                   try clear p38
                   try clear p4
                   try clear p40
                   try clear p41
                   try clear p5
                   try clear p6
                   try clear q1
                   try clear q12
                   try clear q17
                   try clear q19
                   try clear q3
                   try clear q31
                   try clear q35
                   try clear q38
                   try clear q4
                   try clear q40
                   try clear q41
                   try clear q5
                   obtain ⟨kq, x110_44, rfl, HA, HJ44, ⟨mc44, rfl⟩⟩ := hcut
                   cases kq with
                   | zero => exact absurd HA.out (by simp [stipendref01_Parse.j8])
                   | succ kj44 =>
                    have H := HA.out
                    clear HA
                    simp only [stipendref01_Parse.j8] at H
                    by_cases c47 : x110_44 = true
                    ·subst c47
                     have H1 : (some (0, 5)) = some (r1, r2) := by rw [if_pos rfl] at H; exact H
                     clear H
                     have H := H1
                     clear H1
                     simp only [Option.some.injEq, Prod.mk.injEq] at H
                     obtain ⟨rfl, rfl⟩ := H
                     go_wp2
                     go_ret2
                     exact ⟨by first | rfl | (simp; done) | (simp [*]; done), by repeat (first | exact Drawn0.refl _ | apply Drawn0.step)⟩
                    ·replace c47 := Bool.eq_false_iff.mpr c47
                     subst c47
                     have H1 : (if x9_6 = true then (stipendref01_Parse.j9 kj44 x4_5 x8_42 true) else (stipendref01_Parse.j9 kj44 x4_5 x8_42 (decide (x8_42 > 100000000000)))) = some (r1, r2) := by rw [if_neg (show ¬ (false = true) by decide)] at H; exact H
                     clear H
                     have H := H1
                     clear H1
                     have HC48 := Aside0.mk H
                     clear H
                     go_upto_region 34 with (fail)
                     go_cut [115] (fun v115 wc => ∃ (kq : Nat) (x115_47 : Bool), v115 = .bool x115_47 ∧ Aside0 (stipendref01_Parse.j9 kq x4_5 x8_42 x115_47 = some (r1, r2)) ∧ Aside0 (kq ≤ kj44) ∧ Drawn0 w wc)
                     case first =>
                      have H := HC48.out
                      clear HC48
                      by_cases c49 : x9_6 = true
                      ·subst c49
                       have H1 : (stipendref01_Parse.j9 kj44 x4_5 x8_42 true) = some (r1, r2) := by rw [if_pos rfl] at H; exact H
                       clear H
                       have H := H1
                       clear H1
                       have H' := Aside0.mk H
                       clear H
                       go_wp2
                       go_meet
                       case rel => exact ⟨_, (true), (by first | rfl | (simp; done) | (simp [*]; done)), H', ⟨by have := HJ1.out; have := HJ5.out; have := HK3.out; have := HJ20.out; have := HJ25.out; have := HK6.out; have := HJ42.out; have := HJ44.out; first | omega | exact Nat.le_refl _⟩, by repeat (first | exact Drawn0.refl _ | apply Drawn0.step)⟩
                      ·replace c49 := Bool.eq_false_iff.mpr c49
                       subst c49
                       have H1 : (stipendref01_Parse.j9 kj44 x4_5 x8_42 (decide (x8_42 > 100000000000))) = some (r1, r2) := by rw [if_neg (show ¬ (false = true) by decide)] at H; exact H
                       clear H
                       have H := H1
                       clear H1
                       have H' := Aside0.mk H
                       clear H
                       go_wp2
                       go_meet
                       case rel => exact ⟨_, (decide (x8_42 > 100000000000)), (by first | rfl | (simp; done) | (simp [*]; done)), H', ⟨by have := HJ1.out; have := HJ5.out; have := HK3.out; have := HJ20.out; have := HJ25.out; have := HK6.out; have := HJ42.out; have := HJ44.out; first | omega | exact Nat.le_refl _⟩, by repeat (first | exact Drawn0.refl _ | apply Drawn0.step)⟩
                     case rest =>
                      clear HC48
                      try clear c1
                      try clear p1
                      try clear q1
                      try clear hx1
                      try clear c2
                      try clear p2
                      try clear c3
                      try clear c3b0
                      try clear c3b1
                      try clear p3
                      try clear q3
                      try clear hx3
                      try clear qi3
                      try clear c4
                      try clear c4b0
                      try clear c4b1
                      try clear p4
                      try clear q4
                      try clear hx4
                      try clear c5
                      try clear p5
                      try clear q5
                      try clear hx5
                      try clear qi5
                      try clear c6
                      try clear p6
                      try clear c7
                      try clear c8
                      try clear c8b0
                      try clear c8b1
                      try clear c9
                      try clear c9b0
                      try clear c11
                      try clear c11b0
                      try clear p12
                      try clear q12
                      try clear hx12
                      try clear c13
                      try clear c13b0
                      try clear c13b1
                      try clear c14
                      try clear c15
                      try clear c15b0
                      try clear c16
                      try clear c16b0
                      try clear p17
                      try clear q17
                      try clear hx17
                      try clear c18
                      try clear c18b0
                      try clear p19
                      try clear q19
                      try clear hx19
                      try clear c20
                      try clear c20b0
                      try clear c22
                      try clear c22b0
                      try clear c23
                      try clear c23b0
                      try clear c23b1
                      try clear c24
                      try clear c24b0
                      try clear c24b1
                      try clear c25
                      try clear c25b0
                      try clear c25b1
                      try clear c27
                      try clear c27b0
                      try clear c27b1
                      try clear c28
                      try clear c28b0
                      try clear c28b1
                      try clear c29
                      try clear c29b0
                      try clear c29b1
                      try clear c30
                      try clear c30b0
                      try clear c30b1
                      try clear p31
                      try clear q31
                      try clear hx31
                      try clear qi31
                      try clear c32
                      try clear c33
                      try clear c33b0
                      try clear c34
                      try clear c34b0
                      try clear p35
                      try clear q35
                      try clear hx35
                      try clear c36
                      try clear c36b0
                      try clear c36b1
                      try clear c37
                      try clear p38
                      try clear q38
                      try clear hx38
                      try clear c39
                      try clear c39b0
                      try clear p40
                      try clear q40
                      try clear hx40
                      try clear p41
                      try clear q41
                      try clear hx41
                      try clear c42
                      try clear c42b0
                      try clear c44
                      try clear c44b0
                      try clear c46
                      try clear c47
                      try clear c49
                      try clear p1
                      try clear p12
                      try clear p17
                      try clear p19
                      try clear p2
                      try clear p3
                      try clear p31
                      try clear p35
                      try clear p38
                      try clear p4
                      try clear p40
                      try clear p41
                      try clear p5
                      try clear p6
                      try clear q1
                      try clear q12
                      try clear q17
                      try clear q19
                      try clear q3
                      try clear q31
                      try clear q35
                      try clear q38
                      try clear q4
                      try clear q40
                      try clear q41
                      try clear q5
                      obtain ⟨kq, x115_47, rfl, HA, HJ47, ⟨mc47, rfl⟩⟩ := hcut
                      cases kq with
                      | zero => exact absurd HA.out (by simp [stipendref01_Parse.j9])
                      | succ kj47 =>
                       have H := HA.out
                       clear HA
                       simp only [stipendref01_Parse.j9] at H
                       by_cases c50 : x115_47 = true
                       ·subst c50
                        have H1 : (some (0, 10)) = some (r1, r2) := by rw [if_pos rfl] at H; exact H
                        clear H
                        have H := H1
                        clear H1
                        simp only [Option.some.injEq, Prod.mk.injEq] at H
                        obtain ⟨rfl, rfl⟩ := H
                        go_wp2
                        go_ret2
                        exact ⟨by first | rfl | (simp; done) | (simp [*]; done), by repeat (first | exact Drawn0.refl _ | apply Drawn0.step)⟩
                       ·replace c50 := Bool.eq_false_iff.mpr c50
                        subst c50
                        have H1 : (if x4_5 = true then (some (wrap64 (-x8_42), 0)) else (some (x8_42, 0))) = some (r1, r2) := by rw [if_neg (show ¬ (false = true) by decide)] at H; exact H
                        clear H
                        have H := H1
                        clear H1
                        by_cases c51 : x4_5 = true
                        ·subst c51
                         have H1 : (some (wrap64 (-x8_42), 0)) = some (r1, r2) := by rw [if_pos rfl] at H; exact H
                         clear H
                         have H := H1
                         clear H1
                         simp only [Option.some.injEq, Prod.mk.injEq] at H
                         obtain ⟨rfl, rfl⟩ := H
                         go_wp2
                         go_ret2
                         exact ⟨by first | rfl | (simp; done) | (simp [*]; done), by repeat (first | exact Drawn0.refl _ | apply Drawn0.step)⟩
                        ·replace c51 := Bool.eq_false_iff.mpr c51
                         subst c51
                         have H1 : (some (x8_42, 0)) = some (r1, r2) := by rw [if_neg (show ¬ (false = true) by decide)] at H; exact H
                         clear H
                         have H := H1
                         clear H1
                         simp only [Option.some.injEq, Prod.mk.injEq] at H
                         obtain ⟨rfl, rfl⟩ := H
                         go_wp2
                         go_ret2
                         exact ⟨by first | rfl | (simp; done) | (simp [*]; done), by repeat (first | exact Drawn0.refl _ | apply Drawn0.step)⟩

end Go.Proofs.YtmocphafkimdpaaDoor.P
