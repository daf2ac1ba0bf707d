/- A part of the proof of ElementChecks's card: 'ElementChecks' answers true for every input (the conditions: those of the given statement alone). Merged by a program (wip/merge.py) out of: GWorthsP. -/
import Derived.Test.YtmocphafkimdpaaDoorMElementChecksa
import Derived.Test.YtmocphafkimdpaaDoorMElementChecksb
import Derived.Test.YtmocphafkimdpaaDoorMElementChecksf
import Derived.Test.YtmocphafkimdpaaDoorMElementChecksg
import Derived.Test.YtmocphafkimdpaaDoorMElementCheckse

-- written by a program (a patched copy of the kit's print: wip/mkprint.py); Lean checks it
namespace Go.Proofs.YtmocphafkimdpaaDoor.P
open Go.RowKit Go.Proofs.YtmocphafkimdpaaDoorW.PrintWords Go.Proofs.YtmocphafkimdpaaDoorW.PrintLast Go.Proofs.YtmocphafkimdpaaDoorW.PrintMore
attribute [local go_sem] max2_int min2_int max_two min_two max_three min_three max_four min_four   -- for this text's walks alone
set_option linter.unusedVariables false
set_option linter.unusedSimpArgs false

attribute [local go_sem high] eqA48 eqA76
/-! ### stipendlaw11_worths: function 35 -/
def stipendlaw11_worthsP.f (k : Nat)  : Option (Bool) := (element_Parse.f k (([(⟨#[104, 111, 117, 114, 108, 121]⟩ : ByteArray), (⟨#[49, 50, 46, 53, 48]⟩ : ByteArray), (⟨#[120, 51, 55, 46, 53, 48]⟩ : ByteArray)] : List ByteArray))).bind fun bt340 => ((element_Value.f k bt340.1 bt340.2.1 bt340.2.2.1).bind fun bt345 => ((element_Of.f (⟨#[98]⟩ : ByteArray) 5).bind fun bt347 => ((element_Sums.f (([(⟨bt340.1, bt340.2.1, bt340.2.2.1⟩ : S48), (⟨bt347.1, bt347.2.1, bt347.2.2⟩ : S48), (⟨bt340.1, bt340.2.1, bt340.2.2.1⟩ : S48)] : List (S48)))).bind fun bt353 => ((element_Of.f (⟨#[98]⟩ : ByteArray) 5).bind fun bt357 => ((element_Change.f k (⟨#[104, 111, 117, 114, 108, 121]⟩ : ByteArray) 7 (([(⟨bt340.1, bt340.2.1, bt340.2.2.1⟩ : S48), (⟨bt357.1, bt357.2.1, bt357.2.2⟩ : S48), (⟨bt340.1, bt340.2.1, bt340.2.2.1⟩ : S48)] : List (S48)))).bind fun t363 => (if (wrap64 ((wrap64 (bt340.2.2.2 + bt345.2)) + bt353.2)) = 0 then (if bt345.1 = 46875 then ((element_Text.f bt340.1 bt340.2.1 bt340.2.2.1).bind fun t366 => (if t366.toList = ([104, 111, 117, 114, 108, 121, 32, 49, 50, 46, 53, 48, 32, 120, 51, 55, 46, 53, 48] : List UInt8) then ((element_Of.f (⟨#[98]⟩ : ByteArray) 5).bind fun bt367 => ((element_Text.f bt367.1 bt367.2.1 bt367.2.2).bind fun t370 => (if t370.toList = ([98, 32, 48, 46, 48, 53] : List UInt8) then (if (bt353.1.length : Int) = 2 then (if 0 < (bt353.1.length : Int) then (if ((((rd_T76 bt353.1 0).f0).toList) == ([104, 111, 117, 114, 108, 121] : List UInt8) && (((rd_T76 bt353.1 0).f1) == 93750)) = true then (if (t363.length : Int) = 2 then (if 0 < (t363.length : Int) then ((element_Of.f (⟨#[104, 111, 117, 114, 108, 121]⟩ : ByteArray) 7).bind fun bt373 => (if ((((rd_T48 t363 0).f0).toList) == bt373.1.toList && (((rd_T48 t363 0).f1) == bt373.2.1 && (((rd_T48 t363 0).f2) == bt373.2.2))) = true then ((element_Same.f k t363 t363).bind fun t376 => (some t376)) else (some false))) else (none)) else (some false)) else (some false)) else (none)) else (some false)) else (some false)))) else (some false))) else (some false)) else (some false)))))))
theorem stipendlaw11_worthsP.mono : ∀ k, LeO (stipendlaw11_worthsP.f k ) (stipendlaw11_worthsP.f (k + 1) ) := by
  intro  k
  unfold stipendlaw11_worthsP.f
  repeat' first
      | (with_reducible exact element_Change.mono _ _ _ _)
      | (with_reducible exact element_Parse.mono _ _)
      | (with_reducible exact element_Same.mono _ _ _)
      | (with_reducible exact element_Value.mono _ _ _ _)
      | (with_reducible exact LeO.refl _)
      | (with_reducible exact LeO.none _)
      | (with_reducible refine LeO.ite ?_ ?_)
      | (with_reducible refine LeO.bind ?_ (fun _ => ?_))
      | exact element_Change.mono _ _ _ _
      | exact element_Parse.mono _ _
      | exact element_Same.mono _ _ _
      | exact element_Value.mono _ _ _ _
      | exact LeO.none _
      | refine LeO.ite ?_ ?_
      | refine LeO.bind ?_ (fun _ => ?_)
def stipendlaw11_worthsP.T3 : Bool × List (List Nat × List Nat) := (true, [([], []), ([], []), ([], []), ([0, 1, 2], [0, 1, 2]), ([3, 1], [3]), ([4], [4]), ([5], [5]), ([5], [5]), ([6, 4, 0, 1, 2, 3, 4, 5, 6], [6]), ([7, 8, 0, 1, 2, 3, 4, 5, 6, 7, 8], [7])])
def stipendlaw11_worthsP.B3 : List Nat := [0, 0, 0, 7, 15, 31, 63, 63, 127, 511]
theorem stipendlaw11_worthsP.tab3 : rtab .any (opsOf Tryd.f35 3) = stipendlaw11_worthsP.T3 := by kernel_rfl
theorem stipendlaw11_worthsP.bits3 : waitsOk stipendlaw11_worthsP.T3.2 stipendlaw11_worthsP.B3 = true := by kernel_rfl
def stipendlaw11_worthsP.T5 : Bool × List (List Nat × List Nat) := (true, [([], []), ([], []), ([0, 1], [0, 1]), ([], []), ([2, 3], [2, 3]), ([4], [4]), ([5], [5]), ([6], [6]), ([7, 6], [6, 7]), ([6, 8], [6, 8]), ([9, 6], [9]), ([10], [10]), ([11, 10, 10], [10, 11]), ([12, 10], [10, 12]), ([10, 13], [10, 13]), ([14, 12], [14]), ([15, 15], [15]), ([16, 16, 15], [15, 16]), ([17, 15], [15, 17]), ([15, 18], [15, 18]), ([19, 17], [19]), ([20], [20]), ([21, 20], [20, 21]), ([22, 20], [20, 22]), ([20, 23], [20, 23]), ([24, 20], [24]), ([25], [25]), ([26, 25], [25, 26]), ([27, 25], [25, 27]), ([25], [25]), ([28, 29, 25], [25, 28, 29]), ([25, 30], [25, 30]), ([31, 25], [31]), ([32], [32]), ([33, 32], [32, 33]), ([34, 32], [32, 34]), ([32, 35], [32, 35]), ([36, 32], [36]), ([37], [37]), ([38, 37], [37, 38]), ([39, 37], [37, 39]), ([37, 37], [37]), ([40, 41, 37], [37, 40, 41]), ([37, 42], [37, 42]), ([43, 41], [43]), ([44], [44]), ([45, 44], [45]), ([46], [46]), ([47, 46], [47]), ([48], [48]), ([49, 48], [49]), ([50], [50]), ([50], [50]), ([51, 52, 50, 50], [50, 51, 52]), ([50, 53], [50, 53]), ([54, 53, 0, 1, 2, 3, 4, 5, 6, 7, 8, 9, 10, 11, 12, 13, 14, 15, 16, 17, 18, 19, 20, 21, 22, 23, 24, 25, 26, 27, 28, 29, 30, 31, 32, 33, 34, 35, 36, 37, 38, 39, 40, 41, 42, 43, 44, 45, 46, 47, 48, 49, 50, 51, 52, 53, 54], [54])])
def stipendlaw11_worthsP.B5 : List Nat := [0, 0, 3, 0, 15, 31, 63, 127, 255, 511, 1023, 2047, 4095, 8191, 16383, 32767, 65535, 131071, 262143, 524287, 1048575, 2097151, 4194303, 8388607, 16777215, 33554431, 67108863, 134217727, 268435455, 67108863, 1073741823, 2147483647, 4294967295, 8589934591, 17179869183, 34359738367, 68719476735, 137438953471, 274877906943, 549755813887, 1099511627775, 274877906943, 4398046511103, 8796093022207, 17592186044415, 35184372088831, 70368744177663, 140737488355327, 281474976710655, 562949953421311, 1125899906842623, 2251799813685247, 2251799813685247, 9007199254740991, 18014398509481983, 36028797018963967]
theorem stipendlaw11_worthsP.tab5 : rtab .any (opsOf Tryd.f35 5) = stipendlaw11_worthsP.T5 := by kernel_rfl
theorem stipendlaw11_worthsP.bits5 : waitsOk stipendlaw11_worthsP.T5.2 stipendlaw11_worthsP.B5 = true := by kernel_rfl
set_option maxHeartbeats 8000000 in
set_option maxRecDepth 100000 in
theorem stipendlaw11_worthsP.calls (k : Nat)  (r : Bool) (hr : r = true) (w : World) (h : stipendlaw11_worthsP.f k  = some r) (hG : GTab w := by first | exact GTab.below HG.out (by repeat (first | (with_reducible first | exact HB.out | apply below_alloc | apply pw_below_drewN | apply below_drew1 | apply below_drew) | exact HB.out)) | exact HG.out) :
    Calls Tryd.prog 35 #[] w fun e w' => e = .returned (.bool r) ∧ Below w.heap.size w w' := by
  have hu48 := Tryd.underlying48
  have hu76 := Tryd.underlying76
  have HG := Aside0.mk hG; clear hG
  have HT := Aside0.mk hr; clear hr
  have HB := Aside0.mk (Below.refl w.heap.size w)
  have H : ((element_Parse.f k (([(⟨#[104, 111, 117, 114, 108, 121]⟩ : ByteArray), (⟨#[49, 50, 46, 53, 48]⟩ : ByteArray), (⟨#[120, 51, 55, 46, 53, 48]⟩ : ByteArray)] : List ByteArray))).bind fun bt340 => ((element_Value.f k bt340.1 bt340.2.1 bt340.2.2.1).bind fun bt345 => ((element_Of.f (⟨#[98]⟩ : ByteArray) 5).bind fun bt347 => ((element_Sums.f (([(⟨bt340.1, bt340.2.1, bt340.2.2.1⟩ : S48), (⟨bt347.1, bt347.2.1, bt347.2.2⟩ : S48), (⟨bt340.1, bt340.2.1, bt340.2.2.1⟩ : S48)] : List (S48)))).bind fun bt353 => ((element_Of.f (⟨#[98]⟩ : ByteArray) 5).bind fun bt357 => ((element_Change.f k (⟨#[104, 111, 117, 114, 108, 121]⟩ : ByteArray) 7 (([(⟨bt340.1, bt340.2.1, bt340.2.2.1⟩ : S48), (⟨bt357.1, bt357.2.1, bt357.2.2⟩ : S48), (⟨bt340.1, bt340.2.1, bt340.2.2.1⟩ : S48)] : List (S48)))).bind fun t363 => (if (wrap64 ((wrap64 (bt340.2.2.2 + bt345.2)) + bt353.2)) = 0 then (if bt345.1 = 46875 then ((element_Text.f bt340.1 bt340.2.1 bt340.2.2.1).bind fun t366 => (if t366.toList = ([104, 111, 117, 114, 108, 121, 32, 49, 50, 46, 53, 48, 32, 120, 51, 55, 46, 53, 48] : List UInt8) then ((element_Of.f (⟨#[98]⟩ : ByteArray) 5).bind fun bt367 => ((element_Text.f bt367.1 bt367.2.1 bt367.2.2).bind fun t370 => (if t370.toList = ([98, 32, 48, 46, 48, 53] : List UInt8) then (if (bt353.1.length : Int) = 2 then (if 0 < (bt353.1.length : Int) then (if ((((rd_T76 bt353.1 0).f0).toList) == ([104, 111, 117, 114, 108, 121] : List UInt8) && (((rd_T76 bt353.1 0).f1) == 93750)) = true then (if (t363.length : Int) = 2 then (if 0 < (t363.length : Int) then ((element_Of.f (⟨#[104, 111, 117, 114, 108, 121]⟩ : ByteArray) 7).bind fun bt373 => (if ((((rd_T48 t363 0).f0).toList) == bt373.1.toList && (((rd_T48 t363 0).f1) == bt373.2.1 && (((rd_T48 t363 0).f2) == bt373.2.2))) = true then ((element_Same.f k t363 t363).bind fun t376 => (some t376)) else (some false))) else (none)) else (some false)) else (some false)) else (none)) else (some false)) else (some false)))) else (some false))) else (some false)) else (some false)))))))) = some r := h
  clear h
  obtain ⟨y337, hy337⟩ : ∃ y_ : List ByteArray, y_ = (([(⟨#[104, 111, 117, 114, 108, 121]⟩ : ByteArray), (⟨#[49, 50, 46, 53, 48]⟩ : ByteArray), (⟨#[120, 51, 55, 46, 53, 48]⟩ : ByteArray)] : List ByteArray)) := ⟨_, rfl⟩
  replace H : ((element_Parse.f k y337).bind fun bt340 => ((element_Value.f k bt340.1 bt340.2.1 bt340.2.2.1).bind fun bt345 => ((element_Of.f (⟨#[98]⟩ : ByteArray) 5).bind fun bt347 => ((element_Sums.f (([(⟨bt340.1, bt340.2.1, bt340.2.2.1⟩ : S48), (⟨bt347.1, bt347.2.1, bt347.2.2⟩ : S48), (⟨bt340.1, bt340.2.1, bt340.2.2.1⟩ : S48)] : List (S48)))).bind fun bt353 => ((element_Of.f (⟨#[98]⟩ : ByteArray) 5).bind fun bt357 => ((element_Change.f k (⟨#[104, 111, 117, 114, 108, 121]⟩ : ByteArray) 7 (([(⟨bt340.1, bt340.2.1, bt340.2.2.1⟩ : S48), (⟨bt357.1, bt357.2.1, bt357.2.2⟩ : S48), (⟨bt340.1, bt340.2.1, bt340.2.2.1⟩ : S48)] : List (S48)))).bind fun t363 => (if (wrap64 ((wrap64 (bt340.2.2.2 + bt345.2)) + bt353.2)) = 0 then (if bt345.1 = 46875 then ((element_Text.f bt340.1 bt340.2.1 bt340.2.2.1).bind fun t366 => (if t366.toList = ([104, 111, 117, 114, 108, 121, 32, 49, 50, 46, 53, 48, 32, 120, 51, 55, 46, 53, 48] : List UInt8) then ((element_Of.f (⟨#[98]⟩ : ByteArray) 5).bind fun bt367 => ((element_Text.f bt367.1 bt367.2.1 bt367.2.2).bind fun t370 => (if t370.toList = ([98, 32, 48, 46, 48, 53] : List UInt8) then (if (bt353.1.length : Int) = 2 then (if 0 < (bt353.1.length : Int) then (if ((((rd_T76 bt353.1 0).f0).toList) == ([104, 111, 117, 114, 108, 121] : List UInt8) && (((rd_T76 bt353.1 0).f1) == 93750)) = true then (if (t363.length : Int) = 2 then (if 0 < (t363.length : Int) then ((element_Of.f (⟨#[104, 111, 117, 114, 108, 121]⟩ : ByteArray) 7).bind fun bt373 => (if ((((rd_T48 t363 0).f0).toList) == bt373.1.toList && (((rd_T48 t363 0).f1) == bt373.2.1 && (((rd_T48 t363 0).f2) == bt373.2.2))) = true then ((element_Same.f k t363 t363).bind fun t376 => (some t376)) else (some false))) else (none)) else (some false)) else (some false)) else (none)) else (some false)) else (some false)))) else (some false))) else (some false)) else (some false)))))))) = some r := by first | (rw [hy337]; with_reducible exact H) | (have H2_ := (Option.bind_some _ _).symm.trans H; rw [hy337]; with_reducible exact H2_) | (have H2_ := (Option.bind_some _ _).symm.trans H; with_reducible exact H2_) | with_reducible exact H | (rw [hy337]; exact H) | exact H
  have Ny337 := Aside0.mk hy337
  clear hy337
  replace H := Option.bind_eq_some_iff.mp H
  obtain ⟨⟨t340, t341, t342, t343⟩, A10, H⟩ := H
  replace H : ((element_Value.f k t340 t341 t342).bind fun bt345 => ((element_Of.f (⟨#[98]⟩ : ByteArray) 5).bind fun bt347 => ((element_Sums.f (([(⟨t340, t341, t342⟩ : S48), (⟨bt347.1, bt347.2.1, bt347.2.2⟩ : S48), (⟨t340, t341, t342⟩ : S48)] : List (S48)))).bind fun bt353 => ((element_Of.f (⟨#[98]⟩ : ByteArray) 5).bind fun bt357 => ((element_Change.f k (⟨#[104, 111, 117, 114, 108, 121]⟩ : ByteArray) 7 (([(⟨t340, t341, t342⟩ : S48), (⟨bt357.1, bt357.2.1, bt357.2.2⟩ : S48), (⟨t340, t341, t342⟩ : S48)] : List (S48)))).bind fun t363 => (if (wrap64 ((wrap64 (t343 + bt345.2)) + bt353.2)) = 0 then (if bt345.1 = 46875 then ((element_Text.f t340 t341 t342).bind fun t366 => (if t366.toList = ([104, 111, 117, 114, 108, 121, 32, 49, 50, 46, 53, 48, 32, 120, 51, 55, 46, 53, 48] : List UInt8) then ((element_Of.f (⟨#[98]⟩ : ByteArray) 5).bind fun bt367 => ((element_Text.f bt367.1 bt367.2.1 bt367.2.2).bind fun t370 => (if t370.toList = ([98, 32, 48, 46, 48, 53] : List UInt8) then (if (bt353.1.length : Int) = 2 then (if 0 < (bt353.1.length : Int) then (if ((((rd_T76 bt353.1 0).f0).toList) == ([104, 111, 117, 114, 108, 121] : List UInt8) && (((rd_T76 bt353.1 0).f1) == 93750)) = true then (if (t363.length : Int) = 2 then (if 0 < (t363.length : Int) then ((element_Of.f (⟨#[104, 111, 117, 114, 108, 121]⟩ : ByteArray) 7).bind fun bt373 => (if ((((rd_T48 t363 0).f0).toList) == bt373.1.toList && (((rd_T48 t363 0).f1) == bt373.2.1 && (((rd_T48 t363 0).f2) == bt373.2.2))) = true then ((element_Same.f k t363 t363).bind fun t376 => (some t376)) else (some false))) else (none)) else (some false)) else (some false)) else (none)) else (some false)) else (some false)))) else (some false))) else (some false)) else (some false))))))) = some r := H
  have A1 := Aside0.mk A10
  clear A10
  replace H := Option.bind_eq_some_iff.mp H
  obtain ⟨⟨t345, t346⟩, A20, H⟩ := H
  replace H : ((element_Of.f (⟨#[98]⟩ : ByteArray) 5).bind fun bt347 => ((element_Sums.f (([(⟨t340, t341, t342⟩ : S48), (⟨bt347.1, bt347.2.1, bt347.2.2⟩ : S48), (⟨t340, t341, t342⟩ : S48)] : List (S48)))).bind fun bt353 => ((element_Of.f (⟨#[98]⟩ : ByteArray) 5).bind fun bt357 => ((element_Change.f k (⟨#[104, 111, 117, 114, 108, 121]⟩ : ByteArray) 7 (([(⟨t340, t341, t342⟩ : S48), (⟨bt357.1, bt357.2.1, bt357.2.2⟩ : S48), (⟨t340, t341, t342⟩ : S48)] : List (S48)))).bind fun t363 => (if (wrap64 ((wrap64 (t343 + t346)) + bt353.2)) = 0 then (if t345 = 46875 then ((element_Text.f t340 t341 t342).bind fun t366 => (if t366.toList = ([104, 111, 117, 114, 108, 121, 32, 49, 50, 46, 53, 48, 32, 120, 51, 55, 46, 53, 48] : List UInt8) then ((element_Of.f (⟨#[98]⟩ : ByteArray) 5).bind fun bt367 => ((element_Text.f bt367.1 bt367.2.1 bt367.2.2).bind fun t370 => (if t370.toList = ([98, 32, 48, 46, 48, 53] : List UInt8) then (if (bt353.1.length : Int) = 2 then (if 0 < (bt353.1.length : Int) then (if ((((rd_T76 bt353.1 0).f0).toList) == ([104, 111, 117, 114, 108, 121] : List UInt8) && (((rd_T76 bt353.1 0).f1) == 93750)) = true then (if (t363.length : Int) = 2 then (if 0 < (t363.length : Int) then ((element_Of.f (⟨#[104, 111, 117, 114, 108, 121]⟩ : ByteArray) 7).bind fun bt373 => (if ((((rd_T48 t363 0).f0).toList) == bt373.1.toList && (((rd_T48 t363 0).f1) == bt373.2.1 && (((rd_T48 t363 0).f2) == bt373.2.2))) = true then ((element_Same.f k t363 t363).bind fun t376 => (some t376)) else (some false))) else (none)) else (some false)) else (some false)) else (none)) else (some false)) else (some false)))) else (some false))) else (some false)) else (some false)))))) = some r := H
  have A2 := Aside0.mk A20
  clear A20
  replace H := Option.bind_eq_some_iff.mp H
  obtain ⟨⟨t347, t348, t349⟩, A30, H⟩ := H
  replace H : ((element_Sums.f (([(⟨t340, t341, t342⟩ : S48), (⟨t347, t348, t349⟩ : S48), (⟨t340, t341, t342⟩ : S48)] : List (S48)))).bind fun bt353 => ((element_Of.f (⟨#[98]⟩ : ByteArray) 5).bind fun bt357 => ((element_Change.f k (⟨#[104, 111, 117, 114, 108, 121]⟩ : ByteArray) 7 (([(⟨t340, t341, t342⟩ : S48), (⟨bt357.1, bt357.2.1, bt357.2.2⟩ : S48), (⟨t340, t341, t342⟩ : S48)] : List (S48)))).bind fun t363 => (if (wrap64 ((wrap64 (t343 + t346)) + bt353.2)) = 0 then (if t345 = 46875 then ((element_Text.f t340 t341 t342).bind fun t366 => (if t366.toList = ([104, 111, 117, 114, 108, 121, 32, 49, 50, 46, 53, 48, 32, 120, 51, 55, 46, 53, 48] : List UInt8) then ((element_Of.f (⟨#[98]⟩ : ByteArray) 5).bind fun bt367 => ((element_Text.f bt367.1 bt367.2.1 bt367.2.2).bind fun t370 => (if t370.toList = ([98, 32, 48, 46, 48, 53] : List UInt8) then (if (bt353.1.length : Int) = 2 then (if 0 < (bt353.1.length : Int) then (if ((((rd_T76 bt353.1 0).f0).toList) == ([104, 111, 117, 114, 108, 121] : List UInt8) && (((rd_T76 bt353.1 0).f1) == 93750)) = true then (if (t363.length : Int) = 2 then (if 0 < (t363.length : Int) then ((element_Of.f (⟨#[104, 111, 117, 114, 108, 121]⟩ : ByteArray) 7).bind fun bt373 => (if ((((rd_T48 t363 0).f0).toList) == bt373.1.toList && (((rd_T48 t363 0).f1) == bt373.2.1 && (((rd_T48 t363 0).f2) == bt373.2.2))) = true then ((element_Same.f k t363 t363).bind fun t376 => (some t376)) else (some false))) else (none)) else (some false)) else (some false)) else (none)) else (some false)) else (some false)))) else (some false))) else (some false)) else (some false))))) = some r := H
  have A3 := Aside0.mk A30
  clear A30
  obtain ⟨y350, hy350⟩ : ∃ y_ : List (S48), y_ = (([(⟨t340, t341, t342⟩ : S48), (⟨t347, t348, t349⟩ : S48), (⟨t340, t341, t342⟩ : S48)] : List (S48))) := ⟨_, rfl⟩
  replace H : ((element_Sums.f y350).bind fun bt353 => ((element_Of.f (⟨#[98]⟩ : ByteArray) 5).bind fun bt357 => ((element_Change.f k (⟨#[104, 111, 117, 114, 108, 121]⟩ : ByteArray) 7 (([(⟨t340, t341, t342⟩ : S48), (⟨bt357.1, bt357.2.1, bt357.2.2⟩ : S48), (⟨t340, t341, t342⟩ : S48)] : List (S48)))).bind fun t363 => (if (wrap64 ((wrap64 (t343 + t346)) + bt353.2)) = 0 then (if t345 = 46875 then ((element_Text.f t340 t341 t342).bind fun t366 => (if t366.toList = ([104, 111, 117, 114, 108, 121, 32, 49, 50, 46, 53, 48, 32, 120, 51, 55, 46, 53, 48] : List UInt8) then ((element_Of.f (⟨#[98]⟩ : ByteArray) 5).bind fun bt367 => ((element_Text.f bt367.1 bt367.2.1 bt367.2.2).bind fun t370 => (if t370.toList = ([98, 32, 48, 46, 48, 53] : List UInt8) then (if (bt353.1.length : Int) = 2 then (if 0 < (bt353.1.length : Int) then (if ((((rd_T76 bt353.1 0).f0).toList) == ([104, 111, 117, 114, 108, 121] : List UInt8) && (((rd_T76 bt353.1 0).f1) == 93750)) = true then (if (t363.length : Int) = 2 then (if 0 < (t363.length : Int) then ((element_Of.f (⟨#[104, 111, 117, 114, 108, 121]⟩ : ByteArray) 7).bind fun bt373 => (if ((((rd_T48 t363 0).f0).toList) == bt373.1.toList && (((rd_T48 t363 0).f1) == bt373.2.1 && (((rd_T48 t363 0).f2) == bt373.2.2))) = true then ((element_Same.f k t363 t363).bind fun t376 => (some t376)) else (some false))) else (none)) else (some false)) else (some false)) else (none)) else (some false)) else (some false)))) else (some false))) else (some false)) else (some false))))) = some r := by first | (rw [hy350]; with_reducible exact H) | (have H2_ := (Option.bind_some _ _).symm.trans H; rw [hy350]; with_reducible exact H2_) | (have H2_ := (Option.bind_some _ _).symm.trans H; with_reducible exact H2_) | with_reducible exact H | (rw [hy350]; exact H) | exact H
  have Ny350 := Aside0.mk hy350
  clear hy350
  replace H := Option.bind_eq_some_iff.mp H
  obtain ⟨⟨t353, t354⟩, A40, H⟩ := H
  replace H : ((element_Of.f (⟨#[98]⟩ : ByteArray) 5).bind fun bt357 => ((element_Change.f k (⟨#[104, 111, 117, 114, 108, 121]⟩ : ByteArray) 7 (([(⟨t340, t341, t342⟩ : S48), (⟨bt357.1, bt357.2.1, bt357.2.2⟩ : S48), (⟨t340, t341, t342⟩ : S48)] : List (S48)))).bind fun t363 => (if (wrap64 ((wrap64 (t343 + t346)) + t354)) = 0 then (if t345 = 46875 then ((element_Text.f t340 t341 t342).bind fun t366 => (if t366.toList = ([104, 111, 117, 114, 108, 121, 32, 49, 50, 46, 53, 48, 32, 120, 51, 55, 46, 53, 48] : List UInt8) then ((element_Of.f (⟨#[98]⟩ : ByteArray) 5).bind fun bt367 => ((element_Text.f bt367.1 bt367.2.1 bt367.2.2).bind fun t370 => (if t370.toList = ([98, 32, 48, 46, 48, 53] : List UInt8) then (if (t353.length : Int) = 2 then (if 0 < (t353.length : Int) then (if ((((rd_T76 t353 0).f0).toList) == ([104, 111, 117, 114, 108, 121] : List UInt8) && (((rd_T76 t353 0).f1) == 93750)) = true then (if (t363.length : Int) = 2 then (if 0 < (t363.length : Int) then ((element_Of.f (⟨#[104, 111, 117, 114, 108, 121]⟩ : ByteArray) 7).bind fun bt373 => (if ((((rd_T48 t363 0).f0).toList) == bt373.1.toList && (((rd_T48 t363 0).f1) == bt373.2.1 && (((rd_T48 t363 0).f2) == bt373.2.2))) = true then ((element_Same.f k t363 t363).bind fun t376 => (some t376)) else (some false))) else (none)) else (some false)) else (some false)) else (none)) else (some false)) else (some false)))) else (some false))) else (some false)) else (some false)))) = some r := H
  have A4 := Aside0.mk A40
  clear A40
  replace H := Option.bind_eq_some_iff.mp H
  obtain ⟨⟨t357, t358, t359⟩, A50, H⟩ := H
  replace H : ((element_Change.f k (⟨#[104, 111, 117, 114, 108, 121]⟩ : ByteArray) 7 (([(⟨t340, t341, t342⟩ : S48), (⟨t357, t358, t359⟩ : S48), (⟨t340, t341, t342⟩ : S48)] : List (S48)))).bind fun t363 => (if (wrap64 ((wrap64 (t343 + t346)) + t354)) = 0 then (if t345 = 46875 then ((element_Text.f t340 t341 t342).bind fun t366 => (if t366.toList = ([104, 111, 117, 114, 108, 121, 32, 49, 50, 46, 53, 48, 32, 120, 51, 55, 46, 53, 48] : List UInt8) then ((element_Of.f (⟨#[98]⟩ : ByteArray) 5).bind fun bt367 => ((element_Text.f bt367.1 bt367.2.1 bt367.2.2).bind fun t370 => (if t370.toList = ([98, 32, 48, 46, 48, 53] : List UInt8) then (if (t353.length : Int) = 2 then (if 0 < (t353.length : Int) then (if ((((rd_T76 t353 0).f0).toList) == ([104, 111, 117, 114, 108, 121] : List UInt8) && (((rd_T76 t353 0).f1) == 93750)) = true then (if (t363.length : Int) = 2 then (if 0 < (t363.length : Int) then ((element_Of.f (⟨#[104, 111, 117, 114, 108, 121]⟩ : ByteArray) 7).bind fun bt373 => (if ((((rd_T48 t363 0).f0).toList) == bt373.1.toList && (((rd_T48 t363 0).f1) == bt373.2.1 && (((rd_T48 t363 0).f2) == bt373.2.2))) = true then ((element_Same.f k t363 t363).bind fun t376 => (some t376)) else (some false))) else (none)) else (some false)) else (some false)) else (none)) else (some false)) else (some false)))) else (some false))) else (some false)) else (some false))) = some r := H
  have A5 := Aside0.mk A50
  clear A50
  obtain ⟨y360, hy360⟩ : ∃ y_ : List (S48), y_ = (([(⟨t340, t341, t342⟩ : S48), (⟨t357, t358, t359⟩ : S48), (⟨t340, t341, t342⟩ : S48)] : List (S48))) := ⟨_, rfl⟩
  replace H : ((element_Change.f k (⟨#[104, 111, 117, 114, 108, 121]⟩ : ByteArray) 7 y360).bind fun t363 => (if (wrap64 ((wrap64 (t343 + t346)) + t354)) = 0 then (if t345 = 46875 then ((element_Text.f t340 t341 t342).bind fun t366 => (if t366.toList = ([104, 111, 117, 114, 108, 121, 32, 49, 50, 46, 53, 48, 32, 120, 51, 55, 46, 53, 48] : List UInt8) then ((element_Of.f (⟨#[98]⟩ : ByteArray) 5).bind fun bt367 => ((element_Text.f bt367.1 bt367.2.1 bt367.2.2).bind fun t370 => (if t370.toList = ([98, 32, 48, 46, 48, 53] : List UInt8) then (if (t353.length : Int) = 2 then (if 0 < (t353.length : Int) then (if ((((rd_T76 t353 0).f0).toList) == ([104, 111, 117, 114, 108, 121] : List UInt8) && (((rd_T76 t353 0).f1) == 93750)) = true then (if (t363.length : Int) = 2 then (if 0 < (t363.length : Int) then ((element_Of.f (⟨#[104, 111, 117, 114, 108, 121]⟩ : ByteArray) 7).bind fun bt373 => (if ((((rd_T48 t363 0).f0).toList) == bt373.1.toList && (((rd_T48 t363 0).f1) == bt373.2.1 && (((rd_T48 t363 0).f2) == bt373.2.2))) = true then ((element_Same.f k t363 t363).bind fun t376 => (some t376)) else (some false))) else (none)) else (some false)) else (some false)) else (none)) else (some false)) else (some false)))) else (some false))) else (some false)) else (some false))) = some r := by first | (rw [hy360]; with_reducible exact H) | (have H2_ := (Option.bind_some _ _).symm.trans H; rw [hy360]; with_reducible exact H2_) | (have H2_ := (Option.bind_some _ _).symm.trans H; with_reducible exact H2_) | with_reducible exact H | (rw [hy360]; exact H) | exact H
  have Ny360 := Aside0.mk hy360
  clear hy360
  replace H := Option.bind_eq_some_iff.mp H
  obtain ⟨t363, A60, H⟩ := H
  replace H : (if (wrap64 ((wrap64 (t343 + t346)) + t354)) = 0 then (if t345 = 46875 then ((element_Text.f t340 t341 t342).bind fun t366 => (if t366.toList = ([104, 111, 117, 114, 108, 121, 32, 49, 50, 46, 53, 48, 32, 120, 51, 55, 46, 53, 48] : List UInt8) then ((element_Of.f (⟨#[98]⟩ : ByteArray) 5).bind fun bt367 => ((element_Text.f bt367.1 bt367.2.1 bt367.2.2).bind fun t370 => (if t370.toList = ([98, 32, 48, 46, 48, 53] : List UInt8) then (if (t353.length : Int) = 2 then (if 0 < (t353.length : Int) then (if ((((rd_T76 t353 0).f0).toList) == ([104, 111, 117, 114, 108, 121] : List UInt8) && (((rd_T76 t353 0).f1) == 93750)) = true then (if (t363.length : Int) = 2 then (if 0 < (t363.length : Int) then ((element_Of.f (⟨#[104, 111, 117, 114, 108, 121]⟩ : ByteArray) 7).bind fun bt373 => (if ((((rd_T48 t363 0).f0).toList) == bt373.1.toList && (((rd_T48 t363 0).f1) == bt373.2.1 && (((rd_T48 t363 0).f2) == bt373.2.2))) = true then ((element_Same.f k t363 t363).bind fun t376 => (some t376)) else (some false))) else (none)) else (some false)) else (some false)) else (none)) else (some false)) else (some false)))) else (some false))) else (some false)) else (some false)) = some r := H
  have A6 := Aside0.mk A60
  clear A60
  by_cases c7 : (wrap64 ((wrap64 (t343 + t346)) + t354)) = 0
  · rw [if_pos c7] at H
    have c7b0 : ((wrap64 ((wrap64 (t343 + t346)) + t354)) == 0) = true := beq_iff_eq.mpr c7
    have c7b1 : ((wrap64 ((wrap64 (t343 + t346)) + t354)) != 0) = false := bne_eq_false_iff_eq.mpr c7
    clear c7
    by_cases c8 : t345 = 46875
    · rw [if_pos c8] at H
      have c8b0 : (t345 == 46875) = true := beq_iff_eq.mpr c8
      have c8b1 : (t345 != 46875) = false := bne_eq_false_iff_eq.mpr c8
      clear c8
      replace H := Option.bind_eq_some_iff.mp H
      obtain ⟨t366, A90, H⟩ := H
      replace H : (if t366.toList = ([104, 111, 117, 114, 108, 121, 32, 49, 50, 46, 53, 48, 32, 120, 51, 55, 46, 53, 48] : List UInt8) then ((element_Of.f (⟨#[98]⟩ : ByteArray) 5).bind fun bt367 => ((element_Text.f bt367.1 bt367.2.1 bt367.2.2).bind fun t370 => (if t370.toList = ([98, 32, 48, 46, 48, 53] : List UInt8) then (if (t353.length : Int) = 2 then (if 0 < (t353.length : Int) then (if ((((rd_T76 t353 0).f0).toList) == ([104, 111, 117, 114, 108, 121] : List UInt8) && (((rd_T76 t353 0).f1) == 93750)) = true then (if (t363.length : Int) = 2 then (if 0 < (t363.length : Int) then ((element_Of.f (⟨#[104, 111, 117, 114, 108, 121]⟩ : ByteArray) 7).bind fun bt373 => (if ((((rd_T48 t363 0).f0).toList) == bt373.1.toList && (((rd_T48 t363 0).f1) == bt373.2.1 && (((rd_T48 t363 0).f2) == bt373.2.2))) = true then ((element_Same.f k t363 t363).bind fun t376 => (some t376)) else (some false))) else (none)) else (some false)) else (some false)) else (none)) else (some false)) else (some false)))) else (some false)) = some r := H
      have A9 := Aside0.mk A90
      clear A90
      by_cases c10 : t366.toList = ([104, 111, 117, 114, 108, 121, 32, 49, 50, 46, 53, 48, 32, 120, 51, 55, 46, 53, 48] : List UInt8)
      · rw [if_pos c10] at H
        have c10b0 : (t366.toList == ([104, 111, 117, 114, 108, 121, 32, 49, 50, 46, 53, 48, 32, 120, 51, 55, 46, 53, 48] : List UInt8)) = true := beq_iff_eq.mpr c10
        have c10b1 : (t366.toList != ([104, 111, 117, 114, 108, 121, 32, 49, 50, 46, 53, 48, 32, 120, 51, 55, 46, 53, 48] : List UInt8)) = false := bne_eq_false_iff_eq.mpr c10
        clear c10
        replace H := Option.bind_eq_some_iff.mp H
        obtain ⟨⟨t367, t368, t369⟩, A110, H⟩ := H
        replace H : ((element_Text.f t367 t368 t369).bind fun t370 => (if t370.toList = ([98, 32, 48, 46, 48, 53] : List UInt8) then (if (t353.length : Int) = 2 then (if 0 < (t353.length : Int) then (if ((((rd_T76 t353 0).f0).toList) == ([104, 111, 117, 114, 108, 121] : List UInt8) && (((rd_T76 t353 0).f1) == 93750)) = true then (if (t363.length : Int) = 2 then (if 0 < (t363.length : Int) then ((element_Of.f (⟨#[104, 111, 117, 114, 108, 121]⟩ : ByteArray) 7).bind fun bt373 => (if ((((rd_T48 t363 0).f0).toList) == bt373.1.toList && (((rd_T48 t363 0).f1) == bt373.2.1 && (((rd_T48 t363 0).f2) == bt373.2.2))) = true then ((element_Same.f k t363 t363).bind fun t376 => (some t376)) else (some false))) else (none)) else (some false)) else (some false)) else (none)) else (some false)) else (some false))) = some r := H
        have A11 := Aside0.mk A110
        clear A110
        replace H := Option.bind_eq_some_iff.mp H
        obtain ⟨t370, A120, H⟩ := H
        replace H : (if t370.toList = ([98, 32, 48, 46, 48, 53] : List UInt8) then (if (t353.length : Int) = 2 then (if 0 < (t353.length : Int) then (if ((((rd_T76 t353 0).f0).toList) == ([104, 111, 117, 114, 108, 121] : List UInt8) && (((rd_T76 t353 0).f1) == 93750)) = true then (if (t363.length : Int) = 2 then (if 0 < (t363.length : Int) then ((element_Of.f (⟨#[104, 111, 117, 114, 108, 121]⟩ : ByteArray) 7).bind fun bt373 => (if ((((rd_T48 t363 0).f0).toList) == bt373.1.toList && (((rd_T48 t363 0).f1) == bt373.2.1 && (((rd_T48 t363 0).f2) == bt373.2.2))) = true then ((element_Same.f k t363 t363).bind fun t376 => (some t376)) else (some false))) else (none)) else (some false)) else (some false)) else (none)) else (some false)) else (some false)) = some r := H
        have A12 := Aside0.mk A120
        clear A120
        by_cases c13 : t370.toList = ([98, 32, 48, 46, 48, 53] : List UInt8)
        · rw [if_pos c13] at H
          have c13b0 : (t370.toList == ([98, 32, 48, 46, 48, 53] : List UInt8)) = true := beq_iff_eq.mpr c13
          have c13b1 : (t370.toList != ([98, 32, 48, 46, 48, 53] : List UInt8)) = false := bne_eq_false_iff_eq.mpr c13
          clear c13
          by_cases c14 : (t353.length : Int) = 2
          · rw [if_pos c14] at H
            have c14b0 : ((t353.length : Int) == 2) = true := beq_iff_eq.mpr c14
            have c14b1 : ((t353.length : Int) != 2) = false := bne_eq_false_iff_eq.mpr c14
            clear c14
            by_cases c15 : 0 < (t353.length : Int)
            · rw [if_pos c15] at H
              have c15b0 : decide (0 < (t353.length : Int)) = true := decide_eq_true c15
              have c15b1 : decide (0 < t353.length) = true := decide_eq_true (by omega)
              clear c15
              by_cases c16 : ((((rd_T76 t353 0).f0).toList) == ([104, 111, 117, 114, 108, 121] : List UInt8) && (((rd_T76 t353 0).f1) == 93750)) = true
              · rw [if_pos c16] at H
                have c16b0 : ((((rd_T76 t353 0).f0).toList) == ([104, 111, 117, 114, 108, 121] : List UInt8) && (((rd_T76 t353 0).f1) == 93750)) = true := c16
                (try (have c16b1 : decide ((((rd_T76 t353 0).f0).toList) = ([104, 111, 117, 114, 108, 121] : List UInt8) && (((rd_T76 t353 0).f1) == 93750)) = true := by simpa using c16))
                (try (have c16b2 : ((((rd_T76 t353 0).f0).toList) == ([104, 111, 117, 114, 108, 121] : List UInt8) && (((rd_T76 t353 0).f1) == 93750)) = true := by simpa using c16))
                clear c16
                by_cases c17 : (t363.length : Int) = 2
                · rw [if_pos c17] at H
                  have c17b0 : ((t363.length : Int) == 2) = true := beq_iff_eq.mpr c17
                  have c17b1 : ((t363.length : Int) != 2) = false := bne_eq_false_iff_eq.mpr c17
                  clear c17
                  by_cases c18 : 0 < (t363.length : Int)
                  · rw [if_pos c18] at H
                    have c18b0 : decide (0 < (t363.length : Int)) = true := decide_eq_true c18
                    have c18b1 : decide (0 < t363.length) = true := decide_eq_true (by omega)
                    clear c18
                    replace H := Option.bind_eq_some_iff.mp H
                    obtain ⟨⟨t373, t374, t375⟩, A190, H⟩ := H
                    replace H : (if ((((rd_T48 t363 0).f0).toList) == t373.toList && (((rd_T48 t363 0).f1) == t374 && (((rd_T48 t363 0).f2) == t375))) = true then ((element_Same.f k t363 t363).bind fun t376 => (some t376)) else (some false)) = some r := H
                    have A19 := Aside0.mk A190
                    clear A190
                    by_cases c20 : ((((rd_T48 t363 0).f0).toList) == t373.toList && (((rd_T48 t363 0).f1) == t374 && (((rd_T48 t363 0).f2) == t375))) = true
                    · rw [if_pos c20] at H
                      have c20b0 : ((((rd_T48 t363 0).f0).toList) == t373.toList && (((rd_T48 t363 0).f1) == t374 && (((rd_T48 t363 0).f2) == t375))) = true := c20
                      (try (have c20b1 : decide ((((rd_T48 t363 0).f0).toList) = t373.toList && (((rd_T48 t363 0).f1) == t374 && (((rd_T48 t363 0).f2) == t375))) = true := by simpa using c20))
                      (try (have c20b2 : ((((rd_T48 t363 0).f0).toList) == t373.toList && (((rd_T48 t363 0).f1) == t374 && (((rd_T48 t363 0).f2) == t375))) = true := by simpa using c20))
                      clear c20
                      replace H := Option.bind_eq_some_iff.mp H
                      obtain ⟨t376, A210, H⟩ := H
                      replace H : (some t376) = some r := H
                      have A21 := Aside0.mk A210
                      clear A210
                      obtain rfl := Option.some.inj H
                      go_enter Tryd.func35, Tryd.ntmps35
                      try go_wp2_with (first | ((with_reducible refine gate_dst (N := 9) rfl ?_); (try (refine gate_guard (by rfl) ?_; dsimp only)); refine Kd.R_lit Kd.string _ 9 ?hg (N := 9) ?hd (xs := ([(⟨#[104, 111, 117, 114, 108, 121]⟩ : ByteArray), (⟨#[49, 50, 46, 53, 48]⟩ : ByteArray), (⟨#[120, 51, 55, 46, 53, 48]⟩ : ByteArray)] : List ByteArray)) (inner := [.string (⟨#[104, 111, 117, 114, 108, 121]⟩ : ByteArray), .string (⟨#[49, 50, 46, 53, 48]⟩ : ByteArray), .string (⟨#[120, 51, 55, 46, 53, 48]⟩ : ByteArray)]) (ok := fun _ => True) (okp := fun _ => True) ?hr ?hp (fun _ hk => hk) trivial (Below.refl _ _) (Nat.le_refl _) (by simp) ?_; (case hd => rfl); (case hg => rfl); (case hr => first | (go_simp; done) | (go_simp; rfl)); (case hp => exact (Reps.one (show Kd.M Kd.string _ _ _ (⟨#[104, 111, 117, 114, 108, 121]⟩ : ByteArray) [.string (⟨#[104, 111, 117, 114, 108, 121]⟩ : ByteArray)] from rfl) (Reps.one (show Kd.M Kd.string _ _ _ (⟨#[49, 50, 46, 53, 48]⟩ : ByteArray) [.string (⟨#[49, 50, 46, 53, 48]⟩ : ByteArray)] from rfl) (Reps.one (show Kd.M Kd.string _ _ _ (⟨#[120, 51, 55, 46, 53, 48]⟩ : ByteArray) [.string (⟨#[120, 51, 55, 46, 53, 48]⟩ : ByteArray)] from rfl) (Reps.none _ _))))); intro v338 w22 ho23 hb hg_ hnew_; clear hg_ hnew_; (first | rw [← Ny337.out] at ho23 | (simp only [Int.reduceToNat] at ho23; rw [← Ny337.out] at ho23)); have n0_ := Aside0.mk (Kd.R_lower ho23 (below_size (by repeat (first | (with_reducible first | exact HB.out | apply below_alloc | apply pw_below_drewN | apply below_drew1) | exact HB.out)))); have n1_ := Aside0.mk (below_step (by repeat (first | (with_reducible first | exact HB.out | apply below_alloc | apply pw_below_drewN | apply below_drew1) | exact HB.out)) hb); clear HB; have HO339 := n0_; have HB := n1_; clear n0_ n1_; clear hb ho23; obtain ⟨Ao24, co24, eo24⟩ := Kd.R_slice HO339.out; subst eo24) | ((with_reducible refine gate_callee (f := 45) rfl ?_); refine goesL_ (some 10) rfl rfl Tryd.func45 (by kernel_rfl) rfl #[.slice Ao24 y337.length co24] rfl (by (try simp only [List.map_toArray, List.map_cons, List.map_nil]); first | done | rfl | (simp only [List.length_drop, List.length_take]; rfl)) ?_; (with_reducible refine (element_Parse.calls k _ _ y337 t340 t341 t342 t343 _ ?side1 ?side2 A1.out).mono ?_); (case side1 => repeat (first | exact (Kd.R_reads' HO339.out).2.2 | (with_reducible refine Kd.C_alloc ?_ _) | (with_reducible refine Kd.C_drewN ?_ _) | (with_reducible refine Kd.C_drew ?_))); (case side2 => exact (Kd.R_reads' HO339.out).2.1); rintro e w25 ⟨rfl, hb⟩; refine ⟨_, rfl, ?_⟩; have n0_ := Aside0.mk (Kd.R_below (by (with_reducible repeat (first | apply Kd.R_alloc | apply Kd.R_drewN | apply Kd.R_drew)); exact HO339.out) hb); have n1_ := Aside0.mk (below_step (by repeat (first | (with_reducible first | exact HB.out | apply below_alloc | apply pw_below_drewN | apply below_drew1) | exact HB.out)) hb); clear HO339; clear HB; have HO339 := n0_; have HB := n1_; clear n0_ n1_; (try clear hb); (try clear hb2); (try clear hk); (try clear hi)) | ((with_reducible refine gate_dst (N := 1) rfl ?_); (try (refine gate_guard (by rfl) ?_; dsimp only)); refine box_event ?hg (N := 1) ?hd (cs := #[.string (⟨#[]⟩ : ByteArray), .int .i64 0, .int .i64 0]) (t := 48) ?hr ?_; (case hd => rfl); (case hg => rfl); (case hr => first | (go_simp; done) | (go_simp; rfl)); intro gb344 hg w26 hbox hb; have n0_ := Aside0.mk (Kd.R_below (by (with_reducible repeat (first | apply Kd.R_alloc | apply Kd.R_drewN | apply Kd.R_drew)); exact HO339.out) hb); have n1_ := Aside0.mk (below_step (by repeat (first | (with_reducible first | exact HB.out | apply below_alloc | apply pw_below_drewN | apply below_drew1) | exact HB.out)) hb); have n2_ := Aside0.mk (hbox); have n3_ := Aside0.mk ((by rw [hg]; exact (below_size (by repeat (first | (with_reducible first | exact HB.out | apply below_alloc | apply pw_below_drewN | apply below_drew1) | exact HB.out))) : w.heap.size ≤ gb344)); have n4_ := Aside0.mk ((by rw [hg]; exact (below_size (by repeat (first | (with_reducible first | exact HB.out | apply below_alloc | apply pw_below_drewN | apply below_drew1) | exact HB.out))) : w.heap.size ≤ gb344)); clear HO339; clear HB; have HO339 := n0_; have HB := n1_; have BK344 := n2_; have GW344 := n3_; have GE344 := n4_; clear n0_ n1_ n2_ n3_ n4_; clear hb hbox hg; have hcz27_0 : w26.cell? ⟨gb344, 0, none⟩ = some (.string (⟨#[]⟩ : ByteArray)) := (blk_cell BK344.out 0).trans rfl; have hcz27_1 : w26.cell? ⟨gb344, 1, none⟩ = some (.int .i64 0) := (blk_cell BK344.out 1).trans rfl; have hcz27_2 : w26.cell? ⟨gb344, 2, none⟩ = some (.int .i64 0) := (blk_cell BK344.out 2).trans rfl; have hfz27_0 := blk_frozen BK344.out 0; have hfz27_1 := blk_frozen BK344.out 1; have hfz27_2 := blk_frozen BK344.out 2) | ((with_reducible refine gate_callee (f := 36) rfl ?_); refine goesL_ (some 15) rfl rfl Tryd.func36 (by kernel_rfl) rfl #[.agg #[.string t340, .int .i64 t341, .int .i64 t342]] rfl (by (try simp only [List.map_toArray, List.map_cons, List.map_nil]); first | done | rfl | (simp only [List.length_drop, List.length_take]; rfl)) ?_; (with_reducible refine (element_Value.calls k t340 t341 t342 t345 t346 _ A2.out).mono ?_); rintro e w28 ⟨rfl, hb⟩; refine ⟨_, rfl, ?_⟩; have n0_ := Aside0.mk (Kd.R_below (by (with_reducible repeat (first | apply Kd.R_alloc | apply Kd.R_drewN | apply Kd.R_drew)); exact (Kd.R_mono (Kd.R_far (p := ⟨gb344, 2, none⟩) (Kd.R_far (p := ⟨gb344, 1, none⟩) (Kd.R_far (p := ⟨gb344, 0, none⟩) (Kd.R_types HO339.out BK344.out (by decide)) (fun _ hk => hk.2) (.string t340)) (fun _ hk => hk.2) (.int .i64 t341)) (fun _ hk => hk.2) (.int .i64 t342)) (fun _ h_ => h_.1))) hb); have n1_ := Aside0.mk (blk_below (g := gb344) (o := .cells #[.string t340, .int .i64 t341, .int .i64 t342] 48 (0, 0)) (by (with_reducible repeat (first | refine blk_drewN ?_ _ | refine blk_drew ?_ | refine blk_alloc ?_ _)); refine blk_put (cs := #[.string t340, .int .i64 t341, .int .i64 0]) ?_ 2 _ rfl; (with_reducible repeat (first | refine blk_drewN ?_ _ | refine blk_drew ?_ | refine blk_alloc ?_ _)); refine blk_put (cs := #[.string t340, .int .i64 0, .int .i64 0]) ?_ 1 _ rfl; (with_reducible repeat (first | refine blk_drewN ?_ _ | refine blk_drew ?_ | refine blk_alloc ?_ _)); refine blk_put (cs := #[.string (⟨#[]⟩ : ByteArray), .int .i64 0, .int .i64 0]) ?_ 0 _ rfl; (with_reducible repeat (first | refine blk_drewN ?_ _ | refine blk_drew ?_ | refine blk_alloc ?_ _)); exact BK344.out) hb); have n2_ := Aside0.mk (below_step (by repeat (first | (with_reducible first | exact HB.out | apply below_alloc | apply pw_below_drewN | apply below_drew1 | refine below_set ?_ GE344.out) | exact HB.out)) hb); clear HO339; clear BK344; clear HB; have HO339 := n0_; have BK344 := n1_; have HB := n2_; clear n0_ n1_ n2_; (try clear hb); (try clear hb2); (try clear hk); (try clear hi)))
                      have n0_ := Aside0.mk (Kd.R_drew HO339.out)
                      have n1_ := Aside0.mk (blk_drew BK344.out)
                      have n2_ := Aside0.mk (below_drew1 HB.out)
                      clear HO339
                      clear BK344
                      clear HB
                      have HO339 := n0_
                      have BK344 := n1_
                      have HB := n2_
                      clear n0_ n1_ n2_
                      refine start_ (n := 10) (S := fun w' => w'.cell? ⟨gb344, 0, none⟩ = some (.string t340) ∧ w'.cell? ⟨gb344, 1, none⟩ = some (.int .i64 t341) ∧ w'.cell? ⟨gb344, 2, none⟩ = some (.int .i64 t342)) (ds := []) #[false, false, false, false, false, false, false, false, false, false] (by kernel_rfl) rfl rfl ⟨(blk_cell BK344.out 0).trans rfl, (blk_cell BK344.out 1).trans rfl, (blk_cell BK344.out 2).trans rfl⟩ (fun hHeld => ?_); refine with_tabW stipendlaw11_worthsP.tab3 stipendlaw11_worthsP.bits3 (fun HT_ HW_ => ?_)
                      generalize w28.drew = w29 at HO339 BK344 HB hHeld ⊢
                      refine take_ (i := 0) (N := some 19) (v := ?_) (a' := ?_) #[true, false, false, false, false, false, false, false, false, false] rfl rfl (take_ofW HT_.out HW_.out (by kernel_rfl)) (fun _ _ _ h => h) (Or.inl ⟨by rfl, ?_⟩) hHeld ?_ ?_
                      rotate_left
                      · rintro w' ⟨s0, s1, s2⟩
                        go_simp
                        with_reducible rfl
                      rotate_left
                      · simp only [Act.put, List.setIfInBounds_toArray, List.set_cons_zero, List.set_cons_succ, i64_w, i32_w]
                        rfl
                      refine take_ (i := 2) (N := some 21) (v := ?_) (a' := ?_) #[true, false, true, false, false, false, false, false, false, false] rfl rfl (take_ofW HT_.out HW_.out (by kernel_rfl)) (fun _ _ _ h => h) (Or.inl ⟨by rfl, ?_⟩) hHeld ?_ ?_
                      rotate_left
                      · rintro w' ⟨s0, s1, s2⟩
                        go_simp
                        with_reducible rfl
                      rotate_left
                      · simp only [Act.put, List.setIfInBounds_toArray, List.set_cons_zero, List.set_cons_succ, i64_w, i32_w]
                        rfl
                      refine one_ (i := 1) (N := some 20) #[true, true, true, false, false, false, false, false, false, false] rfl rfl (one_of HT_.out (by kernel_rfl)) (by decide) (fun K hK => ?_)
                      refine goes_ Tryd.func50 (by kernel_rfl) rfl #[.string (⟨#[98]⟩ : ByteArray), .int .i64 5] (by rfl) rfl rfl (by (try simp only [List.map_toArray, List.map_cons, List.map_nil]); first | done | rfl | (simp only [List.length_drop, List.length_take]; rfl)) ?_
                      with_reducible refine (element_Of.calls (⟨#[98]⟩ : ByteArray) 5 t347 t348 t349 _ A3.out).mono ?_
                      rintro e w30 ⟨rfl, hb⟩
                      refine ⟨_, rfl, ?_⟩
                      have n0_ := Aside0.mk (Kd.R_below (by (with_reducible repeat (first | apply Kd.R_alloc | apply Kd.R_drewN | apply Kd.R_drew)); exact HO339.out) hb)
                      have n1_ := Aside0.mk (blk_below (g := gb344) (o := .cells #[.string t340, .int .i64 t341, .int .i64 t342] 48 (0, 0)) (by (with_reducible repeat (first | refine blk_drewN ?_ _ | refine blk_drew ?_ | refine blk_alloc ?_ _)); exact BK344.out) hb)
                      have n2_ := Aside0.mk (below_step (by repeat (first | (with_reducible first | exact HB.out | apply below_alloc | apply pw_below_drewN | apply below_drew1 | refine below_set ?_ GE344.out) | exact HB.out)) hb)
                      clear HO339
                      clear BK344
                      clear HB
                      have HO339 := n0_
                      have BK344 := n1_
                      have HB := n2_
                      clear n0_ n1_ n2_
                      (try clear hb)
                      (try clear hb2)
                      (try clear hk)
                      (try clear hi)
                      refine hK.out _ _ ⟨(blk_cell BK344.out 0).trans rfl, (blk_cell BK344.out 1).trans rfl, (blk_cell BK344.out 2).trans rfl⟩ (fun hHeld => ?_)
                      clear hK K
                      refine norm_ (a' := ?_) ?_ ?_
                      rotate_left
                      · show Act.put _ (some 20) _ = _
                        simp only [Act.put, List.setIfInBounds_toArray, List.set_cons_zero, List.set_cons_succ, i64_w, i32_w]
                        rfl
                      refine one_ (i := 3) (N := some 22) #[true, true, true, true, false, false, false, false, false, false] rfl rfl (one_of HT_.out (by kernel_rfl)) (by decide) (fun K hK => ?_)
                      refine Kd.R_lit_step k48 _ 48 ?hg (N := 22) ?hd (xs := ([(⟨t340, t341, t342⟩ : S48), (⟨t347, t348, t349⟩ : S48), (⟨t340, t341, t342⟩ : S48)] : List (S48))) (inner := [.string t340, .int .i64 t341, .int .i64 t342, .string t347, .int .i64 t348, .int .i64 t349, .string t340, .int .i64 t341, .int .i64 t342]) (ok := fun _ => True) (okp := fun _ => True) ?hr ?hp (fun _ hk => hk) trivial (Below.refl _ _) (Nat.le_refl _) (by simp) ?_; (case hd => rfl); (case hg => rfl); (case hr => first | (go_simp; done) | (go_simp; rfl)); (case hp => exact (Reps.c3 (show Kd.M k48 _ _ _ (⟨t340, t341, t342⟩ : S48) [.string t340, .int .i64 t341, .int .i64 t342] from (k48_mkM _ _ _ (⟨t340, t341, t342⟩ : S48) )) (Reps.c3 (show Kd.M k48 _ _ _ (⟨t347, t348, t349⟩ : S48) [.string t347, .int .i64 t348, .int .i64 t349] from (k48_mkM _ _ _ (⟨t347, t348, t349⟩ : S48) )) (Reps.c3 (show Kd.M k48 _ _ _ (⟨t340, t341, t342⟩ : S48) [.string t340, .int .i64 t341, .int .i64 t342] from (k48_mkM _ _ _ (⟨t340, t341, t342⟩ : S48) )) (Reps.none _ _)))))
                      intro v351 w31 ho32 hb hg_ hnew_
                      clear hg_ hnew_
                      (first | rw [← Ny350.out] at ho32 | (simp only [Int.reduceToNat] at ho32; rw [← Ny350.out] at ho32))
                      have n0_ := Aside0.mk (Kd.R_below (by (with_reducible repeat (first | apply Kd.R_alloc | apply Kd.R_drewN | apply Kd.R_drew)); exact HO339.out) hb)
                      have n1_ := Aside0.mk (Kd.R_lower (Kd.R_newB ho32 (g := gb344) (o := .cells #[.string t340, .int .i64 t341, .int .i64 t342] 48 (0, 0)) (by (with_reducible repeat (first | refine blk_drewN ?_ _ | refine blk_drew ?_ | refine blk_alloc ?_ _)); exact BK344.out)) (below_size (by repeat (first | (with_reducible first | exact HB.out | apply below_alloc | apply pw_below_drewN | apply below_drew1 | refine below_set ?_ GE344.out) | exact HB.out))))
                      have n2_ := Aside0.mk (blk_below (g := gb344) (o := .cells #[.string t340, .int .i64 t341, .int .i64 t342] 48 (0, 0)) (by (with_reducible repeat (first | refine blk_drewN ?_ _ | refine blk_drew ?_ | refine blk_alloc ?_ _)); exact BK344.out) hb)
                      have n3_ := Aside0.mk (below_step (by repeat (first | (with_reducible first | exact HB.out | apply below_alloc | apply pw_below_drewN | apply below_drew1 | refine below_set ?_ GE344.out) | exact HB.out)) hb)
                      clear HO339
                      clear BK344
                      clear HB
                      have HO339 := n0_
                      have HO352 := n1_
                      have BK344 := n2_
                      have HB := n3_
                      clear n0_ n1_ n2_ n3_
                      clear hb ho32
                      obtain ⟨Ao33, co33, eo33⟩ := Kd.R_slice HO352.out
                      (first | subst eo33 | (injection eo33 with f1_ f2_ f3_; have f4_ := f1_.symm; have f5_ := f3_.symm; clear f1_ f2_ f3_; subst f4_; subst f5_))
                      refine hK.out _ _ ⟨(blk_cell BK344.out 0).trans rfl, (blk_cell BK344.out 1).trans rfl, (blk_cell BK344.out 2).trans rfl⟩ (fun hHeld => ?_)
                      clear hK K
                      refine norm_ (a' := ?_) ?_ ?_
                      rotate_left
                      · show Act.put _ (some 22) _ = _
                        simp only [Act.put, List.setIfInBounds_toArray, List.set_cons_zero, List.set_cons_succ, i64_w, i32_w]
                        rfl
                      refine one_ (i := 4) (N := some 23) #[true, true, true, true, true, false, false, false, false, false] rfl rfl (one_of HT_.out (by kernel_rfl)) (by decide) (fun K hK => ?_)
                      refine goes_ Tryd.func48 (by kernel_rfl) rfl #[.slice Ao33 y350.length co33] (by rfl) rfl rfl (by (try simp only [List.map_toArray, List.map_cons, List.map_nil]); first | done | rfl | (simp only [List.length_drop, List.length_take]; rfl)) ?_
                      with_reducible refine (element_Sums.calls _ _ y350 t353 t354 _ ?side1 ?side2 A4.out).mono ?_
                      (case side1 => repeat (first | exact (Kd.R_reads' HO352.out).2.2 | (with_reducible refine Kd.C_alloc ?_ _) | (with_reducible refine Kd.C_drewN ?_ _) | (with_reducible refine Kd.C_drew ?_)))
                      (case side2 => exact (Kd.R_reads' HO352.out).2.1)
                      rintro e w34 ⟨v355, rfl, ho0, hb⟩
                      refine ⟨_, rfl, ?_⟩
                      have n0_ := Aside0.mk (Kd.R_below (by (with_reducible repeat (first | apply Kd.R_alloc | apply Kd.R_drewN | apply Kd.R_drew)); exact HO339.out) hb)
                      have n1_ := Aside0.mk (Kd.R_below (by (with_reducible repeat (first | apply Kd.R_alloc | apply Kd.R_drewN | apply Kd.R_drew)); exact HO352.out) hb)
                      have n2_ := Aside0.mk (Kd.R_lower ho0 (below_size (by repeat (first | (with_reducible first | exact HB.out | apply below_alloc | apply pw_below_drewN | apply below_drew1 | refine below_set ?_ GE344.out) | exact HB.out))))
                      have n3_ := Aside0.mk (blk_below (g := gb344) (o := .cells #[.string t340, .int .i64 t341, .int .i64 t342] 48 (0, 0)) (by (with_reducible repeat (first | refine blk_drewN ?_ _ | refine blk_drew ?_ | refine blk_alloc ?_ _)); exact BK344.out) hb)
                      have n4_ := Aside0.mk (below_step (by repeat (first | (with_reducible first | exact HB.out | apply below_alloc | apply pw_below_drewN | apply below_drew1 | refine below_set ?_ GE344.out) | exact HB.out)) hb)
                      clear HO339
                      clear HO352
                      clear BK344
                      clear HB
                      have HO339 := n0_
                      have HO352 := n1_
                      have HO356 := n2_
                      have BK344 := n3_
                      have HB := n4_
                      clear n0_ n1_ n2_ n3_ n4_
                      (try clear hb)
                      (try clear hb2)
                      (try clear hk)
                      (try clear hi)
                      (try clear ho0)
                      refine hK.out _ _ ⟨(blk_cell BK344.out 0).trans rfl, (blk_cell BK344.out 1).trans rfl, (blk_cell BK344.out 2).trans rfl⟩ (fun hHeld => ?_)
                      clear hK K
                      refine norm_ (a' := ?_) ?_ ?_
                      rotate_left
                      · show Act.put _ (some 23) _ = _
                        simp only [Act.put, List.setIfInBounds_toArray, List.set_cons_zero, List.set_cons_succ, i64_w, i32_w]
                        rfl
                      refine pure_ (i := 5) (N := some 18) (v := ?_) (a' := ?_) #[true, true, true, true, true, true, false, false, false, false] rfl rfl (any_of HT_.out (by kernel_rfl)) (fun _ _ _ h => h) (Or.inl ⟨by rfl, ?_⟩) ?_ ?_
                      rotate_left
                      · intro w'
                        go_simp
                        with_reducible rfl
                      rotate_left
                      · simp only [Act.put, List.setIfInBounds_toArray, List.set_cons_zero, List.set_cons_succ, i64_w, i32_w]
                        rfl
                      refine pure_ (i := 6) (N := some 24) (v := ?_) (a' := ?_) #[true, true, true, true, true, true, true, false, false, false] rfl rfl (any_of HT_.out (by kernel_rfl)) (fun _ _ _ h => h) (Or.inl ⟨by rfl, ?_⟩) ?_ ?_
                      rotate_left
                      · intro w'
                        go_simp
                        with_reducible rfl
                      rotate_left
                      · simp only [Act.put, List.setIfInBounds_toArray, List.set_cons_zero, List.set_cons_succ, i64_w, i32_w]
                        rfl
                      refine pure_ (i := 7) (N := some 25) (v := ?_) (a' := ?_) #[true, true, true, true, true, true, true, true, false, false] rfl rfl (any_of HT_.out (by kernel_rfl)) (fun _ _ _ h => h) (Or.inl ⟨by rfl, ?_⟩) ?_ ?_
                      rotate_left
                      · intro w'
                        go_simp
                        with_reducible rfl
                      rotate_left
                      · simp only [Act.put, List.setIfInBounds_toArray, List.set_cons_zero, List.set_cons_succ, i64_w, i32_w]
                        rfl
                      refine pure_ (i := 8) (N := some 5) (v := ?_) (a' := ?_) #[true, true, true, true, true, true, true, true, true, false] rfl rfl (any_of HT_.out (by kernel_rfl)) (fun _ _ _ h => h) (Or.inl ⟨by rfl, ?_⟩) ?_ ?_
                      rotate_left
                      · intro w'
                        go_simp
                        with_reducible rfl
                      rotate_left
                      · simp only [Act.put, List.setIfInBounds_toArray, List.set_cons_zero, List.set_cons_succ, i64_w, i32_w]
                        rfl
                      refine pure_ (i := 9) (N := some 6) (v := ?_) (a' := ?_) #[true, true, true, true, true, true, true, true, true, true] rfl rfl (any_of HT_.out (by kernel_rfl)) (fun _ _ _ h => h) (Or.inl ⟨by rfl, ?_⟩) ?_ ?_
                      rotate_left
                      · intro w'
                        go_simp
                        with_reducible rfl
                      rotate_left
                      · simp only [Act.put, List.setIfInBounds_toArray, List.set_cons_zero, List.set_cons_succ, i64_w, i32_w]
                        rfl
                      refine done_ (done_of HT_.out (by kernel_rfl)) ?_
                      try go_wp2
                      have n0_ := Aside0.mk (Kd.R_drew HO339.out)
                      have n1_ := Aside0.mk (Kd.R_drew HO352.out)
                      have n2_ := Aside0.mk (Kd.R_drew HO356.out)
                      have n3_ := Aside0.mk (blk_drew BK344.out)
                      have n4_ := Aside0.mk (below_drew1 HB.out)
                      clear HO339
                      clear HO352
                      clear HO356
                      clear BK344
                      clear HB
                      have HO339 := n0_
                      have HO352 := n1_
                      have HO356 := n2_
                      have BK344 := n3_
                      have HB := n4_
                      clear n0_ n1_ n2_ n3_ n4_
                      refine start_ (n := 6) (S := fun w' => w'.cell? ⟨gb344, 0, none⟩ = some (.string t340) ∧ w'.cell? ⟨gb344, 1, none⟩ = some (.int .i64 t341) ∧ w'.cell? ⟨gb344, 2, none⟩ = some (.int .i64 t342)) (ds := []) #[false, false, false, false, false, false] (by kernel_rfl) rfl rfl ⟨(blk_cell BK344.out 0).trans rfl, (blk_cell BK344.out 1).trans rfl, (blk_cell BK344.out 2).trans rfl⟩ (fun hHeld => ?_)
                      generalize w34.drew = w35 at HO339 HO352 HO356 BK344 HB hHeld ⊢
                      refine take_ (i := 0) (N := some 26) (v := ?_) (a' := ?_) #[true, false, false, false, false, false] rfl rfl (by kernel_rfl) (fun _ _ _ h => h) (Or.inl ⟨by rfl, ?_⟩) hHeld ?_ ?_
                      rotate_left
                      · rintro w' ⟨s0, s1, s2⟩
                        go_simp
                        with_reducible rfl
                      rotate_left
                      · simp only [Act.put, List.setIfInBounds_toArray, List.set_cons_zero, List.set_cons_succ, i64_w, i32_w]
                        rfl
                      refine take_ (i := 2) (N := some 28) (v := ?_) (a' := ?_) #[true, false, true, false, false, false] rfl rfl (by kernel_rfl) (fun _ _ _ h => h) (Or.inl ⟨by rfl, ?_⟩) hHeld ?_ ?_
                      rotate_left
                      · rintro w' ⟨s0, s1, s2⟩
                        go_simp
                        with_reducible rfl
                      rotate_left
                      · simp only [Act.put, List.setIfInBounds_toArray, List.set_cons_zero, List.set_cons_succ, i64_w, i32_w]
                        rfl
                      refine one_ (i := 1) (N := some 27) #[true, true, true, false, false, false] rfl rfl (by kernel_rfl) (by decide) (fun K hK => ?_)
                      refine goes_ Tryd.func50 (by kernel_rfl) rfl #[.string (⟨#[98]⟩ : ByteArray), .int .i64 5] (by rfl) rfl rfl (by (try simp only [List.map_toArray, List.map_cons, List.map_nil]); first | done | rfl | (simp only [List.length_drop, List.length_take]; rfl)) ?_
                      with_reducible refine (element_Of.calls (⟨#[98]⟩ : ByteArray) 5 t357 t358 t359 _ A5.out).mono ?_
                      rintro e w36 ⟨rfl, hb⟩
                      refine ⟨_, rfl, ?_⟩
                      have n0_ := Aside0.mk (Kd.R_below (by (with_reducible repeat (first | apply Kd.R_alloc | apply Kd.R_drewN | apply Kd.R_drew)); exact HO339.out) hb)
                      have n1_ := Aside0.mk (Kd.R_below (by (with_reducible repeat (first | apply Kd.R_alloc | apply Kd.R_drewN | apply Kd.R_drew)); exact HO352.out) hb)
                      have n2_ := Aside0.mk (Kd.R_below (by (with_reducible repeat (first | apply Kd.R_alloc | apply Kd.R_drewN | apply Kd.R_drew)); exact HO356.out) hb)
                      have n3_ := Aside0.mk (blk_below (g := gb344) (o := .cells #[.string t340, .int .i64 t341, .int .i64 t342] 48 (0, 0)) (by (with_reducible repeat (first | refine blk_drewN ?_ _ | refine blk_drew ?_ | refine blk_alloc ?_ _)); exact BK344.out) hb)
                      have n4_ := Aside0.mk (below_step (by repeat (first | (with_reducible first | exact HB.out | apply below_alloc | apply pw_below_drewN | apply below_drew1 | refine below_set ?_ GE344.out) | exact HB.out)) hb)
                      clear HO339
                      clear HO352
                      clear HO356
                      clear BK344
                      clear HB
                      have HO339 := n0_
                      have HO352 := n1_
                      have HO356 := n2_
                      have BK344 := n3_
                      have HB := n4_
                      clear n0_ n1_ n2_ n3_ n4_
                      (try clear hb)
                      (try clear hb2)
                      (try clear hk)
                      (try clear hi)
                      refine hK.out _ _ ⟨(blk_cell BK344.out 0).trans rfl, (blk_cell BK344.out 1).trans rfl, (blk_cell BK344.out 2).trans rfl⟩ (fun hHeld => ?_)
                      clear hK K
                      refine norm_ (a' := ?_) ?_ ?_
                      rotate_left
                      · show Act.put _ (some 27) _ = _
                        simp only [Act.put, List.setIfInBounds_toArray, List.set_cons_zero, List.set_cons_succ, i64_w, i32_w]
                        rfl
                      refine one_ (i := 3) (N := some 29) #[true, true, true, true, false, false] rfl rfl (by kernel_rfl) (by decide) (fun K hK => ?_)
                      refine Kd.R_lit_step k48 _ 48 ?hg (N := 29) ?hd (xs := ([(⟨t340, t341, t342⟩ : S48), (⟨t357, t358, t359⟩ : S48), (⟨t340, t341, t342⟩ : S48)] : List (S48))) (inner := [.string t340, .int .i64 t341, .int .i64 t342, .string t357, .int .i64 t358, .int .i64 t359, .string t340, .int .i64 t341, .int .i64 t342]) (ok := fun _ => True) (okp := fun _ => True) ?hr ?hp (fun _ hk => hk) trivial (Below.refl _ _) (Nat.le_refl _) (by simp) ?_; (case hd => rfl); (case hg => rfl); (case hr => first | (go_simp; done) | (go_simp; rfl)); (case hp => exact (Reps.c3 (show Kd.M k48 _ _ _ (⟨t340, t341, t342⟩ : S48) [.string t340, .int .i64 t341, .int .i64 t342] from (k48_mkM _ _ _ (⟨t340, t341, t342⟩ : S48) )) (Reps.c3 (show Kd.M k48 _ _ _ (⟨t357, t358, t359⟩ : S48) [.string t357, .int .i64 t358, .int .i64 t359] from (k48_mkM _ _ _ (⟨t357, t358, t359⟩ : S48) )) (Reps.c3 (show Kd.M k48 _ _ _ (⟨t340, t341, t342⟩ : S48) [.string t340, .int .i64 t341, .int .i64 t342] from (k48_mkM _ _ _ (⟨t340, t341, t342⟩ : S48) )) (Reps.none _ _)))))
                      intro v361 w37 ho38 hb hg_ hnew_
                      clear hg_ hnew_
                      (first | rw [← Ny360.out] at ho38 | (simp only [Int.reduceToNat] at ho38; rw [← Ny360.out] at ho38))
                      have n0_ := Aside0.mk (Kd.R_below (by (with_reducible repeat (first | apply Kd.R_alloc | apply Kd.R_drewN | apply Kd.R_drew)); exact HO339.out) hb)
                      have n1_ := Aside0.mk (Kd.R_elder' (by (with_reducible repeat (first | apply Kd.R_alloc | apply Kd.R_drewN | apply Kd.R_drew)); exact HO352.out) (Kd.R_base ho38) hb)
                      have n2_ := Aside0.mk (Kd.R_below (by (with_reducible repeat (first | apply Kd.R_alloc | apply Kd.R_drewN | apply Kd.R_drew)); exact HO356.out) hb)
                      have n3_ := Aside0.mk (Kd.R_lower (Kd.R_newB (Kd.R_new' ho38 (Kd.R_lt (by (with_reducible repeat (first | apply Kd.R_alloc | apply Kd.R_drewN | apply Kd.R_drew)); exact HO352.out))) (g := gb344) (o := .cells #[.string t340, .int .i64 t341, .int .i64 t342] 48 (0, 0)) (by (with_reducible repeat (first | refine blk_drewN ?_ _ | refine blk_drew ?_ | refine blk_alloc ?_ _)); exact BK344.out)) (below_size (by repeat (first | (with_reducible first | exact HB.out | apply below_alloc | apply pw_below_drewN | apply below_drew1 | refine below_set ?_ GE344.out) | exact HB.out))))
                      have n4_ := Aside0.mk (blk_below (g := gb344) (o := .cells #[.string t340, .int .i64 t341, .int .i64 t342] 48 (0, 0)) (by (with_reducible repeat (first | refine blk_drewN ?_ _ | refine blk_drew ?_ | refine blk_alloc ?_ _)); exact BK344.out) hb)
                      have n5_ := Aside0.mk (below_step (by repeat (first | (with_reducible first | exact HB.out | apply below_alloc | apply pw_below_drewN | apply below_drew1 | refine below_set ?_ GE344.out) | exact HB.out)) hb)
                      clear HO339
                      clear HO352
                      clear HO356
                      clear BK344
                      clear HB
                      have HO339 := n0_
                      have HO352 := n1_
                      have HO356 := n2_
                      have HO362 := n3_
                      have BK344 := n4_
                      have HB := n5_
                      clear n0_ n1_ n2_ n3_ n4_ n5_
                      clear hb ho38
                      obtain ⟨Ao39, co39, eo39⟩ := Kd.R_slice HO362.out
                      (first | subst eo39 | (injection eo39 with f1_ f2_ f3_; have f4_ := f1_.symm; have f5_ := f3_.symm; clear f1_ f2_ f3_; subst f4_; subst f5_))
                      refine hK.out _ _ ⟨(blk_cell BK344.out 0).trans rfl, (blk_cell BK344.out 1).trans rfl, (blk_cell BK344.out 2).trans rfl⟩ (fun hHeld => ?_)
                      clear hK K
                      refine norm_ (a' := ?_) ?_ ?_
                      rotate_left
                      · show Act.put _ (some 29) _ = _
                        simp only [Act.put, List.setIfInBounds_toArray, List.set_cons_zero, List.set_cons_succ, i64_w, i32_w]
                        rfl
                      refine one_ (i := 4) (N := some 30) #[true, true, true, true, true, false] rfl rfl (by kernel_rfl) (by decide) (fun K hK => ?_)
                      refine goes_ Tryd.func49 (by kernel_rfl) rfl #[.string (⟨#[104, 111, 117, 114, 108, 121]⟩ : ByteArray), .int .i64 7, .slice Ao39 y360.length co39] (by rfl) rfl rfl (by (try simp only [List.map_toArray, List.map_cons, List.map_nil]); first | done | rfl | (simp only [List.length_drop, List.length_take]; rfl)) ?_
                      with_reducible refine (element_Change.calls k (⟨#[104, 111, 117, 114, 108, 121]⟩ : ByteArray) 7 _ _ y360 t363 _ ?side1 ?side2 A6.out).mono ?_
                      (case side1 => repeat (first | exact (Kd.R_reads' HO362.out).2.2 | (with_reducible refine Kd.C_alloc ?_ _) | (with_reducible refine Kd.C_drewN ?_ _) | (with_reducible refine Kd.C_drew ?_)))
                      (case side2 => exact (Kd.R_reads' HO362.out).2.1)
                      rintro e w40 ⟨v364, rfl, ho0, hb⟩
                      refine ⟨_, rfl, ?_⟩
                      have n0_ := Aside0.mk (Kd.R_below (by (with_reducible repeat (first | apply Kd.R_alloc | apply Kd.R_drewN | apply Kd.R_drew)); exact HO339.out) hb)
                      have n1_ := Aside0.mk (Kd.R_elder' (by (with_reducible repeat (first | apply Kd.R_alloc | apply Kd.R_drewN | apply Kd.R_drew)); exact HO352.out) (Kd.R_base ho0) hb)
                      have n2_ := Aside0.mk (Kd.R_below (by (with_reducible repeat (first | apply Kd.R_alloc | apply Kd.R_drewN | apply Kd.R_drew)); exact HO356.out) hb)
                      have n3_ := Aside0.mk (Kd.R_elder' (by (with_reducible repeat (first | apply Kd.R_alloc | apply Kd.R_drewN | apply Kd.R_drew)); exact HO362.out) (Kd.R_base ho0) hb)
                      have n4_ := Aside0.mk (Kd.R_lower (Kd.R_newB (Kd.R_new' (Kd.R_new' ho0 (Kd.R_lt (by (with_reducible repeat (first | apply Kd.R_alloc | apply Kd.R_drewN | apply Kd.R_drew)); exact HO352.out))) (Kd.R_lt (by (with_reducible repeat (first | apply Kd.R_alloc | apply Kd.R_drewN | apply Kd.R_drew)); exact HO362.out))) (g := gb344) (o := .cells #[.string t340, .int .i64 t341, .int .i64 t342] 48 (0, 0)) (by (with_reducible repeat (first | refine blk_drewN ?_ _ | refine blk_drew ?_ | refine blk_alloc ?_ _)); exact BK344.out)) (below_size (by repeat (first | (with_reducible first | exact HB.out | apply below_alloc | apply pw_below_drewN | apply below_drew1 | refine below_set ?_ GE344.out) | exact HB.out))))
                      have n5_ := Aside0.mk (blk_below (g := gb344) (o := .cells #[.string t340, .int .i64 t341, .int .i64 t342] 48 (0, 0)) (by (with_reducible repeat (first | refine blk_drewN ?_ _ | refine blk_drew ?_ | refine blk_alloc ?_ _)); exact BK344.out) hb)
                      have n6_ := Aside0.mk (below_step (by repeat (first | (with_reducible first | exact HB.out | apply below_alloc | apply pw_below_drewN | apply below_drew1 | refine below_set ?_ GE344.out) | exact HB.out)) hb)
                      clear HO339
                      clear HO352
                      clear HO356
                      clear HO362
                      clear BK344
                      clear HB
                      have HO339 := n0_
                      have HO352 := n1_
                      have HO356 := n2_
                      have HO362 := n3_
                      have HO365 := n4_
                      have BK344 := n5_
                      have HB := n6_
                      clear n0_ n1_ n2_ n3_ n4_ n5_ n6_
                      (try clear hb)
                      (try clear hb2)
                      (try clear hk)
                      (try clear hi)
                      (try clear ho0)
                      refine hK.out _ _ ⟨(blk_cell BK344.out 0).trans rfl, (blk_cell BK344.out 1).trans rfl, (blk_cell BK344.out 2).trans rfl⟩ (fun hHeld => ?_)
                      clear hK K
                      refine norm_ (a' := ?_) ?_ ?_
                      rotate_left
                      · show Act.put _ (some 30) _ = _
                        simp only [Act.put, List.setIfInBounds_toArray, List.set_cons_zero, List.set_cons_succ, i64_w, i32_w]
                        rfl
                      refine pure_ (i := 5) (N := some 7) (v := ?_) (a' := ?_) #[true, true, true, true, true, true] rfl rfl (by kernel_rfl) (fun _ _ _ h => h) (Or.inl ⟨by rfl, ?_⟩) ?_ ?_
                      rotate_left
                      · intro w'
                        go_simp
                        with_reducible rfl
                      rotate_left
                      · simp only [Act.put, List.setIfInBounds_toArray, List.set_cons_zero, List.set_cons_succ, i64_w, i32_w]
                        rfl
                      refine done_ (by kernel_rfl) ?_
                      try go_wp2
                      have n0_ := Aside0.mk (Kd.R_drew HO339.out)
                      have n1_ := Aside0.mk (Kd.R_drew HO352.out)
                      have n2_ := Aside0.mk (Kd.R_drew HO356.out)
                      have n3_ := Aside0.mk (Kd.R_drew HO362.out)
                      have n4_ := Aside0.mk (Kd.R_drew HO365.out)
                      have n5_ := Aside0.mk (blk_drew BK344.out)
                      have n6_ := Aside0.mk (below_drew1 HB.out)
                      clear HO339
                      clear HO352
                      clear HO356
                      clear HO362
                      clear HO365
                      clear BK344
                      clear HB
                      have HO339 := n0_
                      have HO352 := n1_
                      have HO356 := n2_
                      have HO362 := n3_
                      have HO365 := n4_
                      have BK344 := n5_
                      have HB := n6_
                      clear n0_ n1_ n2_ n3_ n4_ n5_ n6_
                      obtain ⟨A355, co355, rfl, _, _⟩ := Kd.R_reads HO356.out
                      have p371 : 0 ≤ (0 : Int) := (by omega)
                      have q371 : 0 < (t353.length : Int) := of_decide_eq_true (by first | (with_reducible assumption) | assumption)
                      obtain ⟨ad371, e371, hx371_0, hx371_1⟩ := at_T76 (Kd.R_reads' HO356.out).2.2 0 p371 q371
                      cases e371
                      have qi371 : (0 < t353.length) = True := eq_true (by omega)
                      (try rw [show ((0 : Int)).toNat = 0 from rfl] at hx371_0)
                      (try rw [show 0 * 2 = 0 from rfl] at hx371_0)
                      (try rw [Addr.add_zero'] at hx371_0)
                      (try rw [show ((0 : Int)).toNat = 0 from rfl] at hx371_1)
                      (try rw [show 0 * 2 = 0 from rfl] at hx371_1)
                      (try rw [Addr.add_zero'] at hx371_1)
                      replace p371 := eq_true p371
                      replace q371 := eq_true q371
                      obtain ⟨A364, co364, rfl, _, _⟩ := Kd.R_reads HO365.out
                      have p372 : 0 ≤ (0 : Int) := (by omega)
                      have q372 : 0 < (t363.length : Int) := of_decide_eq_true (by first | (with_reducible assumption) | assumption)
                      obtain ⟨ad372, e372, hx372_0, hx372_1, hx372_2⟩ := at_T48 (Kd.R_reads' HO365.out).2.2 0 p372 q372
                      cases e372
                      have qi372 : (0 < t363.length) = True := eq_true (by omega)
                      (try rw [show ((0 : Int)).toNat = 0 from rfl] at hx372_0)
                      (try rw [show 0 * 3 = 0 from rfl] at hx372_0)
                      (try rw [Addr.add_zero'] at hx372_0)
                      (try rw [show ((0 : Int)).toNat = 0 from rfl] at hx372_1)
                      (try rw [show 0 * 3 = 0 from rfl] at hx372_1)
                      (try rw [Addr.add_zero'] at hx372_1)
                      (try rw [show ((0 : Int)).toNat = 0 from rfl] at hx372_2)
                      (try rw [show 0 * 3 = 0 from rfl] at hx372_2)
                      (try rw [Addr.add_zero'] at hx372_2)
                      replace p372 := eq_true p372
                      replace q372 := eq_true q372
                      refine start_ (n := 56) (S := fun w' => w'.cell? ⟨gb344, 0, none⟩ = some (.string t340) ∧ w'.cell? ⟨gb344, 1, none⟩ = some (.int .i64 t341) ∧ w'.cell? ⟨gb344, 2, none⟩ = some (.int .i64 t342) ∧ w'.cell? ad371 = some (.string ((rd_T76 t353 0).f0)) ∧ w'.cell? ⟨ad371.block, ad371.off + 1, none⟩ = some (.int .i64 ((rd_T76 t353 0).f1)) ∧ w'.cell? ad372 = some (.string ((rd_T48 t363 0).f0)) ∧ w'.cell? ⟨ad372.block, ad372.off + 1, none⟩ = some (.int .i64 ((rd_T48 t363 0).f1)) ∧ w'.cell? ⟨ad372.block, ad372.off + 2, none⟩ = some (.int .i64 ((rd_T48 t363 0).f2))) (ds := []) #[false, false, false, false, false, false, false, false, false, false, false, false, false, false, false, false, false, false, false, false, false, false, false, false, false, false, false, false, false, false, false, false, false, false, false, false, false, false, false, false, false, false, false, false, false, false, false, false, false, false, false, false, false, false, false, false] (by kernel_rfl) rfl rfl ⟨(blk_cell BK344.out 0).trans rfl, (blk_cell BK344.out 1).trans rfl, (blk_cell BK344.out 2).trans rfl, hx371_0, hx371_1, hx372_0, hx372_1, hx372_2⟩ (fun hHeld => ?_); refine with_tabW stipendlaw11_worthsP.tab5 stipendlaw11_worthsP.bits5 (fun HT_ HW_ => ?_)
                      generalize w40.drew = w41 at HO339 HO352 HO356 HO362 HO365 BK344 HB hx371_0 hx371_1 hx372_0 hx372_1 hx372_2 hHeld ⊢
                      refine pure_ (i := 0) (N := some 31) (v := ?_) (a' := ?_) #[true, false, false, false, false, false, false, false, false, false, false, false, false, false, false, false, false, false, false, false, false, false, false, false, false, false, false, false, false, false, false, false, false, false, false, false, false, false, false, false, false, false, false, false, false, false, false, false, false, false, false, false, false, false, false, false] rfl rfl (any_of HT_.out (by kernel_rfl)) (fun _ _ _ h => h) (Or.inl ⟨by rfl, ?_⟩) ?_ ?_
                      rotate_left
                      · intro w'
                        go_simp
                        with_reducible rfl
                      rotate_left
                      · simp only [Act.put, List.setIfInBounds_toArray, List.set_cons_zero, List.set_cons_succ, i64_w, i32_w]
                        rfl
                      refine pure_ (i := 1) (N := some 32) (v := ?_) (a' := ?_) #[true, true, false, false, false, false, false, false, false, false, false, false, false, false, false, false, false, false, false, false, false, false, false, false, false, false, false, false, false, false, false, false, false, false, false, false, false, false, false, false, false, false, false, false, false, false, false, false, false, false, false, false, false, false, false, false] rfl rfl (any_of HT_.out (by kernel_rfl)) (fun _ _ _ h => h) (Or.inl ⟨by rfl, ?_⟩) ?_ ?_
                      rotate_left
                      · intro w'
                        go_simp
                        with_reducible rfl
                      rotate_left
                      · simp only [Act.put, List.setIfInBounds_toArray, List.set_cons_zero, List.set_cons_succ, i64_w, i32_w]
                        rfl
                      refine pure_ (i := 2) (N := some 33) (v := ?_) (a' := ?_) #[true, true, true, false, false, false, false, false, false, false, false, false, false, false, false, false, false, false, false, false, false, false, false, false, false, false, false, false, false, false, false, false, false, false, false, false, false, false, false, false, false, false, false, false, false, false, false, false, false, false, false, false, false, false, false, false] rfl rfl (any_of HT_.out (by kernel_rfl)) (fun _ _ _ h => h) (Or.inl ⟨by rfl, ?_⟩) ?_ ?_
                      rotate_left
                      · intro w'
                        go_simp
                        with_reducible rfl
                      rotate_left
                      · simp only [Act.put, List.setIfInBounds_toArray, List.set_cons_zero, List.set_cons_succ, i64_w, i32_w]
                        rfl
                      refine pure_ (i := 3) (N := some 34) (v := ?_) (a' := ?_) #[true, true, true, true, false, false, false, false, false, false, false, false, false, false, false, false, false, false, false, false, false, false, false, false, false, false, false, false, false, false, false, false, false, false, false, false, false, false, false, false, false, false, false, false, false, false, false, false, false, false, false, false, false, false, false, false] rfl rfl (any_of HT_.out (by kernel_rfl)) (fun _ _ _ h => h) (Or.inl ⟨by rfl, ?_⟩) ?_ ?_
                      rotate_left
                      · intro w'
                        go_simp
                        with_reducible rfl
                      rotate_left
                      · simp only [Act.put, List.setIfInBounds_toArray, List.set_cons_zero, List.set_cons_succ, i64_w, i32_w]
                        rfl
                      refine pure_ (i := 4) (N := some 35) (v := ?_) (a' := ?_) #[true, true, true, true, true, false, false, false, false, false, false, false, false, false, false, false, false, false, false, false, false, false, false, false, false, false, false, false, false, false, false, false, false, false, false, false, false, false, false, false, false, false, false, false, false, false, false, false, false, false, false, false, false, false, false, false] rfl rfl (any_of HT_.out (by kernel_rfl)) (fun _ _ _ h => h) (Or.inl ⟨by rfl, ?_⟩) ?_ ?_
                      rotate_left
                      · intro w'
                        go_simp
                        with_reducible rfl
                      rotate_left
                      · simp only [Act.put, List.setIfInBounds_toArray, List.set_cons_zero, List.set_cons_succ, i64_w, i32_w]
                        rfl
                      refine pure_ (i := 5) (N := some 36) (v := ?_) (a' := ?_) #[true, true, true, true, true, true, false, false, false, false, false, false, false, false, false, false, false, false, false, false, false, false, false, false, false, false, false, false, false, false, false, false, false, false, false, false, false, false, false, false, false, false, false, false, false, false, false, false, false, false, false, false, false, false, false, false] rfl rfl (any_of HT_.out (by kernel_rfl)) (fun _ _ _ h => h) (Or.inl ⟨by rfl, ?_⟩) ?_ ?_
                      rotate_left
                      · intro w'
                        go_simp
                        with_reducible rfl
                      rotate_left
                      · simp only [Act.put, List.setIfInBounds_toArray, List.set_cons_zero, List.set_cons_succ, i64_w, i32_w]
                        rfl
                      refine pure_ (i := 6) (N := some 37) (v := ?_) (a' := ?_) #[true, true, true, true, true, true, true, false, false, false, false, false, false, false, false, false, false, false, false, false, false, false, false, false, false, false, false, false, false, false, false, false, false, false, false, false, false, false, false, false, false, false, false, false, false, false, false, false, false, false, false, false, false, false, false, false] rfl rfl (any_of HT_.out (by kernel_rfl)) (fun _ _ _ h => h) (Or.inl ⟨by rfl, ?_⟩) ?_ ?_
                      rotate_left
                      · intro w'
                        go_simp
                        with_reducible rfl
                      rotate_left
                      · simp only [Act.put, List.setIfInBounds_toArray, List.set_cons_zero, List.set_cons_succ, i64_w, i32_w]
                        rfl
                      refine pure_ (i := 7) (N := some 38) (v := ?_) (a' := ?_) #[true, true, true, true, true, true, true, true, false, false, false, false, false, false, false, false, false, false, false, false, false, false, false, false, false, false, false, false, false, false, false, false, false, false, false, false, false, false, false, false, false, false, false, false, false, false, false, false, false, false, false, false, false, false, false, false] rfl rfl (any_of HT_.out (by kernel_rfl)) (fun _ _ _ h => h) (Or.inl ⟨by rfl, ?_⟩) ?_ ?_
                      rotate_left
                      · intro w'
                        go_simp
                        with_reducible rfl
                      rotate_left
                      · simp only [Act.put, List.setIfInBounds_toArray, List.set_cons_zero, List.set_cons_succ, i64_w, i32_w]
                        rfl
                      refine pure_ (i := 8) (N := some 39) (v := ?_) (a' := ?_) #[true, true, true, true, true, true, true, true, true, false, false, false, false, false, false, false, false, false, false, false, false, false, false, false, false, false, false, false, false, false, false, false, false, false, false, false, false, false, false, false, false, false, false, false, false, false, false, false, false, false, false, false, false, false, false, false] rfl rfl (any_of HT_.out (by kernel_rfl)) (fun _ _ _ h => h) (Or.inl ⟨by rfl, ?_⟩) ?_ ?_
                      rotate_left
                      · intro w'
                        go_simp
                        with_reducible rfl
                      rotate_left
                      · simp only [Act.put, List.setIfInBounds_toArray, List.set_cons_zero, List.set_cons_succ, i64_w, i32_w]
                        rfl
                      refine pure_ (i := 9) (N := some 40) (v := ?_) (a' := ?_) #[true, true, true, true, true, true, true, true, true, true, false, false, false, false, false, false, false, false, false, false, false, false, false, false, false, false, false, false, false, false, false, false, false, false, false, false, false, false, false, false, false, false, false, false, false, false, false, false, false, false, false, false, false, false, false, false] rfl rfl (any_of HT_.out (by kernel_rfl)) (fun _ _ _ h => h) (Or.inl ⟨by rfl, ?_⟩) ?_ ?_
                      rotate_left
                      · intro w'
                        go_simp
                        with_reducible rfl
                      rotate_left
                      · simp only [Act.put, List.setIfInBounds_toArray, List.set_cons_zero, List.set_cons_succ, i64_w, i32_w]
                        rfl
                      refine pure_ (i := 10) (N := some 41) (v := ?_) (a' := ?_) #[true, true, true, true, true, true, true, true, true, true, true, false, false, false, false, false, false, false, false, false, false, false, false, false, false, false, false, false, false, false, false, false, false, false, false, false, false, false, false, false, false, false, false, false, false, false, false, false, false, false, false, false, false, false, false, false] rfl rfl (any_of HT_.out (by kernel_rfl)) (fun _ _ _ h => h) (Or.inl ⟨by rfl, ?_⟩) ?_ ?_
                      rotate_left
                      · intro w'
                        go_simp
                        with_reducible rfl
                      rotate_left
                      · simp only [Act.put, List.setIfInBounds_toArray, List.set_cons_zero, List.set_cons_succ, i64_w, i32_w]
                        rfl
                      refine take_ (i := 11) (N := some 42) (v := ?_) (a' := ?_) #[true, true, true, true, true, true, true, true, true, true, true, true, false, false, false, false, false, false, false, false, false, false, false, false, false, false, false, false, false, false, false, false, false, false, false, false, false, false, false, false, false, false, false, false, false, false, false, false, false, false, false, false, false, false, false, false] rfl rfl (take_ofW HT_.out HW_.out (by kernel_rfl)) (fun _ _ _ h => h) (Or.inl ⟨by rfl, ?_⟩) hHeld ?_ ?_
                      rotate_left
                      · rintro w' ⟨s0, s1, s2, s3, s4, s5, s6, s7⟩
                        go_simp
                        with_reducible rfl
                      rotate_left
                      · simp only [Act.put, List.setIfInBounds_toArray, List.set_cons_zero, List.set_cons_succ, i64_w, i32_w]
                        rfl
                      refine one_ (i := 12) (N := some 43) #[true, true, true, true, true, true, true, true, true, true, true, true, true, false, false, false, false, false, false, false, false, false, false, false, false, false, false, false, false, false, false, false, false, false, false, false, false, false, false, false, false, false, false, false, false, false, false, false, false, false, false, false, false, false, false, false] rfl rfl (one_of HT_.out (by kernel_rfl)) (by decide) (fun K hK => ?_)
                      refine goes_ Tryd.func73 (by kernel_rfl) rfl #[.agg #[.string t340, .int .i64 t341, .int .i64 t342]] (by rfl) rfl rfl (by (try simp only [List.map_toArray, List.map_cons, List.map_nil]); first | done | rfl | (simp only [List.length_drop, List.length_take]; rfl)) ?_
                      with_reducible refine (element_Text.calls t340 t341 t342 t366 _ A9.out).mono ?_
                      rintro e w42 ⟨rfl, hb⟩
                      have HS3_ := (hb.cell (World.block_lt_of_cell? _ _ (hHeld.2.2.2.1))).trans (hHeld.2.2.2.1)
                      have HS4_ := (hb.cell (World.block_lt_of_cell? _ _ (hHeld.2.2.2.2.1))).trans (hHeld.2.2.2.2.1)
                      have HS5_ := (hb.cell (World.block_lt_of_cell? _ _ (hHeld.2.2.2.2.2.1))).trans (hHeld.2.2.2.2.2.1)
                      have HS6_ := (hb.cell (World.block_lt_of_cell? _ _ (hHeld.2.2.2.2.2.2.1))).trans (hHeld.2.2.2.2.2.2.1)
                      have HS7_ := (hb.cell (World.block_lt_of_cell? _ _ (hHeld.2.2.2.2.2.2.2))).trans (hHeld.2.2.2.2.2.2.2)
                      refine ⟨_, rfl, ?_⟩
                      have n0_ := Aside0.mk (Kd.R_below (by (with_reducible repeat (first | apply Kd.R_alloc | apply Kd.R_drewN | apply Kd.R_drew)); exact HO339.out) hb)
                      have n1_ := Aside0.mk (Kd.R_below (by (with_reducible repeat (first | apply Kd.R_alloc | apply Kd.R_drewN | apply Kd.R_drew)); exact HO352.out) hb)
                      have n2_ := Aside0.mk (Kd.R_below (by (with_reducible repeat (first | apply Kd.R_alloc | apply Kd.R_drewN | apply Kd.R_drew)); exact HO356.out) hb)
                      have n3_ := Aside0.mk (Kd.R_below (by (with_reducible repeat (first | apply Kd.R_alloc | apply Kd.R_drewN | apply Kd.R_drew)); exact HO362.out) hb)
                      have n4_ := Aside0.mk (Kd.R_below (by (with_reducible repeat (first | apply Kd.R_alloc | apply Kd.R_drewN | apply Kd.R_drew)); exact HO365.out) hb)
                      have n5_ := Aside0.mk (blk_below (g := gb344) (o := .cells #[.string t340, .int .i64 t341, .int .i64 t342] 48 (0, 0)) (by (with_reducible repeat (first | refine blk_drewN ?_ _ | refine blk_drew ?_ | refine blk_alloc ?_ _)); exact BK344.out) hb)
                      have n6_ := Aside0.mk (below_step (by repeat (first | (with_reducible first | exact HB.out | apply below_alloc | apply pw_below_drewN | apply below_drew1 | refine below_set ?_ GE344.out) | exact HB.out)) hb)
                      clear HO339
                      clear HO352
                      clear HO356
                      clear HO362
                      clear HO365
                      clear BK344
                      clear HB
                      have HO339 := n0_
                      have HO352 := n1_
                      have HO356 := n2_
                      have HO362 := n3_
                      have HO365 := n4_
                      have BK344 := n5_
                      have HB := n6_
                      clear n0_ n1_ n2_ n3_ n4_ n5_ n6_
                      (try clear hb)
                      (try clear hb2)
                      (try clear hk)
                      (try clear hi)
                      refine hK.out _ _ ⟨(blk_cell BK344.out 0).trans rfl, (blk_cell BK344.out 1).trans rfl, (blk_cell BK344.out 2).trans rfl, HS3_, HS4_, HS5_, HS6_, HS7_⟩ (fun hHeld => ?_)
                      clear hK K
                      refine norm_ (a' := ?_) ?_ ?_
                      rotate_left
                      · show Act.put _ (some 43) _ = _
                        simp only [Act.put, List.setIfInBounds_toArray, List.set_cons_zero, List.set_cons_succ, i64_w, i32_w]
                        rfl
                      refine pure_ (i := 13) (N := some 44) (v := ?_) (a' := ?_) #[true, true, true, true, true, true, true, true, true, true, true, true, true, true, false, false, false, false, false, false, false, false, false, false, false, false, false, false, false, false, false, false, false, false, false, false, false, false, false, false, false, false, false, false, false, false, false, false, false, false, false, false, false, false, false, false] rfl rfl (any_of HT_.out (by kernel_rfl)) (fun _ _ _ h => h) (Or.inl ⟨by rfl, ?_⟩) ?_ ?_
                      rotate_left
                      · intro w'
                        go_simp
                        with_reducible rfl
                      rotate_left
                      · simp only [Act.put, List.setIfInBounds_toArray, List.set_cons_zero, List.set_cons_succ, i64_w, i32_w]
                        rfl
                      refine pure_ (i := 14) (N := some 45) (v := ?_) (a' := ?_) #[true, true, true, true, true, true, true, true, true, true, true, true, true, true, true, false, false, false, false, false, false, false, false, false, false, false, false, false, false, false, false, false, false, false, false, false, false, false, false, false, false, false, false, false, false, false, false, false, false, false, false, false, false, false, false, false] rfl rfl (any_of HT_.out (by kernel_rfl)) (fun _ _ _ h => h) (Or.inl ⟨by rfl, ?_⟩) ?_ ?_
                      rotate_left
                      · intro w'
                        go_simp
                        with_reducible rfl
                      rotate_left
                      · simp only [Act.put, List.setIfInBounds_toArray, List.set_cons_zero, List.set_cons_succ, i64_w, i32_w]
                        rfl
                      refine pure_ (i := 15) (N := some 46) (v := ?_) (a' := ?_) #[true, true, true, true, true, true, true, true, true, true, true, true, true, true, true, true, false, false, false, false, false, false, false, false, false, false, false, false, false, false, false, false, false, false, false, false, false, false, false, false, false, false, false, false, false, false, false, false, false, false, false, false, false, false, false, false] rfl rfl (any_of HT_.out (by kernel_rfl)) (fun _ _ _ h => h) (Or.inl ⟨by rfl, ?_⟩) ?_ ?_
                      rotate_left
                      · intro w'
                        go_simp
                        with_reducible rfl
                      rotate_left
                      · simp only [Act.put, List.setIfInBounds_toArray, List.set_cons_zero, List.set_cons_succ, i64_w, i32_w]
                        rfl
                      refine one_ (i := 16) (N := some 47) #[true, true, true, true, true, true, true, true, true, true, true, true, true, true, true, true, true, false, false, false, false, false, false, false, false, false, false, false, false, false, false, false, false, false, false, false, false, false, false, false, false, false, false, false, false, false, false, false, false, false, false, false, false, false, false, false] rfl rfl (one_of HT_.out (by kernel_rfl)) (by decide) (fun K hK => ?_)
                      refine goes_ Tryd.func50 (by kernel_rfl) rfl #[.string (⟨#[98]⟩ : ByteArray), .int .i64 5] (by rfl) rfl rfl (by (try simp only [List.map_toArray, List.map_cons, List.map_nil]); first | done | rfl | (simp only [List.length_drop, List.length_take]; rfl)) ?_
                      with_reducible refine (element_Of.calls (⟨#[98]⟩ : ByteArray) 5 t367 t368 t369 _ A11.out).mono ?_
                      rintro e w43 ⟨rfl, hb⟩
                      have HS3_ := (hb.cell (World.block_lt_of_cell? _ _ (hHeld.2.2.2.1))).trans (hHeld.2.2.2.1)
                      have HS4_ := (hb.cell (World.block_lt_of_cell? _ _ (hHeld.2.2.2.2.1))).trans (hHeld.2.2.2.2.1)
                      have HS5_ := (hb.cell (World.block_lt_of_cell? _ _ (hHeld.2.2.2.2.2.1))).trans (hHeld.2.2.2.2.2.1)
                      have HS6_ := (hb.cell (World.block_lt_of_cell? _ _ (hHeld.2.2.2.2.2.2.1))).trans (hHeld.2.2.2.2.2.2.1)
                      have HS7_ := (hb.cell (World.block_lt_of_cell? _ _ (hHeld.2.2.2.2.2.2.2))).trans (hHeld.2.2.2.2.2.2.2)
                      refine ⟨_, rfl, ?_⟩
                      have n0_ := Aside0.mk (Kd.R_below (by (with_reducible repeat (first | apply Kd.R_alloc | apply Kd.R_drewN | apply Kd.R_drew)); exact HO339.out) hb)
                      have n1_ := Aside0.mk (Kd.R_below (by (with_reducible repeat (first | apply Kd.R_alloc | apply Kd.R_drewN | apply Kd.R_drew)); exact HO352.out) hb)
                      have n2_ := Aside0.mk (Kd.R_below (by (with_reducible repeat (first | apply Kd.R_alloc | apply Kd.R_drewN | apply Kd.R_drew)); exact HO356.out) hb)
                      have n3_ := Aside0.mk (Kd.R_below (by (with_reducible repeat (first | apply Kd.R_alloc | apply Kd.R_drewN | apply Kd.R_drew)); exact HO362.out) hb)
                      have n4_ := Aside0.mk (Kd.R_below (by (with_reducible repeat (first | apply Kd.R_alloc | apply Kd.R_drewN | apply Kd.R_drew)); exact HO365.out) hb)
                      have n5_ := Aside0.mk (blk_below (g := gb344) (o := .cells #[.string t340, .int .i64 t341, .int .i64 t342] 48 (0, 0)) (by (with_reducible repeat (first | refine blk_drewN ?_ _ | refine blk_drew ?_ | refine blk_alloc ?_ _)); exact BK344.out) hb)
                      have n6_ := Aside0.mk (below_step (by repeat (first | (with_reducible first | exact HB.out | apply below_alloc | apply pw_below_drewN | apply below_drew1 | refine below_set ?_ GE344.out) | exact HB.out)) hb)
                      clear HO339
                      clear HO352
                      clear HO356
                      clear HO362
                      clear HO365
                      clear BK344
                      clear HB
                      have HO339 := n0_
                      have HO352 := n1_
                      have HO356 := n2_
                      have HO362 := n3_
                      have HO365 := n4_
                      have BK344 := n5_
                      have HB := n6_
                      clear n0_ n1_ n2_ n3_ n4_ n5_ n6_
                      (try clear hb)
                      (try clear hb2)
                      (try clear hk)
                      (try clear hi)
                      refine hK.out _ _ ⟨(blk_cell BK344.out 0).trans rfl, (blk_cell BK344.out 1).trans rfl, (blk_cell BK344.out 2).trans rfl, HS3_, HS4_, HS5_, HS6_, HS7_⟩ (fun hHeld => ?_)
                      clear hK K
                      refine norm_ (a' := ?_) ?_ ?_
                      rotate_left
                      · show Act.put _ (some 47) _ = _
                        simp only [Act.put, List.setIfInBounds_toArray, List.set_cons_zero, List.set_cons_succ, i64_w, i32_w]
                        rfl
                      refine one_ (i := 17) (N := some 48) #[true, true, true, true, true, true, true, true, true, true, true, true, true, true, true, true, true, true, false, false, false, false, false, false, false, false, false, false, false, false, false, false, false, false, false, false, false, false, false, false, false, false, false, false, false, false, false, false, false, false, false, false, false, false, false, false] rfl rfl (one_of HT_.out (by kernel_rfl)) (by decide) (fun K hK => ?_)
                      refine goes_ Tryd.func73 (by kernel_rfl) rfl #[.agg #[.string t367, .int .i64 t368, .int .i64 t369]] (by rfl) rfl rfl (by (try simp only [List.map_toArray, List.map_cons, List.map_nil]); first | done | rfl | (simp only [List.length_drop, List.length_take]; rfl)) ?_
                      with_reducible refine (element_Text.calls t367 t368 t369 t370 _ A12.out).mono ?_
                      rintro e w44 ⟨rfl, hb⟩
                      have HS3_ := (hb.cell (World.block_lt_of_cell? _ _ (hHeld.2.2.2.1))).trans (hHeld.2.2.2.1)
                      have HS4_ := (hb.cell (World.block_lt_of_cell? _ _ (hHeld.2.2.2.2.1))).trans (hHeld.2.2.2.2.1)
                      have HS5_ := (hb.cell (World.block_lt_of_cell? _ _ (hHeld.2.2.2.2.2.1))).trans (hHeld.2.2.2.2.2.1)
                      have HS6_ := (hb.cell (World.block_lt_of_cell? _ _ (hHeld.2.2.2.2.2.2.1))).trans (hHeld.2.2.2.2.2.2.1)
                      have HS7_ := (hb.cell (World.block_lt_of_cell? _ _ (hHeld.2.2.2.2.2.2.2))).trans (hHeld.2.2.2.2.2.2.2)
                      refine ⟨_, rfl, ?_⟩
                      have n0_ := Aside0.mk (Kd.R_below (by (with_reducible repeat (first | apply Kd.R_alloc | apply Kd.R_drewN | apply Kd.R_drew)); exact HO339.out) hb)
                      have n1_ := Aside0.mk (Kd.R_below (by (with_reducible repeat (first | apply Kd.R_alloc | apply Kd.R_drewN | apply Kd.R_drew)); exact HO352.out) hb)
                      have n2_ := Aside0.mk (Kd.R_below (by (with_reducible repeat (first | apply Kd.R_alloc | apply Kd.R_drewN | apply Kd.R_drew)); exact HO356.out) hb)
                      have n3_ := Aside0.mk (Kd.R_below (by (with_reducible repeat (first | apply Kd.R_alloc | apply Kd.R_drewN | apply Kd.R_drew)); exact HO362.out) hb)
                      have n4_ := Aside0.mk (Kd.R_below (by (with_reducible repeat (first | apply Kd.R_alloc | apply Kd.R_drewN | apply Kd.R_drew)); exact HO365.out) hb)
                      have n5_ := Aside0.mk (blk_below (g := gb344) (o := .cells #[.string t340, .int .i64 t341, .int .i64 t342] 48 (0, 0)) (by (with_reducible repeat (first | refine blk_drewN ?_ _ | refine blk_drew ?_ | refine blk_alloc ?_ _)); exact BK344.out) hb)
                      have n6_ := Aside0.mk (below_step (by repeat (first | (with_reducible first | exact HB.out | apply below_alloc | apply pw_below_drewN | apply below_drew1 | refine below_set ?_ GE344.out) | exact HB.out)) hb)
                      clear HO339
                      clear HO352
                      clear HO356
                      clear HO362
                      clear HO365
                      clear BK344
                      clear HB
                      have HO339 := n0_
                      have HO352 := n1_
                      have HO356 := n2_
                      have HO362 := n3_
                      have HO365 := n4_
                      have BK344 := n5_
                      have HB := n6_
                      clear n0_ n1_ n2_ n3_ n4_ n5_ n6_
                      (try clear hb)
                      (try clear hb2)
                      (try clear hk)
                      (try clear hi)
                      obtain ⟨Ao45, co45, eo45⟩ := Kd.R_slice HO356.out
                      (first | subst eo45 | (injection eo45 with f1_ f2_ f3_; have f4_ := f1_.symm; have f5_ := f3_.symm; clear f1_ f2_ f3_; subst f4_; subst f5_))
                      obtain ⟨Ao46, co46, eo46⟩ := Kd.R_slice HO365.out
                      (first | subst eo46 | (injection eo46 with f1_ f2_ f3_; have f4_ := f1_.symm; have f5_ := f3_.symm; clear f1_ f2_ f3_; subst f4_; subst f5_))
                      refine hK.out _ _ ⟨(blk_cell BK344.out 0).trans rfl, (blk_cell BK344.out 1).trans rfl, (blk_cell BK344.out 2).trans rfl, HS3_, HS4_, HS5_, HS6_, HS7_⟩ (fun hHeld => ?_)
                      clear hK K
                      refine norm_ (a' := ?_) ?_ ?_
                      rotate_left
                      · show Act.put _ (some 48) _ = _
                        simp only [Act.put, List.setIfInBounds_toArray, List.set_cons_zero, List.set_cons_succ, i64_w, i32_w]
                        rfl
                      refine pure_ (i := 18) (N := some 49) (v := ?_) (a' := ?_) #[true, true, true, true, true, true, true, true, true, true, true, true, true, true, true, true, true, true, true, false, false, false, false, false, false, false, false, false, false, false, false, false, false, false, false, false, false, false, false, false, false, false, false, false, false, false, false, false, false, false, false, false, false, false, false, false] rfl rfl (any_of HT_.out (by kernel_rfl)) (fun _ _ _ h => h) (Or.inl ⟨by rfl, ?_⟩) ?_ ?_
                      rotate_left
                      · intro w'
                        go_simp
                        with_reducible rfl
                      rotate_left
                      · simp only [Act.put, List.setIfInBounds_toArray, List.set_cons_zero, List.set_cons_succ, i64_w, i32_w]
                        rfl
                      refine pure_ (i := 19) (N := some 50) (v := ?_) (a' := ?_) #[true, true, true, true, true, true, true, true, true, true, true, true, true, true, true, true, true, true, true, true, false, false, false, false, false, false, false, false, false, false, false, false, false, false, false, false, false, false, false, false, false, false, false, false, false, false, false, false, false, false, false, false, false, false, false, false] rfl rfl (any_of HT_.out (by kernel_rfl)) (fun _ _ _ h => h) (Or.inl ⟨by rfl, ?_⟩) ?_ ?_
                      rotate_left
                      · intro w'
                        go_simp
                        with_reducible rfl
                      rotate_left
                      · simp only [Act.put, List.setIfInBounds_toArray, List.set_cons_zero, List.set_cons_succ, i64_w, i32_w]
                        rfl
                      refine pure_ (i := 20) (N := some 51) (v := ?_) (a' := ?_) #[true, true, true, true, true, true, true, true, true, true, true, true, true, true, true, true, true, true, true, true, true, false, false, false, false, false, false, false, false, false, false, false, false, false, false, false, false, false, false, false, false, false, false, false, false, false, false, false, false, false, false, false, false, false, false, false] rfl rfl (any_of HT_.out (by kernel_rfl)) (fun _ _ _ h => h) (Or.inl ⟨by rfl, ?_⟩) ?_ ?_
                      rotate_left
                      · intro w'
                        go_simp
                        with_reducible rfl
                      rotate_left
                      · simp only [Act.put, List.setIfInBounds_toArray, List.set_cons_zero, List.set_cons_succ, i64_w, i32_w]
                        rfl
                      refine pure_ (i := 21) (N := some 52) (v := ?_) (a' := ?_) #[true, true, true, true, true, true, true, true, true, true, true, true, true, true, true, true, true, true, true, true, true, true, false, false, false, false, false, false, false, false, false, false, false, false, false, false, false, false, false, false, false, false, false, false, false, false, false, false, false, false, false, false, false, false, false, false] rfl rfl (any_of HT_.out (by kernel_rfl)) (fun _ _ _ h => h) (Or.inl ⟨by rfl, ?_⟩) ?_ ?_
                      rotate_left
                      · intro w'
                        go_simp
                        with_reducible rfl
                      rotate_left
                      · simp only [Act.put, List.setIfInBounds_toArray, List.set_cons_zero, List.set_cons_succ, i64_w, i32_w]
                        rfl
                      refine pure_ (i := 22) (N := some 53) (v := ?_) (a' := ?_) #[true, true, true, true, true, true, true, true, true, true, true, true, true, true, true, true, true, true, true, true, true, true, true, false, false, false, false, false, false, false, false, false, false, false, false, false, false, false, false, false, false, false, false, false, false, false, false, false, false, false, false, false, false, false, false, false] rfl rfl (any_of HT_.out (by kernel_rfl)) (fun _ _ _ h => h) (Or.inl ⟨by rfl, ?_⟩) ?_ ?_
                      rotate_left
                      · intro w'
                        go_simp
                        with_reducible rfl
                      rotate_left
                      · simp only [Act.put, List.setIfInBounds_toArray, List.set_cons_zero, List.set_cons_succ, i64_w, i32_w]
                        rfl
                      refine pure_ (i := 23) (N := some 54) (v := ?_) (a' := ?_) #[true, true, true, true, true, true, true, true, true, true, true, true, true, true, true, true, true, true, true, true, true, true, true, true, false, false, false, false, false, false, false, false, false, false, false, false, false, false, false, false, false, false, false, false, false, false, false, false, false, false, false, false, false, false, false, false] rfl rfl (any_of HT_.out (by kernel_rfl)) (fun _ _ _ h => h) (Or.inl ⟨by rfl, ?_⟩) ?_ ?_
                      rotate_left
                      · intro w'
                        go_simp
                        with_reducible rfl
                      rotate_left
                      · simp only [Act.put, List.setIfInBounds_toArray, List.set_cons_zero, List.set_cons_succ, i64_w, i32_w]
                        rfl
                      refine pure_ (i := 24) (N := some 55) (v := ?_) (a' := ?_) #[true, true, true, true, true, true, true, true, true, true, true, true, true, true, true, true, true, true, true, true, true, true, true, true, true, false, false, false, false, false, false, false, false, false, false, false, false, false, false, false, false, false, false, false, false, false, false, false, false, false, false, false, false, false, false, false] rfl rfl (any_of HT_.out (by kernel_rfl)) (fun _ _ _ h => h) (Or.inl ⟨by rfl, ?_⟩) ?_ ?_
                      rotate_left
                      · intro w'
                        go_simp
                        with_reducible rfl
                      rotate_left
                      · simp only [Act.put, List.setIfInBounds_toArray, List.set_cons_zero, List.set_cons_succ, i64_w, i32_w]
                        rfl
                      refine pure_ (i := 25) (N := some 56) (v := ?_) (a' := ?_) #[true, true, true, true, true, true, true, true, true, true, true, true, true, true, true, true, true, true, true, true, true, true, true, true, true, true, false, false, false, false, false, false, false, false, false, false, false, false, false, false, false, false, false, false, false, false, false, false, false, false, false, false, false, false, false, false] rfl rfl (any_of HT_.out (by kernel_rfl)) (fun _ _ _ h => h) (Or.inl ⟨by rfl, ?_⟩) ?_ ?_
                      rotate_left
                      · intro w'
                        go_simp
                        with_reducible rfl
                      rotate_left
                      · simp only [Act.put, List.setIfInBounds_toArray, List.set_cons_zero, List.set_cons_succ, i64_w, i32_w]
                        rfl
                      refine pure_ (i := 26) (N := some 57) (v := ?_) (a' := ?_) #[true, true, true, true, true, true, true, true, true, true, true, true, true, true, true, true, true, true, true, true, true, true, true, true, true, true, true, false, false, false, false, false, false, false, false, false, false, false, false, false, false, false, false, false, false, false, false, false, false, false, false, false, false, false, false, false] rfl rfl (any_of HT_.out (by kernel_rfl)) (fun _ _ _ h => h) (Or.inl ⟨by rfl, ?_⟩) ?_ ?_
                      rotate_left
                      · intro w'
                        go_simp
                        with_reducible rfl
                      rotate_left
                      · simp only [Act.put, List.setIfInBounds_toArray, List.set_cons_zero, List.set_cons_succ, i64_w, i32_w]
                        rfl
                      refine pure_ (i := 27) (N := some 58) (v := ?_) (a' := ?_) #[true, true, true, true, true, true, true, true, true, true, true, true, true, true, true, true, true, true, true, true, true, true, true, true, true, true, true, true, false, false, false, false, false, false, false, false, false, false, false, false, false, false, false, false, false, false, false, false, false, false, false, false, false, false, false, false] rfl rfl (any_of HT_.out (by kernel_rfl)) (fun _ _ _ h => h) (Or.inl ⟨by rfl, ?_⟩) ?_ ?_
                      rotate_left
                      · intro w'
                        go_simp
                        with_reducible rfl
                      rotate_left
                      · simp only [Act.put, List.setIfInBounds_toArray, List.set_cons_zero, List.set_cons_succ, i64_w, i32_w]
                        rfl
                      refine pure_ (i := 29) (N := some 60) (v := ?_) (a' := ?_) #[true, true, true, true, true, true, true, true, true, true, true, true, true, true, true, true, true, true, true, true, true, true, true, true, true, true, true, true, false, true, false, false, false, false, false, false, false, false, false, false, false, false, false, false, false, false, false, false, false, false, false, false, false, false, false, false] rfl rfl (any_of HT_.out (by kernel_rfl)) (fun _ _ _ h => h) (Or.inl ⟨by rfl, ?_⟩) ?_ ?_
                      rotate_left
                      · intro w'
                        go_simp
                        with_reducible rfl
                      rotate_left
                      · simp only [Act.put, List.setIfInBounds_toArray, List.set_cons_zero, List.set_cons_succ, i64_w, i32_w]
                        rfl
                      refine take_ (i := 28) (N := some 59) (v := ?_) (a' := ?_) #[true, true, true, true, true, true, true, true, true, true, true, true, true, true, true, true, true, true, true, true, true, true, true, true, true, true, true, true, true, true, false, false, false, false, false, false, false, false, false, false, false, false, false, false, false, false, false, false, false, false, false, false, false, false, false, false] rfl rfl (take_ofW HT_.out HW_.out (by kernel_rfl)) (fun _ _ _ h => h) (Or.inl ⟨by rfl, ?_⟩) hHeld ?_ ?_
                      rotate_left
                      · rintro w' ⟨s0, s1, s2, s3, s4, s5, s6, s7⟩
                        go_simp
                        with_reducible rfl
                      rotate_left
                      · simp only [Act.put, List.setIfInBounds_toArray, List.set_cons_zero, List.set_cons_succ, i64_w, i32_w]
                        rfl
                      refine pure_ (i := 30) (N := some 61) (v := ?_) (a' := ?_) #[true, true, true, true, true, true, true, true, true, true, true, true, true, true, true, true, true, true, true, true, true, true, true, true, true, true, true, true, true, true, true, false, false, false, false, false, false, false, false, false, false, false, false, false, false, false, false, false, false, false, false, false, false, false, false, false] rfl rfl (any_of HT_.out (by kernel_rfl)) (fun _ _ _ h => h) (Or.inl ⟨by rfl, ?_⟩) ?_ ?_
                      rotate_left
                      · intro w'
                        go_simp
                        with_reducible rfl
                      rotate_left
                      · simp only [Act.put, List.setIfInBounds_toArray, List.set_cons_zero, List.set_cons_succ, i64_w, i32_w]
                        rfl
                      refine pure_ (i := 31) (N := some 62) (v := ?_) (a' := ?_) #[true, true, true, true, true, true, true, true, true, true, true, true, true, true, true, true, true, true, true, true, true, true, true, true, true, true, true, true, true, true, true, true, false, false, false, false, false, false, false, false, false, false, false, false, false, false, false, false, false, false, false, false, false, false, false, false] rfl rfl (any_of HT_.out (by kernel_rfl)) (fun _ _ _ h => h) (Or.inl ⟨by rfl, ?_⟩) ?_ ?_
                      rotate_left
                      · intro w'
                        go_simp
                        with_reducible rfl
                      rotate_left
                      · simp only [Act.put, List.setIfInBounds_toArray, List.set_cons_zero, List.set_cons_succ, i64_w, i32_w]
                        rfl
                      refine pure_ (i := 32) (N := some 63) (v := ?_) (a' := ?_) #[true, true, true, true, true, true, true, true, true, true, true, true, true, true, true, true, true, true, true, true, true, true, true, true, true, true, true, true, true, true, true, true, true, false, false, false, false, false, false, false, false, false, false, false, false, false, false, false, false, false, false, false, false, false, false, false] rfl rfl (any_of HT_.out (by kernel_rfl)) (fun _ _ _ h => h) (Or.inl ⟨by rfl, ?_⟩) ?_ ?_
                      rotate_left
                      · intro w'
                        go_simp
                        with_reducible rfl
                      rotate_left
                      · simp only [Act.put, List.setIfInBounds_toArray, List.set_cons_zero, List.set_cons_succ, i64_w, i32_w]
                        rfl
                      refine pure_ (i := 33) (N := some 64) (v := ?_) (a' := ?_) #[true, true, true, true, true, true, true, true, true, true, true, true, true, true, true, true, true, true, true, true, true, true, true, true, true, true, true, true, true, true, true, true, true, true, false, false, false, false, false, false, false, false, false, false, false, false, false, false, false, false, false, false, false, false, false, false] rfl rfl (any_of HT_.out (by kernel_rfl)) (fun _ _ _ h => h) (Or.inl ⟨by rfl, ?_⟩) ?_ ?_
                      rotate_left
                      · intro w'
                        go_simp
                        with_reducible rfl
                      rotate_left
                      · simp only [Act.put, List.setIfInBounds_toArray, List.set_cons_zero, List.set_cons_succ, i64_w, i32_w]
                        rfl
                      refine pure_ (i := 34) (N := some 65) (v := ?_) (a' := ?_) #[true, true, true, true, true, true, true, true, true, true, true, true, true, true, true, true, true, true, true, true, true, true, true, true, true, true, true, true, true, true, true, true, true, true, true, false, false, false, false, false, false, false, false, false, false, false, false, false, false, false, false, false, false, false, false, false] rfl rfl (any_of HT_.out (by kernel_rfl)) (fun _ _ _ h => h) (Or.inl ⟨by rfl, ?_⟩) ?_ ?_
                      rotate_left
                      · intro w'
                        go_simp
                        with_reducible rfl
                      rotate_left
                      · simp only [Act.put, List.setIfInBounds_toArray, List.set_cons_zero, List.set_cons_succ, i64_w, i32_w]
                        rfl
                      refine pure_ (i := 35) (N := some 66) (v := ?_) (a' := ?_) #[true, true, true, true, true, true, true, true, true, true, true, true, true, true, true, true, true, true, true, true, true, true, true, true, true, true, true, true, true, true, true, true, true, true, true, true, false, false, false, false, false, false, false, false, false, false, false, false, false, false, false, false, false, false, false, false] rfl rfl (any_of HT_.out (by kernel_rfl)) (fun _ _ _ h => h) (Or.inl ⟨by rfl, ?_⟩) ?_ ?_
                      rotate_left
                      · intro w'
                        go_simp
                        with_reducible rfl
                      rotate_left
                      · simp only [Act.put, List.setIfInBounds_toArray, List.set_cons_zero, List.set_cons_succ, i64_w, i32_w]
                        rfl
                      refine pure_ (i := 36) (N := some 67) (v := ?_) (a' := ?_) #[true, true, true, true, true, true, true, true, true, true, true, true, true, true, true, true, true, true, true, true, true, true, true, true, true, true, true, true, true, true, true, true, true, true, true, true, true, false, false, false, false, false, false, false, false, false, false, false, false, false, false, false, false, false, false, false] rfl rfl (any_of HT_.out (by kernel_rfl)) (fun _ _ _ h => h) (Or.inl ⟨by rfl, ?_⟩) ?_ ?_
                      rotate_left
                      · intro w'
                        go_simp
                        with_reducible rfl
                      rotate_left
                      · simp only [Act.put, List.setIfInBounds_toArray, List.set_cons_zero, List.set_cons_succ, i64_w, i32_w]
                        rfl
                      refine pure_ (i := 37) (N := some 68) (v := ?_) (a' := ?_) #[true, true, true, true, true, true, true, true, true, true, true, true, true, true, true, true, true, true, true, true, true, true, true, true, true, true, true, true, true, true, true, true, true, true, true, true, true, true, false, false, false, false, false, false, false, false, false, false, false, false, false, false, false, false, false, false] rfl rfl (any_of HT_.out (by kernel_rfl)) (fun _ _ _ h => h) (Or.inl ⟨by rfl, ?_⟩) ?_ ?_
                      rotate_left
                      · intro w'
                        go_simp
                        with_reducible rfl
                      rotate_left
                      · simp only [Act.put, List.setIfInBounds_toArray, List.set_cons_zero, List.set_cons_succ, i64_w, i32_w]
                        rfl
                      refine pure_ (i := 38) (N := some 69) (v := ?_) (a' := ?_) #[true, true, true, true, true, true, true, true, true, true, true, true, true, true, true, true, true, true, true, true, true, true, true, true, true, true, true, true, true, true, true, true, true, true, true, true, true, true, true, false, false, false, false, false, false, false, false, false, false, false, false, false, false, false, false, false] rfl rfl (any_of HT_.out (by kernel_rfl)) (fun _ _ _ h => h) (Or.inl ⟨by rfl, ?_⟩) ?_ ?_
                      rotate_left
                      · intro w'
                        go_simp
                        with_reducible rfl
                      rotate_left
                      · simp only [Act.put, List.setIfInBounds_toArray, List.set_cons_zero, List.set_cons_succ, i64_w, i32_w]
                        rfl
                      refine pure_ (i := 39) (N := some 70) (v := ?_) (a' := ?_) #[true, true, true, true, true, true, true, true, true, true, true, true, true, true, true, true, true, true, true, true, true, true, true, true, true, true, true, true, true, true, true, true, true, true, true, true, true, true, true, true, false, false, false, false, false, false, false, false, false, false, false, false, false, false, false, false] rfl rfl (any_of HT_.out (by kernel_rfl)) (fun _ _ _ h => h) (Or.inl ⟨by rfl, ?_⟩) ?_ ?_
                      rotate_left
                      · intro w'
                        go_simp
                        with_reducible rfl
                      rotate_left
                      · simp only [Act.put, List.setIfInBounds_toArray, List.set_cons_zero, List.set_cons_succ, i64_w, i32_w]
                        rfl
                      refine take_ (i := 40) (N := some 71) (v := ?_) (a' := ?_) #[true, true, true, true, true, true, true, true, true, true, true, true, true, true, true, true, true, true, true, true, true, true, true, true, true, true, true, true, true, true, true, true, true, true, true, true, true, true, true, true, true, false, false, false, false, false, false, false, false, false, false, false, false, false, false, false] rfl rfl (take_ofW HT_.out HW_.out (by kernel_rfl)) (fun _ _ _ h => h) (Or.inl ⟨by rfl, ?_⟩) hHeld ?_ ?_
                      rotate_left
                      · rintro w' ⟨s0, s1, s2, s3, s4, s5, s6, s7⟩
                        go_simp
                        with_reducible rfl
                      rotate_left
                      · simp only [Act.put, List.setIfInBounds_toArray, List.set_cons_zero, List.set_cons_succ, i64_w, i32_w]
                        rfl
                      refine one_ (i := 41) (N := some 72) #[true, true, true, true, true, true, true, true, true, true, true, true, true, true, true, true, true, true, true, true, true, true, true, true, true, true, true, true, true, true, true, true, true, true, true, true, true, true, true, true, true, true, false, false, false, false, false, false, false, false, false, false, false, false, false, false] rfl rfl (one_of HT_.out (by kernel_rfl)) (by decide) (fun K hK => ?_)
                      refine goes_ Tryd.func50 (by kernel_rfl) rfl #[.string (⟨#[104, 111, 117, 114, 108, 121]⟩ : ByteArray), .int .i64 7] (by rfl) rfl rfl (by (try simp only [List.map_toArray, List.map_cons, List.map_nil]); first | done | rfl | (simp only [List.length_drop, List.length_take]; rfl)) ?_
                      with_reducible refine (element_Of.calls (⟨#[104, 111, 117, 114, 108, 121]⟩ : ByteArray) 7 t373 t374 t375 _ A19.out).mono ?_
                      rintro e w47 ⟨rfl, hb⟩
                      have HS3_ := (hb.cell (World.block_lt_of_cell? _ _ (hHeld.2.2.2.1))).trans (hHeld.2.2.2.1)
                      have HS4_ := (hb.cell (World.block_lt_of_cell? _ _ (hHeld.2.2.2.2.1))).trans (hHeld.2.2.2.2.1)
                      have HS5_ := (hb.cell (World.block_lt_of_cell? _ _ (hHeld.2.2.2.2.2.1))).trans (hHeld.2.2.2.2.2.1)
                      have HS6_ := (hb.cell (World.block_lt_of_cell? _ _ (hHeld.2.2.2.2.2.2.1))).trans (hHeld.2.2.2.2.2.2.1)
                      have HS7_ := (hb.cell (World.block_lt_of_cell? _ _ (hHeld.2.2.2.2.2.2.2))).trans (hHeld.2.2.2.2.2.2.2)
                      refine ⟨_, rfl, ?_⟩
                      have n0_ := Aside0.mk (Kd.R_below (by (with_reducible repeat (first | apply Kd.R_alloc | apply Kd.R_drewN | apply Kd.R_drew)); exact HO339.out) hb)
                      have n1_ := Aside0.mk (Kd.R_below (by (with_reducible repeat (first | apply Kd.R_alloc | apply Kd.R_drewN | apply Kd.R_drew)); exact HO352.out) hb)
                      have n2_ := Aside0.mk (Kd.R_below (by (with_reducible repeat (first | apply Kd.R_alloc | apply Kd.R_drewN | apply Kd.R_drew)); exact HO356.out) hb)
                      have n3_ := Aside0.mk (Kd.R_below (by (with_reducible repeat (first | apply Kd.R_alloc | apply Kd.R_drewN | apply Kd.R_drew)); exact HO362.out) hb)
                      have n4_ := Aside0.mk (Kd.R_below (by (with_reducible repeat (first | apply Kd.R_alloc | apply Kd.R_drewN | apply Kd.R_drew)); exact HO365.out) hb)
                      have n5_ := Aside0.mk (blk_below (g := gb344) (o := .cells #[.string t340, .int .i64 t341, .int .i64 t342] 48 (0, 0)) (by (with_reducible repeat (first | refine blk_drewN ?_ _ | refine blk_drew ?_ | refine blk_alloc ?_ _)); exact BK344.out) hb)
                      have n6_ := Aside0.mk (below_step (by repeat (first | (with_reducible first | exact HB.out | apply below_alloc | apply pw_below_drewN | apply below_drew1 | refine below_set ?_ GE344.out) | exact HB.out)) hb)
                      clear HO339
                      clear HO352
                      clear HO356
                      clear HO362
                      clear HO365
                      clear BK344
                      clear HB
                      have HO339 := n0_
                      have HO352 := n1_
                      have HO356 := n2_
                      have HO362 := n3_
                      have HO365 := n4_
                      have BK344 := n5_
                      have HB := n6_
                      clear n0_ n1_ n2_ n3_ n4_ n5_ n6_
                      (try clear hb)
                      (try clear hb2)
                      (try clear hk)
                      (try clear hi)
                      refine hK.out _ _ ⟨(blk_cell BK344.out 0).trans rfl, (blk_cell BK344.out 1).trans rfl, (blk_cell BK344.out 2).trans rfl, HS3_, HS4_, HS5_, HS6_, HS7_⟩ (fun hHeld => ?_)
                      clear hK K
                      refine norm_ (a' := ?_) ?_ ?_
                      rotate_left
                      · show Act.put _ (some 72) _ = _
                        simp only [Act.put, List.setIfInBounds_toArray, List.set_cons_zero, List.set_cons_succ, i64_w, i32_w]
                        rfl
                      refine pure_ (i := 42) (N := some 73) (v := ?_) (a' := ?_) #[true, true, true, true, true, true, true, true, true, true, true, true, true, true, true, true, true, true, true, true, true, true, true, true, true, true, true, true, true, true, true, true, true, true, true, true, true, true, true, true, true, true, true, false, false, false, false, false, false, false, false, false, false, false, false, false] rfl rfl (any_of HT_.out (by kernel_rfl)) (fun _ _ _ h => h) (Or.inl ⟨by rfl, ?_⟩) ?_ ?_
                      rotate_left
                      · intro w'
                        go_simp
                        with_reducible rfl
                      rotate_left
                      · simp only [Act.put, List.setIfInBounds_toArray, List.set_cons_zero, List.set_cons_succ, i64_w, i32_w]
                        rfl
                      refine pure_ (i := 43) (N := some 74) (v := ?_) (a' := ?_) #[true, true, true, true, true, true, true, true, true, true, true, true, true, true, true, true, true, true, true, true, true, true, true, true, true, true, true, true, true, true, true, true, true, true, true, true, true, true, true, true, true, true, true, true, false, false, false, false, false, false, false, false, false, false, false, false] rfl rfl (any_of HT_.out (by kernel_rfl)) (fun _ _ _ h => h) (Or.inl ⟨by rfl, ?_⟩) ?_ ?_
                      rotate_left
                      · intro w'
                        go_simp
                        with_reducible rfl
                      rotate_left
                      · simp only [Act.put, List.setIfInBounds_toArray, List.set_cons_zero, List.set_cons_succ, i64_w, i32_w]
                        rfl
                      refine pure_ (i := 44) (N := some 75) (v := ?_) (a' := ?_) #[true, true, true, true, true, true, true, true, true, true, true, true, true, true, true, true, true, true, true, true, true, true, true, true, true, true, true, true, true, true, true, true, true, true, true, true, true, true, true, true, true, true, true, true, true, false, false, false, false, false, false, false, false, false, false, false] rfl rfl (any_of HT_.out (by kernel_rfl)) (fun _ _ _ h => h) (Or.inl ⟨by rfl, ?_⟩) ?_ ?_
                      rotate_left
                      · intro w'
                        go_simp
                        with_reducible rfl
                      rotate_left
                      · simp only [Act.put, List.setIfInBounds_toArray, List.set_cons_zero, List.set_cons_succ, i64_w, i32_w]
                        rfl
                      refine pure_ (i := 45) (N := some 76) (v := ?_) (a' := ?_) #[true, true, true, true, true, true, true, true, true, true, true, true, true, true, true, true, true, true, true, true, true, true, true, true, true, true, true, true, true, true, true, true, true, true, true, true, true, true, true, true, true, true, true, true, true, true, false, false, false, false, false, false, false, false, false, false] rfl rfl (any_of HT_.out (by kernel_rfl)) (fun _ _ _ h => h) (Or.inl ⟨by rfl, ?_⟩) ?_ ?_
                      rotate_left
                      · intro w'
                        go_simp
                        with_reducible rfl
                      rotate_left
                      · simp only [Act.put, List.setIfInBounds_toArray, List.set_cons_zero, List.set_cons_succ, i64_w, i32_w]
                        rfl
                      refine pure_ (i := 46) (N := some 77) (v := ?_) (a' := ?_) #[true, true, true, true, true, true, true, true, true, true, true, true, true, true, true, true, true, true, true, true, true, true, true, true, true, true, true, true, true, true, true, true, true, true, true, true, true, true, true, true, true, true, true, true, true, true, true, false, false, false, false, false, false, false, false, false] rfl rfl (any_of HT_.out (by kernel_rfl)) (fun _ _ _ h => h) (Or.inl ⟨by rfl, ?_⟩) ?_ ?_
                      rotate_left
                      · intro w'
                        go_simp
                        with_reducible rfl
                      rotate_left
                      · simp only [Act.put, List.setIfInBounds_toArray, List.set_cons_zero, List.set_cons_succ, i64_w, i32_w]
                        rfl
                      refine pure_ (i := 47) (N := some 78) (v := ?_) (a' := ?_) #[true, true, true, true, true, true, true, true, true, true, true, true, true, true, true, true, true, true, true, true, true, true, true, true, true, true, true, true, true, true, true, true, true, true, true, true, true, true, true, true, true, true, true, true, true, true, true, true, false, false, false, false, false, false, false, false] rfl rfl (any_of HT_.out (by kernel_rfl)) (fun _ _ _ h => h) (Or.inl ⟨by rfl, ?_⟩) ?_ ?_
                      rotate_left
                      · intro w'
                        go_simp
                        with_reducible rfl
                      rotate_left
                      · simp only [Act.put, List.setIfInBounds_toArray, List.set_cons_zero, List.set_cons_succ, i64_w, i32_w]
                        rfl
                      refine pure_ (i := 48) (N := some 79) (v := ?_) (a' := ?_) #[true, true, true, true, true, true, true, true, true, true, true, true, true, true, true, true, true, true, true, true, true, true, true, true, true, true, true, true, true, true, true, true, true, true, true, true, true, true, true, true, true, true, true, true, true, true, true, true, true, false, false, false, false, false, false, false] rfl rfl (any_of HT_.out (by kernel_rfl)) (fun _ _ _ h => h) (Or.inl ⟨by rfl, ?_⟩) ?_ ?_
                      rotate_left
                      · intro w'
                        go_simp
                        with_reducible rfl
                      rotate_left
                      · simp only [Act.put, List.setIfInBounds_toArray, List.set_cons_zero, List.set_cons_succ, i64_w, i32_w]
                        rfl
                      refine pure_ (i := 49) (N := some 80) (v := ?_) (a' := ?_) #[true, true, true, true, true, true, true, true, true, true, true, true, true, true, true, true, true, true, true, true, true, true, true, true, true, true, true, true, true, true, true, true, true, true, true, true, true, true, true, true, true, true, true, true, true, true, true, true, true, true, false, false, false, false, false, false] rfl rfl (any_of HT_.out (by kernel_rfl)) (fun _ _ _ h => h) (Or.inl ⟨by rfl, ?_⟩) ?_ ?_
                      rotate_left
                      · intro w'
                        go_simp
                        with_reducible rfl
                      rotate_left
                      · simp only [Act.put, List.setIfInBounds_toArray, List.set_cons_zero, List.set_cons_succ, i64_w, i32_w]
                        rfl
                      refine pure_ (i := 50) (N := some 81) (v := ?_) (a' := ?_) #[true, true, true, true, true, true, true, true, true, true, true, true, true, true, true, true, true, true, true, true, true, true, true, true, true, true, true, true, true, true, true, true, true, true, true, true, true, true, true, true, true, true, true, true, true, true, true, true, true, true, true, false, false, false, false, false] rfl rfl (any_of HT_.out (by kernel_rfl)) (fun _ _ _ h => h) (Or.inl ⟨by rfl, ?_⟩) ?_ ?_
                      rotate_left
                      · intro w'
                        go_simp
                        with_reducible rfl
                      rotate_left
                      · simp only [Act.put, List.setIfInBounds_toArray, List.set_cons_zero, List.set_cons_succ, i64_w, i32_w]
                        rfl
                      refine pure_ (i := 51) (N := some 82) (v := ?_) (a' := ?_) #[true, true, true, true, true, true, true, true, true, true, true, true, true, true, true, true, true, true, true, true, true, true, true, true, true, true, true, true, true, true, true, true, true, true, true, true, true, true, true, true, true, true, true, true, true, true, true, true, true, true, true, true, false, false, false, false] rfl rfl (any_of HT_.out (by kernel_rfl)) (fun _ _ _ h => h) (Or.inl ⟨by rfl, ?_⟩) ?_ ?_
                      rotate_left
                      · intro w'
                        go_simp
                        with_reducible rfl
                      rotate_left
                      · simp only [Act.put, List.setIfInBounds_toArray, List.set_cons_zero, List.set_cons_succ, i64_w, i32_w]
                        rfl
                      refine pure_ (i := 52) (N := some 83) (v := ?_) (a' := ?_) #[true, true, true, true, true, true, true, true, true, true, true, true, true, true, true, true, true, true, true, true, true, true, true, true, true, true, true, true, true, true, true, true, true, true, true, true, true, true, true, true, true, true, true, true, true, true, true, true, true, true, true, true, true, false, false, false] rfl rfl (any_of HT_.out (by kernel_rfl)) (fun _ _ _ h => h) (Or.inl ⟨by rfl, ?_⟩) ?_ ?_
                      rotate_left
                      · intro w'
                        go_simp
                        with_reducible rfl
                      rotate_left
                      · simp only [Act.put, List.setIfInBounds_toArray, List.set_cons_zero, List.set_cons_succ, i64_w, i32_w]
                        rfl
                      refine one_ (i := 53) (N := some 84) #[true, true, true, true, true, true, true, true, true, true, true, true, true, true, true, true, true, true, true, true, true, true, true, true, true, true, true, true, true, true, true, true, true, true, true, true, true, true, true, true, true, true, true, true, true, true, true, true, true, true, true, true, true, true, false, false] rfl rfl (one_of HT_.out (by kernel_rfl)) (by decide) (fun K hK => ?_)
                      refine goes_ Tryd.func51 (by kernel_rfl) rfl #[.slice (some ad372) t363.length co46, .slice (some ad372) t363.length co46] (by rfl) rfl rfl (by (try simp only [List.map_toArray, List.map_cons, List.map_nil]); first | done | rfl | (simp only [List.length_drop, List.length_take]; rfl)) ?_
                      with_reducible refine (element_Same.calls k _ _ t363 _ _ t363 t376 _ ?side1 ?side2 ?side3 ?side4 A21.out).mono ?_
                      (case side1 => repeat (first | exact (Kd.R_reads' HO365.out).2.2 | (with_reducible refine Kd.C_alloc ?_ _) | (with_reducible refine Kd.C_drewN ?_ _) | (with_reducible refine Kd.C_drew ?_)))
                      (case side2 => exact (Kd.R_reads' HO365.out).2.1)
                      (case side3 => repeat (first | exact (Kd.R_reads' HO365.out).2.2 | (with_reducible refine Kd.C_alloc ?_ _) | (with_reducible refine Kd.C_drewN ?_ _) | (with_reducible refine Kd.C_drew ?_)))
                      (case side4 => exact (Kd.R_reads' HO365.out).2.1)
                      rintro e w' ⟨rfl, ⟨nd, rfl⟩⟩
                      refine ⟨_, rfl, ?_⟩
                      refine hK.out _ _ ⟨(blk_cell BK344.out 0).trans rfl, (blk_cell BK344.out 1).trans rfl, (blk_cell BK344.out 2).trans rfl, hHeld.2.2.2.1, hHeld.2.2.2.2.1, hHeld.2.2.2.2.2.1, hHeld.2.2.2.2.2.2.1, hHeld.2.2.2.2.2.2.2⟩ (fun hHeld => ?_)
                      clear hK K
                      refine norm_ (a' := ?_) ?_ ?_
                      rotate_left
                      · show Act.put _ (some 84) _ = _
                        simp only [Act.put, List.setIfInBounds_toArray, List.set_cons_zero, List.set_cons_succ, i64_w, i32_w]
                        rfl
                      refine pure_ (i := 54) (N := some 85) (v := ?_) (a' := ?_) #[true, true, true, true, true, true, true, true, true, true, true, true, true, true, true, true, true, true, true, true, true, true, true, true, true, true, true, true, true, true, true, true, true, true, true, true, true, true, true, true, true, true, true, true, true, true, true, true, true, true, true, true, true, true, true, false] rfl rfl (any_of HT_.out (by kernel_rfl)) (fun _ _ _ h => h) (Or.inl ⟨by rfl, ?_⟩) ?_ ?_
                      rotate_left
                      · intro w'
                        go_simp
                        with_reducible rfl
                      rotate_left
                      · simp only [Act.put, List.setIfInBounds_toArray, List.set_cons_zero, List.set_cons_succ, i64_w, i32_w]
                        rfl
                      refine pure_ (i := 55) (N := some 0) (v := ?_) (a' := ?_) #[true, true, true, true, true, true, true, true, true, true, true, true, true, true, true, true, true, true, true, true, true, true, true, true, true, true, true, true, true, true, true, true, true, true, true, true, true, true, true, true, true, true, true, true, true, true, true, true, true, true, true, true, true, true, true, true] rfl rfl (any_of HT_.out (by kernel_rfl)) (fun _ _ _ h => h) (Or.inl ⟨by rfl, ?_⟩) ?_ ?_
                      rotate_left
                      · intro w'
                        go_simp
                        with_reducible rfl
                      rotate_left
                      · simp only [Act.put, List.setIfInBounds_toArray, List.set_cons_zero, List.set_cons_succ, i64_w, i32_w]
                        rfl
                      refine done_ (done_of HT_.out (by kernel_rfl)) ?_
                      try go_wp2
                      go_ret
                      exact ⟨by first | rfl | (simp [errW_none, errW_some] <;> rfl) | (simp [*, errW_none, errW_some] <;> rfl), by repeat (first | (with_reducible first | exact HB.out | apply below_alloc | apply pw_below_drewN | apply below_drew1 | refine below_set ?_ GE344.out) | exact HB.out)⟩
                    · rw [if_neg c20] at H
                      exact absurd ((Option.some.inj H).trans HT.out) (by decide)
                  · rw [if_neg c18] at H
                    exact absurd H (by simp)
                · rw [if_neg c17] at H
                  exact absurd ((Option.some.inj H).trans HT.out) (by decide)
              · rw [if_neg c16] at H
                exact absurd ((Option.some.inj H).trans HT.out) (by decide)
            · rw [if_neg c15] at H
              exact absurd H (by simp)
          · rw [if_neg c14] at H
            exact absurd ((Option.some.inj H).trans HT.out) (by decide)
        · rw [if_neg c13] at H
          exact absurd ((Option.some.inj H).trans HT.out) (by decide)
      · rw [if_neg c10] at H
        exact absurd ((Option.some.inj H).trans HT.out) (by decide)
    · rw [if_neg c8] at H
      exact absurd ((Option.some.inj H).trans HT.out) (by decide)
  · rw [if_neg c7] at H
    exact absurd ((Option.some.inj H).trans HT.out) (by decide)
end Go.Proofs.YtmocphafkimdpaaDoor.P
