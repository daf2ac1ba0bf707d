/- A part of the proof of MoneySpreads's card: 'MoneySpreads' answers true for every input (the conditions: those of the given statement alone). Merged by a program (wip/merge.py) out of: CMoneySpreads. -/
import Derived.Test.YtmocphafkimdpaaDoorCards
import Derived.Test.YtmocphafkimdpaaDoorTie
import Derived.Test.YtmocphafkimdpaaDoorBMoneyj
import Derived.Test.YtmocphafkimdpaaDoorBMoneya
import Derived.Test.YtmocphafkimdpaaDoorGJoin
import Derived.Test.YtmocphafkimdpaaDoorMMoneySpreadse
import Derived.WalkKit
import Derived.ProofKit
import Derived.OpenShut
import Derived.ShutString
import Derived.ChangeOld
import Derived.ChangeMaps5
import Derived.Below
import Derived.Carry
import Derived.Deep.DeepHandedRow
import Derived.Lib.LaidTab
import Derived.Stop.LaidErr

/-
 'MoneySpreads' answers true for every input, and each argument reads afterwards as it read before: the row and its tied card.
 Conditions: those of the given statement alone: the listed package-level variables start as the program's text lays them (the card ties them). Written by a program (wip/mkrow.py); Lean checks it.
-/
namespace Go.Proofs.YtmocphafkimdpaaDoor.moneySpreads
open Go.ChangeShapes Go.WideShapes Go.ChangeAt Go.RowKit Go.Proofs.YtmocphafkimdpaaDoor.P Go.Proofs.YtmocphafkimdpaaDoorW.PrintWords
open Go.ChangeMaps (open_string shut_string)
set_option linter.unusedVariables false

theorem own : ownKnob Tryd.prog.godebug = none := by kernel_rfl
theorem laidOut : laidOutB Tryd.prog = true := by kernel_rfl
theorem gTab : Tryd.prog.globalNamed "internal/strconv.uint64pow10" = some 5 := by kernel_rfl
theorem gTabType : (Tryd.prog.globals[5]?).map (·.type) = some 196 := by kernel_rfl
theorem cells196 : Tryd.prog.cellsOf 196 = 20 := by kernel_rfl
theorem cells104 : Tryd.prog.cellsOf 104 = 1 := by kernel_rfl

/-- What the row's list gives: the powers of ten. -/
theorem table {W : World} (h : laidMetH Tryd.prog Rows.moneySpreadsRow.laid W) : GTab W := by
 have h1 : laidMet Tryd.prog Rows.moneySpreadsRow.laid W := h
 exact Lib.tabIs_of_head (rest := []) gTab gTabType Tryd.underlying196 Tryd.underlying104 cells104 cells196 (laidMet.tail (laidMet.tail h1))

set_option maxRecDepth 20000 in
/-- What the walk gives, for every argument and every world that holds the table. -/
theorem contract (H : Type) (enc : TypeId × Value → H) (W : World) (base : Nat) (args : Array Value) (ds gs : List (DataW H)) (before : List MemPlace)
  (hval : ∀ (j : Nat) t v, Tryd.f16.params[j]? = some t → args[j]? = some v → Value.okWide Tryd.prog W .any base t v)
  (hW : DataW.Whole enc Tryd.prog Tryd.f16.params.toList Rows.moneySpreadsSpec.vars false W args.toList ds gs before) (hL : laidMetH Tryd.prog Rows.moneySpreadsRow.laid W) :
  Calls Tryd.prog 16 args W fun e W' => ∃ v, e = .returned v ∧ Rows.moneySpreadsSpec.post enc Tryd.prog Tryd.f16 false true false false W args v W' := by
 have hW' := hW
 obtain ⟨p, q, hA0, hV, rfl, hfz, hnd⟩ := hW
 have hA : DataW.TrodAll enc Tryd.prog W 0 (fun _ => true) true Tryd.f16.params.toList args.toList ds p := hA0
 rw [Tryd.params16] at hA hval
 obtain ⟨v0, vs0, d0, ds0, p0, q0, hargs, rfl, rfl, h0, r0⟩ := trodAll_cons hA
 obtain ⟨v1, vs1, d1, ds1, p1, q1, rfl, rfl, rfl, h1, r1⟩ := trodAll_cons r0
 obtain ⟨rfl, rfl, rfl⟩ := trodAll_nil r1
 obtain rfl : args = #[v0, v1] := by cases args; simp_all
 obtain ⟨rfl, rfl⟩ := trodVars_none hV
 obtain ⟨a0, rfl, rfl, rfl, g0⟩ := open_int Tryd.underlying2 (hval 0 2 v0 rfl rfl) h0
 have k1 := h1
 have lt1 := trod_below h1
 obtain ⟨A1, c1, l1, rfl, hc1, hr1, g1⟩ := open_row Tryd.underlying56 o56 (hval 1 56 v1 rfl rfl) h1
 clear hA0
 have hG : GTab W := table hL
 obtain ⟨k, h⟩ := moneySpreads_true a0 l1 g0 g1
 refine (stipendlaw01_MoneySpreads.calls k a0 A1 c1 l1 true W hr1 hc1 h hG).mono fun e W' ⟨he, bel⟩ => ?_
 subst he
 exact ⟨_, rfl, _, _, _, [], _, [], hW', trodAll_mk1 (shut_bool Tryd.underlying4 _), (trodAll_cons_mk (shut_int Tryd.underlying2 g0) (trodAll_cons_mk (Below.trod laidOut (by kernel_rfl) (of_decide_eq_true (by kernel_rfl)) k1 bel lt1) trodAll_mk0)), rfl, bel.frame _, fun h => by cases h⟩

/-- A world for the witness: the settled one, the tables holding what their initialisers lay. -/
noncomputable def laidWorld (os : Os) : World :=
 { World.holding Tryd.prog os ⟨#[], #[], []⟩ with heap := ((((World.holding Tryd.prog os ⟨#[], #[], []⟩).heap.modify 5 fun
   | .cells _ t frozen => .cells #[.int .u64 1, .int .u64 10, .int .u64 100, .int .u64 1000, .int .u64 10000, .int .u64 100000, .int .u64 1000000, .int .u64 10000000, .int .u64 100000000, .int .u64 1000000000, .int .u64 10000000000, .int .u64 100000000000, .int .u64 1000000000000, .int .u64 10000000000000, .int .u64 100000000000000, .int .u64 1000000000000000, .int .u64 10000000000000000, .int .u64 100000000000000000, .int .u64 1000000000000000000, .int .u64 10000000000000000000] t frozen
   | o => o).modify 6 fun
   | .cells _ t frozen => .cells #[.int .u8 0, .int .u8 1, .int .u8 28, .int .u8 2, .int .u8 29, .int .u8 14, .int .u8 24, .int .u8 3, .int .u8 30, .int .u8 22, .int .u8 20, .int .u8 15, .int .u8 25, .int .u8 17, .int .u8 4, .int .u8 8, .int .u8 31, .int .u8 27, .int .u8 13, .int .u8 23, .int .u8 21, .int .u8 19, .int .u8 16, .int .u8 7, .int .u8 26, .int .u8 12, .int .u8 18, .int .u8 6, .int .u8 11, .int .u8 5, .int .u8 10, .int .u8 9] t frozen
   | o => o).modify 7 fun
   | .cells _ t frozen => .cells #[.int .u8 0, .int .u8 1, .int .u8 56, .int .u8 2, .int .u8 57, .int .u8 49, .int .u8 28, .int .u8 3, .int .u8 61, .int .u8 58, .int .u8 42, .int .u8 50, .int .u8 38, .int .u8 29, .int .u8 17, .int .u8 4, .int .u8 62, .int .u8 47, .int .u8 59, .int .u8 36, .int .u8 45, .int .u8 43, .int .u8 51, .int .u8 22, .int .u8 53, .int .u8 39, .int .u8 33, .int .u8 30, .int .u8 24, .int .u8 18, .int .u8 12, .int .u8 5, .int .u8 63, .int .u8 55, .int .u8 48, .int .u8 27, .int .u8 60, .int .u8 41, .int .u8 37, .int .u8 16, .int .u8 46, .int .u8 35, .int .u8 44, .int .u8 21, .int .u8 52, .int .u8 32, .int .u8 23, .int .u8 11, .int .u8 54, .int .u8 26, .int .u8 40, .int .u8 15, .int .u8 34, .int .u8 20, .int .u8 31, .int .u8 10, .int .u8 25, .int .u8 14, .int .u8 19, .int .u8 9, .int .u8 13, .int .u8 8, .int .u8 7, .int .u8 6] t frozen
   | o => o) }
theorem laid_met (os : Os) : laidMet Tryd.prog Rows.moneySpreadsRow.laid ((laidWorld os).forCall (fun _ _ => 0) ⟨#[], #[Value.int .i64 0, Value.slice none 0 0], []⟩).memory :=
 laidMet_of_run' 8 (by kernel_rfl) (by kernel_rfl)
theorem reads (os : Os) {H : Type} (enc : TypeId × Value → H) : ∃ places, DataW.whole enc Tryd.prog ((laidWorld os).forCall (fun _ _ => 0) ⟨#[], #[Value.int .i64 0, Value.slice none 0 0], []⟩).memory Tryd.f16.params.toList Rows.moneySpreadsSpec.vars false (#[Value.int .i64 0, Value.slice none 0 0] : Array Value).toList 8 = some ([.lit (.int .i64 0), .nil], [], places) :=
 ⟨[], by kernel_rfl⟩

set_option maxRecDepth 100000 in
theorem lifted (os : Os) (started : os.Started) (H : Type) (enc : TypeId × Value → H) (F : Stop.Interp) :
  ReturnsInHanded {} Tryd.checked os 16 .any ((OpenSpec.ofChange Rows.moneySpreadsSpec).preRow enc Tryd.prog Tryd.f16 Rows.moneySpreadsRow.domain false Rows.moneySpreadsRow.laid) (((OpenSpec.ofChange Rows.moneySpreadsSpec).at F).post enc Tryd.prog Tryd.f16 false true false false) := by
 obtain ⟨places, hx⟩ := reads os enc
 refine returnsInHanded_of_row (C := Tryd.checked) (s := OpenSpec.ofChange Rows.moneySpreadsSpec) own started (by kernel_rfl) Tryd.func16
  (witness_row_at (enc := enc) (C := Tryd.checked) false (laidWorld os) #[Value.int .i64 0, Value.slice none 0 0] rfl (by kernel_rfl) (by kernel_rfl) (by kernel_rfl)
   (OpenSpec.preRow_of_cond 8 hx (by kernel_rfl) (fun k hk => by cases hk) (by kernel_rfl) (laid_met os))) ?_
 intro W base args ds gs before hval hW _ _ _ hL _ _
 exact contract H enc W base args ds gs before hval hW hL

set_option maxRecDepth 100000 in
theorem closed : joinedFacts Tryd.prog 16 Tryd.f16 (OpenSpec.ofChange Rows.moneySpreadsSpec).bare Rows.moneySpreadsRow = true :=
 J.joined_mk (by kernel_rfl) J.laidOut J.mapsRowed (by kernel_rfl) (by kernel_rfl) (by kernel_rfl) J.stops (by kernel_rfl) J.stopKnobs (by kernel_rfl) (by kernel_rfl) (by kernel_rfl) (by kernel_rfl) (by kernel_rfl) (by kernel_rfl) (by kernel_rfl)
  (by kernel_rfl) (by kernel_rfl) (by kernel_rfl) (by kernel_rfl) (by kernel_rfl) (by kernel_rfl) J.plainKeys (by kernel_rfl) J.stopsHeard J.mayEnter J.lifted J.make (by kernel_rfl) (by kernel_rfl) (by kernel_rfl) (by kernel_rfl)

theorem said : Rows.MoneySpreadsSaid :=
 OpenClaim.holds_of_cond 16 Tryd.f16 rfl rfl rfl rfl rfl rfl rfl ⟨rfl, rfl, rfl, rfl, rfl⟩ rfl rfl rfl rfl rfl (by kernel_rfl) Tryd.func16 closed
  (of_decide_eq_true (by kernel_rfl)) (by unfold Func.isWrapper; first | (rw [if_pos (by decide +kernel)]; kernel_rfl) | (rw [if_neg (by decide +kernel)]; exact ⟨rfl, rfl⟩))
  (fun os started H enc _ F => by rw [OpenClaim.pre_eq_preRow]; exact lifted os started H enc F)

/-- No parameter wants a stand-in; the program's own looks are off: what the card asks. -/
theorem plain (f : FuncId) (fn : Func) (hf : Tryd.pinned.checked.prog.funcNamed "stipend/stipendlaw01.MoneySpreads" = some f) (hfn : Tryd.pinned.checked.prog.funcs[f]? = some fn) :
  false = Tryd.pinned.checked.prog.looks [] ∧ ∀ (j : Nat) t, fn.params[j]? = some t → Tryd.pinned.checked.prog.wantsStandIn t = false := by
 obtain rfl : f = 16 := Option.some.inj ((show Tryd.prog.funcNamed "stipend/stipendlaw01.MoneySpreads" = some 16 by kernel_rfl).symm.trans hf) |>.symm
 obtain rfl : fn = Tryd.f16 := (Option.some.inj (Tryd.func16.symm.trans hfn)).symm
 refine ⟨by kernel_rfl, fun j t ht => ?_⟩
 rw [Tryd.params16] at ht
 have hall : ([2, 56] : List TypeId).all (fun t => Tryd.prog.wantsStandIn t == false) = true := by kernel_rfl
 have hm : t ∈ ([2, 56] : List TypeId) := Array.mem_toList_iff.2 (Array.mem_of_getElem? ht)
 exact eq_of_beq (List.all_eq_true.1 hall t hm)

end Go.Proofs.YtmocphafkimdpaaDoor.moneySpreads
