/- A part of the proof of ShareLines's card: 'ShareLines' answers true for every input (the conditions: those of the given statement alone). Merged by a program (wip/merge.py) out of: CShareLines. -/
import Derived.Test.YtmocphafkimdpaaDoorCards
import Derived.Test.YtmocphafkimdpaaDoorTie
import Derived.Test.YtmocphafkimdpaaDoorMShareLinesa
import Derived.Test.YtmocphafkimdpaaDoorGJoin
import Derived.Test.YtmocphafkimdpaaDoorMShareLinesl
import Derived.WalkKit
import Derived.ProofKit
import Derived.OpenShut
import Derived.ShutString
import Derived.ChangeOld
import Derived.ChangeMaps5
import Derived.Below
import Derived.Carry
import Derived.Deep.DeepHandedRow
import Derived.Lib.LaidTab
import Derived.Stop.LaidErr
import Derived.Test.YtmocphafkimdpaaDoorMShareLinese

/-
 'ShareLines' answers true for every input, and each argument reads afterwards as it read before: the row and its tied card.
 Conditions: those of the given statement alone: the listed package-level variables start as the program's text lays them (the card ties them). Written by a program (wip/mkrow.py); Lean checks it.
-/
namespace Go.Proofs.YtmocphafkimdpaaDoor.shareLines
open Go.ChangeShapes Go.WideShapes Go.ChangeAt Go.RowKit Go.Proofs.YtmocphafkimdpaaDoor.P Go.Proofs.YtmocphafkimdpaaDoorW.PrintWords
open Go.ChangeMaps (open_string shut_string)
set_option linter.unusedVariables false

theorem own : ownKnob Tryd.prog.godebug = none := by kernel_rfl
theorem laidOut : laidOutB Tryd.prog = true := by kernel_rfl
theorem gTab : Tryd.prog.globalNamed "internal/strconv.uint64pow10" = some 5 := by kernel_rfl
theorem gTabType : (Tryd.prog.globals[5]?).map (·.type) = some 196 := by kernel_rfl
theorem cells196 : Tryd.prog.cellsOf 196 = 20 := by kernel_rfl
theorem cells104 : Tryd.prog.cellsOf 104 = 1 := by kernel_rfl

/-- What the row's list gives: the powers of ten. -/
theorem table {W : World} (h : laidMetH Tryd.prog Rows.shareLinesRow.laid W) : GTab W := by
 have h1 : laidMet Tryd.prog Rows.shareLinesRow.laid W := h
 exact Lib.tabIs_of_head (rest := []) gTab gTabType Tryd.underlying196 Tryd.underlying104 cells104 cells196 (laidMet.tail (laidMet.tail h1))

set_option maxRecDepth 20000 in
/-- What the walk gives, for every argument and every world that holds the table. -/
theorem contract (H : Type) (enc : TypeId × Value → H) (W : World) (base : Nat) (args : Array Value) (ds gs : List (DataW H)) (before : List MemPlace)
  (hval : ∀ (j : Nat) t v, Tryd.f12.params[j]? = some t → args[j]? = some v → Value.okWide Tryd.prog W .any base t v)
  (hW : DataW.Whole enc Tryd.prog Tryd.f12.params.toList Rows.shareLinesSpec.vars false W args.toList ds gs before) (hL : laidMetH Tryd.prog Rows.shareLinesRow.laid W) (hsz0 : (DataW.weightsEach Tryd.prog (Tryd.f12.params.toList ++ (OpenSpec.ofChange Rows.shareLinesSpec).bare.plain.varTypes Tryd.prog) (ds ++ gs)).all (· ≤ reachBytes) = true) :
  Calls Tryd.prog 12 args W fun e W' => ∃ v, e = .returned v ∧ Rows.shareLinesSpec.post enc Tryd.prog Tryd.f12 false true false false W args v W' := by
 have hW' := hW
 obtain ⟨p, q, hA0, hV, rfl, hfz, hnd⟩ := hW
 have hA : DataW.TrodAll enc Tryd.prog W 0 (fun _ => true) true Tryd.f12.params.toList args.toList ds p := hA0
 rw [Tryd.params12] at hA hval
 obtain ⟨v0, vs0, d0, ds0, p0, q0, hargs, rfl, rfl, h0, r0⟩ := trodAll_cons hA
 obtain ⟨v1, vs1, d1, ds1, p1, q1, rfl, rfl, rfl, h1, r1⟩ := trodAll_cons r0
 obtain ⟨rfl, rfl, rfl⟩ := trodAll_nil r1
 obtain rfl : args = #[v0, v1] := by cases args; simp_all
 obtain ⟨rfl, rfl⟩ := trodVars_none hV
 have hsz : ∀ (j : Nat) t d, (Tryd.f12.params.toList ++ (OpenSpec.ofChange Rows.shareLinesSpec).bare.plain.varTypes Tryd.prog)[j]? = some t → ([d0, d1] ++ ([] : List (DataW H)))[j]? = some d → ∀ z ∈ d.weights Tryd.prog t, z ≤ reachBytes := fun j t d ht hd z hz => by
  have := List.all_eq_true.1 hsz0 z (DataW.weights_mem_each ht hd z hz)
  simpa using this
 have k0 := h0
 have lt0 := trod_below h0
 obtain ⟨cs0, rfl, _⟩ := okWide_struct Tryd.underlying86 (hval 0 86 v0 rfl rfl)
 obtain ⟨x0, kx0, g0⟩ : ∃ x, k86.K W x cs0.toList ∧ ok86w x := by obtain ⟨fuel, hf⟩ := h0; exact o86w H enc W _ _ _ fuel _ _ hf (hsz 0 86 d0 rfl rfl)
 obtain ⟨A0_0, c0_0, A0_1, c0_1, A0_2, c0_2, ecs0, hc0_0, hr0_0, hc0_1, hr0_1, hc0_2, hr0_2⟩ := k86_open kx0
 obtain ⟨cs0⟩ := cs0
 simp only at ecs0
 subst ecs0
 have k1 := h1
 have lt1 := trod_below h1
 obtain ⟨A1, c1, l1, rfl, hc1, hr1, g1⟩ := open_row Tryd.underlying23 o23 (hval 1 23 v1 rfl rfl) h1
 clear hA0
 have hG : GTab W := table hL
 obtain ⟨k, h⟩ := shareLines_true x0.1 x0.2.1 x0.2.2.1 x0.2.2.2.1 x0.2.2.2.2 l1 g0 g1
 refine (stipendlaw16_ShareLines.calls k A0_0 c0_0 x0.1 A0_1 c0_1 x0.2.1 A0_2 c0_2 x0.2.2.1 x0.2.2.2.1 x0.2.2.2.2 A1 c1 l1 true W hr0_0 hc0_0 hr0_1 hc0_1 hr0_2 hc0_2 hr1 hc1 h rfl hG).mono fun e W' ⟨he, bel⟩ => ?_
 subst he
 exact ⟨_, rfl, _, _, _, [], _, [], hW', trodAll_mk1 (shut_bool Tryd.underlying4 _), (trodAll_cons_mk (Below.trod laidOut (by kernel_rfl) (of_decide_eq_true (by kernel_rfl)) k0 bel lt0) (trodAll_cons_mk (Below.trod laidOut (by kernel_rfl) (of_decide_eq_true (by kernel_rfl)) k1 bel lt1) trodAll_mk0)), rfl, bel.frame _, fun h => by cases h⟩

/-- A world for the witness: the settled one, the tables holding what their initialisers lay. -/
noncomputable def laidWorld (os : Os) : World :=
 { World.holding Tryd.prog os ⟨#[], #[], []⟩ with heap := ((((World.holding Tryd.prog os ⟨#[], #[], []⟩).heap.modify 5 fun
   | .cells _ t frozen => .cells #[.int .u64 1, .int .u64 10, .int .u64 100, .int .u64 1000, .int .u64 10000, .int .u64 100000, .int .u64 1000000, .int .u64 10000000, .int .u64 100000000, .int .u64 1000000000, .int .u64 10000000000, .int .u64 100000000000, .int .u64 1000000000000, .int .u64 10000000000000, .int .u64 100000000000000, .int .u64 1000000000000000, .int .u64 10000000000000000, .int .u64 100000000000000000, .int .u64 1000000000000000000, .int .u64 10000000000000000000] t frozen
   | o => o).modify 6 fun
   | .cells _ t frozen => .cells #[.int .u8 0, .int .u8 1, .int .u8 28, .int .u8 2, .int .u8 29, .int .u8 14, .int .u8 24, .int .u8 3, .int .u8 30, .int .u8 22, .int .u8 20, .int .u8 15, .int .u8 25, .int .u8 17, .int .u8 4, .int .u8 8, .int .u8 31, .int .u8 27, .int .u8 13, .int .u8 23, .int .u8 21, .int .u8 19, .int .u8 16, .int .u8 7, .int .u8 26, .int .u8 12, .int .u8 18, .int .u8 6, .int .u8 11, .int .u8 5, .int .u8 10, .int .u8 9] t frozen
   | o => o).modify 7 fun
   | .cells _ t frozen => .cells #[.int .u8 0, .int .u8 1, .int .u8 56, .int .u8 2, .int .u8 57, .int .u8 49, .int .u8 28, .int .u8 3, .int .u8 61, .int .u8 58, .int .u8 42, .int .u8 50, .int .u8 38, .int .u8 29, .int .u8 17, .int .u8 4, .int .u8 62, .int .u8 47, .int .u8 59, .int .u8 36, .int .u8 45, .int .u8 43, .int .u8 51, .int .u8 22, .int .u8 53, .int .u8 39, .int .u8 33, .int .u8 30, .int .u8 24, .int .u8 18, .int .u8 12, .int .u8 5, .int .u8 63, .int .u8 55, .int .u8 48, .int .u8 27, .int .u8 60, .int .u8 41, .int .u8 37, .int .u8 16, .int .u8 46, .int .u8 35, .int .u8 44, .int .u8 21, .int .u8 52, .int .u8 32, .int .u8 23, .int .u8 11, .int .u8 54, .int .u8 26, .int .u8 40, .int .u8 15, .int .u8 34, .int .u8 20, .int .u8 31, .int .u8 10, .int .u8 25, .int .u8 14, .int .u8 19, .int .u8 9, .int .u8 13, .int .u8 8, .int .u8 7, .int .u8 6] t frozen
   | o => o) }
theorem laid_met (os : Os) : laidMet Tryd.prog Rows.shareLinesRow.laid ((laidWorld os).forCall (fun _ _ => 0) ⟨#[], #[Value.agg #[.slice none 0 0, .slice none 0 0, .slice none 0 0, .int .i64 0, .int .i64 0], Value.slice none 0 0], []⟩).memory :=
 laidMet_of_run' 8 (by kernel_rfl) (by kernel_rfl)
theorem reads (os : Os) {H : Type} (enc : TypeId × Value → H) : ∃ places, DataW.whole enc Tryd.prog ((laidWorld os).forCall (fun _ _ => 0) ⟨#[], #[Value.agg #[.slice none 0 0, .slice none 0 0, .slice none 0 0, .int .i64 0, .int .i64 0], Value.slice none 0 0], []⟩).memory Tryd.f12.params.toList Rows.shareLinesSpec.vars false (#[Value.agg #[.slice none 0 0, .slice none 0 0, .slice none 0 0, .int .i64 0, .int .i64 0], Value.slice none 0 0] : Array Value).toList 8 = some ([.agg [.nil, .nil, .nil, .lit (.int .i64 0), .lit (.int .i64 0)], .nil], [], places) :=
 ⟨[], by kernel_rfl⟩

set_option maxRecDepth 100000 in
theorem lifted (os : Os) (started : os.Started) (H : Type) (enc : TypeId × Value → H) (F : Stop.Interp) :
  ReturnsInHanded {} Tryd.checked os 12 .any ((OpenSpec.ofChange Rows.shareLinesSpec).preRow enc Tryd.prog Tryd.f12 Rows.shareLinesRow.domain false Rows.shareLinesRow.laid) (((OpenSpec.ofChange Rows.shareLinesSpec).at F).post enc Tryd.prog Tryd.f12 false true false false) := by
 obtain ⟨places, hx⟩ := reads os enc
 refine returnsInHanded_of_row (C := Tryd.checked) (s := OpenSpec.ofChange Rows.shareLinesSpec) own started (by kernel_rfl) Tryd.func12
  (witness_row_at (enc := enc) (C := Tryd.checked) false (laidWorld os) #[Value.agg #[.slice none 0 0, .slice none 0 0, .slice none 0 0, .int .i64 0, .int .i64 0], Value.slice none 0 0] rfl (by kernel_rfl) (by kernel_rfl) (by kernel_rfl)
   (OpenSpec.preRow_of_cond 8 hx (by kernel_rfl) (fun k hk => by cases hk) (by kernel_rfl) (laid_met os))) ?_
 intro W base args ds gs before hval hW _ _ hsz hL _ _
 exact contract H enc W base args ds gs before hval hW hL hsz

set_option maxRecDepth 100000 in
theorem closed : joinedFacts Tryd.prog 12 Tryd.f12 (OpenSpec.ofChange Rows.shareLinesSpec).bare Rows.shareLinesRow = true :=
 J.joined_mk (by kernel_rfl) J.laidOut J.mapsRowed (by kernel_rfl) (by kernel_rfl) (by kernel_rfl) J.stops (by kernel_rfl) J.stopKnobs (by kernel_rfl) (by kernel_rfl) (by kernel_rfl) (by kernel_rfl) (by kernel_rfl) (by kernel_rfl) (by kernel_rfl)
  (by kernel_rfl) (by kernel_rfl) (by kernel_rfl) (by kernel_rfl) (by kernel_rfl) (by kernel_rfl) J.plainKeys (by kernel_rfl) J.stopsHeard J.mayEnter J.lifted J.make (by kernel_rfl) (by kernel_rfl) (by kernel_rfl) (by kernel_rfl)

theorem said : Rows.ShareLinesSaid :=
 OpenClaim.holds_of_cond 12 Tryd.f12 rfl rfl rfl rfl rfl rfl rfl ⟨rfl, rfl, rfl, rfl, rfl⟩ rfl rfl rfl rfl rfl (by kernel_rfl) Tryd.func12 closed
  (of_decide_eq_true (by kernel_rfl)) (by unfold Func.isWrapper; first | (rw [if_pos (by decide +kernel)]; kernel_rfl) | (rw [if_neg (by decide +kernel)]; exact ⟨rfl, rfl⟩))
  (fun os started H enc _ F => by rw [OpenClaim.pre_eq_preRow]; exact lifted os started H enc F)

/-- No parameter wants a stand-in; the program's own looks are off: what the card asks. -/
theorem plain (f : FuncId) (fn : Func) (hf : Tryd.pinned.checked.prog.funcNamed "stipend/stipendlaw16.ShareLines" = some f) (hfn : Tryd.pinned.checked.prog.funcs[f]? = some fn) :
  false = Tryd.pinned.checked.prog.looks [] ∧ ∀ (j : Nat) t, fn.params[j]? = some t → Tryd.pinned.checked.prog.wantsStandIn t = false := by
 obtain rfl : f = 12 := Option.some.inj ((show Tryd.prog.funcNamed "stipend/stipendlaw16.ShareLines" = some 12 by kernel_rfl).symm.trans hf) |>.symm
 obtain rfl : fn = Tryd.f12 := (Option.some.inj (Tryd.func12.symm.trans hfn)).symm
 refine ⟨by kernel_rfl, fun j t ht => ?_⟩
 rw [Tryd.params12] at ht
 have hall : ([86, 23] : List TypeId).all (fun t => Tryd.prog.wantsStandIn t == false) = true := by kernel_rfl
 have hm : t ∈ ([86, 23] : List TypeId) := Array.mem_toList_iff.2 (Array.mem_of_getElem? ht)
 exact eq_of_beq (List.all_eq_true.1 hall t hm)

end Go.Proofs.YtmocphafkimdpaaDoor.shareLines
