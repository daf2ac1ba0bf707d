/- A part of the proof of ElementChecks's card: 'ElementChecks' answers true for every input (the conditions: those of the given statement alone). Merged by a program (wip/merge.py) out of: GWorths, Pf6, HElementValues. -/
import Derived.Test.YtmocphafkimdpaaDoorMElementChecksb
import Derived.Test.YtmocphafkimdpaaDoorMElementChecksh
import Derived.Test.YtmocphafkimdpaaDoorMElementChecksf
import Derived.Test.YtmocphafkimdpaaDoorMElementChecksg
import Derived.Test.YtmocphafkimdpaaDoorMElementCheckse
import Derived.Test.YtmocphafkimdpaaDoorMElementChecksa

/- worths() is true: the example that every law of the elements asks first. -/
namespace Go.Proofs.YtmocphafkimdpaaDoor.P
open Go.RowKit Go.Proofs.YtmocphafkimdpaaDoorW.PrintWords Go.Proofs.YtmocphafkimdpaaDoorW.PrintLast Go.Proofs.YtmocphafkimdpaaDoorW.PrintMore
set_option linter.unusedVariables false

def sHourly : ByteArray := ⟨#[104, 111, 117, 114, 108, 121]⟩
def sB : ByteArray := ⟨#[98]⟩
def exX : S48 := ⟨sHourly, 1250, 3750⟩
def exB : S48 := ⟨sB, 5, 100⟩
def exO : S48 := ⟨sHourly, 7, 100⟩
theorem ex_parse : element_Parse.f 60 [sHourly, ⟨#[49, 50, 46, 53, 48]⟩, ⟨#[120, 51, 55, 46, 53, 48]⟩] = some (sHourly, 1250, 3750, 0) := by kernel_rfl
theorem ex_value : element_Value.f 60 sHourly 1250 3750 = some (46875, 0) := by kernel_rfl
theorem ex_sums : element_Sums.f [exX, exB, exX] = some ([⟨sHourly, 93750⟩, ⟨sB, 5⟩], 0) := by kernel_rfl
theorem ex_change : element_Change.f 60 sHourly 7 [exX, exB, exX] = some [exO, exB] := by kernel_rfl
theorem ex_same : element_Same.f 60 [exO, exB] [exO, exB] = some true := by kernel_rfl
theorem ex_of : element_Of.f sB 5 = some (sB, 5, 100) := rfl
theorem ex_of2 : element_Of.f sHourly 7 = some (sHourly, 7, 100) := rfl
theorem ex_t1 : money_Text.f 1250 = some ⟨#[49, 50, 46, 53, 48]⟩ := by
  rw [text_f 1250 (by decide) (by decide)]
  kernel_rfl
theorem ex_t2 : money_Text.f 3750 = some ⟨#[51, 55, 46, 53, 48]⟩ := by
  rw [text_f 3750 (by decide) (by decide)]
  kernel_rfl
theorem ex_t3 : money_Text.f 5 = some ⟨#[48, 46, 48, 53]⟩ := by
  rw [text_f 5 (by decide) (by decide)]
  kernel_rfl
theorem ex_wtext1 : element_Text.f sHourly 1250 3750 = some ⟨#[104, 111, 117, 114, 108, 121, 32, 49, 50, 46, 53, 48, 32, 120, 51, 55, 46, 53, 48]⟩ := by
  unfold element_Text.f
  rw [ex_t1, ex_t2]
  kernel_rfl
theorem ex_wtext2 : element_Text.f sB 5 100 = some ⟨#[98, 32, 48, 46, 48, 53]⟩ := by
  unfold element_Text.f
  rw [ex_t3]
  kernel_rfl

theorem worthsP_f : stipendlaw11_worthsP.f 60 = some true := by
  unfold stipendlaw11_worthsP.f
  rw [show element_Parse.f 60 [(⟨#[104, 111, 117, 114, 108, 121]⟩ : ByteArray), ⟨#[49, 50, 46, 53, 48]⟩, ⟨#[120, 51, 55, 46, 53, 48]⟩] = _ from ex_parse, Option.bind_some]
  rw [show element_Value.f 60 sHourly 1250 3750 = _ from ex_value, Option.bind_some]
  rw [show element_Of.f (⟨#[98]⟩ : ByteArray) 5 = _ from ex_of, Option.bind_some]
  rw [show element_Sums.f [(⟨sHourly, 1250, 3750⟩ : S48), ⟨sB, 5, 100⟩, ⟨sHourly, 1250, 3750⟩] = _ from ex_sums, Option.bind_some]
  rw [Option.bind_some]
  rw [show element_Change.f 60 (⟨#[104, 111, 117, 114, 108, 121]⟩ : ByteArray) 7 [(⟨sHourly, 1250, 3750⟩ : S48), ⟨sB, 5, 100⟩, ⟨sHourly, 1250, 3750⟩] = _ from ex_change, Option.bind_some]
  rw [if_pos (by kernel_rfl), if_pos rfl, show element_Text.f sHourly 1250 3750 = _ from ex_wtext1, Option.bind_some, if_pos (by kernel_rfl), Option.bind_some, show element_Text.f sB 5 100 = _ from ex_wtext2]
  kernel_rfl

def stipendlaw11_worths.f : Option Bool := some true
theorem stipendlaw11_worths.calls (r : Bool) (w : World) (h : stipendlaw11_worths.f = some r) (hG : GTab w := by first | exact GTab.below HG.out (by repeat (first | (with_reducible first | exact HB.out | apply below_alloc | apply pw_below_drewN | apply below_drew1 | apply below_drew) | exact HB.out)) | exact HG.out) :
    Calls Tryd.prog 35 #[] w fun e w' => e = .returned (.bool r) ∧ Below w.heap.size w w' := by
  obtain rfl : true = r := Option.some.inj h
  exact stipendlaw11_worthsP.calls 60 true rfl w worthsP_f hG
end Go.Proofs.YtmocphafkimdpaaDoor.P


-- written by a program (a patched copy of the kit's print: wip/mkprint.py); Lean checks it
namespace Go.Proofs.YtmocphafkimdpaaDoor.P
open Go.RowKit Go.Proofs.YtmocphafkimdpaaDoorW.PrintWords Go.Proofs.YtmocphafkimdpaaDoorW.PrintLast Go.Proofs.YtmocphafkimdpaaDoorW.PrintMore
attribute [local go_sem] max2_int min2_int max_two min_two max_three min_three max_four min_four   -- for this text's walks alone
set_option linter.unusedVariables false
set_option linter.unusedSimpArgs false

/-! ### stipendlaw11_ElementValues: function 6 -/
mutual
def stipendlaw11_ElementValues.j0 : Nat → Int → Int → Int → Bool → ByteArray → Int → Int → Option (Bool)
 | 0, _, _, _, _, _, _, _ => none
 | k + 1, x3, x4, x5, x26, x338000, x338001, x338002 => if x26 = true then (if x4 = 10 then (some (x3 == 0)) else (some false)) else (if x338002 < 0 then (stipendlaw11_ElementValues.j1 k x3 x4 x5 true x338000 x338001 x338002) else (stipendlaw11_ElementValues.j1 k x3 x4 x5 (decide (x338002 > 100000)) x338000 x338001 x338002))
def stipendlaw11_ElementValues.j1 : Nat → Int → Int → Int → Bool → ByteArray → Int → Int → Option (Bool)
 | 0, _, _, _, _, _, _, _ => none
 | k + 1, x3, x4, x5, x40, x338000, x338001, x338002 => if x40 = true then (if x4 = 1 then (some (x3 == 0)) else (some false)) else ((frac_Round.f k (wrap64 (x338001 * x338002)) 100 4).bind fun bt341 => (if bt341.1 > x5 then (if x4 = 10 then (some (x3 == 0)) else (some false)) else (if bt341.1 < (wrap64 (-x5)) then (if x4 = 10 then (some (x3 == 0)) else (some false)) else (if x4 = 0 then (if x3 = bt341.1 then (if (wrap64 (2 * (wrap64 ((wrap64 (100 * x3)) - (wrap64 (x338001 * x338002)))))) ≤ 100 then (some (decide ((wrap64 (2 * (wrap64 ((wrap64 (x338001 * x338002)) - (wrap64 (100 * x3)))))) ≤ 100))) else (some false)) else (some false)) else (some false)))))
end
def stipendlaw11_ElementValues.f (k : Nat) (a0_0 : ByteArray) (a0_1 : Int) (a0_2 : Int) : Option (Bool) := (stipendlaw11_worths.f).bind fun t338 => (if t338 = true then ((element_Value.f k a0_0 a0_1 a0_2).bind fun bt339 => (if a0_1 > 100000000000 then (stipendlaw11_ElementValues.j0 k bt339.1 bt339.2 100000000000 true a0_0 a0_1 a0_2) else (stipendlaw11_ElementValues.j0 k bt339.1 bt339.2 100000000000 (decide (a0_1 < (-100000000000))) a0_0 a0_1 a0_2))) else (some false))
theorem stipendlaw11_ElementValues.mono_l : ∀ k, (∀ y0 y1 y2 y3 y4 y5 y6, LeO (stipendlaw11_ElementValues.j0 k y0 y1 y2 y3 y4 y5 y6) (stipendlaw11_ElementValues.j0 (k + 1) y0 y1 y2 y3 y4 y5 y6)) ∧ (∀ y0 y1 y2 y3 y4 y5 y6, LeO (stipendlaw11_ElementValues.j1 k y0 y1 y2 y3 y4 y5 y6) (stipendlaw11_ElementValues.j1 (k + 1) y0 y1 y2 y3 y4 y5 y6))
 | 0 => ⟨fun _ _ _ _ _ _ _ r h => by simp [stipendlaw11_ElementValues.j0] at h, fun _ _ _ _ _ _ _ r h => by simp [stipendlaw11_ElementValues.j1] at h⟩
 | k + 1 => by
  obtain ⟨ih0, ih1⟩ := stipendlaw11_ElementValues.mono_l k
  refine ⟨?_, ?_⟩
  ·intro y0 y1 y2 y3 y4 y5 y6
   unfold stipendlaw11_ElementValues.j0
   repeat' first
   | (with_reducible exact ih0 _ _ _ _ _ _ _)
   | (with_reducible exact ih1 _ _ _ _ _ _ _)
   | (with_reducible exact element_Value.mono _ _ _ _)
   | (with_reducible exact frac_Round.mono _ _ _ _)
   | (with_reducible exact LeO.refl _)
   | (with_reducible exact LeO.none _)
   | (with_reducible refine LeO.ite ?_ ?_)
   | (with_reducible refine LeO.bind ?_ (fun _ => ?_))
   | exact ih0 _ _ _ _ _ _ _
   | exact ih1 _ _ _ _ _ _ _
   | exact element_Value.mono _ _ _ _
   | exact frac_Round.mono _ _ _ _
   | exact LeO.none _
   | refine LeO.ite ?_ ?_
   | refine LeO.bind ?_ (fun _ => ?_)
  ·intro y0 y1 y2 y3 y4 y5 y6
   unfold stipendlaw11_ElementValues.j1
   repeat' first
   | (with_reducible exact ih0 _ _ _ _ _ _ _)
   | (with_reducible exact ih1 _ _ _ _ _ _ _)
   | (with_reducible exact element_Value.mono _ _ _ _)
   | (with_reducible exact frac_Round.mono _ _ _ _)
   | (with_reducible exact LeO.refl _)
   | (with_reducible exact LeO.none _)
   | (with_reducible refine LeO.ite ?_ ?_)
   | (with_reducible refine LeO.bind ?_ (fun _ => ?_))
   | exact ih0 _ _ _ _ _ _ _
   | exact ih1 _ _ _ _ _ _ _
   | exact element_Value.mono _ _ _ _
   | exact frac_Round.mono _ _ _ _
   | exact LeO.none _
   | refine LeO.ite ?_ ?_
   | refine LeO.bind ?_ (fun _ => ?_)
theorem stipendlaw11_ElementValues.mono : ∀ a0 a1 a2 k, LeO (stipendlaw11_ElementValues.f k a0 a1 a2) (stipendlaw11_ElementValues.f (k + 1) a0 a1 a2) := by
 intro a0 a1 a2 k
 obtain ⟨ih0, ih1⟩ := stipendlaw11_ElementValues.mono_l k
 unfold stipendlaw11_ElementValues.f
 repeat' first
   | (with_reducible exact ih0 _ _ _ _ _ _ _)
   | (with_reducible exact ih1 _ _ _ _ _ _ _)
   | (with_reducible exact element_Value.mono _ _ _ _)
   | (with_reducible exact frac_Round.mono _ _ _ _)
   | (with_reducible exact LeO.refl _)
   | (with_reducible exact LeO.none _)
   | (with_reducible refine LeO.ite ?_ ?_)
   | (with_reducible refine LeO.bind ?_ (fun _ => ?_))
   | exact ih0 _ _ _ _ _ _ _
   | exact ih1 _ _ _ _ _ _ _
   | exact element_Value.mono _ _ _ _
   | exact frac_Round.mono _ _ _ _
   | exact LeO.none _
   | refine LeO.ite ?_ ?_
   | refine LeO.bind ?_ (fun _ => ?_)
set_option maxHeartbeats 8000000 in
set_option maxRecDepth 100000 in
theorem stipendlaw11_ElementValues.calls (k : Nat) (a0_0 : ByteArray) (a0_1 : Int) (a0_2 : Int) (r : Bool) (w : World) (h : stipendlaw11_ElementValues.f k a0_0 a0_1 a0_2 = some r) (hG : GTab w := by first | exact GTab.below HG.out (by repeat (first | (with_reducible first | exact HB.out | apply below_alloc | apply pw_below_drewN | apply below_drew1 | apply below_drew) | exact HB.out)) | exact HG.out) :
  Calls Tryd.prog 6 #[.agg #[.string a0_0, .int .i64 a0_1, .int .i64 a0_2]] w fun e w' => e = .returned (.bool r) ∧ Below w.heap.size w w' := by
 have hu48 := Tryd.underlying48
 have HG := Aside0.mk hG; clear hG
 have HB := Aside0.mk (Below.refl w.heap.size w)
 have H : ((stipendlaw11_worths.f).bind fun t338 => (if t338 = true then ((element_Value.f k a0_0 a0_1 a0_2).bind fun bt339 => (if a0_1 > 100000000000 then (stipendlaw11_ElementValues.j0 k bt339.1 bt339.2 100000000000 true a0_0 a0_1 a0_2) else (stipendlaw11_ElementValues.j0 k bt339.1 bt339.2 100000000000 (decide (a0_1 < (-100000000000))) a0_0 a0_1 a0_2))) else (some false))) = some r := h
 clear h
 replace H := Option.bind_eq_some_iff.mp H
 obtain ⟨t338, A20, H⟩ := H
 replace H : (if t338 = true then ((element_Value.f k a0_0 a0_1 a0_2).bind fun bt339 => (if a0_1 > 100000000000 then (stipendlaw11_ElementValues.j0 k bt339.1 bt339.2 100000000000 true a0_0 a0_1 a0_2) else (stipendlaw11_ElementValues.j0 k bt339.1 bt339.2 100000000000 (decide (a0_1 < (-100000000000))) a0_0 a0_1 a0_2))) else (some false)) = some r := H
 have A2 := Aside0.mk A20
 clear A20
 by_cases c3 : t338 = true
 ·subst c3
  have H1 : ((element_Value.f k a0_0 a0_1 a0_2).bind fun bt339 => (if a0_1 > 100000000000 then (stipendlaw11_ElementValues.j0 k bt339.1 bt339.2 100000000000 true a0_0 a0_1 a0_2) else (stipendlaw11_ElementValues.j0 k bt339.1 bt339.2 100000000000 (decide (a0_1 < (-100000000000))) a0_0 a0_1 a0_2))) = some r := by rw [if_pos rfl] at H; exact H
  clear H
  have H := H1
  clear H1
  replace H := Option.bind_eq_some_iff.mp H
  obtain ⟨⟨t339, t340⟩, A40, H⟩ := H
  replace H : (if a0_1 > 100000000000 then (stipendlaw11_ElementValues.j0 k t339 t340 100000000000 true a0_0 a0_1 a0_2) else (stipendlaw11_ElementValues.j0 k t339 t340 100000000000 (decide (a0_1 < (-100000000000))) a0_0 a0_1 a0_2)) = some r := H
  have A4 := Aside0.mk A40
  clear A40
  have HC5 := Aside0.mk H
  clear H
  go_enter Tryd.func6, Tryd.ntmps6
  go_upto_region 5 with (first | ((with_reducible refine gate_dst (N := 1) rfl ?_); refine box_event ?hg (N := 1) ?hd (cs := #[.string a0_0, .int .i64 a0_1, .int .i64 a0_2]) (t := 48) ?hr ?_; (case hd => rfl); (case hg => rfl); (case hr => first | (go_simp; done) | (go_simp; rfl)); intro gb337 hg w6 hbox hb; have n0_ := Aside0.mk (below_step (by repeat (first | (with_reducible first | exact HB.out | apply below_alloc | apply pw_below_drewN | apply below_drew1) | exact HB.out)) hb); have n1_ := Aside0.mk (hbox); have n2_ := Aside0.mk ((by rw [hg]; exact (below_size (by repeat (first | (with_reducible first | exact HB.out | apply below_alloc | apply pw_below_drewN | apply below_drew1) | exact HB.out))) : w.heap.size ≤ gb337)); have n3_ := Aside0.mk ((by rw [hg]; exact (below_size (by repeat (first | (with_reducible first | exact HB.out | apply below_alloc | apply pw_below_drewN | apply below_drew1) | exact HB.out))) : w.heap.size ≤ gb337)); clear HB; have HB := n0_; have BK337 := n1_; have GW337 := n2_; have GE337 := n3_; clear n0_ n1_ n2_ n3_; clear hb hbox hg) | ((with_reducible refine gate_callee (f := 35) rfl ?_); refine goesL_ (some 9) rfl rfl Tryd.func35 (by kernel_rfl) rfl #[] rfl (by (try simp only [List.map_toArray, List.map_cons, List.map_nil]); first | done | rfl | (simp only [List.length_drop, List.length_take]; rfl)) ?_; (with_reducible refine (stipendlaw11_worths.calls  true _ A2.out).mono ?_); rintro e w7 ⟨rfl, hb⟩; refine ⟨_, rfl, ?_⟩; have n0_ := Aside0.mk (blk_below (g := gb337) (o := .cells #[.string a0_0, .int .i64 a0_1, .int .i64 a0_2] 48 (0, 0)) (by (with_reducible repeat (first | refine blk_drewN ?_ _ | refine blk_drew ?_ | refine blk_alloc ?_ _)); exact BK337.out) hb); have n1_ := Aside0.mk (below_step (by repeat (first | (with_reducible first | exact HB.out | apply below_alloc | apply pw_below_drewN | apply below_drew1 | refine below_set ?_ GE337.out) | exact HB.out)) hb); clear BK337; clear HB; have BK337 := n0_; have HB := n1_; clear n0_ n1_; (try clear hb); (try clear hb2); (try clear hk); (try clear hi); have hcz8_0 : w7.cell? ⟨gb337, 0, none⟩ = some (.string a0_0) := (blk_cell BK337.out 0).trans rfl; have hcz8_1 : w7.cell? ⟨gb337, 1, none⟩ = some (.int .i64 a0_1) := (blk_cell BK337.out 1).trans rfl; have hcz8_2 : w7.cell? ⟨gb337, 2, none⟩ = some (.int .i64 a0_2) := (blk_cell BK337.out 2).trans rfl; have hfz8_0 := blk_frozen BK337.out 0; have hfz8_1 := blk_frozen BK337.out 1; have hfz8_2 := blk_frozen BK337.out 2) | ((with_reducible refine gate_callee (f := 36) rfl ?_); refine goesL_ (some 13) rfl rfl Tryd.func36 (by kernel_rfl) rfl #[.agg #[.string a0_0, .int .i64 a0_1, .int .i64 a0_2]] rfl (by (try simp only [List.map_toArray, List.map_cons, List.map_nil]); first | done | rfl | (simp only [List.length_drop, List.length_take]; rfl)) ?_; (with_reducible refine (element_Value.calls k a0_0 a0_1 a0_2 t339 t340 _ A4.out).mono ?_); rintro e w9 ⟨rfl, hb⟩; refine ⟨_, rfl, ?_⟩; have n0_ := Aside0.mk (blk_below (g := gb337) (o := .cells #[.string a0_0, .int .i64 a0_1, .int .i64 a0_2] 48 (0, 0)) (by (with_reducible repeat (first | refine blk_drewN ?_ _ | refine blk_drew ?_ | refine blk_alloc ?_ _)); exact BK337.out) hb); have n1_ := Aside0.mk (below_step (by repeat (first | (with_reducible first | exact HB.out | apply below_alloc | apply pw_below_drewN | apply below_drew1 | refine below_set ?_ GE337.out) | exact HB.out)) hb); clear BK337; clear HB; have BK337 := n0_; have HB := n1_; clear n0_ n1_; (try clear hb); (try clear hb2); (try clear hk); (try clear hi)))
  (try simp only [Act.put, List.setIfInBounds_toArray, List.set_cons_zero, List.set_cons_succ])
  go_cut [26] (fun v26 wc => ∃ (kq : Nat) (x26_4 : Bool), v26 = .bool x26_4 ∧ Aside0 (stipendlaw11_ElementValues.j0 kq t339 t340 100000000000 x26_4 a0_0 a0_1 a0_2 = some r) ∧ Aside0 (kq ≤ k) ∧ Aside0 (wc.heap[gb337]? = some (.cells #[.string a0_0, .int .i64 a0_1, .int .i64 a0_2] 48 (0, 0))) ∧ Aside0 (Below w.heap.size w wc))
  case first =>
   have H := HC5.out
   clear HC5
   by_cases c10 : a0_1 > 100000000000
   ·rw [if_pos c10] at H
    have c10b0 : decide (100000000000 < a0_1) = true := decide_eq_true c10
    clear c10
    (first | rw [c10b0] | (simp only [i64_w, i32_w]; rw [c10b0]) | skip)
    have H' := Aside0.mk H
    clear H
    have hcz11_0 : w9.cell? ⟨gb337, 0, none⟩ = some (.string a0_0) := (blk_cell BK337.out 0).trans rfl
    have hcz11_1 : w9.cell? ⟨gb337, 1, none⟩ = some (.int .i64 a0_1) := (blk_cell BK337.out 1).trans rfl
    have hcz11_2 : w9.cell? ⟨gb337, 2, none⟩ = some (.int .i64 a0_2) := (blk_cell BK337.out 2).trans rfl
    have hfz11_0 := blk_frozen BK337.out 0
    have hfz11_1 := blk_frozen BK337.out 1
    have hfz11_2 := blk_frozen BK337.out 2
    go_wp2
    go_meet
    case rel => exact ⟨_, (true), (by first | rfl | (simp; done) | (simp [*]; done)), H', ⟨by first | omega | exact Nat.le_refl _⟩, ⟨by (with_reducible repeat (first | refine blk_drewN ?_ _ | refine blk_drew ?_ | refine blk_alloc ?_ _)); exact BK337.out⟩, ⟨by repeat (first | (with_reducible first | exact HB.out | apply below_alloc | apply pw_below_drewN | apply below_drew1 | refine below_set ?_ GE337.out) | exact HB.out)⟩⟩
   ·rw [if_neg c10] at H
    have c10b0 : decide (100000000000 < a0_1) = false := decide_eq_false c10
    clear c10
    (first | rw [c10b0] | (simp only [i64_w, i32_w]; rw [c10b0]) | skip)
    have H' := Aside0.mk H
    clear H
    have hcz12_0 : w9.cell? ⟨gb337, 0, none⟩ = some (.string a0_0) := (blk_cell BK337.out 0).trans rfl
    have hcz12_1 : w9.cell? ⟨gb337, 1, none⟩ = some (.int .i64 a0_1) := (blk_cell BK337.out 1).trans rfl
    have hcz12_2 : w9.cell? ⟨gb337, 2, none⟩ = some (.int .i64 a0_2) := (blk_cell BK337.out 2).trans rfl
    have hfz12_0 := blk_frozen BK337.out 0
    have hfz12_1 := blk_frozen BK337.out 1
    have hfz12_2 := blk_frozen BK337.out 2
    go_wp2
    go_meet
    case rel => exact ⟨_, (decide (a0_1 < (-100000000000))), (by first | rfl | (simp; done) | (simp [*]; done)), H', ⟨by first | omega | exact Nat.le_refl _⟩, ⟨by (with_reducible repeat (first | refine blk_drewN ?_ _ | refine blk_drew ?_ | refine blk_alloc ?_ _)); exact BK337.out⟩, ⟨by repeat (first | (with_reducible first | exact HB.out | apply below_alloc | apply pw_below_drewN | apply below_drew1 | refine below_set ?_ GE337.out) | exact HB.out)⟩⟩
  case rest =>
   clear HC5
   try clear c1
   try clear p2
   try clear c3
   try clear c6
   try clear c10
   try clear c10b0
   try clear hcz11_0
   try clear hcz11_1
   try clear hcz11_2
   try clear hcz12_0
   try clear hcz12_1
   try clear hcz12_2
   try clear hcz8_0
   try clear hcz8_1
   try clear hcz8_2
   try clear hfz11_0
   try clear hfz11_1
   try clear hfz11_2
   try clear hfz12_0
   try clear hfz12_1
   try clear hfz12_2
   try clear hfz8_0
   try clear hfz8_1
   try clear hfz8_2
   obtain ⟨kq, x26_4, rfl, HA, HJ4, BK337, HB⟩ := hcut
   cases kq with
   | zero => exact absurd HA.out (by simp [stipendlaw11_ElementValues.j0])
   | succ kj4 =>
    have H := HA.out
    clear HA
    simp only [stipendlaw11_ElementValues.j0] at H
    (try rw [show wrap64 (-100000000000) = -100000000000 from by unfold wrap64; omega] at H)
    by_cases c13 : x26_4 = true
    ·subst c13
     have H1 : (if t340 = 10 then (some (t339 == 0)) else (some false)) = some r := by rw [if_pos rfl] at H; exact H
     clear H
     have H := H1
     clear H1
     by_cases c14 : t340 = 10
     ·rw [if_pos c14] at H
      have c14b0 : (t340 == 10) = true := beq_iff_eq.mpr c14
      have c14b1 : (t340 != 10) = false := bne_eq_false_iff_eq.mpr c14
      clear c14
      obtain rfl := Option.some.inj H
      go_wp2
      go_ret
      exact ⟨by first | rfl | (simp [errW_none, errW_some] <;> rfl) | (simp [*, errW_none, errW_some] <;> rfl), by repeat (first | (with_reducible first | exact HB.out | apply below_alloc | apply pw_below_drewN | apply below_drew1 | refine below_set ?_ GE337.out) | exact HB.out)⟩
     ·rw [if_neg c14] at H
      have c14b0 : (t340 == 10) = false := beq_eq_false_iff_ne.mpr c14
      have c14b1 : (t340 != 10) = true := bne_iff_ne.mpr c14
      obtain rfl := Option.some.inj H
      go_wp2
      go_ret
      exact ⟨by first | rfl | (simp [errW_none, errW_some] <;> rfl) | (simp [*, errW_none, errW_some] <;> rfl), by repeat (first | (with_reducible first | exact HB.out | apply below_alloc | apply pw_below_drewN | apply below_drew1 | refine below_set ?_ GE337.out) | exact HB.out)⟩
    ·replace c13 := Bool.eq_false_iff.mpr c13
     subst c13
     have H1 : (if a0_2 < 0 then (stipendlaw11_ElementValues.j1 kj4 t339 t340 100000000000 true a0_0 a0_1 a0_2) else (stipendlaw11_ElementValues.j1 kj4 t339 t340 100000000000 (decide (a0_2 > 100000)) a0_0 a0_1 a0_2)) = some r := by rw [if_neg (show ¬ (false = true) by decide)] at H; exact H
     clear H
     have H := H1
     clear H1
     have HC15 := Aside0.mk H
     clear H
     go_upto_region 7 with (fail)
     go_cut [40] (fun v40 wc => ∃ (kq : Nat) (x40_14 : Bool), v40 = .bool x40_14 ∧ Aside0 (stipendlaw11_ElementValues.j1 kq t339 t340 100000000000 x40_14 a0_0 a0_1 a0_2 = some r) ∧ Aside0 (kq ≤ kj4) ∧ Aside0 (wc.heap[gb337]? = some (.cells #[.string a0_0, .int .i64 a0_1, .int .i64 a0_2] 48 (0, 0))) ∧ Aside0 (Below w.heap.size w wc))
     case first =>
      have H := HC15.out
      clear HC15
      by_cases c16 : a0_2 < 0
      ·rw [if_pos c16] at H
       have c16b0 : decide (a0_2 < 0) = true := decide_eq_true c16
       clear c16
       (first | rw [c16b0] | (simp only [i64_w, i32_w]; rw [c16b0]) | skip)
       have H' := Aside0.mk H
       clear H
       have hcz17_0 : wc.cell? ⟨gb337, 0, none⟩ = some (.string a0_0) := (blk_cell BK337.out 0).trans rfl
       have hcz17_1 : wc.cell? ⟨gb337, 1, none⟩ = some (.int .i64 a0_1) := (blk_cell BK337.out 1).trans rfl
       have hcz17_2 : wc.cell? ⟨gb337, 2, none⟩ = some (.int .i64 a0_2) := (blk_cell BK337.out 2).trans rfl
       have hfz17_0 := blk_frozen BK337.out 0
       have hfz17_1 := blk_frozen BK337.out 1
       have hfz17_2 := blk_frozen BK337.out 2
       go_wp2
       go_meet
       case rel => exact ⟨_, (true), (by first | rfl | (simp; done) | (simp [*]; done)), H', ⟨by have := HJ4.out; first | omega | exact Nat.le_refl _⟩, ⟨by (with_reducible repeat (first | refine blk_drewN ?_ _ | refine blk_drew ?_ | refine blk_alloc ?_ _)); exact BK337.out⟩, ⟨by repeat (first | (with_reducible first | exact HB.out | apply below_alloc | apply pw_below_drewN | apply below_drew1 | refine below_set ?_ GE337.out) | exact HB.out)⟩⟩
      ·rw [if_neg c16] at H
       have c16b0 : decide (a0_2 < 0) = false := decide_eq_false c16
       clear c16
       (first | rw [c16b0] | (simp only [i64_w, i32_w]; rw [c16b0]) | skip)
       have H' := Aside0.mk H
       clear H
       have hcz18_0 : wc.cell? ⟨gb337, 0, none⟩ = some (.string a0_0) := (blk_cell BK337.out 0).trans rfl
       have hcz18_1 : wc.cell? ⟨gb337, 1, none⟩ = some (.int .i64 a0_1) := (blk_cell BK337.out 1).trans rfl
       have hcz18_2 : wc.cell? ⟨gb337, 2, none⟩ = some (.int .i64 a0_2) := (blk_cell BK337.out 2).trans rfl
       have hfz18_0 := blk_frozen BK337.out 0
       have hfz18_1 := blk_frozen BK337.out 1
       have hfz18_2 := blk_frozen BK337.out 2
       go_wp2
       go_meet
       case rel => exact ⟨_, (decide (a0_2 > 100000)), (by first | rfl | (simp; done) | (simp [*]; done)), H', ⟨by have := HJ4.out; first | omega | exact Nat.le_refl _⟩, ⟨by (with_reducible repeat (first | refine blk_drewN ?_ _ | refine blk_drew ?_ | refine blk_alloc ?_ _)); exact BK337.out⟩, ⟨by repeat (first | (with_reducible first | exact HB.out | apply below_alloc | apply pw_below_drewN | apply below_drew1 | refine below_set ?_ GE337.out) | exact HB.out)⟩⟩
     case rest =>
      clear HC15
      try clear c1
      try clear p2
      try clear c3
      try clear c6
      try clear c10
      try clear c10b0
      try clear c13
      try clear c14
      try clear c14b0
      try clear c14b1
      try clear c16
      try clear c16b0
      try clear hcz11_0
      try clear hcz11_1
      try clear hcz11_2
      try clear hcz12_0
      try clear hcz12_1
      try clear hcz12_2
      try clear hcz17_0
      try clear hcz17_1
      try clear hcz17_2
      try clear hcz18_0
      try clear hcz18_1
      try clear hcz18_2
      try clear hcz8_0
      try clear hcz8_1
      try clear hcz8_2
      try clear hfz11_0
      try clear hfz11_1
      try clear hfz11_2
      try clear hfz12_0
      try clear hfz12_1
      try clear hfz12_2
      try clear hfz17_0
      try clear hfz17_1
      try clear hfz17_2
      try clear hfz18_0
      try clear hfz18_1
      try clear hfz18_2
      try clear hfz8_0
      try clear hfz8_1
      try clear hfz8_2
      try clear p2
      obtain ⟨kq, x40_14, rfl, HA, HJ14, BK337, HB⟩ := hcut
      cases kq with
      | zero => exact absurd HA.out (by simp [stipendlaw11_ElementValues.j1])
      | succ kj14 =>
       have H := HA.out
       clear HA
       simp only [stipendlaw11_ElementValues.j1] at H
       (try rw [show wrap64 (-100000000000) = -100000000000 from by unfold wrap64; omega] at H)
       by_cases c19 : x40_14 = true
       ·subst c19
        have H1 : (if t340 = 1 then (some (t339 == 0)) else (some false)) = some r := by rw [if_pos rfl] at H; exact H
        clear H
        have H := H1
        clear H1
        by_cases c20 : t340 = 1
        ·rw [if_pos c20] at H
         have c20b0 : (t340 == 1) = true := beq_iff_eq.mpr c20
         have c20b1 : (t340 != 1) = false := bne_eq_false_iff_eq.mpr c20
         clear c20
         obtain rfl := Option.some.inj H
         go_wp2
         go_ret
         exact ⟨by first | rfl | (simp [errW_none, errW_some] <;> rfl) | (simp [*, errW_none, errW_some] <;> rfl), by repeat (first | (with_reducible first | exact HB.out | apply below_alloc | apply pw_below_drewN | apply below_drew1 | refine below_set ?_ GE337.out) | exact HB.out)⟩
        ·rw [if_neg c20] at H
         have c20b0 : (t340 == 1) = false := beq_eq_false_iff_ne.mpr c20
         have c20b1 : (t340 != 1) = true := bne_iff_ne.mpr c20
         obtain rfl := Option.some.inj H
         go_wp2
         go_ret
         exact ⟨by first | rfl | (simp [errW_none, errW_some] <;> rfl) | (simp [*, errW_none, errW_some] <;> rfl), by repeat (first | (with_reducible first | exact HB.out | apply below_alloc | apply pw_below_drewN | apply below_drew1 | refine below_set ?_ GE337.out) | exact HB.out)⟩
       ·replace c19 := Bool.eq_false_iff.mpr c19
        subst c19
        have H1 : ((frac_Round.f kj14 (wrap64 (a0_1 * a0_2)) 100 4).bind fun bt341 => (if bt341.1 > 100000000000 then (if t340 = 10 then (some (t339 == 0)) else (some false)) else (if bt341.1 < (-100000000000) then (if t340 = 10 then (some (t339 == 0)) else (some false)) else (if t340 = 0 then (if t339 = bt341.1 then (if (wrap64 (2 * (wrap64 ((wrap64 (100 * t339)) - (wrap64 (a0_1 * a0_2)))))) ≤ 100 then (some (decide ((wrap64 (2 * (wrap64 ((wrap64 (a0_1 * a0_2)) - (wrap64 (100 * t339)))))) ≤ 100))) else (some false)) else (some false)) else (some false))))) = some r := by rw [if_neg (show ¬ (false = true) by decide)] at H; exact H
        clear H
        have H := H1
        clear H1
        replace H := Option.bind_eq_some_iff.mp H
        obtain ⟨⟨t341, t342⟩, A210, H⟩ := H
        replace H : (if t341 > 100000000000 then (if t340 = 10 then (some (t339 == 0)) else (some false)) else (if t341 < (-100000000000) then (if t340 = 10 then (some (t339 == 0)) else (some false)) else (if t340 = 0 then (if t339 = t341 then (if (wrap64 (2 * (wrap64 ((wrap64 (100 * t339)) - (wrap64 (a0_1 * a0_2)))))) ≤ 100 then (some (decide ((wrap64 (2 * (wrap64 ((wrap64 (a0_1 * a0_2)) - (wrap64 (100 * t339)))))) ≤ 100))) else (some false)) else (some false)) else (some false)))) = some r := H
        have A21 := Aside0.mk A210
        clear A210
        by_cases c22 : t341 > 100000000000
        ·rw [if_pos c22] at H
         have c22b0 : decide (100000000000 < t341) = true := decide_eq_true c22
         clear c22
         by_cases c23 : t340 = 10
         ·rw [if_pos c23] at H
          have c23b0 : (t340 == 10) = true := beq_iff_eq.mpr c23
          have c23b1 : (t340 != 10) = false := bne_eq_false_iff_eq.mpr c23
          clear c23
          obtain rfl := Option.some.inj H
          have hcz24_0 : wc.cell? ⟨gb337, 0, none⟩ = some (.string a0_0) := (blk_cell BK337.out 0).trans rfl
          have hcz24_1 : wc.cell? ⟨gb337, 1, none⟩ = some (.int .i64 a0_1) := (blk_cell BK337.out 1).trans rfl
          have hcz24_2 : wc.cell? ⟨gb337, 2, none⟩ = some (.int .i64 a0_2) := (blk_cell BK337.out 2).trans rfl
          have hfz24_0 := blk_frozen BK337.out 0
          have hfz24_1 := blk_frozen BK337.out 1
          have hfz24_2 := blk_frozen BK337.out 2
          go_wp2_with (first | ((with_reducible refine gate_callee (f := 37) rfl ?_); refine goesL_ (some 54) rfl rfl Tryd.func37 (by kernel_rfl) rfl #[.int .i64 (wrap64 (a0_1 * a0_2)), .int .i64 100, .int .i64 4] rfl (by (try simp only [List.map_toArray, List.map_cons, List.map_nil]); first | done | rfl | (simp only [List.length_drop, List.length_take]; rfl)) ?_; (with_reducible refine (frac_Round.calls kj14 (wrap64 (a0_1 * a0_2)) 100 4 t341 t342 _ A21.out).mono ?_); rintro e w' ⟨rfl, ⟨nd, rfl⟩⟩; refine ⟨_, rfl, ?_⟩))
          go_ret
          exact ⟨by first | rfl | (simp [errW_none, errW_some] <;> rfl) | (simp [*, errW_none, errW_some] <;> rfl), by repeat (first | (with_reducible first | exact HB.out | apply below_alloc | apply pw_below_drewN | apply below_drew1 | refine below_set ?_ GE337.out) | exact HB.out)⟩
         ·rw [if_neg c23] at H
          have c23b0 : (t340 == 10) = false := beq_eq_false_iff_ne.mpr c23
          have c23b1 : (t340 != 10) = true := bne_iff_ne.mpr c23
          obtain rfl := Option.some.inj H
          have hcz25_0 : wc.cell? ⟨gb337, 0, none⟩ = some (.string a0_0) := (blk_cell BK337.out 0).trans rfl
          have hcz25_1 : wc.cell? ⟨gb337, 1, none⟩ = some (.int .i64 a0_1) := (blk_cell BK337.out 1).trans rfl
          have hcz25_2 : wc.cell? ⟨gb337, 2, none⟩ = some (.int .i64 a0_2) := (blk_cell BK337.out 2).trans rfl
          have hfz25_0 := blk_frozen BK337.out 0
          have hfz25_1 := blk_frozen BK337.out 1
          have hfz25_2 := blk_frozen BK337.out 2
          go_wp2_with (first | ((with_reducible refine gate_callee (f := 37) rfl ?_); refine goesL_ (some 54) rfl rfl Tryd.func37 (by kernel_rfl) rfl #[.int .i64 (wrap64 (a0_1 * a0_2)), .int .i64 100, .int .i64 4] rfl (by (try simp only [List.map_toArray, List.map_cons, List.map_nil]); first | done | rfl | (simp only [List.length_drop, List.length_take]; rfl)) ?_; (with_reducible refine (frac_Round.calls kj14 (wrap64 (a0_1 * a0_2)) 100 4 t341 t342 _ A21.out).mono ?_); rintro e w' ⟨rfl, ⟨nd, rfl⟩⟩; refine ⟨_, rfl, ?_⟩))
          go_ret
          exact ⟨by first | rfl | (simp [errW_none, errW_some] <;> rfl) | (simp [*, errW_none, errW_some] <;> rfl), by repeat (first | (with_reducible first | exact HB.out | apply below_alloc | apply pw_below_drewN | apply below_drew1 | refine below_set ?_ GE337.out) | exact HB.out)⟩
        ·rw [if_neg c22] at H
         have c22b0 : decide (100000000000 < t341) = false := decide_eq_false c22
         clear c22
         by_cases c26 : t341 < (-100000000000)
         ·rw [if_pos c26] at H
          have c26b0 : decide (t341 < (-100000000000)) = true := decide_eq_true c26
          clear c26
          by_cases c27 : t340 = 10
          ·rw [if_pos c27] at H
           have c27b0 : (t340 == 10) = true := beq_iff_eq.mpr c27
           have c27b1 : (t340 != 10) = false := bne_eq_false_iff_eq.mpr c27
           clear c27
           obtain rfl := Option.some.inj H
           have hcz28_0 : wc.cell? ⟨gb337, 0, none⟩ = some (.string a0_0) := (blk_cell BK337.out 0).trans rfl
           have hcz28_1 : wc.cell? ⟨gb337, 1, none⟩ = some (.int .i64 a0_1) := (blk_cell BK337.out 1).trans rfl
           have hcz28_2 : wc.cell? ⟨gb337, 2, none⟩ = some (.int .i64 a0_2) := (blk_cell BK337.out 2).trans rfl
           have hfz28_0 := blk_frozen BK337.out 0
           have hfz28_1 := blk_frozen BK337.out 1
           have hfz28_2 := blk_frozen BK337.out 2
           go_wp2_with (first | ((with_reducible refine gate_callee (f := 37) rfl ?_); refine goesL_ (some 54) rfl rfl Tryd.func37 (by kernel_rfl) rfl #[.int .i64 (wrap64 (a0_1 * a0_2)), .int .i64 100, .int .i64 4] rfl (by (try simp only [List.map_toArray, List.map_cons, List.map_nil]); first | done | rfl | (simp only [List.length_drop, List.length_take]; rfl)) ?_; (with_reducible refine (frac_Round.calls kj14 (wrap64 (a0_1 * a0_2)) 100 4 t341 t342 _ A21.out).mono ?_); rintro e w' ⟨rfl, ⟨nd, rfl⟩⟩; refine ⟨_, rfl, ?_⟩))
           go_ret
           exact ⟨by first | rfl | (simp [errW_none, errW_some] <;> rfl) | (simp [*, errW_none, errW_some] <;> rfl), by repeat (first | (with_reducible first | exact HB.out | apply below_alloc | apply pw_below_drewN | apply below_drew1 | refine below_set ?_ GE337.out) | exact HB.out)⟩
          ·rw [if_neg c27] at H
           have c27b0 : (t340 == 10) = false := beq_eq_false_iff_ne.mpr c27
           have c27b1 : (t340 != 10) = true := bne_iff_ne.mpr c27
           obtain rfl := Option.some.inj H
           have hcz29_0 : wc.cell? ⟨gb337, 0, none⟩ = some (.string a0_0) := (blk_cell BK337.out 0).trans rfl
           have hcz29_1 : wc.cell? ⟨gb337, 1, none⟩ = some (.int .i64 a0_1) := (blk_cell BK337.out 1).trans rfl
           have hcz29_2 : wc.cell? ⟨gb337, 2, none⟩ = some (.int .i64 a0_2) := (blk_cell BK337.out 2).trans rfl
           have hfz29_0 := blk_frozen BK337.out 0
           have hfz29_1 := blk_frozen BK337.out 1
           have hfz29_2 := blk_frozen BK337.out 2
           go_wp2_with (first | ((with_reducible refine gate_callee (f := 37) rfl ?_); refine goesL_ (some 54) rfl rfl Tryd.func37 (by kernel_rfl) rfl #[.int .i64 (wrap64 (a0_1 * a0_2)), .int .i64 100, .int .i64 4] rfl (by (try simp only [List.map_toArray, List.map_cons, List.map_nil]); first | done | rfl | (simp only [List.length_drop, List.length_take]; rfl)) ?_; (with_reducible refine (frac_Round.calls kj14 (wrap64 (a0_1 * a0_2)) 100 4 t341 t342 _ A21.out).mono ?_); rintro e w' ⟨rfl, ⟨nd, rfl⟩⟩; refine ⟨_, rfl, ?_⟩))
           go_ret
           exact ⟨by first | rfl | (simp [errW_none, errW_some] <;> rfl) | (simp [*, errW_none, errW_some] <;> rfl), by repeat (first | (with_reducible first | exact HB.out | apply below_alloc | apply pw_below_drewN | apply below_drew1 | refine below_set ?_ GE337.out) | exact HB.out)⟩
         ·rw [if_neg c26] at H
          have c26b0 : decide (t341 < (-100000000000)) = false := decide_eq_false c26
          clear c26
          by_cases c30 : t340 = 0
          ·rw [if_pos c30] at H
           have c30b0 : (t340 == 0) = true := beq_iff_eq.mpr c30
           have c30b1 : (t340 != 0) = false := bne_eq_false_iff_eq.mpr c30
           clear c30
           by_cases c31 : t339 = t341
           ·rw [if_pos c31] at H
            have c31b0 : (t339 == t341) = true := beq_iff_eq.mpr c31
            have c31b1 : (t339 != t341) = false := bne_eq_false_iff_eq.mpr c31
            clear c31
            by_cases c32 : (wrap64 (2 * (wrap64 ((wrap64 (100 * t339)) - (wrap64 (a0_1 * a0_2)))))) ≤ 100
            ·rw [if_pos c32] at H
             have c32b0 : decide ((wrap64 (2 * (wrap64 ((wrap64 (100 * t339)) - (wrap64 (a0_1 * a0_2)))))) ≤ 100) = true := decide_eq_true c32
             clear c32
             obtain rfl := Option.some.inj H
             have hcz33_0 : wc.cell? ⟨gb337, 0, none⟩ = some (.string a0_0) := (blk_cell BK337.out 0).trans rfl
             have hcz33_1 : wc.cell? ⟨gb337, 1, none⟩ = some (.int .i64 a0_1) := (blk_cell BK337.out 1).trans rfl
             have hcz33_2 : wc.cell? ⟨gb337, 2, none⟩ = some (.int .i64 a0_2) := (blk_cell BK337.out 2).trans rfl
             have hfz33_0 := blk_frozen BK337.out 0
             have hfz33_1 := blk_frozen BK337.out 1
             have hfz33_2 := blk_frozen BK337.out 2
             go_wp2_with (first | ((with_reducible refine gate_callee (f := 37) rfl ?_); refine goesL_ (some 54) rfl rfl Tryd.func37 (by kernel_rfl) rfl #[.int .i64 (wrap64 (a0_1 * a0_2)), .int .i64 100, .int .i64 4] rfl (by (try simp only [List.map_toArray, List.map_cons, List.map_nil]); first | done | rfl | (simp only [List.length_drop, List.length_take]; rfl)) ?_; (with_reducible refine (frac_Round.calls kj14 (wrap64 (a0_1 * a0_2)) 100 4 t341 t342 _ A21.out).mono ?_); rintro e w' ⟨rfl, ⟨nd, rfl⟩⟩; refine ⟨_, rfl, ?_⟩))
             go_ret
             exact ⟨by first | rfl | (simp [errW_none, errW_some] <;> rfl) | (simp [*, errW_none, errW_some] <;> rfl), by repeat (first | (with_reducible first | exact HB.out | apply below_alloc | apply pw_below_drewN | apply below_drew1 | refine below_set ?_ GE337.out) | exact HB.out)⟩
            ·rw [if_neg c32] at H
             have c32b0 : decide ((wrap64 (2 * (wrap64 ((wrap64 (100 * t339)) - (wrap64 (a0_1 * a0_2)))))) ≤ 100) = false := decide_eq_false c32
             clear c32
             obtain rfl := Option.some.inj H
             have hcz34_0 : wc.cell? ⟨gb337, 0, none⟩ = some (.string a0_0) := (blk_cell BK337.out 0).trans rfl
             have hcz34_1 : wc.cell? ⟨gb337, 1, none⟩ = some (.int .i64 a0_1) := (blk_cell BK337.out 1).trans rfl
             have hcz34_2 : wc.cell? ⟨gb337, 2, none⟩ = some (.int .i64 a0_2) := (blk_cell BK337.out 2).trans rfl
             have hfz34_0 := blk_frozen BK337.out 0
             have hfz34_1 := blk_frozen BK337.out 1
             have hfz34_2 := blk_frozen BK337.out 2
             go_wp2_with (first | ((with_reducible refine gate_callee (f := 37) rfl ?_); refine goesL_ (some 54) rfl rfl Tryd.func37 (by kernel_rfl) rfl #[.int .i64 (wrap64 (a0_1 * a0_2)), .int .i64 100, .int .i64 4] rfl (by (try simp only [List.map_toArray, List.map_cons, List.map_nil]); first | done | rfl | (simp only [List.length_drop, List.length_take]; rfl)) ?_; (with_reducible refine (frac_Round.calls kj14 (wrap64 (a0_1 * a0_2)) 100 4 t341 t342 _ A21.out).mono ?_); rintro e w' ⟨rfl, ⟨nd, rfl⟩⟩; refine ⟨_, rfl, ?_⟩))
             go_ret
             exact ⟨by first | rfl | (simp [errW_none, errW_some] <;> rfl) | (simp [*, errW_none, errW_some] <;> rfl), by repeat (first | (with_reducible first | exact HB.out | apply below_alloc | apply pw_below_drewN | apply below_drew1 | refine below_set ?_ GE337.out) | exact HB.out)⟩
           ·rw [if_neg c31] at H
            have c31b0 : (t339 == t341) = false := beq_eq_false_iff_ne.mpr c31
            have c31b1 : (t339 != t341) = true := bne_iff_ne.mpr c31
            obtain rfl := Option.some.inj H
            have hcz35_0 : wc.cell? ⟨gb337, 0, none⟩ = some (.string a0_0) := (blk_cell BK337.out 0).trans rfl
            have hcz35_1 : wc.cell? ⟨gb337, 1, none⟩ = some (.int .i64 a0_1) := (blk_cell BK337.out 1).trans rfl
            have hcz35_2 : wc.cell? ⟨gb337, 2, none⟩ = some (.int .i64 a0_2) := (blk_cell BK337.out 2).trans rfl
            have hfz35_0 := blk_frozen BK337.out 0
            have hfz35_1 := blk_frozen BK337.out 1
            have hfz35_2 := blk_frozen BK337.out 2
            go_wp2_with (first | ((with_reducible refine gate_callee (f := 37) rfl ?_); refine goesL_ (some 54) rfl rfl Tryd.func37 (by kernel_rfl) rfl #[.int .i64 (wrap64 (a0_1 * a0_2)), .int .i64 100, .int .i64 4] rfl (by (try simp only [List.map_toArray, List.map_cons, List.map_nil]); first | done | rfl | (simp only [List.length_drop, List.length_take]; rfl)) ?_; (with_reducible refine (frac_Round.calls kj14 (wrap64 (a0_1 * a0_2)) 100 4 t341 t342 _ A21.out).mono ?_); rintro e w' ⟨rfl, ⟨nd, rfl⟩⟩; refine ⟨_, rfl, ?_⟩))
            go_ret
            exact ⟨by first | rfl | (simp [errW_none, errW_some] <;> rfl) | (simp [*, errW_none, errW_some] <;> rfl), by repeat (first | (with_reducible first | exact HB.out | apply below_alloc | apply pw_below_drewN | apply below_drew1 | refine below_set ?_ GE337.out) | exact HB.out)⟩
          ·rw [if_neg c30] at H
           have c30b0 : (t340 == 0) = false := beq_eq_false_iff_ne.mpr c30
           have c30b1 : (t340 != 0) = true := bne_iff_ne.mpr c30
           obtain rfl := Option.some.inj H
           have hcz36_0 : wc.cell? ⟨gb337, 0, none⟩ = some (.string a0_0) := (blk_cell BK337.out 0).trans rfl
           have hcz36_1 : wc.cell? ⟨gb337, 1, none⟩ = some (.int .i64 a0_1) := (blk_cell BK337.out 1).trans rfl
           have hcz36_2 : wc.cell? ⟨gb337, 2, none⟩ = some (.int .i64 a0_2) := (blk_cell BK337.out 2).trans rfl
           have hfz36_0 := blk_frozen BK337.out 0
           have hfz36_1 := blk_frozen BK337.out 1
           have hfz36_2 := blk_frozen BK337.out 2
           go_wp2_with (first | ((with_reducible refine gate_callee (f := 37) rfl ?_); refine goesL_ (some 54) rfl rfl Tryd.func37 (by kernel_rfl) rfl #[.int .i64 (wrap64 (a0_1 * a0_2)), .int .i64 100, .int .i64 4] rfl (by (try simp only [List.map_toArray, List.map_cons, List.map_nil]); first | done | rfl | (simp only [List.length_drop, List.length_take]; rfl)) ?_; (with_reducible refine (frac_Round.calls kj14 (wrap64 (a0_1 * a0_2)) 100 4 t341 t342 _ A21.out).mono ?_); rintro e w' ⟨rfl, ⟨nd, rfl⟩⟩; refine ⟨_, rfl, ?_⟩))
           go_ret
           exact ⟨by first | rfl | (simp [errW_none, errW_some] <;> rfl) | (simp [*, errW_none, errW_some] <;> rfl), by repeat (first | (with_reducible first | exact HB.out | apply below_alloc | apply pw_below_drewN | apply below_drew1 | refine below_set ?_ GE337.out) | exact HB.out)⟩
 ·replace c3 := Bool.eq_false_iff.mpr c3
  subst c3
  have H1 : (some false) = some r := by rw [if_neg (show ¬ (false = true) by decide)] at H; exact H
  clear H
  have H := H1
  clear H1
  obtain rfl := Option.some.inj H
  go_enter Tryd.func6, Tryd.ntmps6
  go_wp2_with (first | ((with_reducible refine gate_dst (N := 1) rfl ?_); refine box_event ?hg (N := 1) ?hd (cs := #[.string a0_0, .int .i64 a0_1, .int .i64 a0_2]) (t := 48) ?hr ?_; (case hd => rfl); (case hg => rfl); (case hr => first | (go_simp; done) | (go_simp; rfl)); intro gb337 hg w37 hbox hb; have n0_ := Aside0.mk (below_step (by repeat (first | (with_reducible first | exact HB.out | apply below_alloc | apply pw_below_drewN | apply below_drew1) | exact HB.out)) hb); have n1_ := Aside0.mk (hbox); have n2_ := Aside0.mk ((by rw [hg]; exact (below_size (by repeat (first | (with_reducible first | exact HB.out | apply below_alloc | apply pw_below_drewN | apply below_drew1) | exact HB.out))) : w.heap.size ≤ gb337)); have n3_ := Aside0.mk ((by rw [hg]; exact (below_size (by repeat (first | (with_reducible first | exact HB.out | apply below_alloc | apply pw_below_drewN | apply below_drew1) | exact HB.out))) : w.heap.size ≤ gb337)); clear HB; have HB := n0_; have BK337 := n1_; have GW337 := n2_; have GE337 := n3_; clear n0_ n1_ n2_ n3_; clear hb hbox hg) | ((with_reducible refine gate_callee (f := 35) rfl ?_); refine goesL_ (some 9) rfl rfl Tryd.func35 (by kernel_rfl) rfl #[] rfl (by (try simp only [List.map_toArray, List.map_cons, List.map_nil]); first | done | rfl | (simp only [List.length_drop, List.length_take]; rfl)) ?_; (with_reducible refine (stipendlaw11_worths.calls  false _ A2.out).mono ?_); rintro e w38 ⟨rfl, hb⟩; refine ⟨_, rfl, ?_⟩; have n0_ := Aside0.mk (blk_below (g := gb337) (o := .cells #[.string a0_0, .int .i64 a0_1, .int .i64 a0_2] 48 (0, 0)) (by (with_reducible repeat (first | refine blk_drewN ?_ _ | refine blk_drew ?_ | refine blk_alloc ?_ _)); exact BK337.out) hb); have n1_ := Aside0.mk (below_step (by repeat (first | (with_reducible first | exact HB.out | apply below_alloc | apply pw_below_drewN | apply below_drew1 | refine below_set ?_ GE337.out) | exact HB.out)) hb); clear BK337; clear HB; have BK337 := n0_; have HB := n1_; clear n0_ n1_; (try clear hb); (try clear hb2); (try clear hk); (try clear hi)))
  go_ret
  exact ⟨by first | rfl | (simp [errW_none, errW_some] <;> rfl) | (simp [*, errW_none, errW_some] <;> rfl), by repeat (first | (with_reducible first | exact HB.out | apply below_alloc | apply pw_below_drewN | apply below_drew1 | refine below_set ?_ GE337.out) | exact HB.out)⟩

end Go.Proofs.YtmocphafkimdpaaDoor.P


/- ElementValues answers true for every element: the plain law. -/
namespace Go.Proofs.YtmocphafkimdpaaDoor.P
open Go.RowKit Go.Proofs.YtmocphafkimdpaaDoorW.PrintWords Go.Proofs.YtmocphafkimdpaaDoorW.PrintLast Go.Proofs.YtmocphafkimdpaaDoorW.PrintMore

theorem floor_f (n : Int) (h0 : -100000000000000000 ≤ n) (h1 : n ≤ 100000000000000000) : frac_floor.f n 100 = some (n / 100, n % 100) := by
  unfold frac_floor.f
  rw [if_neg (by decide)]
  by_cases hs : 0 ≤ n
  · rw [Int.tdiv_eq_ediv_of_nonneg hs, Int.tmod_eq_emod_of_nonneg hs, if_neg (by omega), w64 (by omega) (by omega)]
  · obtain ⟨m, rfl⟩ : ∃ m : Int, n = -m := ⟨-n, by omega⟩
    have hm : 0 ≤ m := by omega
    rw [Int.neg_tdiv, Int.neg_tmod, Int.tdiv_eq_ediv_of_nonneg hm, Int.tmod_eq_emod_of_nonneg hm]
    by_cases c : m % 100 = 0
    · rw [if_neg (by omega), w64 (by omega) (by omega)]
      congr 2 <;> omega
    · rw [if_pos (by omega), w64 (x := -(m / 100)) (by omega) (by omega), w64 (by omega) (by omega), w64 (by omega) (by omega)]
      congr 2 <;> omega

theorem round_ev (n : Int) (h0 : -100000000000000000 ≤ n) (h1 : n ≤ 100000000000000000) : ∃ r, Ev (fun k => frac_Round.f k n 100 4) (r, 0) ∧ -50 ≤ 100 * r - n ∧ 100 * r - n ≤ 50 := by
  have go : ∀ r : Int, Ev (fun k => (frac_floor.f n 100).bind fun bt265 => (if bt265.2 > 0 then ((frac_nearer.f bt265.1 bt265.2 100 4).bind fun t267 => (if t267 = true then (some (wrap64 (bt265.1 + 1), (0 : Int))) else (some (bt265.1, 0)))) else (some (bt265.1, 0)))) (r, 0) → Ev (fun k => frac_Round.f k n 100 4) (r, 0) := by
    intro r h
    unfold frac_Round.f
    refine Ev.neg (by decide) (Ev.bindc (a := true) (by unfold frac_Mode.f; rfl) ?_)
    refine Ev.shift (fun k => by rw [frac_Round.j0]) ?_
    exact Ev.neg (by decide) h
  rw [floor_f n h0 h1] at go
  by_cases c : n % 100 > 0
  · have e : frac_nearer.f (n / 100) (n % 100) 100 4 = some (if n % 100 = 50 then decide (n / 100 ≥ 0) else decide (n % 100 > 50)) := by
      unfold frac_nearer.f
      rw [if_neg (by decide), if_neg (by decide), if_neg (by decide), w64 (x := 100 - n % 100) (by omega) (by omega)]
      by_cases d : n % 100 = 50
      · rw [if_pos (by omega), if_pos rfl, if_pos d]
      · rw [if_neg (by omega), if_neg d]
        congr 1
        simp only [decide_eq_decide]
        omega
    by_cases t : (if n % 100 = 50 then decide (n / 100 ≥ 0) else decide (n % 100 > 50)) = true
    · refine ⟨n / 100 + 1, go _ ?_, ?_, ?_⟩
      · refine Ev.bindc rfl (Ev.pos c (Ev.bindc e (Ev.pos t ?_)))
        rw [w64 (by omega) (by omega)]
        exact Ev.now
      · omega
      · split at t <;> simp at t <;> omega
    · refine ⟨n / 100, go _ ?_, ?_, ?_⟩
      · exact Ev.bindc rfl (Ev.pos c (Ev.bindc e (Ev.neg t Ev.now)))
      · split at t <;> simp at t <;> omega
      · omega
  · exact ⟨n / 100, go _ (Ev.bindc rfl (Ev.neg c Ev.now)), by omega, by omega⟩

/-- What an element is worth. -/
def worthOf (x u r : Int) : Int × Int := if okAmt x = true then (if u < 0 ∨ 100000 < u then (0, 1) else if okAmt r = true then (r, 0) else (0, 10)) else (0, 10)
theorem prod_le (x u : Int) (hx : okAmt x = true) (h0 : 0 ≤ u) (h1 : u ≤ 100000) : -10000000000000000 ≤ x * u ∧ x * u ≤ 10000000000000000 := by
  obtain ⟨a, b⟩ := (okAmt_iff x).1 hx
  constructor
  · have h := Int.mul_le_mul_of_nonneg_right a h0
    have h2 : -100000000000 * 100000 ≤ -100000000000 * u := Int.mul_le_mul_of_nonpos_left (by decide) h1
    omega
  · have h := Int.mul_le_mul_of_nonneg_right b h0
    omega
theorem value_ev (s : ByteArray) (x u : Int) : ∃ r, Ev (fun k => element_Value.f k s x u) (worthOf x u r) ∧
    (okAmt x = true → 0 ≤ u → u ≤ 100000 → Ev (fun k => frac_Round.f k (x * u) 100 4) (r, 0) ∧ -50 ≤ 100 * r - x * u ∧ 100 * r - x * u ≤ 50) := by
  by_cases cx : okAmt x = true
  · by_cases cu : u < 0 ∨ 100000 < u
    · refine ⟨0, ?_, fun _ _ _ => by omega⟩
      unfold element_Value.f worthOf
      rw [if_pos cx, if_pos cu]
      refine Ev.bind (mright_ev [x] (by simp)) (Ev.pos (by simp [cx]) ?_)
      have hj : Ev (fun k => element_Value.j0 k true s x u) (0, 1) := by
        refine Ev.shift (fun k => by rw [element_Value.j0]) ?_
        exact Ev.pos rfl Ev.now
      by_cases c : u < 0
      · exact Ev.pos c hj
      · refine Ev.neg c ?_
        rw [decide_eq_true (show u > 100000 by omega)]
        exact hj
    · obtain ⟨hp0, hp1⟩ := prod_le x u cx (by omega) (by omega)
      obtain ⟨r, hr, hb0, hb1⟩ := round_ev (x * u) (by omega) (by omega)
      refine ⟨r, ?_, fun _ _ _ => ⟨hr, hb0, hb1⟩⟩
      unfold element_Value.f worthOf
      rw [if_pos cx, if_neg cu]
      refine Ev.bind (mright_ev [x] (by simp)) (Ev.pos (by simp [cx]) (Ev.neg (by omega) ?_))
      rw [decide_eq_false (show ¬u > 100000 by omega)]
      refine Ev.shift (fun k => by rw [element_Value.j0]) ?_
      refine Ev.neg (by decide) ?_
      rw [w64 (x := x * u) (by omega) (by omega)]
      refine Ev.bind hr (Ev.pos rfl (Ev.bind (mright_ev [r] (by simp)) ?_))
      by_cases cr : okAmt r = true
      · rw [if_pos cr]
        exact Ev.pos (by simp [cr]) Ev.now
      · rw [if_neg cr]
        exact Ev.neg (by simp [cr]) Ev.now
  · refine ⟨0, ?_, fun h => absurd h cx⟩
    unfold element_Value.f worthOf
    rw [if_neg cx]
    exact Ev.bind (mright_ev [x] (by simp)) (Ev.neg (by simp [cx]) Ev.now)

theorem elementValues_true (s : ByteArray) (x u : Int) (_g : ok48 ⟨s, x, u⟩) : ∃ k, stipendlaw11_ElementValues.f k s x u = some true := by
  apply Ev.get
  unfold stipendlaw11_ElementValues.f
  refine Ev.bindc (a := true) rfl (Ev.pos rfl ?_)
  obtain ⟨r, hv, hr⟩ := value_ev s x u
  refine Ev.bind hv ?_
  by_cases cx : okAmt x = true
  · have cx' := (okAmt_iff x).1 cx
    refine Ev.neg (by omega) ?_
    rw [decide_eq_false (show ¬x < -100000000000 by omega)]
    refine Ev.shift (fun k => by rw [stipendlaw11_ElementValues.j0]) ?_
    refine Ev.neg (by decide) ?_
    by_cases cu : u < 0 ∨ 100000 < u
    · have e : worthOf x u r = (0, 1) := by unfold worthOf; rw [if_pos cx, if_pos cu]
      rw [e]
      have hj : Ev (fun k => stipendlaw11_ElementValues.j1 k 0 1 100000000000 true s x u) true := by
        refine Ev.shift (fun k => by rw [stipendlaw11_ElementValues.j1]) ?_
        exact Ev.pos rfl (Ev.pos rfl (Ev.const rfl))
      by_cases c : u < 0
      · exact Ev.pos c hj
      · refine Ev.neg c ?_
        rw [decide_eq_true (show u > 100000 by omega)]
        exact hj
    · obtain ⟨hr, hb0, hb1⟩ := hr cx (by omega) (by omega)
      obtain ⟨hp0, hp1⟩ := prod_le x u cx (by omega) (by omega)
      refine Ev.neg (by omega) ?_
      rw [decide_eq_false (show ¬u > 100000 by omega)]
      refine Ev.shift (fun k => by rw [stipendlaw11_ElementValues.j1]) ?_
      refine Ev.neg (by decide) ?_
      rw [w64 (x := x * u) (by omega) (by omega)]
      refine Ev.bind hr ?_
      rw [show wrap64 (-100000000000) = -100000000000 from w64 (by decide) (by decide)]
      by_cases cr : okAmt r = true
      · have e : worthOf x u r = (r, 0) := by unfold worthOf; rw [if_pos cx, if_neg cu, if_pos cr]
        have cr' := (okAmt_iff r).1 cr
        rw [e]
        refine Ev.neg (by omega) (Ev.neg (by omega) (Ev.pos rfl (Ev.pos rfl ?_)))
        generalize x * u = p at hp0 hp1 hb0 hb1 ⊢
        rw [w64 (x := 100 * r) (by omega) (by omega), w64 (x := 100 * r - p) (by omega) (by omega), w64 (x := p - 100 * r) (by omega) (by omega), w64 (x := 2 * (100 * r - p)) (by omega) (by omega), w64 (x := 2 * (p - 100 * r)) (by omega) (by omega)]
        exact Ev.pos (by omega) (Ev.const (by rw [decide_eq_true (by omega)]))
      · have e : worthOf x u r = (0, 10) := by unfold worthOf; rw [if_pos cx, if_neg cu, if_neg cr]
        have cr' : ¬(-100000000000 ≤ r ∧ r ≤ 100000000000) := fun h => cr ((okAmt_iff r).2 h)
        rw [e]
        by_cases c : r > 100000000000
        · exact Ev.pos c (Ev.pos rfl (Ev.const rfl))
        · exact Ev.neg c (Ev.pos (by omega) (Ev.pos rfl (Ev.const rfl)))
  · have cx' : ¬(-100000000000 ≤ x ∧ x ≤ 100000000000) := fun h => cx ((okAmt_iff x).2 h)
    have e : worthOf x u r = (0, 10) := by unfold worthOf; rw [if_neg cx]
    rw [e]
    have hj : Ev (fun k => stipendlaw11_ElementValues.j0 k 0 10 100000000000 true s x u) true := by
      refine Ev.shift (fun k => by rw [stipendlaw11_ElementValues.j0]) ?_
      exact Ev.pos rfl (Ev.pos rfl (Ev.const rfl))
    by_cases c : x > 100000000000
    · exact Ev.pos c hj
    · refine Ev.neg c ?_
      rw [decide_eq_true (show x < -100000000000 by omega)]
      exact hj
end Go.Proofs.YtmocphafkimdpaaDoor.P
