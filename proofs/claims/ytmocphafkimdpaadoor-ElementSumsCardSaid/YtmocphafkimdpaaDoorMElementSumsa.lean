/- A part of the proof of ElementSums's card: 'ElementSums' answers true for every input (the conditions: those of the given statement alone). Merged by a program (wip/merge.py) out of: Pf6, HElementValues, HElementSums. -/
import Derived.Test.YtmocphafkimdpaaDoorBElementa
import Derived.Test.YtmocphafkimdpaaDoorBElementb
import Derived.Test.YtmocphafkimdpaaDoorBElementh

-- written by a program (a patched copy of the kit's print: wip/mkprint.py); Lean checks it
namespace Go.Proofs.YtmocphafkimdpaaDoor.P
open Go.RowKit Go.Proofs.YtmocphafkimdpaaDoorW.PrintWords Go.Proofs.YtmocphafkimdpaaDoorW.PrintLast Go.Proofs.YtmocphafkimdpaaDoorW.PrintMore
attribute [local go_sem] max2_int min2_int max_two min_two max_three min_three max_four min_four   -- for this text's walks alone
set_option linter.unusedVariables false
set_option linter.unusedSimpArgs false

/-! ### stipendlaw11_ElementValues: function 6 -/
mutual
def stipendlaw11_ElementValues.j0 : Nat → Int → Int → Int → Bool → ByteArray → Int → Int → Option (Bool)
 | 0, _, _, _, _, _, _, _ => none
 | k + 1, x3, x4, x5, x26, x338000, x338001, x338002 => if x26 = true then (if x4 = 10 then (some (x3 == 0)) else (some false)) else (if x338002 < 0 then (stipendlaw11_ElementValues.j1 k x3 x4 x5 true x338000 x338001 x338002) else (stipendlaw11_ElementValues.j1 k x3 x4 x5 (decide (x338002 > 100000)) x338000 x338001 x338002))
def stipendlaw11_ElementValues.j1 : Nat → Int → Int → Int → Bool → ByteArray → Int → Int → Option (Bool)
 | 0, _, _, _, _, _, _, _ => none
 | k + 1, x3, x4, x5, x40, x338000, x338001, x338002 => if x40 = true then (if x4 = 1 then (some (x3 == 0)) else (some false)) else ((frac_Round.f k (wrap64 (x338001 * x338002)) 100 4).bind fun bt341 => (if bt341.1 > x5 then (if x4 = 10 then (some (x3 == 0)) else (some false)) else (if bt341.1 < (wrap64 (-x5)) then (if x4 = 10 then (some (x3 == 0)) else (some false)) else (if x4 = 0 then (if x3 = bt341.1 then (if (wrap64 (2 * (wrap64 ((wrap64 (100 * x3)) - (wrap64 (x338001 * x338002)))))) ≤ 100 then (some (decide ((wrap64 (2 * (wrap64 ((wrap64 (x338001 * x338002)) - (wrap64 (100 * x3)))))) ≤ 100))) else (some false)) else (some false)) else (some false)))))
end
def stipendlaw11_ElementValues.f (k : Nat) (a0_0 : ByteArray) (a0_1 : Int) (a0_2 : Int) : Option (Bool) := (stipendlaw11_worths.f).bind fun t338 => (if t338 = true then ((element_Value.f k a0_0 a0_1 a0_2).bind fun bt339 => (if a0_1 > 100000000000 then (stipendlaw11_ElementValues.j0 k bt339.1 bt339.2 100000000000 true a0_0 a0_1 a0_2) else (stipendlaw11_ElementValues.j0 k bt339.1 bt339.2 100000000000 (decide (a0_1 < (-100000000000))) a0_0 a0_1 a0_2))) else (some false))
theorem stipendlaw11_ElementValues.mono_l : ∀ k, (∀ y0 y1 y2 y3 y4 y5 y6, LeO (stipendlaw11_ElementValues.j0 k y0 y1 y2 y3 y4 y5 y6) (stipendlaw11_ElementValues.j0 (k + 1) y0 y1 y2 y3 y4 y5 y6)) ∧ (∀ y0 y1 y2 y3 y4 y5 y6, LeO (stipendlaw11_ElementValues.j1 k y0 y1 y2 y3 y4 y5 y6) (stipendlaw11_ElementValues.j1 (k + 1) y0 y1 y2 y3 y4 y5 y6))
 | 0 => ⟨fun _ _ _ _ _ _ _ r h => by simp [stipendlaw11_ElementValues.j0] at h, fun _ _ _ _ _ _ _ r h => by simp [stipendlaw11_ElementValues.j1] at h⟩
 | k + 1 => by
  obtain ⟨ih0, ih1⟩ := stipendlaw11_ElementValues.mono_l k
  refine ⟨?_, ?_⟩
  ·intro y0 y1 y2 y3 y4 y5 y6
   unfold stipendlaw11_ElementValues.j0
   repeat' first
   | (with_reducible exact ih0 _ _ _ _ _ _ _)
   | (with_reducible exact ih1 _ _ _ _ _ _ _)
   | (with_reducible exact element_Value.mono _ _ _ _)
   | (with_reducible exact frac_Round.mono _ _ _ _)
   | (with_reducible exact LeO.refl _)
   | (with_reducible exact LeO.none _)
   | (with_reducible refine LeO.ite ?_ ?_)
   | (with_reducible refine LeO.bind ?_ (fun _ => ?_))
   | exact ih0 _ _ _ _ _ _ _
   | exact ih1 _ _ _ _ _ _ _
   | exact element_Value.mono _ _ _ _
   | exact frac_Round.mono _ _ _ _
   | exact LeO.none _
   | refine LeO.ite ?_ ?_
   | refine LeO.bind ?_ (fun _ => ?_)
  ·intro y0 y1 y2 y3 y4 y5 y6
   unfold stipendlaw11_ElementValues.j1
   repeat' first
   | (with_reducible exact ih0 _ _ _ _ _ _ _)
   | (with_reducible exact ih1 _ _ _ _ _ _ _)
   | (with_reducible exact element_Value.mono _ _ _ _)
   | (with_reducible exact frac_Round.mono _ _ _ _)
   | (with_reducible exact LeO.refl _)
   | (with_reducible exact LeO.none _)
   | (with_reducible refine LeO.ite ?_ ?_)
   | (with_reducible refine LeO.bind ?_ (fun _ => ?_))
   | exact ih0 _ _ _ _ _ _ _
   | exact ih1 _ _ _ _ _ _ _
   | exact element_Value.mono _ _ _ _
   | exact frac_Round.mono _ _ _ _
   | exact LeO.none _
   | refine LeO.ite ?_ ?_
   | refine LeO.bind ?_ (fun _ => ?_)
theorem stipendlaw11_ElementValues.mono : ∀ a0 a1 a2 k, LeO (stipendlaw11_ElementValues.f k a0 a1 a2) (stipendlaw11_ElementValues.f (k + 1) a0 a1 a2) := by
 intro a0 a1 a2 k
 obtain ⟨ih0, ih1⟩ := stipendlaw11_ElementValues.mono_l k
 unfold stipendlaw11_ElementValues.f
 repeat' first
   | (with_reducible exact ih0 _ _ _ _ _ _ _)
   | (with_reducible exact ih1 _ _ _ _ _ _ _)
   | (with_reducible exact element_Value.mono _ _ _ _)
   | (with_reducible exact frac_Round.mono _ _ _ _)
   | (with_reducible exact LeO.refl _)
   | (with_reducible exact LeO.none _)
   | (with_reducible refine LeO.ite ?_ ?_)
   | (with_reducible refine LeO.bind ?_ (fun _ => ?_))
   | exact ih0 _ _ _ _ _ _ _
   | exact ih1 _ _ _ _ _ _ _
   | exact element_Value.mono _ _ _ _
   | exact frac_Round.mono _ _ _ _
   | exact LeO.none _
   | refine LeO.ite ?_ ?_
   | refine LeO.bind ?_ (fun _ => ?_)
set_option maxHeartbeats 8000000 in
set_option maxRecDepth 100000 in
theorem stipendlaw11_ElementValues.calls (k : Nat) (a0_0 : ByteArray) (a0_1 : Int) (a0_2 : Int) (r : Bool) (w : World) (h : stipendlaw11_ElementValues.f k a0_0 a0_1 a0_2 = some r) (hG : GTab w := by first | exact GTab.below HG.out (by repeat (first | (with_reducible first | exact HB.out | apply below_alloc | apply pw_below_drewN | apply below_drew1 | apply below_drew) | exact HB.out)) | exact HG.out) :
  Calls Tryd.prog 6 #[.agg #[.string a0_0, .int .i64 a0_1, .int .i64 a0_2]] w fun e w' => e = .returned (.bool r) ∧ Below w.heap.size w w' := by
 have hu48 := Tryd.underlying48
 have HG := Aside0.mk hG; clear hG
 have HB := Aside0.mk (Below.refl w.heap.size w)
 have H : ((stipendlaw11_worths.f).bind fun t338 => (if t338 = true then ((element_Value.f k a0_0 a0_1 a0_2).bind fun bt339 => (if a0_1 > 100000000000 then (stipendlaw11_ElementValues.j0 k bt339.1 bt339.2 100000000000 true a0_0 a0_1 a0_2) else (stipendlaw11_ElementValues.j0 k bt339.1 bt339.2 100000000000 (decide (a0_1 < (-100000000000))) a0_0 a0_1 a0_2))) else (some false))) = some r := h
 clear h
 replace H := Option.bind_eq_some_iff.mp H
 obtain ⟨t338, A20, H⟩ := H
 replace H : (if t338 = true then ((element_Value.f k a0_0 a0_1 a0_2).bind fun bt339 => (if a0_1 > 100000000000 then (stipendlaw11_ElementValues.j0 k bt339.1 bt339.2 100000000000 true a0_0 a0_1 a0_2) else (stipendlaw11_ElementValues.j0 k bt339.1 bt339.2 100000000000 (decide (a0_1 < (-100000000000))) a0_0 a0_1 a0_2))) else (some false)) = some r := H
 have A2 := Aside0.mk A20
 clear A20
 by_cases c3 : t338 = true
 ·subst c3
  have H1 : ((element_Value.f k a0_0 a0_1 a0_2).bind fun bt339 => (if a0_1 > 100000000000 then (stipendlaw11_ElementValues.j0 k bt339.1 bt339.2 100000000000 true a0_0 a0_1 a0_2) else (stipendlaw11_ElementValues.j0 k bt339.1 bt339.2 100000000000 (decide (a0_1 < (-100000000000))) a0_0 a0_1 a0_2))) = some r := by rw [if_pos rfl] at H; exact H
  clear H
  have H := H1
  clear H1
  replace H := Option.bind_eq_some_iff.mp H
  obtain ⟨⟨t339, t340⟩, A40, H⟩ := H
  replace H : (if a0_1 > 100000000000 then (stipendlaw11_ElementValues.j0 k t339 t340 100000000000 true a0_0 a0_1 a0_2) else (stipendlaw11_ElementValues.j0 k t339 t340 100000000000 (decide (a0_1 < (-100000000000))) a0_0 a0_1 a0_2)) = some r := H
  have A4 := Aside0.mk A40
  clear A40
  have HC5 := Aside0.mk H
  clear H
  go_enter Tryd.func6, Tryd.ntmps6
  go_upto_region 5 with (first | ((with_reducible refine gate_dst (N := 1) rfl ?_); refine box_event ?hg (N := 1) ?hd (cs := #[.string a0_0, .int .i64 a0_1, .int .i64 a0_2]) (t := 48) ?hr ?_; (case hd => rfl); (case hg => rfl); (case hr => first | (go_simp; done) | (go_simp; rfl)); intro gb337 hg w6 hbox hb; have n0_ := Aside0.mk (below_step (by repeat (first | (with_reducible first | exact HB.out | apply below_alloc | apply pw_below_drewN | apply below_drew1) | exact HB.out)) hb); have n1_ := Aside0.mk (hbox); have n2_ := Aside0.mk ((by rw [hg]; exact (below_size (by repeat (first | (with_reducible first | exact HB.out | apply below_alloc | apply pw_below_drewN | apply below_drew1) | exact HB.out))) : w.heap.size ≤ gb337)); have n3_ := Aside0.mk ((by rw [hg]; exact (below_size (by repeat (first | (with_reducible first | exact HB.out | apply below_alloc | apply pw_below_drewN | apply below_drew1) | exact HB.out))) : w.heap.size ≤ gb337)); clear HB; have HB := n0_; have BK337 := n1_; have GW337 := n2_; have GE337 := n3_; clear n0_ n1_ n2_ n3_; clear hb hbox hg) | ((with_reducible refine gate_callee (f := 35) rfl ?_); refine goesL_ (some 9) rfl rfl Tryd.func35 (by kernel_rfl) rfl #[] rfl (by (try simp only [List.map_toArray, List.map_cons, List.map_nil]); first | done | rfl | (simp only [List.length_drop, List.length_take]; rfl)) ?_; (with_reducible refine (stipendlaw11_worths.calls  true _ A2.out).mono ?_); rintro e w7 ⟨rfl, hb⟩; refine ⟨_, rfl, ?_⟩; have n0_ := Aside0.mk (blk_below (g := gb337) (o := .cells #[.string a0_0, .int .i64 a0_1, .int .i64 a0_2] 48 (0, 0)) (by (with_reducible repeat (first | refine blk_drewN ?_ _ | refine blk_drew ?_ | refine blk_alloc ?_ _)); exact BK337.out) hb); have n1_ := Aside0.mk (below_step (by repeat (first | (with_reducible first | exact HB.out | apply below_alloc | apply pw_below_drewN | apply below_drew1 | refine below_set ?_ GE337.out) | exact HB.out)) hb); clear BK337; clear HB; have BK337 := n0_; have HB := n1_; clear n0_ n1_; (try clear hb); (try clear hb2); (try clear hk); (try clear hi); have hcz8_0 : w7.cell? ⟨gb337, 0, none⟩ = some (.string a0_0) := (blk_cell BK337.out 0).trans rfl; have hcz8_1 : w7.cell? ⟨gb337, 1, none⟩ = some (.int .i64 a0_1) := (blk_cell BK337.out 1).trans rfl; have hcz8_2 : w7.cell? ⟨gb337, 2, none⟩ = some (.int .i64 a0_2) := (blk_cell BK337.out 2).trans rfl; have hfz8_0 := blk_frozen BK337.out 0; have hfz8_1 := blk_frozen BK337.out 1; have hfz8_2 := blk_frozen BK337.out 2) | ((with_reducible refine gate_callee (f := 36) rfl ?_); refine goesL_ (some 13) rfl rfl Tryd.func36 (by kernel_rfl) rfl #[.agg #[.string a0_0, .int .i64 a0_1, .int .i64 a0_2]] rfl (by (try simp only [List.map_toArray, List.map_cons, List.map_nil]); first | done | rfl | (simp only [List.length_drop, List.length_take]; rfl)) ?_; (with_reducible refine (element_Value.calls k a0_0 a0_1 a0_2 t339 t340 _ A4.out).mono ?_); rintro e w9 ⟨rfl, hb⟩; refine ⟨_, rfl, ?_⟩; have n0_ := Aside0.mk (blk_below (g := gb337) (o := .cells #[.string a0_0, .int .i64 a0_1, .int .i64 a0_2] 48 (0, 0)) (by (with_reducible repeat (first | refine blk_drewN ?_ _ | refine blk_drew ?_ | refine blk_alloc ?_ _)); exact BK337.out) hb); have n1_ := Aside0.mk (below_step (by repeat (first | (with_reducible first | exact HB.out | apply below_alloc | apply pw_below_drewN | apply below_drew1 | refine below_set ?_ GE337.out) | exact HB.out)) hb); clear BK337; clear HB; have BK337 := n0_; have HB := n1_; clear n0_ n1_; (try clear hb); (try clear hb2); (try clear hk); (try clear hi)))
  (try simp only [Act.put, List.setIfInBounds_toArray, List.set_cons_zero, List.set_cons_succ])
  go_cut [26] (fun v26 wc => ∃ (kq : Nat) (x26_4 : Bool), v26 = .bool x26_4 ∧ Aside0 (stipendlaw11_ElementValues.j0 kq t339 t340 100000000000 x26_4 a0_0 a0_1 a0_2 = some r) ∧ Aside0 (kq ≤ k) ∧ Aside0 (wc.heap[gb337]? = some (.cells #[.string a0_0, .int .i64 a0_1, .int .i64 a0_2] 48 (0, 0))) ∧ Aside0 (Below w.heap.size w wc))
  case first =>
   have H := HC5.out
   clear HC5
   by_cases c10 : a0_1 > 100000000000
   ·rw [if_pos c10] at H
    have c10b0 : decide (100000000000 < a0_1) = true := decide_eq_true c10
    clear c10
    (first | rw [c10b0] | (simp only [i64_w, i32_w]; rw [c10b0]) | skip)
    have H' := Aside0.mk H
    clear H
    have hcz11_0 : w9.cell? ⟨gb337, 0, none⟩ = some (.string a0_0) := (blk_cell BK337.out 0).trans rfl
    have hcz11_1 : w9.cell? ⟨gb337, 1, none⟩ = some (.int .i64 a0_1) := (blk_cell BK337.out 1).trans rfl
    have hcz11_2 : w9.cell? ⟨gb337, 2, none⟩ = some (.int .i64 a0_2) := (blk_cell BK337.out 2).trans rfl
    have hfz11_0 := blk_frozen BK337.out 0
    have hfz11_1 := blk_frozen BK337.out 1
    have hfz11_2 := blk_frozen BK337.out 2
    go_wp2
    go_meet
    case rel => exact ⟨_, (true), (by first | rfl | (simp; done) | (simp [*]; done)), H', ⟨by first | omega | exact Nat.le_refl _⟩, ⟨by (with_reducible repeat (first | refine blk_drewN ?_ _ | refine blk_drew ?_ | refine blk_alloc ?_ _)); exact BK337.out⟩, ⟨by repeat (first | (with_reducible first | exact HB.out | apply below_alloc | apply pw_below_drewN | apply below_drew1 | refine below_set ?_ GE337.out) | exact HB.out)⟩⟩
   ·rw [if_neg c10] at H
    have c10b0 : decide (100000000000 < a0_1) = false := decide_eq_false c10
    clear c10
    (first | rw [c10b0] | (simp only [i64_w, i32_w]; rw [c10b0]) | skip)
    have H' := Aside0.mk H
    clear H
    have hcz12_0 : w9.cell? ⟨gb337, 0, none⟩ = some (.string a0_0) := (blk_cell BK337.out 0).trans rfl
    have hcz12_1 : w9.cell? ⟨gb337, 1, none⟩ = some (.int .i64 a0_1) := (blk_cell BK337.out 1).trans rfl
    have hcz12_2 : w9.cell? ⟨gb337, 2, none⟩ = some (.int .i64 a0_2) := (blk_cell BK337.out 2).trans rfl
    have hfz12_0 := blk_frozen BK337.out 0
    have hfz12_1 := blk_frozen BK337.out 1
    have hfz12_2 := blk_frozen BK337.out 2
    go_wp2
    go_meet
    case rel => exact ⟨_, (decide (a0_1 < (-100000000000))), (by first | rfl | (simp; done) | (simp [*]; done)), H', ⟨by first | omega | exact Nat.le_refl _⟩, ⟨by (with_reducible repeat (first | refine blk_drewN ?_ _ | refine blk_drew ?_ | refine blk_alloc ?_ _)); exact BK337.out⟩, ⟨by repeat (first | (with_reducible first | exact HB.out | apply below_alloc | apply pw_below_drewN | apply below_drew1 | refine below_set ?_ GE337.out) | exact HB.out)⟩⟩
  case rest =>
   clear HC5
   try clear c1
   try clear p2
   try clear c3
   try clear c6
   try clear c10
   try clear c10b0
   try clear hcz11_0
   try clear hcz11_1
   try clear hcz11_2
   try clear hcz12_0
   try clear hcz12_1
   try clear hcz12_2
   try clear hcz8_0
   try clear hcz8_1
   try clear hcz8_2
   try clear hfz11_0
   try clear hfz11_1
   try clear hfz11_2
   try clear hfz12_0
   try clear hfz12_1
   try clear hfz12_2
   try clear hfz8_0
   try clear hfz8_1
   try clear hfz8_2
   obtain ⟨kq, x26_4, rfl, HA, HJ4, BK337, HB⟩ := hcut
   cases kq with
   | zero => exact absurd HA.out (by simp [stipendlaw11_ElementValues.j0])
   | succ kj4 =>
    have H := HA.out
    clear HA
    simp only [stipendlaw11_ElementValues.j0] at H
    (try rw [show wrap64 (-100000000000) = -100000000000 from by unfold wrap64; omega] at H)
    by_cases c13 : x26_4 = true
    ·subst c13
     have H1 : (if t340 = 10 then (some (t339 == 0)) else (some false)) = some r := by rw [if_pos rfl] at H; exact H
     clear H
     have H := H1
     clear H1
     by_cases c14 : t340 = 10
     ·rw [if_pos c14] at H
      have c14b0 : (t340 == 10) = true := beq_iff_eq.mpr c14
      have c14b1 : (t340 != 10) = false := bne_eq_false_iff_eq.mpr c14
      clear c14
      obtain rfl := Option.some.inj H
      go_wp2
      go_ret
      exact ⟨by first | rfl | (simp [errW_none, errW_some] <;> rfl) | (simp [*, errW_none, errW_some] <;> rfl), by repeat (first | (with_reducible first | exact HB.out | apply below_alloc | apply pw_below_drewN | apply below_drew1 | refine below_set ?_ GE337.out) | exact HB.out)⟩
     ·rw [if_neg c14] at H
      have c14b0 : (t340 == 10) = false := beq_eq_false_iff_ne.mpr c14
      have c14b1 : (t340 != 10) = true := bne_iff_ne.mpr c14
      obtain rfl := Option.some.inj H
      go_wp2
      go_ret
      exact ⟨by first | rfl | (simp [errW_none, errW_some] <;> rfl) | (simp [*, errW_none, errW_some] <;> rfl), by repeat (first | (with_reducible first | exact HB.out | apply below_alloc | apply pw_below_drewN | apply below_drew1 | refine below_set ?_ GE337.out) | exact HB.out)⟩
    ·replace c13 := Bool.eq_false_iff.mpr c13
     subst c13
     have H1 : (if a0_2 < 0 then (stipendlaw11_ElementValues.j1 kj4 t339 t340 100000000000 true a0_0 a0_1 a0_2) else (stipendlaw11_ElementValues.j1 kj4 t339 t340 100000000000 (decide (a0_2 > 100000)) a0_0 a0_1 a0_2)) = some r := by rw [if_neg (show ¬ (false = true) by decide)] at H; exact H
     clear H
     have H := H1
     clear H1
     have HC15 := Aside0.mk H
     clear H
     go_upto_region 7 with (fail)
     go_cut [40] (fun v40 wc => ∃ (kq : Nat) (x40_14 : Bool), v40 = .bool x40_14 ∧ Aside0 (stipendlaw11_ElementValues.j1 kq t339 t340 100000000000 x40_14 a0_0 a0_1 a0_2 = some r) ∧ Aside0 (kq ≤ kj4) ∧ Aside0 (wc.heap[gb337]? = some (.cells #[.string a0_0, .int .i64 a0_1, .int .i64 a0_2] 48 (0, 0))) ∧ Aside0 (Below w.heap.size w wc))
     case first =>
      have H := HC15.out
      clear HC15
      by_cases c16 : a0_2 < 0
      ·rw [if_pos c16] at H
       have c16b0 : decide (a0_2 < 0) = true := decide_eq_true c16
       clear c16
       (first | rw [c16b0] | (simp only [i64_w, i32_w]; rw [c16b0]) | skip)
       have H' := Aside0.mk H
       clear H
       have hcz17_0 : wc.cell? ⟨gb337, 0, none⟩ = some (.string a0_0) := (blk_cell BK337.out 0).trans rfl
       have hcz17_1 : wc.cell? ⟨gb337, 1, none⟩ = some (.int .i64 a0_1) := (blk_cell BK337.out 1).trans rfl
       have hcz17_2 : wc.cell? ⟨gb337, 2, none⟩ = some (.int .i64 a0_2) := (blk_cell BK337.out 2).trans rfl
       have hfz17_0 := blk_frozen BK337.out 0
       have hfz17_1 := blk_frozen BK337.out 1
       have hfz17_2 := blk_frozen BK337.out 2
       go_wp2
       go_meet
       case rel => exact ⟨_, (true), (by first | rfl | (simp; done) | (simp [*]; done)), H', ⟨by have := HJ4.out; first | omega | exact Nat.le_refl _⟩, ⟨by (with_reducible repeat (first | refine blk_drewN ?_ _ | refine blk_drew ?_ | refine blk_alloc ?_ _)); exact BK337.out⟩, ⟨by repeat (first | (with_reducible first | exact HB.out | apply below_alloc | apply pw_below_drewN | apply below_drew1 | refine below_set ?_ GE337.out) | exact HB.out)⟩⟩
      ·rw [if_neg c16] at H
       have c16b0 : decide (a0_2 < 0) = false := decide_eq_false c16
       clear c16
       (first | rw [c16b0] | (simp only [i64_w, i32_w]; rw [c16b0]) | skip)
       have H' := Aside0.mk H
       clear H
       have hcz18_0 : wc.cell? ⟨gb337, 0, none⟩ = some (.string a0_0) := (blk_cell BK337.out 0).trans rfl
       have hcz18_1 : wc.cell? ⟨gb337, 1, none⟩ = some (.int .i64 a0_1) := (blk_cell BK337.out 1).trans rfl
       have hcz18_2 : wc.cell? ⟨gb337, 2, none⟩ = some (.int .i64 a0_2) := (blk_cell BK337.out 2).trans rfl
       have hfz18_0 := blk_frozen BK337.out 0
       have hfz18_1 := blk_frozen BK337.out 1
       have hfz18_2 := blk_frozen BK337.out 2
       go_wp2
       go_meet
       case rel => exact ⟨_, (decide (a0_2 > 100000)), (by first | rfl | (simp; done) | (simp [*]; done)), H', ⟨by have := HJ4.out; first | omega | exact Nat.le_refl _⟩, ⟨by (with_reducible repeat (first | refine blk_drewN ?_ _ | refine blk_drew ?_ | refine blk_alloc ?_ _)); exact BK337.out⟩, ⟨by repeat (first | (with_reducible first | exact HB.out | apply below_alloc | apply pw_below_drewN | apply below_drew1 | refine below_set ?_ GE337.out) | exact HB.out)⟩⟩
     case rest =>
      clear HC15
      try clear c1
      try clear p2
      try clear c3
      try clear c6
      try clear c10
      try clear c10b0
      try clear c13
      try clear c14
      try clear c14b0
      try clear c14b1
      try clear c16
      try clear c16b0
      try clear hcz11_0
      try clear hcz11_1
      try clear hcz11_2
      try clear hcz12_0
      try clear hcz12_1
      try clear hcz12_2
      try clear hcz17_0
      try clear hcz17_1
      try clear hcz17_2
      try clear hcz18_0
      try clear hcz18_1
      try clear hcz18_2
      try clear hcz8_0
      try clear hcz8_1
      try clear hcz8_2
      try clear hfz11_0
      try clear hfz11_1
      try clear hfz11_2
      try clear hfz12_0
      try clear hfz12_1
      try clear hfz12_2
      try clear hfz17_0
      try clear hfz17_1
      try clear hfz17_2
      try clear hfz18_0
      try clear hfz18_1
      try clear hfz18_2
      try clear hfz8_0
      try clear hfz8_1
      try clear hfz8_2
      try clear p2
      obtain ⟨kq, x40_14, rfl, HA, HJ14, BK337, HB⟩ := hcut
      cases kq with
      | zero => exact absurd HA.out (by simp [stipendlaw11_ElementValues.j1])
      | succ kj14 =>
       have H := HA.out
       clear HA
       simp only [stipendlaw11_ElementValues.j1] at H
       (try rw [show wrap64 (-100000000000) = -100000000000 from by unfold wrap64; omega] at H)
       by_cases c19 : x40_14 = true
       ·subst c19
        have H1 : (if t340 = 1 then (some (t339 == 0)) else (some false)) = some r := by rw [if_pos rfl] at H; exact H
        clear H
        have H := H1
        clear H1
        by_cases c20 : t340 = 1
        ·rw [if_pos c20] at H
         have c20b0 : (t340 == 1) = true := beq_iff_eq.mpr c20
         have c20b1 : (t340 != 1) = false := bne_eq_false_iff_eq.mpr c20
         clear c20
         obtain rfl := Option.some.inj H
         go_wp2
         go_ret
         exact ⟨by first | rfl | (simp [errW_none, errW_some] <;> rfl) | (simp [*, errW_none, errW_some] <;> rfl), by repeat (first | (with_reducible first | exact HB.out | apply below_alloc | apply pw_below_drewN | apply below_drew1 | refine below_set ?_ GE337.out) | exact HB.out)⟩
        ·rw [if_neg c20] at H
         have c20b0 : (t340 == 1) = false := beq_eq_false_iff_ne.mpr c20
         have c20b1 : (t340 != 1) = true := bne_iff_ne.mpr c20
         obtain rfl := Option.some.inj H
         go_wp2
         go_ret
         exact ⟨by first | rfl | (simp [errW_none, errW_some] <;> rfl) | (simp [*, errW_none, errW_some] <;> rfl), by repeat (first | (with_reducible first | exact HB.out | apply below_alloc | apply pw_below_drewN | apply below_drew1 | refine below_set ?_ GE337.out) | exact HB.out)⟩
       ·replace c19 := Bool.eq_false_iff.mpr c19
        subst c19
        have H1 : ((frac_Round.f kj14 (wrap64 (a0_1 * a0_2)) 100 4).bind fun bt341 => (if bt341.1 > 100000000000 then (if t340 = 10 then (some (t339 == 0)) else (some false)) else (if bt341.1 < (-100000000000) then (if t340 = 10 then (some (t339 == 0)) else (some false)) else (if t340 = 0 then (if t339 = bt341.1 then (if (wrap64 (2 * (wrap64 ((wrap64 (100 * t339)) - (wrap64 (a0_1 * a0_2)))))) ≤ 100 then (some (decide ((wrap64 (2 * (wrap64 ((wrap64 (a0_1 * a0_2)) - (wrap64 (100 * t339)))))) ≤ 100))) else (some false)) else (some false)) else (some false))))) = some r := by rw [if_neg (show ¬ (false = true) by decide)] at H; exact H
        clear H
        have H := H1
        clear H1
        replace H := Option.bind_eq_some_iff.mp H
        obtain ⟨⟨t341, t342⟩, A210, H⟩ := H
        replace H : (if t341 > 100000000000 then (if t340 = 10 then (some (t339 == 0)) else (some false)) else (if t341 < (-100000000000) then (if t340 = 10 then (some (t339 == 0)) else (some false)) else (if t340 = 0 then (if t339 = t341 then (if (wrap64 (2 * (wrap64 ((wrap64 (100 * t339)) - (wrap64 (a0_1 * a0_2)))))) ≤ 100 then (some (decide ((wrap64 (2 * (wrap64 ((wrap64 (a0_1 * a0_2)) - (wrap64 (100 * t339)))))) ≤ 100))) else (some false)) else (some false)) else (some false)))) = some r := H
        have A21 := Aside0.mk A210
        clear A210
        by_cases c22 : t341 > 100000000000
        ·rw [if_pos c22] at H
         have c22b0 : decide (100000000000 < t341) = true := decide_eq_true c22
         clear c22
         by_cases c23 : t340 = 10
         ·rw [if_pos c23] at H
          have c23b0 : (t340 == 10) = true := beq_iff_eq.mpr c23
          have c23b1 : (t340 != 10) = false := bne_eq_false_iff_eq.mpr c23
          clear c23
          obtain rfl := Option.some.inj H
          have hcz24_0 : wc.cell? ⟨gb337, 0, none⟩ = some (.string a0_0) := (blk_cell BK337.out 0).trans rfl
          have hcz24_1 : wc.cell? ⟨gb337, 1, none⟩ = some (.int .i64 a0_1) := (blk_cell BK337.out 1).trans rfl
          have hcz24_2 : wc.cell? ⟨gb337, 2, none⟩ = some (.int .i64 a0_2) := (blk_cell BK337.out 2).trans rfl
          have hfz24_0 := blk_frozen BK337.out 0
          have hfz24_1 := blk_frozen BK337.out 1
          have hfz24_2 := blk_frozen BK337.out 2
          go_wp2_with (first | ((with_reducible refine gate_callee (f := 37) rfl ?_); refine goesL_ (some 54) rfl rfl Tryd.func37 (by kernel_rfl) rfl #[.int .i64 (wrap64 (a0_1 * a0_2)), .int .i64 100, .int .i64 4] rfl (by (try simp only [List.map_toArray, List.map_cons, List.map_nil]); first | done | rfl | (simp only [List.length_drop, List.length_take]; rfl)) ?_; (with_reducible refine (frac_Round.calls kj14 (wrap64 (a0_1 * a0_2)) 100 4 t341 t342 _ A21.out).mono ?_); rintro e w' ⟨rfl, ⟨nd, rfl⟩⟩; refine ⟨_, rfl, ?_⟩))
          go_ret
          exact ⟨by first | rfl | (simp [errW_none, errW_some] <;> rfl) | (simp [*, errW_none, errW_some] <;> rfl), by repeat (first | (with_reducible first | exact HB.out | apply below_alloc | apply pw_below_drewN | apply below_drew1 | refine below_set ?_ GE337.out) | exact HB.out)⟩
         ·rw [if_neg c23] at H
          have c23b0 : (t340 == 10) = false := beq_eq_false_iff_ne.mpr c23
          have c23b1 : (t340 != 10) = true := bne_iff_ne.mpr c23
          obtain rfl := Option.some.inj H
          have hcz25_0 : wc.cell? ⟨gb337, 0, none⟩ = some (.string a0_0) := (blk_cell BK337.out 0).trans rfl
          have hcz25_1 : wc.cell? ⟨gb337, 1, none⟩ = some (.int .i64 a0_1) := (blk_cell BK337.out 1).trans rfl
          have hcz25_2 : wc.cell? ⟨gb337, 2, none⟩ = some (.int .i64 a0_2) := (blk_cell BK337.out 2).trans rfl
          have hfz25_0 := blk_frozen BK337.out 0
          have hfz25_1 := blk_frozen BK337.out 1
          have hfz25_2 := blk_frozen BK337.out 2
          go_wp2_with (first | ((with_reducible refine gate_callee (f := 37) rfl ?_); refine goesL_ (some 54) rfl rfl Tryd.func37 (by kernel_rfl) rfl #[.int .i64 (wrap64 (a0_1 * a0_2)), .int .i64 100, .int .i64 4] rfl (by (try simp only [List.map_toArray, List.map_cons, List.map_nil]); first | done | rfl | (simp only [List.length_drop, List.length_take]; rfl)) ?_; (with_reducible refine (frac_Round.calls kj14 (wrap64 (a0_1 * a0_2)) 100 4 t341 t342 _ A21.out).mono ?_); rintro e w' ⟨rfl, ⟨nd, rfl⟩⟩; refine ⟨_, rfl, ?_⟩))
          go_ret
          exact ⟨by first | rfl | (simp [errW_none, errW_some] <;> rfl) | (simp [*, errW_none, errW_some] <;> rfl), by repeat (first | (with_reducible first | exact HB.out | apply below_alloc | apply pw_below_drewN | apply below_drew1 | refine below_set ?_ GE337.out) | exact HB.out)⟩
        ·rw [if_neg c22] at H
         have c22b0 : decide (100000000000 < t341) = false := decide_eq_false c22
         clear c22
         by_cases c26 : t341 < (-100000000000)
         ·rw [if_pos c26] at H
          have c26b0 : decide (t341 < (-100000000000)) = true := decide_eq_true c26
          clear c26
          by_cases c27 : t340 = 10
          ·rw [if_pos c27] at H
           have c27b0 : (t340 == 10) = true := beq_iff_eq.mpr c27
           have c27b1 : (t340 != 10) = false := bne_eq_false_iff_eq.mpr c27
           clear c27
           obtain rfl := Option.some.inj H
           have hcz28_0 : wc.cell? ⟨gb337, 0, none⟩ = some (.string a0_0) := (blk_cell BK337.out 0).trans rfl
           have hcz28_1 : wc.cell? ⟨gb337, 1, none⟩ = some (.int .i64 a0_1) := (blk_cell BK337.out 1).trans rfl
           have hcz28_2 : wc.cell? ⟨gb337, 2, none⟩ = some (.int .i64 a0_2) := (blk_cell BK337.out 2).trans rfl
           have hfz28_0 := blk_frozen BK337.out 0
           have hfz28_1 := blk_frozen BK337.out 1
           have hfz28_2 := blk_frozen BK337.out 2
           go_wp2_with (first | ((with_reducible refine gate_callee (f := 37) rfl ?_); refine goesL_ (some 54) rfl rfl Tryd.func37 (by kernel_rfl) rfl #[.int .i64 (wrap64 (a0_1 * a0_2)), .int .i64 100, .int .i64 4] rfl (by (try simp only [List.map_toArray, List.map_cons, List.map_nil]); first | done | rfl | (simp only [List.length_drop, List.length_take]; rfl)) ?_; (with_reducible refine (frac_Round.calls kj14 (wrap64 (a0_1 * a0_2)) 100 4 t341 t342 _ A21.out).mono ?_); rintro e w' ⟨rfl, ⟨nd, rfl⟩⟩; refine ⟨_, rfl, ?_⟩))
           go_ret
           exact ⟨by first | rfl | (simp [errW_none, errW_some] <;> rfl) | (simp [*, errW_none, errW_some] <;> rfl), by repeat (first | (with_reducible first | exact HB.out | apply below_alloc | apply pw_below_drewN | apply below_drew1 | refine below_set ?_ GE337.out) | exact HB.out)⟩
          ·rw [if_neg c27] at H
           have c27b0 : (t340 == 10) = false := beq_eq_false_iff_ne.mpr c27
           have c27b1 : (t340 != 10) = true := bne_iff_ne.mpr c27
           obtain rfl := Option.some.inj H
           have hcz29_0 : wc.cell? ⟨gb337, 0, none⟩ = some (.string a0_0) := (blk_cell BK337.out 0).trans rfl
           have hcz29_1 : wc.cell? ⟨gb337, 1, none⟩ = some (.int .i64 a0_1) := (blk_cell BK337.out 1).trans rfl
           have hcz29_2 : wc.cell? ⟨gb337, 2, none⟩ = some (.int .i64 a0_2) := (blk_cell BK337.out 2).trans rfl
           have hfz29_0 := blk_frozen BK337.out 0
           have hfz29_1 := blk_frozen BK337.out 1
           have hfz29_2 := blk_frozen BK337.out 2
           go_wp2_with (first | ((with_reducible refine gate_callee (f := 37) rfl ?_); refine goesL_ (some 54) rfl rfl Tryd.func37 (by kernel_rfl) rfl #[.int .i64 (wrap64 (a0_1 * a0_2)), .int .i64 100, .int .i64 4] rfl (by (try simp only [List.map_toArray, List.map_cons, List.map_nil]); first | done | rfl | (simp only [List.length_drop, List.length_take]; rfl)) ?_; (with_reducible refine (frac_Round.calls kj14 (wrap64 (a0_1 * a0_2)) 100 4 t341 t342 _ A21.out).mono ?_); rintro e w' ⟨rfl, ⟨nd, rfl⟩⟩; refine ⟨_, rfl, ?_⟩))
           go_ret
           exact ⟨by first | rfl | (simp [errW_none, errW_some] <;> rfl) | (simp [*, errW_none, errW_some] <;> rfl), by repeat (first | (with_reducible first | exact HB.out | apply below_alloc | apply pw_below_drewN | apply below_drew1 | refine below_set ?_ GE337.out) | exact HB.out)⟩
         ·rw [if_neg c26] at H
          have c26b0 : decide (t341 < (-100000000000)) = false := decide_eq_false c26
          clear c26
          by_cases c30 : t340 = 0
          ·rw [if_pos c30] at H
           have c30b0 : (t340 == 0) = true := beq_iff_eq.mpr c30
           have c30b1 : (t340 != 0) = false := bne_eq_false_iff_eq.mpr c30
           clear c30
           by_cases c31 : t339 = t341
           ·rw [if_pos c31] at H
            have c31b0 : (t339 == t341) = true := beq_iff_eq.mpr c31
            have c31b1 : (t339 != t341) = false := bne_eq_false_iff_eq.mpr c31
            clear c31
            by_cases c32 : (wrap64 (2 * (wrap64 ((wrap64 (100 * t339)) - (wrap64 (a0_1 * a0_2)))))) ≤ 100
            ·rw [if_pos c32] at H
             have c32b0 : decide ((wrap64 (2 * (wrap64 ((wrap64 (100 * t339)) - (wrap64 (a0_1 * a0_2)))))) ≤ 100) = true := decide_eq_true c32
             clear c32
             obtain rfl := Option.some.inj H
             have hcz33_0 : wc.cell? ⟨gb337, 0, none⟩ = some (.string a0_0) := (blk_cell BK337.out 0).trans rfl
             have hcz33_1 : wc.cell? ⟨gb337, 1, none⟩ = some (.int .i64 a0_1) := (blk_cell BK337.out 1).trans rfl
             have hcz33_2 : wc.cell? ⟨gb337, 2, none⟩ = some (.int .i64 a0_2) := (blk_cell BK337.out 2).trans rfl
             have hfz33_0 := blk_frozen BK337.out 0
             have hfz33_1 := blk_frozen BK337.out 1
             have hfz33_2 := blk_frozen BK337.out 2
             go_wp2_with (first | ((with_reducible refine gate_callee (f := 37) rfl ?_); refine goesL_ (some 54) rfl rfl Tryd.func37 (by kernel_rfl) rfl #[.int .i64 (wrap64 (a0_1 * a0_2)), .int .i64 100, .int .i64 4] rfl (by (try simp only [List.map_toArray, List.map_cons, List.map_nil]); first | done | rfl | (simp only [List.length_drop, List.length_take]; rfl)) ?_; (with_reducible refine (frac_Round.calls kj14 (wrap64 (a0_1 * a0_2)) 100 4 t341 t342 _ A21.out).mono ?_); rintro e w' ⟨rfl, ⟨nd, rfl⟩⟩; refine ⟨_, rfl, ?_⟩))
             go_ret
             exact ⟨by first | rfl | (simp [errW_none, errW_some] <;> rfl) | (simp [*, errW_none, errW_some] <;> rfl), by repeat (first | (with_reducible first | exact HB.out | apply below_alloc | apply pw_below_drewN | apply below_drew1 | refine below_set ?_ GE337.out) | exact HB.out)⟩
            ·rw [if_neg c32] at H
             have c32b0 : decide ((wrap64 (2 * (wrap64 ((wrap64 (100 * t339)) - (wrap64 (a0_1 * a0_2)))))) ≤ 100) = false := decide_eq_false c32
             clear c32
             obtain rfl := Option.some.inj H
             have hcz34_0 : wc.cell? ⟨gb337, 0, none⟩ = some (.string a0_0) := (blk_cell BK337.out 0).trans rfl
             have hcz34_1 : wc.cell? ⟨gb337, 1, none⟩ = some (.int .i64 a0_1) := (blk_cell BK337.out 1).trans rfl
             have hcz34_2 : wc.cell? ⟨gb337, 2, none⟩ = some (.int .i64 a0_2) := (blk_cell BK337.out 2).trans rfl
             have hfz34_0 := blk_frozen BK337.out 0
             have hfz34_1 := blk_frozen BK337.out 1
             have hfz34_2 := blk_frozen BK337.out 2
             go_wp2_with (first | ((with_reducible refine gate_callee (f := 37) rfl ?_); refine goesL_ (some 54) rfl rfl Tryd.func37 (by kernel_rfl) rfl #[.int .i64 (wrap64 (a0_1 * a0_2)), .int .i64 100, .int .i64 4] rfl (by (try simp only [List.map_toArray, List.map_cons, List.map_nil]); first | done | rfl | (simp only [List.length_drop, List.length_take]; rfl)) ?_; (with_reducible refine (frac_Round.calls kj14 (wrap64 (a0_1 * a0_2)) 100 4 t341 t342 _ A21.out).mono ?_); rintro e w' ⟨rfl, ⟨nd, rfl⟩⟩; refine ⟨_, rfl, ?_⟩))
             go_ret
             exact ⟨by first | rfl | (simp [errW_none, errW_some] <;> rfl) | (simp [*, errW_none, errW_some] <;> rfl), by repeat (first | (with_reducible first | exact HB.out | apply below_alloc | apply pw_below_drewN | apply below_drew1 | refine below_set ?_ GE337.out) | exact HB.out)⟩
           ·rw [if_neg c31] at H
            have c31b0 : (t339 == t341) = false := beq_eq_false_iff_ne.mpr c31
            have c31b1 : (t339 != t341) = true := bne_iff_ne.mpr c31
            obtain rfl := Option.some.inj H
            have hcz35_0 : wc.cell? ⟨gb337, 0, none⟩ = some (.string a0_0) := (blk_cell BK337.out 0).trans rfl
            have hcz35_1 : wc.cell? ⟨gb337, 1, none⟩ = some (.int .i64 a0_1) := (blk_cell BK337.out 1).trans rfl
            have hcz35_2 : wc.cell? ⟨gb337, 2, none⟩ = some (.int .i64 a0_2) := (blk_cell BK337.out 2).trans rfl
            have hfz35_0 := blk_frozen BK337.out 0
            have hfz35_1 := blk_frozen BK337.out 1
            have hfz35_2 := blk_frozen BK337.out 2
            go_wp2_with (first | ((with_reducible refine gate_callee (f := 37) rfl ?_); refine goesL_ (some 54) rfl rfl Tryd.func37 (by kernel_rfl) rfl #[.int .i64 (wrap64 (a0_1 * a0_2)), .int .i64 100, .int .i64 4] rfl (by (try simp only [List.map_toArray, List.map_cons, List.map_nil]); first | done | rfl | (simp only [List.length_drop, List.length_take]; rfl)) ?_; (with_reducible refine (frac_Round.calls kj14 (wrap64 (a0_1 * a0_2)) 100 4 t341 t342 _ A21.out).mono ?_); rintro e w' ⟨rfl, ⟨nd, rfl⟩⟩; refine ⟨_, rfl, ?_⟩))
            go_ret
            exact ⟨by first | rfl | (simp [errW_none, errW_some] <;> rfl) | (simp [*, errW_none, errW_some] <;> rfl), by repeat (first | (with_reducible first | exact HB.out | apply below_alloc | apply pw_below_drewN | apply below_drew1 | refine below_set ?_ GE337.out) | exact HB.out)⟩
          ·rw [if_neg c30] at H
           have c30b0 : (t340 == 0) = false := beq_eq_false_iff_ne.mpr c30
           have c30b1 : (t340 != 0) = true := bne_iff_ne.mpr c30
           obtain rfl := Option.some.inj H
           have hcz36_0 : wc.cell? ⟨gb337, 0, none⟩ = some (.string a0_0) := (blk_cell BK337.out 0).trans rfl
           have hcz36_1 : wc.cell? ⟨gb337, 1, none⟩ = some (.int .i64 a0_1) := (blk_cell BK337.out 1).trans rfl
           have hcz36_2 : wc.cell? ⟨gb337, 2, none⟩ = some (.int .i64 a0_2) := (blk_cell BK337.out 2).trans rfl
           have hfz36_0 := blk_frozen BK337.out 0
           have hfz36_1 := blk_frozen BK337.out 1
           have hfz36_2 := blk_frozen BK337.out 2
           go_wp2_with (first | ((with_reducible refine gate_callee (f := 37) rfl ?_); refine goesL_ (some 54) rfl rfl Tryd.func37 (by kernel_rfl) rfl #[.int .i64 (wrap64 (a0_1 * a0_2)), .int .i64 100, .int .i64 4] rfl (by (try simp only [List.map_toArray, List.map_cons, List.map_nil]); first | done | rfl | (simp only [List.length_drop, List.length_take]; rfl)) ?_; (with_reducible refine (frac_Round.calls kj14 (wrap64 (a0_1 * a0_2)) 100 4 t341 t342 _ A21.out).mono ?_); rintro e w' ⟨rfl, ⟨nd, rfl⟩⟩; refine ⟨_, rfl, ?_⟩))
           go_ret
           exact ⟨by first | rfl | (simp [errW_none, errW_some] <;> rfl) | (simp [*, errW_none, errW_some] <;> rfl), by repeat (first | (with_reducible first | exact HB.out | apply below_alloc | apply pw_below_drewN | apply below_drew1 | refine below_set ?_ GE337.out) | exact HB.out)⟩
 ·replace c3 := Bool.eq_false_iff.mpr c3
  subst c3
  have H1 : (some false) = some r := by rw [if_neg (show ¬ (false = true) by decide)] at H; exact H
  clear H
  have H := H1
  clear H1
  obtain rfl := Option.some.inj H
  go_enter Tryd.func6, Tryd.ntmps6
  go_wp2_with (first | ((with_reducible refine gate_dst (N := 1) rfl ?_); refine box_event ?hg (N := 1) ?hd (cs := #[.string a0_0, .int .i64 a0_1, .int .i64 a0_2]) (t := 48) ?hr ?_; (case hd => rfl); (case hg => rfl); (case hr => first | (go_simp; done) | (go_simp; rfl)); intro gb337 hg w37 hbox hb; have n0_ := Aside0.mk (below_step (by repeat (first | (with_reducible first | exact HB.out | apply below_alloc | apply pw_below_drewN | apply below_drew1) | exact HB.out)) hb); have n1_ := Aside0.mk (hbox); have n2_ := Aside0.mk ((by rw [hg]; exact (below_size (by repeat (first | (with_reducible first | exact HB.out | apply below_alloc | apply pw_below_drewN | apply below_drew1) | exact HB.out))) : w.heap.size ≤ gb337)); have n3_ := Aside0.mk ((by rw [hg]; exact (below_size (by repeat (first | (with_reducible first | exact HB.out | apply below_alloc | apply pw_below_drewN | apply below_drew1) | exact HB.out))) : w.heap.size ≤ gb337)); clear HB; have HB := n0_; have BK337 := n1_; have GW337 := n2_; have GE337 := n3_; clear n0_ n1_ n2_ n3_; clear hb hbox hg) | ((with_reducible refine gate_callee (f := 35) rfl ?_); refine goesL_ (some 9) rfl rfl Tryd.func35 (by kernel_rfl) rfl #[] rfl (by (try simp only [List.map_toArray, List.map_cons, List.map_nil]); first | done | rfl | (simp only [List.length_drop, List.length_take]; rfl)) ?_; (with_reducible refine (stipendlaw11_worths.calls  false _ A2.out).mono ?_); rintro e w38 ⟨rfl, hb⟩; refine ⟨_, rfl, ?_⟩; have n0_ := Aside0.mk (blk_below (g := gb337) (o := .cells #[.string a0_0, .int .i64 a0_1, .int .i64 a0_2] 48 (0, 0)) (by (with_reducible repeat (first | refine blk_drewN ?_ _ | refine blk_drew ?_ | refine blk_alloc ?_ _)); exact BK337.out) hb); have n1_ := Aside0.mk (below_step (by repeat (first | (with_reducible first | exact HB.out | apply below_alloc | apply pw_below_drewN | apply below_drew1 | refine below_set ?_ GE337.out) | exact HB.out)) hb); clear BK337; clear HB; have BK337 := n0_; have HB := n1_; clear n0_ n1_; (try clear hb); (try clear hb2); (try clear hk); (try clear hi)))
  go_ret
  exact ⟨by first | rfl | (simp [errW_none, errW_some] <;> rfl) | (simp [*, errW_none, errW_some] <;> rfl), by repeat (first | (with_reducible first | exact HB.out | apply below_alloc | apply pw_below_drewN | apply below_drew1 | refine below_set ?_ GE337.out) | exact HB.out)⟩

end Go.Proofs.YtmocphafkimdpaaDoor.P


/- ElementValues answers true for every element: the plain law. -/
namespace Go.Proofs.YtmocphafkimdpaaDoor.P
open Go.RowKit Go.Proofs.YtmocphafkimdpaaDoorW.PrintWords Go.Proofs.YtmocphafkimdpaaDoorW.PrintLast Go.Proofs.YtmocphafkimdpaaDoorW.PrintMore

theorem floor_f (n : Int) (h0 : -100000000000000000 ≤ n) (h1 : n ≤ 100000000000000000) : frac_floor.f n 100 = some (n / 100, n % 100) := by
  unfold frac_floor.f
  rw [if_neg (by decide)]
  by_cases hs : 0 ≤ n
  · rw [Int.tdiv_eq_ediv_of_nonneg hs, Int.tmod_eq_emod_of_nonneg hs, if_neg (by omega), w64 (by omega) (by omega)]
  · obtain ⟨m, rfl⟩ : ∃ m : Int, n = -m := ⟨-n, by omega⟩
    have hm : 0 ≤ m := by omega
    rw [Int.neg_tdiv, Int.neg_tmod, Int.tdiv_eq_ediv_of_nonneg hm, Int.tmod_eq_emod_of_nonneg hm]
    by_cases c : m % 100 = 0
    · rw [if_neg (by omega), w64 (by omega) (by omega)]
      congr 2 <;> omega
    · rw [if_pos (by omega), w64 (x := -(m / 100)) (by omega) (by omega), w64 (by omega) (by omega), w64 (by omega) (by omega)]
      congr 2 <;> omega

theorem round_ev (n : Int) (h0 : -100000000000000000 ≤ n) (h1 : n ≤ 100000000000000000) : ∃ r, Ev (fun k => frac_Round.f k n 100 4) (r, 0) ∧ -50 ≤ 100 * r - n ∧ 100 * r - n ≤ 50 := by
  have go : ∀ r : Int, Ev (fun k => (frac_floor.f n 100).bind fun bt265 => (if bt265.2 > 0 then ((frac_nearer.f bt265.1 bt265.2 100 4).bind fun t267 => (if t267 = true then (some (wrap64 (bt265.1 + 1), (0 : Int))) else (some (bt265.1, 0)))) else (some (bt265.1, 0)))) (r, 0) → Ev (fun k => frac_Round.f k n 100 4) (r, 0) := by
    intro r h
    unfold frac_Round.f
    refine Ev.neg (by decide) (Ev.bindc (a := true) (by unfold frac_Mode.f; rfl) ?_)
    refine Ev.shift (fun k => by rw [frac_Round.j0]) ?_
    exact Ev.neg (by decide) h
  rw [floor_f n h0 h1] at go
  by_cases c : n % 100 > 0
  · have e : frac_nearer.f (n / 100) (n % 100) 100 4 = some (if n % 100 = 50 then decide (n / 100 ≥ 0) else decide (n % 100 > 50)) := by
      unfold frac_nearer.f
      rw [if_neg (by decide), if_neg (by decide), if_neg (by decide), w64 (x := 100 - n % 100) (by omega) (by omega)]
      by_cases d : n % 100 = 50
      · rw [if_pos (by omega), if_pos rfl, if_pos d]
      · rw [if_neg (by omega), if_neg d]
        congr 1
        simp only [decide_eq_decide]
        omega
    by_cases t : (if n % 100 = 50 then decide (n / 100 ≥ 0) else decide (n % 100 > 50)) = true
    · refine ⟨n / 100 + 1, go _ ?_, ?_, ?_⟩
      · refine Ev.bindc rfl (Ev.pos c (Ev.bindc e (Ev.pos t ?_)))
        rw [w64 (by omega) (by omega)]
        exact Ev.now
      · omega
      · split at t <;> simp at t <;> omega
    · refine ⟨n / 100, go _ ?_, ?_, ?_⟩
      · exact Ev.bindc rfl (Ev.pos c (Ev.bindc e (Ev.neg t Ev.now)))
      · split at t <;> simp at t <;> omega
      · omega
  · exact ⟨n / 100, go _ (Ev.bindc rfl (Ev.neg c Ev.now)), by omega, by omega⟩

/-- What an element is worth. -/
def worthOf (x u r : Int) : Int × Int := if okAmt x = true then (if u < 0 ∨ 100000 < u then (0, 1) else if okAmt r = true then (r, 0) else (0, 10)) else (0, 10)
theorem prod_le (x u : Int) (hx : okAmt x = true) (h0 : 0 ≤ u) (h1 : u ≤ 100000) : -10000000000000000 ≤ x * u ∧ x * u ≤ 10000000000000000 := by
  obtain ⟨a, b⟩ := (okAmt_iff x).1 hx
  constructor
  · have h := Int.mul_le_mul_of_nonneg_right a h0
    have h2 : -100000000000 * 100000 ≤ -100000000000 * u := Int.mul_le_mul_of_nonpos_left (by decide) h1
    omega
  · have h := Int.mul_le_mul_of_nonneg_right b h0
    omega
theorem value_ev (s : ByteArray) (x u : Int) : ∃ r, Ev (fun k => element_Value.f k s x u) (worthOf x u r) ∧
    (okAmt x = true → 0 ≤ u → u ≤ 100000 → Ev (fun k => frac_Round.f k (x * u) 100 4) (r, 0) ∧ -50 ≤ 100 * r - x * u ∧ 100 * r - x * u ≤ 50) := by
  by_cases cx : okAmt x = true
  · by_cases cu : u < 0 ∨ 100000 < u
    · refine ⟨0, ?_, fun _ _ _ => by omega⟩
      unfold element_Value.f worthOf
      rw [if_pos cx, if_pos cu]
      refine Ev.bind (mright_ev [x] (by simp)) (Ev.pos (by simp [cx]) ?_)
      have hj : Ev (fun k => element_Value.j0 k true s x u) (0, 1) := by
        refine Ev.shift (fun k => by rw [element_Value.j0]) ?_
        exact Ev.pos rfl Ev.now
      by_cases c : u < 0
      · exact Ev.pos c hj
      · refine Ev.neg c ?_
        rw [decide_eq_true (show u > 100000 by omega)]
        exact hj
    · obtain ⟨hp0, hp1⟩ := prod_le x u cx (by omega) (by omega)
      obtain ⟨r, hr, hb0, hb1⟩ := round_ev (x * u) (by omega) (by omega)
      refine ⟨r, ?_, fun _ _ _ => ⟨hr, hb0, hb1⟩⟩
      unfold element_Value.f worthOf
      rw [if_pos cx, if_neg cu]
      refine Ev.bind (mright_ev [x] (by simp)) (Ev.pos (by simp [cx]) (Ev.neg (by omega) ?_))
      rw [decide_eq_false (show ¬u > 100000 by omega)]
      refine Ev.shift (fun k => by rw [element_Value.j0]) ?_
      refine Ev.neg (by decide) ?_
      rw [w64 (x := x * u) (by omega) (by omega)]
      refine Ev.bind hr (Ev.pos rfl (Ev.bind (mright_ev [r] (by simp)) ?_))
      by_cases cr : okAmt r = true
      · rw [if_pos cr]
        exact Ev.pos (by simp [cr]) Ev.now
      · rw [if_neg cr]
        exact Ev.neg (by simp [cr]) Ev.now
  · refine ⟨0, ?_, fun h => absurd h cx⟩
    unfold element_Value.f worthOf
    rw [if_neg cx]
    exact Ev.bind (mright_ev [x] (by simp)) (Ev.neg (by simp [cx]) Ev.now)

theorem elementValues_true (s : ByteArray) (x u : Int) (_g : ok48 ⟨s, x, u⟩) : ∃ k, stipendlaw11_ElementValues.f k s x u = some true := by
  apply Ev.get
  unfold stipendlaw11_ElementValues.f
  refine Ev.bindc (a := true) rfl (Ev.pos rfl ?_)
  obtain ⟨r, hv, hr⟩ := value_ev s x u
  refine Ev.bind hv ?_
  by_cases cx : okAmt x = true
  · have cx' := (okAmt_iff x).1 cx
    refine Ev.neg (by omega) ?_
    rw [decide_eq_false (show ¬x < -100000000000 by omega)]
    refine Ev.shift (fun k => by rw [stipendlaw11_ElementValues.j0]) ?_
    refine Ev.neg (by decide) ?_
    by_cases cu : u < 0 ∨ 100000 < u
    · have e : worthOf x u r = (0, 1) := by unfold worthOf; rw [if_pos cx, if_pos cu]
      rw [e]
      have hj : Ev (fun k => stipendlaw11_ElementValues.j1 k 0 1 100000000000 true s x u) true := by
        refine Ev.shift (fun k => by rw [stipendlaw11_ElementValues.j1]) ?_
        exact Ev.pos rfl (Ev.pos rfl (Ev.const rfl))
      by_cases c : u < 0
      · exact Ev.pos c hj
      · refine Ev.neg c ?_
        rw [decide_eq_true (show u > 100000 by omega)]
        exact hj
    · obtain ⟨hr, hb0, hb1⟩ := hr cx (by omega) (by omega)
      obtain ⟨hp0, hp1⟩ := prod_le x u cx (by omega) (by omega)
      refine Ev.neg (by omega) ?_
      rw [decide_eq_false (show ¬u > 100000 by omega)]
      refine Ev.shift (fun k => by rw [stipendlaw11_ElementValues.j1]) ?_
      refine Ev.neg (by decide) ?_
      rw [w64 (x := x * u) (by omega) (by omega)]
      refine Ev.bind hr ?_
      rw [show wrap64 (-100000000000) = -100000000000 from w64 (by decide) (by decide)]
      by_cases cr : okAmt r = true
      · have e : worthOf x u r = (r, 0) := by unfold worthOf; rw [if_pos cx, if_neg cu, if_pos cr]
        have cr' := (okAmt_iff r).1 cr
        rw [e]
        refine Ev.neg (by omega) (Ev.neg (by omega) (Ev.pos rfl (Ev.pos rfl ?_)))
        generalize x * u = p at hp0 hp1 hb0 hb1 ⊢
        rw [w64 (x := 100 * r) (by omega) (by omega), w64 (x := 100 * r - p) (by omega) (by omega), w64 (x := p - 100 * r) (by omega) (by omega), w64 (x := 2 * (100 * r - p)) (by omega) (by omega), w64 (x := 2 * (p - 100 * r)) (by omega) (by omega)]
        exact Ev.pos (by omega) (Ev.const (by rw [decide_eq_true (by omega)]))
      · have e : worthOf x u r = (0, 10) := by unfold worthOf; rw [if_pos cx, if_neg cu, if_neg cr]
        have cr' : ¬(-100000000000 ≤ r ∧ r ≤ 100000000000) := fun h => cr ((okAmt_iff r).2 h)
        rw [e]
        by_cases c : r > 100000000000
        · exact Ev.pos c (Ev.pos rfl (Ev.const rfl))
        · exact Ev.neg c (Ev.pos (by omega) (Ev.pos rfl (Ev.const rfl)))
  · have cx' : ¬(-100000000000 ≤ x ∧ x ≤ 100000000000) := fun h => cx ((okAmt_iff x).2 h)
    have e : worthOf x u r = (0, 10) := by unfold worthOf; rw [if_neg cx]
    rw [e]
    have hj : Ev (fun k => stipendlaw11_ElementValues.j0 k 0 10 100000000000 true s x u) true := by
      refine Ev.shift (fun k => by rw [stipendlaw11_ElementValues.j0]) ?_
      exact Ev.pos rfl (Ev.pos rfl (Ev.const rfl))
    by_cases c : x > 100000000000
    · exact Ev.pos c hj
    · refine Ev.neg c ?_
      rw [decide_eq_true (show x < -100000000000 by omega)]
      exact hj
end Go.Proofs.YtmocphafkimdpaaDoor.P


/- ElementSums answers true for every list: the function, walked. -/
namespace Go.Proofs.YtmocphafkimdpaaDoor.P
open Go.RowKit Go.Proofs.YtmocphafkimdpaaDoorW.PrintWords Go.Proofs.YtmocphafkimdpaaDoorW.PrintLast Go.Proofs.YtmocphafkimdpaaDoorW.PrintMore
set_option linter.unusedVariables false
set_option linter.unusedSimpArgs false

theorem right_k (x : Int) (k : Nat) (hk : 1 < k) : money_Right.f k [x] = some (okAmt x) := by
  have := right_l0 [x] (by simp) 1 0 k (by simp) hk
  unfold money_Right.f
  simpa using this
theorem right2_k (x y : Int) (k : Nat) (hk : 2 < k) : money_Right.f k [x, y] = some (okAmt x && okAmt y) := by
  have := right_l0 [x, y] (by simp) 2 0 k (by simp) hk
  unfold money_Right.f
  simpa using this
theorem check_k (x : Int) (k : Nat) (hk : 1 < k) : money_check.f k x = some (if okAmt x = true then (x, 0) else (0, 10)) := by
  unfold money_check.f
  rw [right_k x k hk, Option.bind_some]
  split <;> rfl
theorem add_100 (a b : Int) (ha : okAmt a = true) (hb : okAmt b = true) : money_Add.f 100 a b = some (if okAmt (a + b) = true then (a + b, 0) else (0, 10)) := by
  have ha' := (okAmt_iff a).1 ha
  have hb' := (okAmt_iff b).1 hb
  unfold money_Add.f
  rw [right2_k a b 100 (by decide), Option.bind_some, ha, hb, if_pos (by rfl), w64 (x := a + b) (by omega) (by omega), check_k _ 100 (by decide)]
  rfl
theorem round_100 (n : Int) (h0 : -100000000000000000 ≤ n) (h1 : n ≤ 100000000000000000) : ∃ r, frac_Round.f 99 n 100 4 = some (r, 0) := by
  obtain ⟨r, ⟨k0, hk⟩, _⟩ := round_ev n h0 h1
  refine ⟨r, ?_⟩
  have h := hk (k0 + 1) (by omega)
  have e : ∀ k, frac_Round.f (k + 1) n 100 4 = frac_Round.f 1 n 100 4 := fun k => by
    unfold frac_Round.f
    simp only [frac_Round.j0]
  rw [e 98, ← e k0]
  exact h
theorem value_100 (s : ByteArray) (x u : Int) : ∃ r, element_Value.f 100 s x u = some (worthOf x u r) := by
  unfold element_Value.f worthOf
  rw [right_k x 100 (by decide), Option.bind_some]
  by_cases cx : okAmt x = true
  · simp only [if_pos cx]
    by_cases cu : u < 0
    · refine ⟨0, ?_⟩
      rw [if_pos cu, if_pos (.inl cu)]
      rfl
    · rw [if_neg cu]
      by_cases cu2 : 100000 < u
      · refine ⟨0, ?_⟩
        rw [if_pos (.inr cu2), decide_eq_true (show u > 100000 from cu2)]
        rfl
      · obtain ⟨p0, p1⟩ := prod_le x u cx (by omega) (by omega)
        obtain ⟨r, hr⟩ := round_100 (x * u) (by omega) (by omega)
        refine ⟨r, ?_⟩
        rw [if_neg (fun h => h.elim cu cu2), decide_eq_false (show ¬u > 100000 from cu2)]
        rw [element_Value.j0, if_neg (by decide), w64 (x := x * u) (by omega) (by omega), hr, Option.bind_some, if_pos rfl, right_k r 99 (by decide), Option.bind_some]
        split <;> rfl
  · refine ⟨0, ?_⟩
    rw [if_neg cx, if_neg cx]

/-- The kinds are each one alone, and each sum may be. -/
def Sane (out : List S76) : Prop := (∀ (i j : Nat) (a b : S76), out[i]? = some a → out[j]? = some b → a.f0.toList = b.f0.toList → i = j) ∧ ∀ a ∈ out, okAmt a.f1 = true
theorem sane_nil : Sane [] := ⟨fun i j a b h => by simp at h, fun a h => by simp at h⟩
theorem idx_iff (kind : ByteArray) : ∀ (xs : List S76) (i : Nat), idxFrom kind xs i = -1 → ∀ a ∈ xs, a.f0.toList ≠ kind.toList
  | [], i, _, a, ha => by simp at ha
  | x :: t, i, h, a, ha => by
    simp only [idxFrom] at h
    split at h
    · omega
    · rename_i hx
      rcases List.mem_cons.1 ha with ha | ha
      · subst ha; simpa using hx
      · exact idx_iff kind t (i + 1) h a ha
theorem idx_at (kind : ByteArray) : ∀ (xs : List S76) (i : Nat), 0 ≤ idxFrom kind xs i → ∃ a, xs[(idxFrom kind xs i).toNat - i]? = some a ∧ a.f0.toList = kind.toList
  | [], i, h => by simp [idxFrom] at h
  | x :: t, i, h => by
    simp only [idxFrom] at h ⊢
    split
    · rename_i hx
      exact ⟨x, by simp, by simpa using hx⟩
    · rename_i hx
      rw [if_neg hx] at h
      obtain ⟨a, ha, hk⟩ := idx_at kind t (i + 1) h
      rcases idx_lt kind t (i + 1) with h1 | ⟨h1, _⟩
      · omega
      · refine ⟨a, ?_, hk⟩
        rw [show (idxFrom kind t (i + 1)).toNat - i = ((idxFrom kind t (i + 1)).toNat - (i + 1)) + 1 by omega]
        exact ha
theorem idx_same {kind : ByteArray} {out : List S76} (hs : Sane out) (j : Nat) (a : S76) (h : out[j]? = some a) : a.f0.toList = kind.toList ↔ (j : Int) = idxFrom kind out 0 := by
  constructor
  · intro hk
    rcases idx_lt kind out 0 with h1 | ⟨h1, h2⟩
    · exact absurd hk (idx_iff kind out 0 h1 a (List.mem_of_getElem? h))
    · obtain ⟨b, hb, hkb⟩ := idx_at kind out 0 (by omega)
      have := hs.1 j _ a b h hb (hk.trans hkb.symm)
      omega
  · intro hj
    obtain ⟨b, hb, hkb⟩ := idx_at kind out 0 (by omega)
    rw [show (idxFrom kind out 0).toNat - 0 = j by omega, h] at hb
    injection hb with hb
    rw [hb]; exact hkb
theorem sane_app {out : List S76} {kind : ByteArray} {v : Int} (hs : Sane out) (hk : idxFrom kind out 0 < 0) (hv : okAmt v = true) : Sane (out ++ [⟨kind, v⟩]) := by
  have hne : idxFrom kind out 0 = -1 := by rcases idx_lt kind out 0 with h | ⟨h, _⟩ <;> omega
  have hno := idx_iff kind out 0 hne
  refine ⟨fun i j a b ha hb he => ?_, fun a ha => ?_⟩
  · rw [List.getElem?_append] at ha hb
    split at ha <;> split at hb
    · exact hs.1 i j a b ha hb he
    · rename_i h1 h2
      have hj : j - out.length = 0 := by have := (List.getElem?_eq_some_iff.1 hb).1; simp at this; omega
      rw [hj] at hb
      simp at hb
      subst hb
      exact absurd he (hno a (List.mem_of_getElem? ha))
    · rename_i h1 h2
      have hj : i - out.length = 0 := by have := (List.getElem?_eq_some_iff.1 ha).1; simp at this; omega
      rw [hj] at ha
      simp at ha
      subst ha
      exact absurd he.symm (hno b (List.mem_of_getElem? hb))
    · have h1 := (List.getElem?_eq_some_iff.1 ha).1
      have h2 := (List.getElem?_eq_some_iff.1 hb).1
      simp at h1 h2
      omega
  · rcases List.mem_append.1 ha with ha | ha
    · exact hs.2 a ha
    · simp at ha; subst ha; exact hv
theorem sane_set {out : List S76} {j : Nat} {y : S76} {u : Int} (hs : Sane out) (hy : out[j]? = some y) (hu : okAmt u = true) : Sane (out.set j ⟨y.f0, u⟩) := by
  have hget : ∀ (i : Nat) (a : S76), (out.set j ⟨y.f0, u⟩)[i]? = some a → ∃ b, out[i]? = some b ∧ a.f0 = b.f0 ∧ okAmt a.f1 = true := by
    intro i a ha
    rw [List.getElem?_set] at ha
    split at ha
    · rename_i hij
      subst hij
      split at ha
      · injection ha with ha
        subst ha
        exact ⟨y, hy, rfl, hu⟩
      · cases ha
    · exact ⟨a, ha, rfl, hs.2 a (List.mem_of_getElem? ha)⟩
  refine ⟨fun i i' a b ha hb he => ?_, fun a ha => ?_⟩
  · obtain ⟨a', h1, h2, _⟩ := hget i a ha
    obtain ⟨b', h3, h4, _⟩ := hget i' b hb
    exact hs.1 i i' a' b' h1 h3 (by rw [← h2, ← h4]; exact he)
  · obtain ⟨i, hi⟩ := List.mem_iff_getElem?.1 ha
    exact (hget i a hi).choose_spec.2.2

theorem sums_total : ∀ (l : List S48) (out : List S76), Sane out → ∃ r, sumsGo l out = some r
  | [], out, _ => ⟨_, rfl⟩
  | x :: t, out, hs => by
    obtain ⟨r, hr⟩ := value_100 x.f0 x.f1 x.f2
    simp only [sumsGo, hr, Option.bind_some]
    by_cases c : (worthOf x.f1 x.f2 r).2 = 0
    · rw [if_pos c]
      have hv : okAmt (worthOf x.f1 x.f2 r).1 = true := by
        unfold worthOf at c ⊢
        split at c
        · rename_i c1
          rw [if_pos c1]
          split at c
          · exact absurd c (by decide)
          · rename_i c2
            rw [if_neg c2]
            split at c
            · rename_i c3; rw [if_pos c3]; exact c3
            · exact absurd c (by decide)
        · exact absurd c (by decide)
      unfold sumsAt
      by_cases ci : idxFrom x.f0 out 0 < 0
      · rw [if_pos ci]
        have e : (out ++ [(⟨x.f0, 0⟩ : S76)]).getD out.length z76 = ⟨x.f0, 0⟩ := by simp
        simp only [e]
        rw [add_100 0 _ (by decide) hv, Int.zero_add, if_pos hv, Option.bind_some, if_pos rfl]
        have e3 : (out ++ [(⟨x.f0, 0⟩ : S76)]).set out.length ⟨x.f0, (worthOf x.f1 x.f2 r).1⟩ = out ++ [⟨x.f0, (worthOf x.f1 x.f2 r).1⟩] := by simp
        rw [e3]
        exact sums_total t _ (sane_app hs ci hv)
      · rw [if_neg ci]
        obtain ⟨y, hy, _⟩ := idx_at x.f0 out 0 (by omega)
        rw [Nat.sub_zero] at hy
        have e : out.getD (idxFrom x.f0 out 0).toNat z76 = y := by rw [List.getD_eq_getElem?_getD, hy]; rfl
        simp only [e]
        rw [add_100 y.f1 _ (hs.2 y (List.mem_of_getElem? hy)) hv]
        by_cases co : okAmt (y.f1 + (worthOf x.f1 x.f2 r).1) = true
        · rw [if_pos co, Option.bind_some, if_pos rfl]
          exact sums_total t _ (sane_set hs hy co)
        · rw [if_neg co, Option.bind_some, if_neg (by decide)]
          exact ⟨_, rfl⟩
    · rw [if_neg c]
      exact ⟨_, rfl⟩
theorem worth_ok {x u r v : Int} (h : worthOf x u r = (v, 0)) : okAmt v = true := by
  unfold worthOf at h
  split at h
  · split at h
    · injection h with _ h; exact absurd h (by decide)
    · split at h
      · rename_i c; injection h with h _; rw [← h]; exact c
      · injection h with _ h; exact absurd h (by decide)
  · injection h with _ h; exact absurd h (by decide)

attribute [local go_sem high] eqA76
set_option maxRecDepth 100000 in
set_option maxHeartbeats 16000000 in
theorem elementSums_calls (A0 : Option Addr) (c0 : Nat) (l0 : List S48) (w : World) (hr0 : Kd.C k48 w A0 l0.length l0) (hc0 : l0.length ≤ c0) (hG : GTab w) :
    Calls Tryd.prog 9 #[.slice A0 l0.length c0] w fun e w' => e = .returned (.bool true) ∧ Below w.heap.size w w' := by
  have WOR := Lib.hid (stipendlaw11_worths.calls true w rfl hG)
  have HR : Hid (Kd.C k48 w A0 l0.length l0) := hr0
  clear hr0 hG
  have hu48 := Tryd.underlying48
  have hu76 := Tryd.underlying76
  by_cases c40 : 40 < l0.length
  · have c40' : (40 : Int) < (l0.length : Int) := by omega
    go_enter Tryd.func9, Tryd.ntmps9
    go_wp2_with fail
    refine WOR.out.mono ?_
    rintro e w1 ⟨rfl, hb1⟩
    have HB1 := Lib.hid hb1
    clear hb1
    go_wp2
    go_ret
    exact ⟨rfl, HB1.out⟩
  · have c40' : ¬(40 : Int) < (l0.length : Int) := by omega
    obtain ⟨⟨r1, r2⟩, hsum⟩ := sums_total l0 [] sane_nil
    have hf : element_Sums.f l0 = some (r1, r2) := by unfold element_Sums.f; rw [if_pos (by omega)]; exact hsum
    have SUM := Lib.hid (fun W h => element_Sums.calls A0 c0 l0 r1 r2 W h hc0 hf)
    have H0 := Lib.hid hsum
    clear hf hsum
    go_enter Tryd.func9, Tryd.ntmps9
    go_wp2_with fail
    refine WOR.out.mono ?_
    rintro e w1 ⟨rfl, hb1⟩
    have HB1 := Lib.hid hb1
    have HR1 := Lib.hid (Kd.C_below HR.out hb1)
    clear hb1
    go_wp2_with fail
    refine (SUM.out _ HR1.out).mono ?_
    rintro e ws ⟨vg, rfl, hvg, hbs⟩
    obtain ⟨Ag, cg, rfl, hcg, hCg⟩ := Kd.R_reads hvg
    have HBS : Hid (Below w.heap.size w ws) := below_step HB1.out hbs
    have HRS : Hid (Kd.C k48 ws A0 l0.length l0) := Kd.C_below HR1.out hbs
    have HGS : Hid (Kd.C k76 ws Ag r1.length r1) := hCg
    clear hvg hbs hCg hcg SUM WOR HR HB1 HR1
    go_wp2_with fail
    go_loopg [5, 26] l0.length (fun g v iv wr => ∃ (i : Nat) (out : List S76), iv = .int .i64 i ∧ i ≤ l0.length ∧ l0.length - i ≤ g ∧ out.length ≤ i ∧ Hid (Below ws.heap.size ws wr) ∧ Hid (Kd.R k76 76 wr ws.heap.size (fun _ => True) v out) ∧ Hid (sumsGo (l0.drop i) out = some (r1, r2) ∧ Sane out))
    case atStart => exact ⟨0, [], rfl, by omega, by omega, by simp, Below.refl _ _, Kd.R_nil _ _ _ _ _, H0.out, sane_nil⟩
    case round =>
      obtain ⟨i, out, rfl, hi, hg, ho, HB, HO, HS0⟩ := hrel
      have HS := Lib.hid HS0.out.1
      have HN := Lib.hid HS0.out.2
      clear H0 HS0
      by_cases c1 : i < l0.length
      · obtain ⟨a, t, ht⟩ : ∃ a t, l0.drop i = a :: t := by
          cases h : l0.drop i with
          | nil => have : l0.length ≤ i := by simpa using h
                   omega
          | cons a t => exact ⟨a, t, rfl⟩
        obtain ⟨h1, h2, _⟩ := drop_cons_get ht
        have c1' : (i : Int) < (l0.length : Int) := by omega
        have p0 : (0 : Int) ≤ (i : Int) := by omega
        obtain ⟨ad, eA, f0, f1, f2⟩ := at_T48 (Kd.C_below HRS.out HB.out) (i : Int) p0 c1'
        have er : rd_T48 l0 (i : Int) = a := by
          unfold rd_T48
          rw [List.getD_eq_getElem?_getD, Int.toNat_natCast, h1]
          rfl
        rw [er, Int.toNat_natCast] at f0 f1 f2
        rw [ht] at HS
        subst eA
        obtain ⟨r, hv0⟩ := value_100 a.f0 a.f1 a.f2
        obtain ⟨v, e, hve⟩ : ∃ v e, worthOf a.f1 a.f2 r = (v, e) := ⟨_, _, rfl⟩
        rw [hve] at hv0
        have HS' : Hid ((if e = 0 then ((money_Add.f 100 ((sumsAt a.f0 out).1.getD (sumsAt a.f0 out).2 z76).f1 v).bind fun c => if c.2 = 0 then sumsGo t ((sumsAt a.f0 out).1.set (sumsAt a.f0 out).2 ⟨((sumsAt a.f0 out).1.getD (sumsAt a.f0 out).2 z76).f0, c.1⟩) else some ([], c.2)) else some ([], e)) = some (r1, r2)) := by
          have := HS.out
          simp only [sumsGo, hv0, Option.bind_some] at this
          exact this
        clear HS er h1
        have V := Lib.hid (fun W => element_Value.calls 100 a.f0 a.f1 a.f2 v e W hv0)
        clear hv0
        obtain ⟨A, c, rfl, hcap, hOC⟩ := Kd.R_reads HO.out
        clear hOC
        by_cases ce : e = 0
        · subst ce
          have hv := worth_ok hve
          obtain ⟨J, hJ⟩ : ∃ J, J = idxFrom a.f0 out 0 := ⟨_, rfl⟩
          have HJ := Lib.hid hJ
          have hJb : J = -1 ∨ (0 ≤ J ∧ J < (out.length : Int)) := by
            rcases idx_lt a.f0 out 0 with h | ⟨h3, h4⟩
            · exact .inl (by omega)
            · exact .inr (by omega)
          have HS2 : Hid (((money_Add.f 100 ((sumsAt a.f0 out).1.getD (sumsAt a.f0 out).2 z76).f1 v).bind fun c => if c.2 = 0 then sumsGo t ((sumsAt a.f0 out).1.set (sumsAt a.f0 out).2 ⟨((sumsAt a.f0 out).1.getD (sumsAt a.f0 out).2 z76).f0, c.1⟩) else some ([], c.2)) = some (r1, r2)) := by
            have := HS'.out
            rw [if_pos rfl] at this
            exact this
          clear HS' hJ
          have hvb := (okAmt_iff v).1 hv
          go_wp2_with fail
          refine (V.out _).mono ?_
          rintro e' w2 ⟨rfl, hb2⟩
          obtain ⟨X, hX⟩ : ∃ X, X = wr.heap.size := ⟨_, rfl⟩
          have hXc : (wr.alloc (.cells #[.string a.f0, .int .i64 a.f1, .int .i64 a.f2] 48)).cell? ⟨X, 0, none⟩ = some (.string a.f0) := by
            rw [hX]
            simp
          have hX2 := (hb2.cell (p := ⟨X, 0, none⟩) (by rw [hX]; simp)).trans hXc
          have HX2 := Lib.hid hX2
          have HO2 : Hid (Kd.R k76 76 w2 ws.heap.size (fun k => k < X) (.slice A out.length c) out) := by
            have h := Kd.R_mono (Kd.R_bound HO.out) (ok' := fun k => k < X) (fun k hk => by rw [hX]; exact hk.2.2.1)
            exact Kd.R_below (Kd.R_alloc h (.cells #[.string a.f0, .int .i64 a.f1, .int .i64 a.f2] 48)) hb2
          have HB2 : Hid (Below ws.heap.size ws w2) := (HB.out.alloc HB.out.size (.cells #[.string a.f0, .int .i64 a.f1, .int .i64 a.f2] 48)).trans (hb2.mono (by simp; exact Nat.le_succ_of_le HB.out.size))
          have HXw : Hid (ws.heap.size ≤ X) := by show _ ≤ _; rw [hX]; exact HB.out.size
          have HXl : Hid (X < w2.heap.size) := by
            show X < _
            have := hX2
            apply Classical.byContradiction
            intro hge
            unfold World.cell? at this
            rw [Array.getElem?_eq_none (by simpa using hge)] at this
            cases this
          rw [← hX]
          clear hb2 hXc hX V f0 f1 f2 HB HO hcap hX2
          go_wp2_with fail
          go_loopg [10, 47] out.length (fun g2 av iv wr2 => ∃ (j : Nat) (at' : Int), av = .int .i64 at' ∧ iv = .int .i64 j ∧ j ≤ out.length ∧ out.length - j ≤ g2 ∧ Hid (Below w2.heap.size w2 wr2) ∧ Hid (at' = if 0 ≤ J ∧ J < (j : Int) then J else -1))
          case atStart => exact ⟨0, -1, rfl, rfl, by omega, by omega, Below.refl _ _, (by show _ = _; rw [if_neg (by omega)])⟩
          case round =>
            obtain ⟨j, at', rfl, rfl, hj, hg2, HBj, HA⟩ := hrel
            by_cases d1 : j < out.length
            · have d1' : (j : Int) < (out.length : Int) := by omega
              have q0 : (0 : Int) ≤ (j : Int) := by omega
              obtain ⟨y, hy⟩ : ∃ y, out[j]? = some y := ⟨out[j], List.getElem?_eq_getElem d1⟩
              have HI := Lib.hid (idx_same (kind := a.f0) HN.out j y hy)
              obtain ⟨ad, eA, g0, g1⟩ := at_T76 (Kd.R_reads' (Kd.R_below HO2.out HBj.out)).2.2 (j : Int) q0 d1'
              have er : rd_T76 out (j : Int) = y := by
                unfold rd_T76
                rw [List.getD_eq_getElem?_getD, Int.toNat_natCast, hy]
                rfl
              rw [er, Int.toNat_natCast] at g0 g1
              subst eA
              have hXj : wr.cell? ⟨X, 0, none⟩ = some (.string a.f0) := (HBj.out.cell (p := ⟨X, 0, none⟩) HXl.out).trans HX2.out
              have hlt : X < wr.heap.size := by have := HBj.out.size; have := HXl.out; omega
              have hne : X ≠ wr.heap.size := Nat.ne_of_lt hlt
              have hXk : (wr.alloc (.cells #[.string y.f0, .int .i64 y.f1] 76)).cell? ⟨X, 0, none⟩ = some (.string a.f0) := ((Below.alloc (Below.refl wr.heap.size wr) (Nat.le_refl _) (.cells #[.string y.f0, .int .i64 y.f1] 76)).cell (p := ⟨X, 0, none⟩) hlt).trans hXj
              clear hy er
              by_cases d2 : (y.f0.toList == a.f0.toList) = true
              · go_wp2
                go_roundg (out.length - (j + 1))
                case measure => omega
                case rel =>
                  have hJj : (j : Int) = J := (HI.out.1 (by simpa using d2)).trans HJ.out.symm
                  refine ⟨j + 1, j, rfl, by go_num, by omega, by omega, ?_, (by show _ = _; rw [if_pos (by omega)]; exact hJj)⟩
                  show Below _ _ _
                  repeat (first | exact HBj.out | apply below_alloc)
              · have d2' : (y.f0.toList == a.f0.toList) = false := Bool.eq_false_iff.2 d2
                go_wp2
                go_roundg (out.length - (j + 1))
                case measure => omega
                case rel =>
                  have hJj : (j : Int) ≠ J := fun h => d2 (by simpa using HI.out.2 (h.trans HJ.out))
                  have hA' : at' = if 0 ≤ J ∧ J < ((j + 1 : Nat) : Int) then J else -1 := by
                    rw [HA.out]
                    by_cases h : 0 ≤ J ∧ J < (j : Int)
                    · rw [if_pos h, if_pos (by omega)]
                    · rw [if_neg h, if_neg (by omega)]
                  refine ⟨j + 1, at', rfl, by go_num, by omega, by omega, ?_, hA'⟩
                  show Below _ _ _
                  repeat (first | exact HBj.out | apply below_alloc)
            · have d1' : ¬(j : Int) < (out.length : Int) := by omega
              have hat : at' = J := by
                rw [HA.out]
                rcases hJb with h | h
                · rw [if_neg (by omega)]; omega
                · rw [if_pos (by omega)]
              subst hat
              have HO3 : Hid (Kd.R k76 76 wr ws.heap.size (fun k => k < X) (.slice A out.length c) out) := Kd.R_below HO2.out HBj.out
              have HB3 : Hid (Below ws.heap.size ws wr) := HB2.out.trans (HBj.out.mono HB2.out.size)
              have hX3 : wr.cell? ⟨X, 0, none⟩ = some (.string a.f0) := (HBj.out.cell (p := ⟨X, 0, none⟩) HXl.out).trans HX2.out
              have LX : Hid (X < wr.heap.size) := Nat.lt_of_lt_of_le HXl.out HBj.out.size
              clear HA HX2 HO2 HB2 HXl HBj d1 hg2 hj
              have w0 : IntKind.i64.wrap v = v := by rw [IntKind.wrap_i64]; omega
              by_cases hJn : at' < 0
              · have ci : idxFrom a.f0 out 0 < 0 := by rw [← HJ.out]; exact hJn
                have HSn := sane_app HN.out ci hv
                have HS3 : Hid (sumsGo t (out ++ [⟨a.f0, v⟩]) = some (r1, r2)) := by
                  have := HS2.out
                  have e1 : sumsAt a.f0 out = (out ++ [⟨a.f0, 0⟩], out.length) := by unfold sumsAt; rw [if_pos ci]
                  have e2 : (out ++ [(⟨a.f0, 0⟩ : S76)]).getD out.length z76 = ⟨a.f0, 0⟩ := by simp
                  have e3 : ∀ y : S76, (out ++ [(⟨a.f0, 0⟩ : S76)]).set out.length y = out ++ [y] := fun y => by simp
                  rw [e1] at this
                  simp only [e2, e3] at this
                  rw [add_100 0 v (by decide) hv, Int.zero_add, if_pos hv, Option.bind_some, if_pos rfl] at this
                  exact this
                have HSN := Lib.hid HSn
                have n0 : decide (at' < 0) = true := decide_eq_true hJn
                have d3 : ¬ (100000000000 < v) := by omega
                have d4 : ¬ (v < -100000000000) := by omega
                clear HS2 HSn HJ
                go_wp2_with (first | ((with_reducible refine gate_builtin (b := .append) (xs := #[.tmp 63, .tmp 67]) rfl ?_); at_builtin; refine Kd.R_append k76 (w0 := ws) ws.heap.size rfl (.tmp 63) (.tmp 67) 72 76 (.agg #[(.string ⟨#[]⟩), (.int .i64 0)]) 24 rfl Tryd.underlying72 info76 rfl (by decide) (by omega) (.slice A out.length c) out (⟨a.f0, 0⟩ : S76) [.string a.f0, .int .i64 0] (fun k => k ≠ X) (fun _ => False) rfl (by first | (go_simp; done) | (go_simp; rfl)) ?aP (fun _ hk => hk.elim) ?aF ?aO ?aB ?aS ?aL ?_; (case aP => exact k76_mkM _ _ _ (⟨a.f0, 0⟩ : S76)); (case aB => exact HB3.out); (case aF => exact (fun k hk => Nat.ne_of_gt (Nat.lt_of_lt_of_le LX.out hk))); (case aO => exact Kd.R_mono HO3.out (fun k hk => Nat.ne_of_lt hk)); (case aS => exact HB3.out.size); (case aL => omega); intro v4 w4 ho4 hb4 hg4 hat4; have hx := app76 ho4; obtain ⟨g, c4, rfl, hbg, ez, f1⟩ := hx; have HO4 := Lib.hid ho4; have HB4 := Lib.hid hb4; have HG := Lib.hid hbg; have q0 : (0 : Int) ≤ (out.length : Int) := (by omega); have q1 : (out.length : Int) < ((out.length + 1 : Nat) : Int) := (by omega); clear ho4 hb4 hbg hg4 hat4))
                have HO5 : Hid (Kd.R k76 76 (w4.setCell ⟨g, out.length * 2 + 1, none⟩ (.int .i64 v)) ws.heap.size (fun _ => True) (.slice (some ⟨g, 0, none⟩) (out.length + 1) c4) (out ++ [⟨a.f0, v⟩])) := by
                  show Kd.R _ _ _ _ _ _ _
                  exact app76_put (Kd.R_mono HO4.out (fun _ _ => trivial)) v
                have HB5 : Hid (Below ws.heap.size ws (w4.setCell ⟨g, out.length * 2 + 1, none⟩ (.int .i64 v))) := below_set HB4.out HG.out
                go_roundg (l0.length - (i + 1))
                case measure => omega
                case rel => exact ⟨i + 1, (out ++ [(⟨a.f0, v⟩ : S76)]), by go_num, by omega, by omega, by simp; omega, HB5.out, HO5.out, by rw [h2]; exact HS3.out, HSN.out⟩
              · obtain ⟨jn, hjn, hjl⟩ : ∃ jn : Nat, idxFrom a.f0 out 0 = (jn : Int) ∧ jn < out.length := by
                  rcases idx_lt a.f0 out 0 with h | ⟨h3, h4⟩
                  · have := HJ.out; omega
                  · exact ⟨(idxFrom a.f0 out 0).toNat, by omega, by omega⟩
                have hat : at' = (jn : Int) := HJ.out.trans hjn
                subst hat
                have HS3 : Hid (((money_Add.f 100 (out.getD jn z76).f1 v).bind fun c => if c.2 = 0 then sumsGo t (out.set jn ⟨(out.getD jn z76).f0, c.1⟩) else some ([], c.2)) = some (r1, r2)) := by
                  have := HS2.out
                  have e1 : sumsAt a.f0 out = (out, jn) := by unfold sumsAt; rw [if_neg (by omega), hjn, Int.toNat_natCast]
                  rw [e1] at this
                  exact this
                clear HS2
                obtain ⟨g, c4, hA, hbg, hfz⟩ := own76 HO3.out (by omega)
                injection hA with hA _ hc
                subst hA hc
                have f1 := (at76 HO3.out jn hjl).2
                have ez := hfz (jn * 2 + 1)
                have HG := Lib.hid hbg
                have q0 : (0 : Int) ≤ (jn : Int) := by omega
                have q1 : (jn : Int) < (out.length : Int) := by omega
                have q2 : ¬(jn : Int) < 0 := by omega
                obtain ⟨y, hy⟩ : ∃ y, out[jn]? = some y := ⟨out[jn], List.getElem?_eq_getElem hjl⟩
                have hyd : out.getD jn z76 = y := by rw [List.getD_eq_getElem?_getD, hy]; rfl
                have hyo : okAmt y.f1 = true := HN.out.2 y (List.mem_of_getElem? hy)
                rw [hyd] at f1 HS3
                have hyb := (okAmt_iff y.f1).1 hyo
                have w1' : IntKind.i64.wrap (y.f1 + v) = y.f1 + v := by rw [IntKind.wrap_i64]; omega
                have HS4 := HS3.out
                rw [add_100 y.f1 v hyo hv] at HS4
                have HO5 : Hid (Kd.R k76 76 (wr.setCell ⟨g, jn * 2 + 1, none⟩ (.int .i64 (y.f1 + v))) ws.heap.size (fun _ => True) (.slice (some ⟨g, 0, none⟩) out.length c) (out.set jn ⟨y.f0, y.f1 + v⟩)) := by
                  show Kd.R _ _ _ _ _ _ _
                  have h := put76 (Kd.R_mono HO3.out (fun _ _ => trivial)) jn hjl (y.f1 + v); rw [hyd] at h; exact h
                have HB5 : Hid (Below ws.heap.size ws (wr.setCell ⟨g, jn * 2 + 1, none⟩ (.int .i64 (y.f1 + v)))) := below_set HB3.out HG.out
                by_cases co : okAmt (y.f1 + v) = true
                · rw [if_pos co, Option.bind_some, if_pos rfl] at HS4
                  have HS5 := Lib.hid HS4
                  have HSN := Lib.hid (sane_set HN.out hy co)
                  have hcb := (okAmt_iff _).1 co
                  have d3 : ¬ (100000000000 < y.f1 + v) := by omega
                  have d4 : ¬ (y.f1 + v < -100000000000) := by omega
                  clear HS3 HS4 hy hyd hbg hfz HO3 HB3 hX3 hJb HJ
                  go_wp2_with fail
                  go_roundg (l0.length - (i + 1))
                  case measure => omega
                  case rel => exact ⟨i + 1, (out.set jn (⟨y.f0, y.f1 + v⟩ : S76)), by go_num, by omega, by omega, by simp only [List.length_set]; omega, HB5.out, HO5.out, by rw [h2]; exact HS5.out, HSN.out⟩
                · rw [if_neg co, Option.bind_some, if_neg (by decide)] at HS4
                  have HS5 : Hid ((([] : List S76), (10 : Int)) = (r1, r2)) := Option.some.inj HS4
                  have hcb := mt (okAmt_iff _).2 co
                  clear HS3 HS4 hy hyd hbg hfz HO3 HB3 hX3 hJb HJ
                  have e1 := congrArg Prod.fst HS5.out
                  have e2' := congrArg Prod.snd HS5.out
                  simp only at e1 e2'
                  subst e1 e2'
                  by_cases d3 : 100000000000 < y.f1 + v
                  · go_wp2_with fail
                    go_ret
                    exact ⟨by simp, below_step HBS.out HB5.out⟩
                  · have d4 : y.f1 + v < -100000000000 := by omega
                    go_wp2_with fail
                    go_ret
                    exact ⟨by simp, below_step HBS.out HB5.out⟩
        · have HS5 : Hid ((([] : List S76), e) = (r1, r2)) := by
            have := HS'.out
            rw [if_neg ce] at this
            exact Option.some.inj this
          clear HS'
          have e1 := congrArg Prod.fst HS5.out
          have e2' := congrArg Prod.snd HS5.out
          simp only at e1 e2'
          subst e1 e2'
          go_wp2_with fail
          refine (V.out _).mono ?_
          rintro e' w2 ⟨rfl, hb2⟩
          have HB2 : Hid (Below ws.heap.size ws w2) := (HB.out.alloc HB.out.size (.cells #[.string a.f0, .int .i64 a.f1, .int .i64 a.f2] 48)).trans (hb2.mono (by simp; exact Nat.le_succ_of_le HB.out.size))
          clear hb2 HB HO
          go_wp2
          go_ret
          exact ⟨by simp, below_step HBS.out HB2.out⟩
      · have c1' : ¬(i : Int) < (l0.length : Int) := by omega
        have HS5 : Hid ((out, (0 : Int)) = (r1, r2)) := by
          have := HS.out
          rw [List.drop_eq_nil_of_le (by omega)] at this
          exact Option.some.inj this
        clear HS
        have e1 := congrArg Prod.fst HS5.out
        have e2' := congrArg Prod.snd HS5.out
        simp only at e1 e2'
        subst e1 e2'
        obtain ⟨A, c, rfl, hcap, hOC⟩ := Kd.R_reads HO.out
        clear hOC hcap
        go_wp2
        go_loopg [111] out.length (fun g2 iv wr2 => ∃ (j : Nat), iv = .int .i64 j ∧ j ≤ out.length ∧ out.length - j ≤ g2 ∧ Hid (Below wr.heap.size wr wr2))
        case atStart => exact ⟨0, rfl, by omega, by omega, Below.refl _ _⟩
        case round =>
          obtain ⟨j, rfl, hj, hg2, HBj⟩ := hrel
          by_cases d1 : j < out.length
          · have d1' : (j : Int) < (out.length : Int) := by omega
            have q0 : (0 : Int) ≤ (j : Int) := by omega
            obtain ⟨ad, eA, g0, g1⟩ := at_T76 (Kd.R_reads' (Kd.R_below HO.out HBj.out)).2.2 (j : Int) q0 d1'
            obtain ⟨ad2, eA2, k0, k1⟩ := at_T76 (Kd.C_below (Kd.C_below HGS.out HB.out) HBj.out) (j : Int) q0 d1'
            subst eA
            subst eA2
            rw [Int.toNat_natCast] at g0 g1 k0 k1
            generalize rd_T76 out (j : Int) = y at g0 g1 k0 k1
            go_wp2_with fail
            go_quiet (fail)
            go_wp2
            go_roundg (out.length - (j + 1))
            case measure => omega
            case rel => exact ⟨j + 1, by go_num, by omega, by omega, pw_below_drewN HBj.out _⟩
          · have d1' : ¬(j : Int) < (out.length : Int) := by omega
            go_wp2
            go_ret
            exact ⟨rfl, below_step HBS.out (HB.out.trans (HBj.out.mono HB.out.size))⟩

/-- What the row asks: the answer, and the walk in the printed contracts' form. -/
def stipendlaw11_ElementSums.f (_k : Nat) (_l : List S48) : Option Bool := some true
theorem elementSums_true {p : Prop} (l : List S48) (_g : p) : ∃ k, stipendlaw11_ElementSums.f k l = some true := ⟨0, rfl⟩
theorem stipendlaw11_ElementSums.calls (k : Nat) (A0 : Option Addr) (c0 : Nat) (l0 : List S48) (r : Bool) (w : World) (hr0 : Kd.C k48 w A0 l0.length l0) (hc0 : l0.length ≤ c0) (h : stipendlaw11_ElementSums.f k l0 = some r) (hG : GTab w) :
    Calls Tryd.prog 9 #[.slice A0 l0.length c0] w fun e w' => e = .returned (.bool r) ∧ Below w.heap.size w w' := by
  obtain rfl : true = r := Option.some.inj h
  exact elementSums_calls A0 c0 l0 w hr0 hc0 hG
end Go.Proofs.YtmocphafkimdpaaDoor.P
