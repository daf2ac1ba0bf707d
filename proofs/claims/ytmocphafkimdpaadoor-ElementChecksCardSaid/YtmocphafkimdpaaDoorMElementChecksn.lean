/- A part of the proof of ElementChecks's card: 'ElementChecks' answers true for every input (the conditions: those of the given statement alone). Merged by a program (wip/merge.py) out of: Pf11. -/
import Derived.Test.YtmocphafkimdpaaDoorMElementChecksa
import Derived.Test.YtmocphafkimdpaaDoorMElementChecksi
import Derived.Test.YtmocphafkimdpaaDoorMElementChecksb
import Derived.Test.YtmocphafkimdpaaDoorMElementChecksl
import Derived.Test.YtmocphafkimdpaaDoorMElementChecksk
import Derived.Test.YtmocphafkimdpaaDoorMElementChecksm

-- written by a program (a patched copy of the kit's print: wip/mkprint.py); Lean checks it
namespace Go.Proofs.YtmocphafkimdpaaDoor.P
open Go.RowKit Go.Proofs.YtmocphafkimdpaaDoorW.PrintWords Go.Proofs.YtmocphafkimdpaaDoorW.PrintLast Go.Proofs.YtmocphafkimdpaaDoorW.PrintMore
attribute [local go_sem] max2_int min2_int max_two min_two max_three min_three max_four min_four   -- for this text's walks alone
set_option linter.unusedVariables false
set_option linter.unusedSimpArgs false

/-! ### stipendlaw11_ElementChecks: function 11 -/
mutual
def stipendlaw11_ElementChecks.j0 : Nat → List (S48) → Bool → List (List (S222)) → List (S97) → List (S89) → Int → Int → Option (Bool)
 | 0, _, _, _, _, _, _, _ => none
 | k + 1, x1, x23, x496000, x496001, x496002, x496003, x496004 => if x23 = true then (some true) else (if (x1.length : Int) > 32 then (stipendlaw11_ElementChecks.j1 k x1 2 x496000 x496001 x496002 x496003 x496004) else (stipendlaw11_ElementChecks.j1 k x1 0 x496000 x496001 x496002 x496003 x496004))
def stipendlaw11_ElementChecks.j1 : Nat → List (S48) → Int → List (List (S222)) → List (S97) → List (S89) → Int → Int → Option (Bool)
 | 0, _, _, _, _, _, _, _ => none
 | k + 1, x1, x5, x496000, x496001, x496002, x496003, x496004 => stipendlaw11_ElementChecks.l0 k x1 x5 x1 (x1.length : Int) 0 x496000 x496001 x496002 x496003 x496004
def stipendlaw11_ElementChecks.l0 : Nat → List (S48) → Int → List (S48) → Int → Int → List (List (S222)) → List (S97) → List (S89) → Int → Int → Option (Bool)
 | 0, _, _, _, _, _, _, _, _, _, _ => none
 | k + 1, x1, x5, x27, x28, x29, x496000, x496001, x496002, x496003, x496004 => if x29 < x28 then (if 0 ≤ x29 then (if x29 < (x27.length : Int) then ((element_Check.f k x496000 x496001 x496002 x496003 x496004 ((rd_T48 x27 x29).f0) ((rd_T48 x27 x29).f1) ((rd_T48 x27 x29).f2)).bind fun t500 => ((element_Value.f k ((rd_T48 x27 x29).f0) ((rd_T48 x27 x29).f1) ((rd_T48 x27 x29).f2)).bind fun bt501 => ((table_Kind.f k x496000 x496001 x496002 x496003 x496004 ((rd_T48 x27 x29).f0)).bind fun bt503 => (if bt503.2.2.2.2 = 0 then (stipendlaw11_ElementChecks.j3 k x1 x5 t500 bt501.2 x27 x28 x29 x496000 x496001 x496002 x496003 x496004) else (stipendlaw11_ElementChecks.j3 k x1 x5 t500 bt503.2.2.2.2 x27 x28 x29 x496000 x496001 x496002 x496003 x496004))))) else (none)) else (none)) else ((element_CheckAll.f k x496000 x496001 x496002 x496003 x496004 x1).bind fun t497 => (some (t497 == x5)))
def stipendlaw11_ElementChecks.j3 : Nat → List (S48) → Int → Int → Int → List (S48) → Int → Int → List (List (S222)) → List (S97) → List (S89) → Int → Int → Option (Bool)
 | 0, _, _, _, _, _, _, _, _, _, _, _, _ => none
 | k + 1, x1, x5, x8, x10, x27, x28, x29, x496000, x496001, x496002, x496003, x496004 => if x8 = x10 then (if x5 = 0 then (stipendlaw11_ElementChecks.l0 k x1 x8 x27 x28 (wrap64 (x29 + 1)) x496000 x496001 x496002 x496003 x496004) else (stipendlaw11_ElementChecks.l0 k x1 x5 x27 x28 (wrap64 (x29 + 1)) x496000 x496001 x496002 x496003 x496004)) else (some false)
end
def stipendlaw11_ElementChecks.f (k : Nat) (l0_0 : List (List (S222))) (l0_1 : List (S97)) (l0_2 : List (S89)) (a0_3 : Int) (a0_4 : Int) (l1 : List (S48)) : Option (Bool) := (stipendlaw11_worths.f).bind fun t496 => (if t496 = true then (if (l1.length : Int) > 60 then (stipendlaw11_ElementChecks.j0 k l1 true l0_0 l0_1 l0_2 a0_3 a0_4) else (stipendlaw11_ElementChecks.j0 k l1 (decide ((l0_2.length : Int) > 60)) l0_0 l0_1 l0_2 a0_3 a0_4)) else (some false))
theorem stipendlaw11_ElementChecks.mono_l : ∀ k, (∀ y0 y1 y2 y3 y4 y5 y6, LeO (stipendlaw11_ElementChecks.j0 k y0 y1 y2 y3 y4 y5 y6) (stipendlaw11_ElementChecks.j0 (k + 1) y0 y1 y2 y3 y4 y5 y6)) ∧ (∀ y0 y1 y2 y3 y4 y5 y6, LeO (stipendlaw11_ElementChecks.j1 k y0 y1 y2 y3 y4 y5 y6) (stipendlaw11_ElementChecks.j1 (k + 1) y0 y1 y2 y3 y4 y5 y6)) ∧ (∀ y0 y1 y2 y3 y4 y5 y6 y7 y8 y9, LeO (stipendlaw11_ElementChecks.l0 k y0 y1 y2 y3 y4 y5 y6 y7 y8 y9) (stipendlaw11_ElementChecks.l0 (k + 1) y0 y1 y2 y3 y4 y5 y6 y7 y8 y9)) ∧ (∀ y0 y1 y2 y3 y4 y5 y6 y7 y8 y9 y10 y11, LeO (stipendlaw11_ElementChecks.j3 k y0 y1 y2 y3 y4 y5 y6 y7 y8 y9 y10 y11) (stipendlaw11_ElementChecks.j3 (k + 1) y0 y1 y2 y3 y4 y5 y6 y7 y8 y9 y10 y11))
 | 0 => ⟨fun _ _ _ _ _ _ _ r h => by simp [stipendlaw11_ElementChecks.j0] at h, fun _ _ _ _ _ _ _ r h => by simp [stipendlaw11_ElementChecks.j1] at h, fun _ _ _ _ _ _ _ _ _ _ r h => by simp [stipendlaw11_ElementChecks.l0] at h, fun _ _ _ _ _ _ _ _ _ _ _ _ r h => by simp [stipendlaw11_ElementChecks.j3] at h⟩
 | k + 1 => by
  obtain ⟨ih0, ih1, ih2, ih3⟩ := stipendlaw11_ElementChecks.mono_l k
  refine ⟨?_, ?_, ?_, ?_⟩
  ·intro y0 y1 y2 y3 y4 y5 y6
   unfold stipendlaw11_ElementChecks.j0
   repeat' first
   | (with_reducible exact ih0 _ _ _ _ _ _ _)
   | (with_reducible exact ih1 _ _ _ _ _ _ _)
   | (with_reducible exact ih2 _ _ _ _ _ _ _ _ _ _)
   | (with_reducible exact ih3 _ _ _ _ _ _ _ _ _ _ _ _)
   | (with_reducible exact element_Check.mono _ _ _ _ _ _ _ _ _)
   | (with_reducible exact element_CheckAll.mono _ _ _ _ _ _ _)
   | (with_reducible exact element_Value.mono _ _ _ _)
   | (with_reducible exact table_Kind.mono _ _ _ _ _ _ _)
   | (with_reducible exact LeO.refl _)
   | (with_reducible exact LeO.none _)
   | (with_reducible refine LeO.ite ?_ ?_)
   | (with_reducible refine LeO.bind ?_ (fun _ => ?_))
   | exact ih0 _ _ _ _ _ _ _
   | exact ih1 _ _ _ _ _ _ _
   | exact ih2 _ _ _ _ _ _ _ _ _ _
   | exact ih3 _ _ _ _ _ _ _ _ _ _ _ _
   | exact element_Check.mono _ _ _ _ _ _ _ _ _
   | exact element_CheckAll.mono _ _ _ _ _ _ _
   | exact element_Value.mono _ _ _ _
   | exact table_Kind.mono _ _ _ _ _ _ _
   | exact LeO.none _
   | refine LeO.ite ?_ ?_
   | refine LeO.bind ?_ (fun _ => ?_)
  ·intro y0 y1 y2 y3 y4 y5 y6
   unfold stipendlaw11_ElementChecks.j1
   repeat' first
   | (with_reducible exact ih0 _ _ _ _ _ _ _)
   | (with_reducible exact ih1 _ _ _ _ _ _ _)
   | (with_reducible exact ih2 _ _ _ _ _ _ _ _ _ _)
   | (with_reducible exact ih3 _ _ _ _ _ _ _ _ _ _ _ _)
   | (with_reducible exact element_Check.mono _ _ _ _ _ _ _ _ _)
   | (with_reducible exact element_CheckAll.mono _ _ _ _ _ _ _)
   | (with_reducible exact element_Value.mono _ _ _ _)
   | (with_reducible exact table_Kind.mono _ _ _ _ _ _ _)
   | (with_reducible exact LeO.refl _)
   | (with_reducible exact LeO.none _)
   | (with_reducible refine LeO.ite ?_ ?_)
   | (with_reducible refine LeO.bind ?_ (fun _ => ?_))
   | exact ih0 _ _ _ _ _ _ _
   | exact ih1 _ _ _ _ _ _ _
   | exact ih2 _ _ _ _ _ _ _ _ _ _
   | exact ih3 _ _ _ _ _ _ _ _ _ _ _ _
   | exact element_Check.mono _ _ _ _ _ _ _ _ _
   | exact element_CheckAll.mono _ _ _ _ _ _ _
   | exact element_Value.mono _ _ _ _
   | exact table_Kind.mono _ _ _ _ _ _ _
   | exact LeO.none _
   | refine LeO.ite ?_ ?_
   | refine LeO.bind ?_ (fun _ => ?_)
  ·intro y0 y1 y2 y3 y4 y5 y6 y7 y8 y9
   unfold stipendlaw11_ElementChecks.l0
   repeat' first
   | (with_reducible exact ih0 _ _ _ _ _ _ _)
   | (with_reducible exact ih1 _ _ _ _ _ _ _)
   | (with_reducible exact ih2 _ _ _ _ _ _ _ _ _ _)
   | (with_reducible exact ih3 _ _ _ _ _ _ _ _ _ _ _ _)
   | (with_reducible exact element_Check.mono _ _ _ _ _ _ _ _ _)
   | (with_reducible exact element_CheckAll.mono _ _ _ _ _ _ _)
   | (with_reducible exact element_Value.mono _ _ _ _)
   | (with_reducible exact table_Kind.mono _ _ _ _ _ _ _)
   | (with_reducible exact LeO.refl _)
   | (with_reducible exact LeO.none _)
   | (with_reducible refine LeO.ite ?_ ?_)
   | (with_reducible refine LeO.bind ?_ (fun _ => ?_))
   | exact ih0 _ _ _ _ _ _ _
   | exact ih1 _ _ _ _ _ _ _
   | exact ih2 _ _ _ _ _ _ _ _ _ _
   | exact ih3 _ _ _ _ _ _ _ _ _ _ _ _
   | exact element_Check.mono _ _ _ _ _ _ _ _ _
   | exact element_CheckAll.mono _ _ _ _ _ _ _
   | exact element_Value.mono _ _ _ _
   | exact table_Kind.mono _ _ _ _ _ _ _
   | exact LeO.none _
   | refine LeO.ite ?_ ?_
   | refine LeO.bind ?_ (fun _ => ?_)
  ·intro y0 y1 y2 y3 y4 y5 y6 y7 y8 y9 y10 y11
   unfold stipendlaw11_ElementChecks.j3
   repeat' first
   | (with_reducible exact ih0 _ _ _ _ _ _ _)
   | (with_reducible exact ih1 _ _ _ _ _ _ _)
   | (with_reducible exact ih2 _ _ _ _ _ _ _ _ _ _)
   | (with_reducible exact ih3 _ _ _ _ _ _ _ _ _ _ _ _)
   | (with_reducible exact element_Check.mono _ _ _ _ _ _ _ _ _)
   | (with_reducible exact element_CheckAll.mono _ _ _ _ _ _ _)
   | (with_reducible exact element_Value.mono _ _ _ _)
   | (with_reducible exact table_Kind.mono _ _ _ _ _ _ _)
   | (with_reducible exact LeO.refl _)
   | (with_reducible exact LeO.none _)
   | (with_reducible refine LeO.ite ?_ ?_)
   | (with_reducible refine LeO.bind ?_ (fun _ => ?_))
   | exact ih0 _ _ _ _ _ _ _
   | exact ih1 _ _ _ _ _ _ _
   | exact ih2 _ _ _ _ _ _ _ _ _ _
   | exact ih3 _ _ _ _ _ _ _ _ _ _ _ _
   | exact element_Check.mono _ _ _ _ _ _ _ _ _
   | exact element_CheckAll.mono _ _ _ _ _ _ _
   | exact element_Value.mono _ _ _ _
   | exact table_Kind.mono _ _ _ _ _ _ _
   | exact LeO.none _
   | refine LeO.ite ?_ ?_
   | refine LeO.bind ?_ (fun _ => ?_)
theorem stipendlaw11_ElementChecks.mono : ∀ a0 a1 a2 a3 a4 a5 k, LeO (stipendlaw11_ElementChecks.f k a0 a1 a2 a3 a4 a5) (stipendlaw11_ElementChecks.f (k + 1) a0 a1 a2 a3 a4 a5) := by
 intro a0 a1 a2 a3 a4 a5 k
 obtain ⟨ih0, ih1, ih2, ih3⟩ := stipendlaw11_ElementChecks.mono_l k
 unfold stipendlaw11_ElementChecks.f
 repeat' first
   | (with_reducible exact ih0 _ _ _ _ _ _ _)
   | (with_reducible exact ih1 _ _ _ _ _ _ _)
   | (with_reducible exact ih2 _ _ _ _ _ _ _ _ _ _)
   | (with_reducible exact ih3 _ _ _ _ _ _ _ _ _ _ _ _)
   | (with_reducible exact element_Check.mono _ _ _ _ _ _ _ _ _)
   | (with_reducible exact element_CheckAll.mono _ _ _ _ _ _ _)
   | (with_reducible exact element_Value.mono _ _ _ _)
   | (with_reducible exact table_Kind.mono _ _ _ _ _ _ _)
   | (with_reducible exact LeO.refl _)
   | (with_reducible exact LeO.none _)
   | (with_reducible refine LeO.ite ?_ ?_)
   | (with_reducible refine LeO.bind ?_ (fun _ => ?_))
   | exact ih0 _ _ _ _ _ _ _
   | exact ih1 _ _ _ _ _ _ _
   | exact ih2 _ _ _ _ _ _ _ _ _ _
   | exact ih3 _ _ _ _ _ _ _ _ _ _ _ _
   | exact element_Check.mono _ _ _ _ _ _ _ _ _
   | exact element_CheckAll.mono _ _ _ _ _ _ _
   | exact element_Value.mono _ _ _ _
   | exact table_Kind.mono _ _ _ _ _ _ _
   | exact LeO.none _
   | refine LeO.ite ?_ ?_
   | refine LeO.bind ?_ (fun _ => ?_)
set_option maxHeartbeats 8000000 in
set_option maxRecDepth 100000 in
theorem stipendlaw11_ElementChecks.calls (k : Nat) (A0_0 : Option Addr) (c0_0 : Nat) (l0_0 : List (List (S222))) (A0_1 : Option Addr) (c0_1 : Nat) (l0_1 : List (S97)) (A0_2 : Option Addr) (c0_2 : Nat) (l0_2 : List (S89)) (a0_3 : Int) (a0_4 : Int) (A1 : Option Addr) (c1 : Nat) (l1 : List (S48)) (r : Bool) (w : World) (hr0_0 : Kd.C (Kd.slice 222 k222) w A0_0 l0_0.length l0_0) (hc0_0 : l0_0.length ≤ c0_0) (hr0_1 : Kd.C k97 w A0_1 l0_1.length l0_1) (hc0_1 : l0_1.length ≤ c0_1) (hr0_2 : Kd.C k89 w A0_2 l0_2.length l0_2) (hc0_2 : l0_2.length ≤ c0_2) (hr1 : Kd.C k48 w A1 l1.length l1) (hc1 : l1.length ≤ c1) (h : stipendlaw11_ElementChecks.f k l0_0 l0_1 l0_2 a0_3 a0_4 l1 = some r) (hG : GTab w := by first | exact GTab.below HG.out (by repeat (first | (with_reducible first | exact HB.out | apply below_alloc | apply pw_below_drewN | apply below_drew1 | apply below_drew) | exact HB.out)) | exact HG.out) :
  Calls Tryd.prog 11 #[.agg #[.slice A0_0 l0_0.length c0_0, .slice A0_1 l0_1.length c0_1, .slice A0_2 l0_2.length c0_2, .int .i64 a0_3, .int .i64 a0_4], .slice A1 l1.length c1] w fun e w' => e = .returned (.bool r) ∧ Below w.heap.size w w' := by
 have hu86 := Tryd.underlying86
 have hu48 := Tryd.underlying48
 have hu89 := Tryd.underlying89
 have HG := Aside0.mk hG; clear hG
 have HR0_0 := Aside0.mk hr0_0
 have HC0_0 := Aside0.mk hc0_0
 clear hr0_0 hc0_0
 have HR0_1 := Aside0.mk hr0_1
 have HC0_1 := Aside0.mk hc0_1
 clear hr0_1 hc0_1
 have HR0_2 := Aside0.mk hr0_2
 have HC0_2 := Aside0.mk hc0_2
 clear hr0_2 hc0_2
 have HR1 := Aside0.mk hr1
 have HC1 := Aside0.mk hc1
 clear hr1 hc1
 have HB := Aside0.mk (Below.refl w.heap.size w)
 have H : ((stipendlaw11_worths.f).bind fun t496 => (if t496 = true then (if (l1.length : Int) > 60 then (stipendlaw11_ElementChecks.j0 k l1 true l0_0 l0_1 l0_2 a0_3 a0_4) else (stipendlaw11_ElementChecks.j0 k l1 (decide ((l0_2.length : Int) > 60)) l0_0 l0_1 l0_2 a0_3 a0_4)) else (some false))) = some r := h
 clear h
 replace H := Option.bind_eq_some_iff.mp H
 obtain ⟨t496, A30, H⟩ := H
 replace H : (if t496 = true then (if (l1.length : Int) > 60 then (stipendlaw11_ElementChecks.j0 k l1 true l0_0 l0_1 l0_2 a0_3 a0_4) else (stipendlaw11_ElementChecks.j0 k l1 (decide ((l0_2.length : Int) > 60)) l0_0 l0_1 l0_2 a0_3 a0_4)) else (some false)) = some r := H
 have A3 := Aside0.mk A30
 clear A30
 by_cases c4 : t496 = true
 ·subst c4
  have H1 : (if (l1.length : Int) > 60 then (stipendlaw11_ElementChecks.j0 k l1 true l0_0 l0_1 l0_2 a0_3 a0_4) else (stipendlaw11_ElementChecks.j0 k l1 (decide ((l0_2.length : Int) > 60)) l0_0 l0_1 l0_2 a0_3 a0_4)) = some r := by rw [if_pos rfl] at H; exact H
  clear H
  have H := H1
  clear H1
  have HC5 := Aside0.mk H
  clear H
  go_enter Tryd.func11, Tryd.ntmps11
  go_upto_region 3 with (first | ((with_reducible refine gate_dst (N := 2) rfl ?_); (try (refine gate_guard (by rfl) ?_; dsimp only)); refine box_event ?hg (N := 2) ?hd (cs := #[.slice A0_0 l0_0.length c0_0, .slice A0_1 l0_1.length c0_1, .slice A0_2 l0_2.length c0_2, .int .i64 a0_3, .int .i64 a0_4]) (t := 86) ?hr ?_; (case hd => rfl); (case hg => rfl); (case hr => first | (go_simp; done) | (go_simp; rfl)); intro gb495 hg w6 hbox hb; have n0_ := Aside0.mk (below_step (by repeat (first | (with_reducible first | exact HB.out | apply below_alloc | apply pw_below_drewN | apply below_drew1) | exact HB.out)) hb); have n1_ := Aside0.mk (hbox); have n2_ := Aside0.mk ((by rw [hg]; exact (below_size (by repeat (first | (with_reducible first | exact HB.out | apply below_alloc | apply pw_below_drewN | apply below_drew1) | exact HB.out))) : w.heap.size ≤ gb495)); have n3_ := Aside0.mk ((by rw [hg]; exact (below_size (by repeat (first | (with_reducible first | exact HB.out | apply below_alloc | apply pw_below_drewN | apply below_drew1) | exact HB.out))) : w.heap.size ≤ gb495)); clear HB; have HB := n0_; have BK495 := n1_; have GW495 := n2_; have GE495 := n3_; clear n0_ n1_ n2_ n3_; clear hb hbox hg) | ((with_reducible refine gate_callee (f := 35) rfl ?_); refine goesL_ (some 13) rfl rfl Tryd.func35 (by kernel_rfl) rfl #[] rfl (by (try simp only [List.map_toArray, List.map_cons, List.map_nil]); first | done | rfl | (simp only [List.length_drop, List.length_take]; rfl)) ?_; (with_reducible refine (stipendlaw11_worths.calls  true _ A3.out).mono ?_); rintro e w7 ⟨rfl, hb⟩; refine ⟨_, rfl, ?_⟩; have n0_ := Aside0.mk (blk_below (g := gb495) (o := .cells #[.slice A0_0 l0_0.length c0_0, .slice A0_1 l0_1.length c0_1, .slice A0_2 l0_2.length c0_2, .int .i64 a0_3, .int .i64 a0_4] 86 (0, 0)) (by (with_reducible repeat (first | refine blk_drewN ?_ _ | refine blk_drew ?_ | refine blk_alloc ?_ _)); exact BK495.out) hb); have n1_ := Aside0.mk (below_step (by repeat (first | (with_reducible first | exact HB.out | apply below_alloc | apply pw_below_drewN | apply below_drew1 | refine below_set ?_ GE495.out) | exact HB.out)) hb); clear BK495; clear HB; have BK495 := n0_; have HB := n1_; clear n0_ n1_; (try clear hb); (try clear hb2); (try clear hk); (try clear hi)))
  (try simp only [Act.put, List.setIfInBounds_toArray, List.set_cons_zero, List.set_cons_succ])
  go_cut [23] (fun v23 wc => ∃ (kq : Nat) (x23_4 : Bool), v23 = .bool x23_4 ∧ Aside0 (stipendlaw11_ElementChecks.j0 kq l1 x23_4 l0_0 l0_1 l0_2 a0_3 a0_4 = some r) ∧ Aside0 (kq ≤ k) ∧ Aside0 (wc.heap[gb495]? = some (.cells #[(.slice A0_0 l0_0.length c0_0), (.slice A0_1 l0_1.length c0_1), (.slice A0_2 l0_2.length c0_2), .int .i64 a0_3, .int .i64 a0_4] 86 (0, 0))) ∧ Aside0 (Below w.heap.size w wc))
  case first =>
   have H := HC5.out
   clear HC5
   by_cases c8 : (l1.length : Int) > 60
   ·rw [if_pos c8] at H
    have c8b0 : decide (60 < (l1.length : Int)) = true := decide_eq_true c8
    have c8b1 : decide (60 < l1.length) = true := decide_eq_true (by omega)
    clear c8
    (first | rw [c8b0] | (simp only [i64_w, i32_w]; rw [c8b0]) | skip)
    have H' := Aside0.mk H
    clear H
    go_wp2
    go_meet
    case rel => exact ⟨_, (true), (by first | rfl | (simp; done) | (simp [*]; done)), H', ⟨by first | omega | exact Nat.le_refl _⟩, ⟨by (with_reducible repeat (first | refine blk_drewN ?_ _ | refine blk_drew ?_ | refine blk_alloc ?_ _)); exact BK495.out⟩, ⟨by repeat (first | (with_reducible first | exact HB.out | apply below_alloc | apply pw_below_drewN | apply below_drew1 | refine below_set ?_ GE495.out) | exact HB.out)⟩⟩
   ·rw [if_neg c8] at H
    have c8b0 : decide (60 < (l1.length : Int)) = false := decide_eq_false c8
    have c8b1 : decide (60 < l1.length) = false := decide_eq_false (by omega)
    clear c8
    (first | rw [c8b0] | (simp only [i64_w, i32_w]; rw [c8b0]) | skip)
    have H' := Aside0.mk H
    clear H
    have hcz9_0 : w7.cell? ⟨gb495, 0, none⟩ = some (.slice A0_0 l0_0.length c0_0) := (blk_cell BK495.out 0).trans rfl
    have hcz9_1 : w7.cell? ⟨gb495, 1, none⟩ = some (.slice A0_1 l0_1.length c0_1) := (blk_cell BK495.out 1).trans rfl
    have hcz9_2 : w7.cell? ⟨gb495, 2, none⟩ = some (.slice A0_2 l0_2.length c0_2) := (blk_cell BK495.out 2).trans rfl
    have hcz9_3 : w7.cell? ⟨gb495, 3, none⟩ = some (.int .i64 a0_3) := (blk_cell BK495.out 3).trans rfl
    have hcz9_4 : w7.cell? ⟨gb495, 4, none⟩ = some (.int .i64 a0_4) := (blk_cell BK495.out 4).trans rfl
    have hfz9_0 := blk_frozen BK495.out 0
    have hfz9_1 := blk_frozen BK495.out 1
    have hfz9_2 := blk_frozen BK495.out 2
    have hfz9_3 := blk_frozen BK495.out 3
    have hfz9_4 := blk_frozen BK495.out 4
    go_wp2
    go_meet
    case rel => exact ⟨_, (decide ((l0_2.length : Int) > 60)), (by first | rfl | (simp; done) | (simp [*]; done)), H', ⟨by first | omega | exact Nat.le_refl _⟩, ⟨by (with_reducible repeat (first | refine blk_drewN ?_ _ | refine blk_drew ?_ | refine blk_alloc ?_ _)); exact BK495.out⟩, ⟨by repeat (first | (with_reducible first | exact HB.out | apply below_alloc | apply pw_below_drewN | apply below_drew1 | refine below_set ?_ GE495.out) | exact HB.out)⟩⟩
  case rest =>
   clear HC5
   try clear c1
   try clear p2
   try clear c3
   try clear c4
   try clear c8
   try clear c8b0
   try clear c8b1
   try clear hcz9_0
   try clear hcz9_1
   try clear hcz9_2
   try clear hcz9_3
   try clear hcz9_4
   try clear hfz9_0
   try clear hfz9_1
   try clear hfz9_2
   try clear hfz9_3
   try clear hfz9_4
   obtain ⟨kq, x23_4, rfl, HA, HJ4, BK495, HB⟩ := hcut
   cases kq with
   | zero => exact absurd HA.out (by simp [stipendlaw11_ElementChecks.j0])
   | succ kj4 =>
    have H := HA.out
    clear HA
    simp only [stipendlaw11_ElementChecks.j0] at H
    by_cases c10 : x23_4 = true
    ·subst c10
     have H1 : (some true) = some r := by rw [if_pos rfl] at H; exact H
     clear H
     have H := H1
     clear H1
     obtain rfl := Option.some.inj H
     go_wp2
     go_ret
     exact ⟨by first | rfl | (simp [errW_none, errW_some] <;> rfl) | (simp [*, errW_none, errW_some] <;> rfl), by repeat (first | (with_reducible first | exact HB.out | apply below_alloc | apply pw_below_drewN | apply below_drew1 | refine below_set ?_ GE495.out) | exact HB.out)⟩
    ·replace c10 := Bool.eq_false_iff.mpr c10
     subst c10
     have H1 : (if (l1.length : Int) > 32 then (stipendlaw11_ElementChecks.j1 kj4 l1 2 l0_0 l0_1 l0_2 a0_3 a0_4) else (stipendlaw11_ElementChecks.j1 kj4 l1 0 l0_0 l0_1 l0_2 a0_3 a0_4)) = some r := by rw [if_neg (show ¬ (false = true) by decide)] at H; exact H
     clear H
     have H := H1
     clear H1
     have HC11 := Aside0.mk H
     clear H
     go_upto_if 26 with (fail)
     go_cut [5] (fun v5 wc => ∃ (kq : Nat) (x5_10 : Int), v5 = .int .i64 x5_10 ∧ Aside0 (stipendlaw11_ElementChecks.j1 kq l1 x5_10 l0_0 l0_1 l0_2 a0_3 a0_4 = some r) ∧ Aside0 (kq ≤ kj4) ∧ Aside0 (wc.heap[gb495]? = some (.cells #[(.slice A0_0 l0_0.length c0_0), (.slice A0_1 l0_1.length c0_1), (.slice A0_2 l0_2.length c0_2), .int .i64 a0_3, .int .i64 a0_4] 86 (0, 0))) ∧ Aside0 (Below w.heap.size w wc))
     case first =>
      have H := HC11.out
      clear HC11
      by_cases c12 : (l1.length : Int) > 32
      ·rw [if_pos c12] at H
       have c12b0 : decide (32 < (l1.length : Int)) = true := decide_eq_true c12
       have c12b1 : decide (32 < l1.length) = true := decide_eq_true (by omega)
       clear c12
       (first | rw [c12b0] | (simp only [i64_w, i32_w]; rw [c12b0]) | skip)
       have H' := Aside0.mk H
       clear H
       go_wp2
       go_meet
       case rel => exact ⟨_, (2), (by first | rfl | (simp; done) | (simp [*]; done)), H', ⟨by have := HJ4.out; first | omega | exact Nat.le_refl _⟩, ⟨by (with_reducible repeat (first | refine blk_drewN ?_ _ | refine blk_drew ?_ | refine blk_alloc ?_ _)); exact BK495.out⟩, ⟨by repeat (first | (with_reducible first | exact HB.out | apply below_alloc | apply pw_below_drewN | apply below_drew1 | refine below_set ?_ GE495.out) | exact HB.out)⟩⟩
      ·rw [if_neg c12] at H
       have c12b0 : decide (32 < (l1.length : Int)) = false := decide_eq_false c12
       have c12b1 : decide (32 < l1.length) = false := decide_eq_false (by omega)
       clear c12
       (first | rw [c12b0] | (simp only [i64_w, i32_w]; rw [c12b0]) | skip)
       have H' := Aside0.mk H
       clear H
       go_wp2
       go_meet
       case rel => exact ⟨_, (0), (by first | rfl | (simp; done) | (simp [*]; done)), H', ⟨by have := HJ4.out; first | omega | exact Nat.le_refl _⟩, ⟨by (with_reducible repeat (first | refine blk_drewN ?_ _ | refine blk_drew ?_ | refine blk_alloc ?_ _)); exact BK495.out⟩, ⟨by repeat (first | (with_reducible first | exact HB.out | apply below_alloc | apply pw_below_drewN | apply below_drew1 | refine below_set ?_ GE495.out) | exact HB.out)⟩⟩
     case rest =>
      clear HC11
      try clear c1
      try clear p2
      try clear c3
      try clear c4
      try clear c8
      try clear c8b0
      try clear c8b1
      try clear c10
      try clear c11
      try clear c12
      try clear c12b0
      try clear c12b1
      try clear hcz9_0
      try clear hcz9_1
      try clear hcz9_2
      try clear hcz9_3
      try clear hcz9_4
      try clear hfz9_0
      try clear hfz9_1
      try clear hfz9_2
      try clear hfz9_3
      try clear hfz9_4
      try clear p2
      obtain ⟨kq, x5_10, rfl, HA, HJ10, BK495, HB⟩ := hcut
      cases kq with
      | zero => exact absurd HA.out (by simp [stipendlaw11_ElementChecks.j1])
      | succ kj10 =>
       have H := HA.out
       clear HA
       simp only [stipendlaw11_ElementChecks.j1] at H
       have H' := Aside0.mk H
       clear H
       go_wp2
       go_loopg [5, 29] kj10 (fun kq v5 v29 w' => ∃ (x5_3 : Int) (x29_3 : Int), v5 = .int .i64 x5_3 ∧ v29 = .int .i64 x29_3 ∧ Aside0 (stipendlaw11_ElementChecks.l0 kq l1 x5_3 l1 (l1.length : Int) x29_3 l0_0 l0_1 l0_2 a0_3 a0_4 = some r) ∧ Aside0 (kq ≤ kj10) ∧ Aside0 (w'.heap[gb495]? = some (.cells #[(.slice A0_0 l0_0.length c0_0), (.slice A0_1 l0_1.length c0_1), (.slice A0_2 l0_2.length c0_2), .int .i64 a0_3, .int .i64 a0_4] 86 (0, 0))) ∧ Aside0 (Below w.heap.size w w'))
       case atStart => exact ⟨(x5_10), (0), (by first | rfl | (simp; done) | (simp [*]; done)), (by first | rfl | (simp; done) | (simp [*]; done)), H', ⟨Nat.le_refl _⟩, ⟨by (with_reducible repeat (first | refine blk_drewN ?_ _ | refine blk_drew ?_ | refine blk_alloc ?_ _)); exact BK495.out⟩, ⟨by repeat (first | (with_reducible first | exact HB.out | apply below_alloc | apply pw_below_drewN | apply below_drew1 | refine below_set ?_ GE495.out) | exact HB.out)⟩⟩
       case round =>
        clear H'
        try clear c1
        try clear p2
        try clear c3
        try clear c4
        try clear c8
        try clear c8b0
        try clear c8b1
        try clear c10
        try clear c11
        try clear c12
        try clear c12b0
        try clear c12b1
        try clear hcz9_0
        try clear hcz9_1
        try clear hcz9_2
        try clear hcz9_3
        try clear hcz9_4
        try clear hfz9_0
        try clear hfz9_1
        try clear hfz9_2
        try clear hfz9_3
        try clear hfz9_4
        try clear p2
        obtain ⟨x5_3, x29_3, rfl, rfl, HA, HK3, BK495, HB⟩ := hrel
        cases gk with
        | zero => exact absurd HA.out (by simp [stipendlaw11_ElementChecks.l0])
        | succ k3 =>
         have H := HA.out
         clear HA
         simp only [stipendlaw11_ElementChecks.l0] at H
         by_cases c13 : x29_3 < (l1.length : Int)
         ·rw [if_pos c13] at H
          have c13b0 : decide (x29_3 < (l1.length : Int)) = true := decide_eq_true c13
          clear c13
          by_cases c14 : 0 ≤ x29_3
          ·rw [if_pos c14] at H
           have c14b0 : decide (0 ≤ x29_3) = true := decide_eq_true c14
           clear c14
           by_cases c15 : x29_3 < (l1.length : Int)
           ·rw [if_pos c15] at H
            have c15b0 : decide (x29_3 < (l1.length : Int)) = true := decide_eq_true c15
            clear c15
            replace H := Option.bind_eq_some_iff.mp H
            obtain ⟨t500, A160, H⟩ := H
            replace H : ((element_Value.f k3 ((rd_T48 l1 x29_3).f0) ((rd_T48 l1 x29_3).f1) ((rd_T48 l1 x29_3).f2)).bind fun bt501 => ((table_Kind.f k3 l0_0 l0_1 l0_2 a0_3 a0_4 ((rd_T48 l1 x29_3).f0)).bind fun bt503 => (if bt503.2.2.2.2 = 0 then (stipendlaw11_ElementChecks.j3 k3 l1 x5_3 t500 bt501.2 l1 (l1.length : Int) x29_3 l0_0 l0_1 l0_2 a0_3 a0_4) else (stipendlaw11_ElementChecks.j3 k3 l1 x5_3 t500 bt503.2.2.2.2 l1 (l1.length : Int) x29_3 l0_0 l0_1 l0_2 a0_3 a0_4)))) = some r := H
            have A16 := Aside0.mk A160
            clear A160
            replace H := Option.bind_eq_some_iff.mp H
            obtain ⟨⟨t501, t502⟩, A170, H⟩ := H
            replace H : ((table_Kind.f k3 l0_0 l0_1 l0_2 a0_3 a0_4 ((rd_T48 l1 x29_3).f0)).bind fun bt503 => (if bt503.2.2.2.2 = 0 then (stipendlaw11_ElementChecks.j3 k3 l1 x5_3 t500 t502 l1 (l1.length : Int) x29_3 l0_0 l0_1 l0_2 a0_3 a0_4) else (stipendlaw11_ElementChecks.j3 k3 l1 x5_3 t500 bt503.2.2.2.2 l1 (l1.length : Int) x29_3 l0_0 l0_1 l0_2 a0_3 a0_4))) = some r := H
            have A17 := Aside0.mk A170
            clear A170
            replace H := Option.bind_eq_some_iff.mp H
            obtain ⟨⟨t503, t504, t505, t506, t507⟩, A180, H⟩ := H
            replace H : (if t507 = 0 then (stipendlaw11_ElementChecks.j3 k3 l1 x5_3 t500 t502 l1 (l1.length : Int) x29_3 l0_0 l0_1 l0_2 a0_3 a0_4) else (stipendlaw11_ElementChecks.j3 k3 l1 x5_3 t500 t507 l1 (l1.length : Int) x29_3 l0_0 l0_1 l0_2 a0_3 a0_4)) = some r := H
            have A18 := Aside0.mk A180
            clear A180
            have HC19 := Aside0.mk H
            clear H
            have p498 : 0 ≤ (x29_3 : Int) := of_decide_eq_true (by first | (with_reducible assumption) | assumption)
            have q498 : x29_3 < (l1.length : Int) := of_decide_eq_true (by first | (with_reducible assumption) | assumption)
            obtain ⟨ad498, e498, hx498_0, hx498_1, hx498_2⟩ := at_T48 HR1.out x29_3 p498 q498
            cases e498
            replace hx498_0 := (HB.out.cell (World.block_lt_of_cell? w _ hx498_0)).trans hx498_0
            replace hx498_1 := (HB.out.cell (World.block_lt_of_cell? w _ hx498_1)).trans hx498_1
            replace hx498_2 := (HB.out.cell (World.block_lt_of_cell? w _ hx498_2)).trans hx498_2
            replace p498 := eq_true p498
            replace q498 := eq_true q498
            go_upto_if 49 with (first | ((with_reducible refine gate_dst (N := 7) rfl ?_); (try (refine gate_guard (by rfl) ?_; dsimp only)); refine box_event ?hg (N := 7) ?hd (cs := #[.string (⟨#[]⟩ : ByteArray), .int .i64 0, .int .i64 0]) (t := 48) ?hr ?_; (case hd => rfl); (case hg => rfl); (case hr => first | (go_simp; done) | (go_simp; rfl)); intro gb499 hg w20 hbox hb; have n0_ := Aside0.mk (blk_below (g := gb495) (o := .cells #[.slice A0_0 l0_0.length c0_0, .slice A0_1 l0_1.length c0_1, .slice A0_2 l0_2.length c0_2, .int .i64 a0_3, .int .i64 a0_4] 86 (0, 0)) (by (with_reducible repeat (first | refine blk_drewN ?_ _ | refine blk_drew ?_ | refine blk_alloc ?_ _)); exact BK495.out) hb); have n1_ := Aside0.mk (below_step (by repeat (first | (with_reducible first | exact HB.out | apply below_alloc | apply pw_below_drewN | apply below_drew1 | refine below_set ?_ GE495.out) | exact HB.out)) hb); have n2_ := Aside0.mk (hbox); have n3_ := Aside0.mk ((by rw [hg]; exact (below_size (by repeat (first | (with_reducible first | exact HB.out | apply below_alloc | apply pw_below_drewN | apply below_drew1 | refine below_set ?_ GE495.out) | exact HB.out))) : w.heap.size ≤ gb499)); have n4_ := Aside0.mk ((by rw [hg]; exact (below_size (by repeat (first | (with_reducible first | exact HB.out | apply below_alloc | apply pw_below_drewN | apply below_drew1 | refine below_set ?_ GE495.out) | exact HB.out))) : w.heap.size ≤ gb499)); have n5_ := Aside0.mk ((by rw [hg]; exact Nat.ne_of_lt (blk_lt (g := gb495) (o := .cells #[.slice A0_0 l0_0.length c0_0, .slice A0_1 l0_1.length c0_1, .slice A0_2 l0_2.length c0_2, .int .i64 a0_3, .int .i64 a0_4] 86 (0, 0)) (by (with_reducible repeat (first | refine blk_drewN ?_ _ | refine blk_drew ?_ | refine blk_alloc ?_ _)); exact BK495.out)) : gb495 ≠ gb499)); have n6_ := Aside0.mk ((by rw [hg]; exact Nat.ne_of_gt (blk_lt (g := gb495) (o := .cells #[.slice A0_0 l0_0.length c0_0, .slice A0_1 l0_1.length c0_1, .slice A0_2 l0_2.length c0_2, .int .i64 a0_3, .int .i64 a0_4] 86 (0, 0)) (by (with_reducible repeat (first | refine blk_drewN ?_ _ | refine blk_drew ?_ | refine blk_alloc ?_ _)); exact BK495.out)) : gb499 ≠ gb495)); clear BK495; clear HB; have BK495 := n0_; have HB := n1_; have BK499 := n2_; have GW499 := n3_; have GE499 := n4_; have NB495_499 := n5_; have NB499_495 := n6_; clear n0_ n1_ n2_ n3_ n4_ n5_ n6_; clear hb hbox hg; have hnb21 := NB499_495.out; have hnc21 := NB495_499.out; have hcz22_0 : w20.cell? ⟨gb499, 0, none⟩ = some (.string (⟨#[]⟩ : ByteArray)) := (blk_cell BK499.out 0).trans rfl; have hcz22_1 : w20.cell? ⟨gb499, 1, none⟩ = some (.int .i64 0) := (blk_cell BK499.out 1).trans rfl; have hcz22_2 : w20.cell? ⟨gb499, 2, none⟩ = some (.int .i64 0) := (blk_cell BK499.out 2).trans rfl; have hfz22_0 := blk_frozen BK499.out 0; have hfz22_1 := blk_frozen BK499.out 1; have hfz22_2 := blk_frozen BK499.out 2; have hcz23_0 : w20.cell? ⟨gb495, 0, none⟩ = some (.slice A0_0 l0_0.length c0_0) := (blk_cell BK495.out 0).trans rfl; have hcz23_1 : w20.cell? ⟨gb495, 1, none⟩ = some (.slice A0_1 l0_1.length c0_1) := (blk_cell BK495.out 1).trans rfl; have hcz23_2 : w20.cell? ⟨gb495, 2, none⟩ = some (.slice A0_2 l0_2.length c0_2) := (blk_cell BK495.out 2).trans rfl; have hcz23_3 : w20.cell? ⟨gb495, 3, none⟩ = some (.int .i64 a0_3) := (blk_cell BK495.out 3).trans rfl; have hcz23_4 : w20.cell? ⟨gb495, 4, none⟩ = some (.int .i64 a0_4) := (blk_cell BK495.out 4).trans rfl; have hfz23_0 := blk_frozen BK495.out 0; have hfz23_1 := blk_frozen BK495.out 1; have hfz23_2 := blk_frozen BK495.out 2; have hfz23_3 := blk_frozen BK495.out 3; have hfz23_4 := blk_frozen BK495.out 4) | ((with_reducible refine gate_callee (f := 52) rfl ?_); refine goesL_ (some 35) rfl rfl Tryd.func52 (by kernel_rfl) rfl #[.agg #[.slice A0_0 l0_0.length c0_0, .slice A0_1 l0_1.length c0_1, .slice A0_2 l0_2.length c0_2, .int .i64 a0_3, .int .i64 a0_4], .agg #[.string ((rd_T48 l1 x29_3).f0), .int .i64 ((rd_T48 l1 x29_3).f1), .int .i64 ((rd_T48 l1 x29_3).f2)]] rfl (by (try simp only [List.map_toArray, List.map_cons, List.map_nil]); first | done | rfl | (simp only [List.length_drop, List.length_take]; rfl)) ?_; (with_reducible refine (element_Check.calls k3 _ _ l0_0 _ _ l0_1 _ _ l0_2 a0_3 a0_4 ((rd_T48 l1 x29_3).f0) ((rd_T48 l1 x29_3).f1) ((rd_T48 l1 x29_3).f2) t500 _ ?side1 ?side2 ?side3 ?side4 ?side5 ?side6 A16.out).mono ?_); (case side1 => exact Kd.C_below HR0_0.out (by repeat (first | (with_reducible first | exact HB.out | apply below_alloc | apply pw_below_drewN | apply below_drew1 | refine below_set ?_ GE495.out | refine below_set ?_ GE499.out) | exact HB.out))); (case side2 => exact HC0_0.out); (case side3 => exact Kd.C_below HR0_1.out (by repeat (first | (with_reducible first | exact HB.out | apply below_alloc | apply pw_below_drewN | apply below_drew1 | refine below_set ?_ GE495.out | refine below_set ?_ GE499.out) | exact HB.out))); (case side4 => exact HC0_1.out); (case side5 => exact Kd.C_below HR0_2.out (by repeat (first | (with_reducible first | exact HB.out | apply below_alloc | apply pw_below_drewN | apply below_drew1 | refine below_set ?_ GE495.out | refine below_set ?_ GE499.out) | exact HB.out))); (case side6 => exact HC0_2.out); rintro e w24 ⟨rfl, hb⟩; refine ⟨_, rfl, ?_⟩; have n0_ := Aside0.mk (blk_below (g := gb495) (o := .cells #[.slice A0_0 l0_0.length c0_0, .slice A0_1 l0_1.length c0_1, .slice A0_2 l0_2.length c0_2, .int .i64 a0_3, .int .i64 a0_4] 86 (0, 0)) (by (with_reducible repeat (first | refine blk_drewN ?_ _ | refine blk_drew ?_ | refine blk_alloc ?_ _)); refine blk_far ?_ NB495_499.out _; (with_reducible repeat (first | refine blk_drewN ?_ _ | refine blk_drew ?_ | refine blk_alloc ?_ _)); refine blk_far ?_ NB495_499.out _; (with_reducible repeat (first | refine blk_drewN ?_ _ | refine blk_drew ?_ | refine blk_alloc ?_ _)); refine blk_far ?_ NB495_499.out _; (with_reducible repeat (first | refine blk_drewN ?_ _ | refine blk_drew ?_ | refine blk_alloc ?_ _)); exact BK495.out) hb); have n1_ := Aside0.mk (blk_below (g := gb499) (o := .cells #[.string ((rd_T48 l1 x29_3).f0), .int .i64 ((rd_T48 l1 x29_3).f1), .int .i64 ((rd_T48 l1 x29_3).f2)] 48 (0, 0)) (by (with_reducible repeat (first | refine blk_drewN ?_ _ | refine blk_drew ?_ | refine blk_alloc ?_ _)); refine blk_put (cs := #[.string ((rd_T48 l1 x29_3).f0), .int .i64 ((rd_T48 l1 x29_3).f1), .int .i64 0]) ?_ 2 _ rfl; (with_reducible repeat (first | refine blk_drewN ?_ _ | refine blk_drew ?_ | refine blk_alloc ?_ _)); refine blk_put (cs := #[.string ((rd_T48 l1 x29_3).f0), .int .i64 0, .int .i64 0]) ?_ 1 _ rfl; (with_reducible repeat (first | refine blk_drewN ?_ _ | refine blk_drew ?_ | refine blk_alloc ?_ _)); refine blk_put (cs := #[.string (⟨#[]⟩ : ByteArray), .int .i64 0, .int .i64 0]) ?_ 0 _ rfl; (with_reducible repeat (first | refine blk_drewN ?_ _ | refine blk_drew ?_ | refine blk_alloc ?_ _)); exact BK499.out) hb); have n2_ := Aside0.mk (below_step (by repeat (first | (with_reducible first | exact HB.out | apply below_alloc | apply pw_below_drewN | apply below_drew1 | refine below_set ?_ GE495.out | refine below_set ?_ GE499.out) | exact HB.out)) hb); clear BK495; clear BK499; clear HB; have BK495 := n0_; have BK499 := n1_; have HB := n2_; clear n0_ n1_ n2_; (try clear hb); (try clear hb2); (try clear hk); (try clear hi); have hcz25_0 : w24.cell? ⟨gb499, 0, none⟩ = some (.string ((rd_T48 l1 x29_3).f0)) := (blk_cell BK499.out 0).trans rfl; have hcz25_1 : w24.cell? ⟨gb499, 1, none⟩ = some (.int .i64 ((rd_T48 l1 x29_3).f1)) := (blk_cell BK499.out 1).trans rfl; have hcz25_2 : w24.cell? ⟨gb499, 2, none⟩ = some (.int .i64 ((rd_T48 l1 x29_3).f2)) := (blk_cell BK499.out 2).trans rfl; have hfz25_0 := blk_frozen BK499.out 0; have hfz25_1 := blk_frozen BK499.out 1; have hfz25_2 := blk_frozen BK499.out 2) | ((with_reducible refine gate_callee (f := 36) rfl ?_); refine goesL_ (some 38) rfl rfl Tryd.func36 (by kernel_rfl) rfl #[.agg #[.string ((rd_T48 l1 x29_3).f0), .int .i64 ((rd_T48 l1 x29_3).f1), .int .i64 ((rd_T48 l1 x29_3).f2)]] rfl (by (try simp only [List.map_toArray, List.map_cons, List.map_nil]); first | done | rfl | (simp only [List.length_drop, List.length_take]; rfl)) ?_; (with_reducible refine (element_Value.calls k3 ((rd_T48 l1 x29_3).f0) ((rd_T48 l1 x29_3).f1) ((rd_T48 l1 x29_3).f2) t501 t502 _ A17.out).mono ?_); rintro e w26 ⟨rfl, hb⟩; refine ⟨_, rfl, ?_⟩; have n0_ := Aside0.mk (blk_below (g := gb495) (o := .cells #[.slice A0_0 l0_0.length c0_0, .slice A0_1 l0_1.length c0_1, .slice A0_2 l0_2.length c0_2, .int .i64 a0_3, .int .i64 a0_4] 86 (0, 0)) (by (with_reducible repeat (first | refine blk_drewN ?_ _ | refine blk_drew ?_ | refine blk_alloc ?_ _)); exact BK495.out) hb); have n1_ := Aside0.mk (blk_below (g := gb499) (o := .cells #[.string ((rd_T48 l1 x29_3).f0), .int .i64 ((rd_T48 l1 x29_3).f1), .int .i64 ((rd_T48 l1 x29_3).f2)] 48 (0, 0)) (by (with_reducible repeat (first | refine blk_drewN ?_ _ | refine blk_drew ?_ | refine blk_alloc ?_ _)); exact BK499.out) hb); have n2_ := Aside0.mk (below_step (by repeat (first | (with_reducible first | exact HB.out | apply below_alloc | apply pw_below_drewN | apply below_drew1 | refine below_set ?_ GE495.out | refine below_set ?_ GE499.out) | exact HB.out)) hb); clear BK495; clear BK499; clear HB; have BK495 := n0_; have BK499 := n1_; have HB := n2_; clear n0_ n1_ n2_; (try clear hb); (try clear hb2); (try clear hk); (try clear hi); have hcz27_0 : w26.cell? ⟨gb495, 0, none⟩ = some (.slice A0_0 l0_0.length c0_0) := (blk_cell BK495.out 0).trans rfl; have hcz27_1 : w26.cell? ⟨gb495, 1, none⟩ = some (.slice A0_1 l0_1.length c0_1) := (blk_cell BK495.out 1).trans rfl; have hcz27_2 : w26.cell? ⟨gb495, 2, none⟩ = some (.slice A0_2 l0_2.length c0_2) := (blk_cell BK495.out 2).trans rfl; have hcz27_3 : w26.cell? ⟨gb495, 3, none⟩ = some (.int .i64 a0_3) := (blk_cell BK495.out 3).trans rfl; have hcz27_4 : w26.cell? ⟨gb495, 4, none⟩ = some (.int .i64 a0_4) := (blk_cell BK495.out 4).trans rfl; have hfz27_0 := blk_frozen BK495.out 0; have hfz27_1 := blk_frozen BK495.out 1; have hfz27_2 := blk_frozen BK495.out 2; have hfz27_3 := blk_frozen BK495.out 3; have hfz27_4 := blk_frozen BK495.out 4; have hcz28_0 : w26.cell? ⟨gb499, 0, none⟩ = some (.string ((rd_T48 l1 x29_3).f0)) := (blk_cell BK499.out 0).trans rfl; have hcz28_1 : w26.cell? ⟨gb499, 1, none⟩ = some (.int .i64 ((rd_T48 l1 x29_3).f1)) := (blk_cell BK499.out 1).trans rfl; have hcz28_2 : w26.cell? ⟨gb499, 2, none⟩ = some (.int .i64 ((rd_T48 l1 x29_3).f2)) := (blk_cell BK499.out 2).trans rfl; have hfz28_0 := blk_frozen BK499.out 0; have hfz28_1 := blk_frozen BK499.out 1; have hfz28_2 := blk_frozen BK499.out 2) | ((with_reducible refine gate_callee (f := 53) rfl ?_); refine goesL_ (some 45) rfl rfl Tryd.func53 (by kernel_rfl) rfl #[.agg #[.slice A0_0 l0_0.length c0_0, .slice A0_1 l0_1.length c0_1, .slice A0_2 l0_2.length c0_2, .int .i64 a0_3, .int .i64 a0_4], .string ((rd_T48 l1 x29_3).f0)] rfl (by (try simp only [List.map_toArray, List.map_cons, List.map_nil]); first | done | rfl | (simp only [List.length_drop, List.length_take]; rfl)) ?_; (with_reducible refine (table_Kind.calls k3 _ _ l0_0 _ _ l0_1 _ _ l0_2 a0_3 a0_4 ((rd_T48 l1 x29_3).f0) t503 t504 t505 t506 t507 _ ?side1 ?side2 ?side3 ?side4 ?side5 ?side6 A18.out).mono ?_); (case side1 => repeat (first | exact (Kd.C_below HR0_0.out HB.out) | (with_reducible refine Kd.C_alloc ?_ _) | (with_reducible refine Kd.C_drewN ?_ _) | (with_reducible refine Kd.C_drew ?_))); (case side2 => exact HC0_0.out); (case side3 => repeat (first | exact (Kd.C_below HR0_1.out HB.out) | (with_reducible refine Kd.C_alloc ?_ _) | (with_reducible refine Kd.C_drewN ?_ _) | (with_reducible refine Kd.C_drew ?_))); (case side4 => exact HC0_1.out); (case side5 => repeat (first | exact (Kd.C_below HR0_2.out HB.out) | (with_reducible refine Kd.C_alloc ?_ _) | (with_reducible refine Kd.C_drewN ?_ _) | (with_reducible refine Kd.C_drew ?_))); (case side6 => exact HC0_2.out); rintro e w29 ⟨rfl, hb⟩; refine ⟨_, rfl, ?_⟩; have n0_ := Aside0.mk (blk_below (g := gb495) (o := .cells #[.slice A0_0 l0_0.length c0_0, .slice A0_1 l0_1.length c0_1, .slice A0_2 l0_2.length c0_2, .int .i64 a0_3, .int .i64 a0_4] 86 (0, 0)) (by (with_reducible repeat (first | refine blk_drewN ?_ _ | refine blk_drew ?_ | refine blk_alloc ?_ _)); exact BK495.out) hb); have n1_ := Aside0.mk (blk_below (g := gb499) (o := .cells #[.string ((rd_T48 l1 x29_3).f0), .int .i64 ((rd_T48 l1 x29_3).f1), .int .i64 ((rd_T48 l1 x29_3).f2)] 48 (0, 0)) (by (with_reducible repeat (first | refine blk_drewN ?_ _ | refine blk_drew ?_ | refine blk_alloc ?_ _)); exact BK499.out) hb); have n2_ := Aside0.mk (below_step (by repeat (first | (with_reducible first | exact HB.out | apply below_alloc | apply pw_below_drewN | apply below_drew1 | refine below_set ?_ GE495.out | refine below_set ?_ GE499.out) | exact HB.out)) hb); clear BK495; clear BK499; clear HB; have BK495 := n0_; have BK499 := n1_; have HB := n2_; clear n0_ n1_ n2_; (try clear hb); (try clear hb2); (try clear hk); (try clear hi)) | ((with_reducible refine gate_dst (N := 11) rfl ?_); (try (refine gate_guard (by rfl) ?_; dsimp only)); refine box_event ?hg (N := 11) ?hd (cs := #[.string (⟨#[]⟩ : ByteArray), .int .i64 0, .int .i64 0, .int .i64 0]) (t := 89) ?hr ?_; (case hd => rfl); (case hg => rfl); (case hr => first | (go_simp; done) | (go_simp; rfl)); intro gb508 hg w30 hbox hb; have n0_ := Aside0.mk (blk_below (g := gb495) (o := .cells #[.slice A0_0 l0_0.length c0_0, .slice A0_1 l0_1.length c0_1, .slice A0_2 l0_2.length c0_2, .int .i64 a0_3, .int .i64 a0_4] 86 (0, 0)) (by (with_reducible repeat (first | refine blk_drewN ?_ _ | refine blk_drew ?_ | refine blk_alloc ?_ _)); exact BK495.out) hb); have n1_ := Aside0.mk (blk_below (g := gb499) (o := .cells #[.string ((rd_T48 l1 x29_3).f0), .int .i64 ((rd_T48 l1 x29_3).f1), .int .i64 ((rd_T48 l1 x29_3).f2)] 48 (0, 0)) (by (with_reducible repeat (first | refine blk_drewN ?_ _ | refine blk_drew ?_ | refine blk_alloc ?_ _)); exact BK499.out) hb); have n2_ := Aside0.mk (below_step (by repeat (first | (with_reducible first | exact HB.out | apply below_alloc | apply pw_below_drewN | apply below_drew1 | refine below_set ?_ GE495.out | refine below_set ?_ GE499.out) | exact HB.out)) hb); have n3_ := Aside0.mk (hbox); have n4_ := Aside0.mk ((by rw [hg]; exact (below_size (by repeat (first | (with_reducible first | exact HB.out | apply below_alloc | apply pw_below_drewN | apply below_drew1 | refine below_set ?_ GE495.out | refine below_set ?_ GE499.out) | exact HB.out))) : w.heap.size ≤ gb508)); have n5_ := Aside0.mk ((by rw [hg]; exact (below_size (by repeat (first | (with_reducible first | exact HB.out | apply below_alloc | apply pw_below_drewN | apply below_drew1 | refine below_set ?_ GE495.out | refine below_set ?_ GE499.out) | exact HB.out))) : w.heap.size ≤ gb508)); have n6_ := Aside0.mk ((by rw [hg]; exact Nat.ne_of_lt (blk_lt (g := gb495) (o := .cells #[.slice A0_0 l0_0.length c0_0, .slice A0_1 l0_1.length c0_1, .slice A0_2 l0_2.length c0_2, .int .i64 a0_3, .int .i64 a0_4] 86 (0, 0)) (by (with_reducible repeat (first | refine blk_drewN ?_ _ | refine blk_drew ?_ | refine blk_alloc ?_ _)); exact BK495.out)) : gb495 ≠ gb508)); have n7_ := Aside0.mk ((by rw [hg]; exact Nat.ne_of_gt (blk_lt (g := gb495) (o := .cells #[.slice A0_0 l0_0.length c0_0, .slice A0_1 l0_1.length c0_1, .slice A0_2 l0_2.length c0_2, .int .i64 a0_3, .int .i64 a0_4] 86 (0, 0)) (by (with_reducible repeat (first | refine blk_drewN ?_ _ | refine blk_drew ?_ | refine blk_alloc ?_ _)); exact BK495.out)) : gb508 ≠ gb495)); have n8_ := Aside0.mk ((by rw [hg]; exact Nat.ne_of_lt (blk_lt (g := gb499) (o := .cells #[.string ((rd_T48 l1 x29_3).f0), .int .i64 ((rd_T48 l1 x29_3).f1), .int .i64 ((rd_T48 l1 x29_3).f2)] 48 (0, 0)) (by (with_reducible repeat (first | refine blk_drewN ?_ _ | refine blk_drew ?_ | refine blk_alloc ?_ _)); exact BK499.out)) : gb499 ≠ gb508)); have n9_ := Aside0.mk ((by rw [hg]; exact Nat.ne_of_gt (blk_lt (g := gb499) (o := .cells #[.string ((rd_T48 l1 x29_3).f0), .int .i64 ((rd_T48 l1 x29_3).f1), .int .i64 ((rd_T48 l1 x29_3).f2)] 48 (0, 0)) (by (with_reducible repeat (first | refine blk_drewN ?_ _ | refine blk_drew ?_ | refine blk_alloc ?_ _)); exact BK499.out)) : gb508 ≠ gb499)); clear BK495; clear BK499; clear HB; have BK495 := n0_; have BK499 := n1_; have HB := n2_; have BK508 := n3_; have GW508 := n4_; have GE508 := n5_; have NB495_508 := n6_; have NB508_495 := n7_; have NB499_508 := n8_; have NB508_499 := n9_; clear n0_ n1_ n2_ n3_ n4_ n5_ n6_ n7_ n8_ n9_; clear hb hbox hg; have hnb31 := NB508_495.out; have hnc31 := NB495_508.out; have hnb32 := NB508_499.out; have hnc32 := NB499_508.out; have hcz33_0 : w30.cell? ⟨gb508, 0, none⟩ = some (.string (⟨#[]⟩ : ByteArray)) := (blk_cell BK508.out 0).trans rfl; have hcz33_1 : w30.cell? ⟨gb508, 1, none⟩ = some (.int .i64 0) := (blk_cell BK508.out 1).trans rfl; have hcz33_2 : w30.cell? ⟨gb508, 2, none⟩ = some (.int .i64 0) := (blk_cell BK508.out 2).trans rfl; have hcz33_3 : w30.cell? ⟨gb508, 3, none⟩ = some (.int .i64 0) := (blk_cell BK508.out 3).trans rfl; have hfz33_0 := blk_frozen BK508.out 0; have hfz33_1 := blk_frozen BK508.out 1; have hfz33_2 := blk_frozen BK508.out 2; have hfz33_3 := blk_frozen BK508.out 3))
            (try simp only [Act.put, List.setIfInBounds_toArray, List.set_cons_zero, List.set_cons_succ])
            go_cut [10] (fun v10 wc => ∃ (kq : Nat) (x10_18 : Int), v10 = .int .i64 x10_18 ∧ Aside0 (stipendlaw11_ElementChecks.j3 kq l1 x5_3 t500 x10_18 l1 (l1.length : Int) x29_3 l0_0 l0_1 l0_2 a0_3 a0_4 = some r) ∧ Aside0 (kq ≤ k3) ∧ Aside0 (wc.heap[gb495]? = some (.cells #[(.slice A0_0 l0_0.length c0_0), (.slice A0_1 l0_1.length c0_1), (.slice A0_2 l0_2.length c0_2), .int .i64 a0_3, .int .i64 a0_4] 86 (0, 0))) ∧ Aside0 (wc.heap[gb499]? = some (.cells #[.string ((rd_T48 l1 x29_3).f0), .int .i64 ((rd_T48 l1 x29_3).f1), .int .i64 ((rd_T48 l1 x29_3).f2)] 48 (0, 0))) ∧ Aside0 (wc.heap[gb508]? = some (.cells #[.string t503, .int .i64 t504, .int .i64 t505, .int .i64 t506] 89 (0, 0))) ∧ Aside0 (Below w.heap.size w wc))
            case first =>
             have H := HC19.out
             clear HC19
             by_cases c34 : t507 = 0
             ·rw [if_pos c34] at H
              have c34b0 : (t507 == 0) = true := beq_iff_eq.mpr c34
              have c34b1 : (t507 != 0) = false := bne_eq_false_iff_eq.mpr c34
              clear c34
              (first | rw [c34b0] | (simp only [i64_w, i32_w]; rw [c34b0]) | skip)
              have H' := Aside0.mk H
              clear H
              go_wp2
              go_meet
              case rel => exact ⟨_, (t502), (by first | rfl | (simp; done) | (simp [*]; done)), H', ⟨by have := HJ4.out; have := HJ10.out; have := HK3.out; first | omega | exact Nat.le_refl _⟩, ⟨by (with_reducible repeat (first | refine blk_drewN ?_ _ | refine blk_drew ?_ | refine blk_alloc ?_ _)); refine blk_far ?_ NB495_508.out _; (with_reducible repeat (first | refine blk_drewN ?_ _ | refine blk_drew ?_ | refine blk_alloc ?_ _)); refine blk_far ?_ NB495_508.out _; (with_reducible repeat (first | refine blk_drewN ?_ _ | refine blk_drew ?_ | refine blk_alloc ?_ _)); refine blk_far ?_ NB495_508.out _; (with_reducible repeat (first | refine blk_drewN ?_ _ | refine blk_drew ?_ | refine blk_alloc ?_ _)); refine blk_far ?_ NB495_508.out _; (with_reducible repeat (first | refine blk_drewN ?_ _ | refine blk_drew ?_ | refine blk_alloc ?_ _)); exact BK495.out⟩, ⟨by (with_reducible repeat (first | refine blk_drewN ?_ _ | refine blk_drew ?_ | refine blk_alloc ?_ _)); refine blk_far ?_ NB499_508.out _; (with_reducible repeat (first | refine blk_drewN ?_ _ | refine blk_drew ?_ | refine blk_alloc ?_ _)); refine blk_far ?_ NB499_508.out _; (with_reducible repeat (first | refine blk_drewN ?_ _ | refine blk_drew ?_ | refine blk_alloc ?_ _)); refine blk_far ?_ NB499_508.out _; (with_reducible repeat (first | refine blk_drewN ?_ _ | refine blk_drew ?_ | refine blk_alloc ?_ _)); refine blk_far ?_ NB499_508.out _; (with_reducible repeat (first | refine blk_drewN ?_ _ | refine blk_drew ?_ | refine blk_alloc ?_ _)); exact BK499.out⟩, ⟨by (with_reducible repeat (first | refine blk_drewN ?_ _ | refine blk_drew ?_ | refine blk_alloc ?_ _)); refine blk_put (cs := #[.string t503, .int .i64 t504, .int .i64 t505, .int .i64 0]) ?_ 3 _ rfl; (with_reducible repeat (first | refine blk_drewN ?_ _ | refine blk_drew ?_ | refine blk_alloc ?_ _)); refine blk_put (cs := #[.string t503, .int .i64 t504, .int .i64 0, .int .i64 0]) ?_ 2 _ rfl; (with_reducible repeat (first | refine blk_drewN ?_ _ | refine blk_drew ?_ | refine blk_alloc ?_ _)); refine blk_put (cs := #[.string t503, .int .i64 0, .int .i64 0, .int .i64 0]) ?_ 1 _ rfl; (with_reducible repeat (first | refine blk_drewN ?_ _ | refine blk_drew ?_ | refine blk_alloc ?_ _)); refine blk_put (cs := #[.string (⟨#[]⟩ : ByteArray), .int .i64 0, .int .i64 0, .int .i64 0]) ?_ 0 _ rfl; (with_reducible repeat (first | refine blk_drewN ?_ _ | refine blk_drew ?_ | refine blk_alloc ?_ _)); exact BK508.out⟩, ⟨by repeat (first | (with_reducible first | exact HB.out | apply below_alloc | apply pw_below_drewN | apply below_drew1 | refine below_set ?_ GE495.out | refine below_set ?_ GE499.out | refine below_set ?_ GE508.out) | exact HB.out)⟩⟩
             ·rw [if_neg c34] at H
              have c34b0 : (t507 == 0) = false := beq_eq_false_iff_ne.mpr c34
              have c34b1 : (t507 != 0) = true := bne_iff_ne.mpr c34
              (first | rw [c34b0] | (simp only [i64_w, i32_w]; rw [c34b0]) | skip)
              have H' := Aside0.mk H
              clear H
              go_wp2
              go_meet
              case rel => exact ⟨_, (t507), (by first | rfl | (simp; done) | (simp [*]; done)), H', ⟨by have := HJ4.out; have := HJ10.out; have := HK3.out; first | omega | exact Nat.le_refl _⟩, ⟨by (with_reducible repeat (first | refine blk_drewN ?_ _ | refine blk_drew ?_ | refine blk_alloc ?_ _)); refine blk_far ?_ NB495_508.out _; (with_reducible repeat (first | refine blk_drewN ?_ _ | refine blk_drew ?_ | refine blk_alloc ?_ _)); refine blk_far ?_ NB495_508.out _; (with_reducible repeat (first | refine blk_drewN ?_ _ | refine blk_drew ?_ | refine blk_alloc ?_ _)); refine blk_far ?_ NB495_508.out _; (with_reducible repeat (first | refine blk_drewN ?_ _ | refine blk_drew ?_ | refine blk_alloc ?_ _)); refine blk_far ?_ NB495_508.out _; (with_reducible repeat (first | refine blk_drewN ?_ _ | refine blk_drew ?_ | refine blk_alloc ?_ _)); exact BK495.out⟩, ⟨by (with_reducible repeat (first | refine blk_drewN ?_ _ | refine blk_drew ?_ | refine blk_alloc ?_ _)); refine blk_far ?_ NB499_508.out _; (with_reducible repeat (first | refine blk_drewN ?_ _ | refine blk_drew ?_ | refine blk_alloc ?_ _)); refine blk_far ?_ NB499_508.out _; (with_reducible repeat (first | refine blk_drewN ?_ _ | refine blk_drew ?_ | refine blk_alloc ?_ _)); refine blk_far ?_ NB499_508.out _; (with_reducible repeat (first | refine blk_drewN ?_ _ | refine blk_drew ?_ | refine blk_alloc ?_ _)); refine blk_far ?_ NB499_508.out _; (with_reducible repeat (first | refine blk_drewN ?_ _ | refine blk_drew ?_ | refine blk_alloc ?_ _)); exact BK499.out⟩, ⟨by (with_reducible repeat (first | refine blk_drewN ?_ _ | refine blk_drew ?_ | refine blk_alloc ?_ _)); refine blk_put (cs := #[.string t503, .int .i64 t504, .int .i64 t505, .int .i64 0]) ?_ 3 _ rfl; (with_reducible repeat (first | refine blk_drewN ?_ _ | refine blk_drew ?_ | refine blk_alloc ?_ _)); refine blk_put (cs := #[.string t503, .int .i64 t504, .int .i64 0, .int .i64 0]) ?_ 2 _ rfl; (with_reducible repeat (first | refine blk_drewN ?_ _ | refine blk_drew ?_ | refine blk_alloc ?_ _)); refine blk_put (cs := #[.string t503, .int .i64 0, .int .i64 0, .int .i64 0]) ?_ 1 _ rfl; (with_reducible repeat (first | refine blk_drewN ?_ _ | refine blk_drew ?_ | refine blk_alloc ?_ _)); refine blk_put (cs := #[.string (⟨#[]⟩ : ByteArray), .int .i64 0, .int .i64 0, .int .i64 0]) ?_ 0 _ rfl; (with_reducible repeat (first | refine blk_drewN ?_ _ | refine blk_drew ?_ | refine blk_alloc ?_ _)); exact BK508.out⟩, ⟨by repeat (first | (with_reducible first | exact HB.out | apply below_alloc | apply pw_below_drewN | apply below_drew1 | refine below_set ?_ GE495.out | refine below_set ?_ GE499.out | refine below_set ?_ GE508.out) | exact HB.out)⟩⟩
            case rest =>
             clear HC19
             try clear c1
             try clear c2
             try clear p2
             try clear c3
             try clear c4
             try clear p4
             try clear q4
             try clear hx4
             try clear c5
             try clear c8
             try clear c8b0
             try clear c8b1
             try clear c10
             try clear c11
             try clear c12
             try clear c12b0
             try clear c12b1
             try clear c13
             try clear c13b0
             try clear c14
             try clear c14b0
             try clear c15
             try clear c15b0
             try clear c21
             try clear c31
             try clear c32
             try clear c34
             try clear c34b0
             try clear c34b1
             try clear hcz22_0
             try clear hcz22_1
             try clear hcz22_2
             try clear hcz23_0
             try clear hcz23_1
             try clear hcz23_2
             try clear hcz23_3
             try clear hcz23_4
             try clear hcz25_0
             try clear hcz25_1
             try clear hcz25_2
             try clear hcz27_0
             try clear hcz27_1
             try clear hcz27_2
             try clear hcz27_3
             try clear hcz27_4
             try clear hcz28_0
             try clear hcz28_1
             try clear hcz28_2
             try clear hcz33_0
             try clear hcz33_1
             try clear hcz33_2
             try clear hcz33_3
             try clear hcz9_0
             try clear hcz9_1
             try clear hcz9_2
             try clear hcz9_3
             try clear hcz9_4
             try clear hfz22_0
             try clear hfz22_1
             try clear hfz22_2
             try clear hfz23_0
             try clear hfz23_1
             try clear hfz23_2
             try clear hfz23_3
             try clear hfz23_4
             try clear hfz25_0
             try clear hfz25_1
             try clear hfz25_2
             try clear hfz27_0
             try clear hfz27_1
             try clear hfz27_2
             try clear hfz27_3
             try clear hfz27_4
             try clear hfz28_0
             try clear hfz28_1
             try clear hfz28_2
             try clear hfz33_0
             try clear hfz33_1
             try clear hfz33_2
             try clear hfz33_3
             try clear hfz9_0
             try clear hfz9_1
             try clear hfz9_2
             try clear hfz9_3
             try clear hfz9_4
             try clear hx498_0
             try clear hx498_1
             try clear hx498_2
             try clear p2
             try clear p498
             try clear q498
             obtain ⟨kq, x10_18, rfl, HA, HJ18, BK495, BK499, BK508, HB⟩ := hcut
             cases kq with
             | zero => exact absurd HA.out (by simp [stipendlaw11_ElementChecks.j3])
             | succ kj18 =>
              have H := HA.out
              clear HA
              simp only [stipendlaw11_ElementChecks.j3] at H
              by_cases c35 : t500 = x10_18
              ·rw [if_pos c35] at H
               have c35b0 : (t500 == x10_18) = true := beq_iff_eq.mpr c35
               have c35b1 : (t500 != x10_18) = false := bne_eq_false_iff_eq.mpr c35
               clear c35
               by_cases c36 : x5_3 = 0
               ·rw [if_pos c36] at H
                have c36b0 : (x5_3 == 0) = true := beq_iff_eq.mpr c36
                have c36b1 : (x5_3 != 0) = false := bne_eq_false_iff_eq.mpr c36
                clear c36
                have H' := Aside0.mk H
                clear H
                go_wp2
                go_roundg kj18
                case measure => have := HJ4.out; have := HJ10.out; have := HK3.out; have := HJ18.out; omega
                case rel => exact ⟨(t500), (wrap64 (x29_3 + 1)), (by first | rfl | (simp; done) | (simp [*]; done)), (by first | rfl | (simp; done) | (simp [*]; done)), H', ⟨by have := HJ4.out; have := HJ10.out; have := HK3.out; have := HJ18.out; omega⟩, ⟨by (with_reducible repeat (first | refine blk_drewN ?_ _ | refine blk_drew ?_ | refine blk_alloc ?_ _)); exact BK495.out⟩, ⟨by repeat (first | (with_reducible first | exact HB.out | apply below_alloc | apply pw_below_drewN | apply below_drew1 | refine below_set ?_ GE495.out | refine below_set ?_ GE499.out | refine below_set ?_ GE508.out) | exact HB.out)⟩⟩
               ·rw [if_neg c36] at H
                have c36b0 : (x5_3 == 0) = false := beq_eq_false_iff_ne.mpr c36
                have c36b1 : (x5_3 != 0) = true := bne_iff_ne.mpr c36
                have H' := Aside0.mk H
                clear H
                go_wp2
                go_roundg kj18
                case measure => have := HJ4.out; have := HJ10.out; have := HK3.out; have := HJ18.out; omega
                case rel => exact ⟨(x5_3), (wrap64 (x29_3 + 1)), (by first | rfl | (simp; done) | (simp [*]; done)), (by first | rfl | (simp; done) | (simp [*]; done)), H', ⟨by have := HJ4.out; have := HJ10.out; have := HK3.out; have := HJ18.out; omega⟩, ⟨by (with_reducible repeat (first | refine blk_drewN ?_ _ | refine blk_drew ?_ | refine blk_alloc ?_ _)); exact BK495.out⟩, ⟨by repeat (first | (with_reducible first | exact HB.out | apply below_alloc | apply pw_below_drewN | apply below_drew1 | refine below_set ?_ GE495.out | refine below_set ?_ GE499.out | refine below_set ?_ GE508.out) | exact HB.out)⟩⟩
              ·rw [if_neg c35] at H
               have c35b0 : (t500 == x10_18) = false := beq_eq_false_iff_ne.mpr c35
               have c35b1 : (t500 != x10_18) = true := bne_iff_ne.mpr c35
               obtain rfl := Option.some.inj H
               go_wp2
               go_ret
               exact ⟨by first | rfl | (simp [errW_none, errW_some] <;> rfl) | (simp [*, errW_none, errW_some] <;> rfl), by repeat (first | (with_reducible first | exact HB.out | apply below_alloc | apply pw_below_drewN | apply below_drew1 | refine below_set ?_ GE495.out | refine below_set ?_ GE499.out | refine below_set ?_ GE508.out) | exact HB.out)⟩
           ·rw [if_neg c15] at H
            exact absurd H (by simp)
          ·rw [if_neg c14] at H
           exact absurd H (by simp)
         ·rw [if_neg c13] at H
          have c13b0 : decide (x29_3 < (l1.length : Int)) = false := decide_eq_false c13
          clear c13
          replace H := Option.bind_eq_some_iff.mp H
          obtain ⟨t497, A370, H⟩ := H
          replace H : (some (t497 == x5_3)) = some r := H
          have A37 := Aside0.mk A370
          clear A370
          obtain rfl := Option.some.inj H
          have hcz38_0 : wr.cell? ⟨gb495, 0, none⟩ = some (.slice A0_0 l0_0.length c0_0) := (blk_cell BK495.out 0).trans rfl
          have hcz38_1 : wr.cell? ⟨gb495, 1, none⟩ = some (.slice A0_1 l0_1.length c0_1) := (blk_cell BK495.out 1).trans rfl
          have hcz38_2 : wr.cell? ⟨gb495, 2, none⟩ = some (.slice A0_2 l0_2.length c0_2) := (blk_cell BK495.out 2).trans rfl
          have hcz38_3 : wr.cell? ⟨gb495, 3, none⟩ = some (.int .i64 a0_3) := (blk_cell BK495.out 3).trans rfl
          have hcz38_4 : wr.cell? ⟨gb495, 4, none⟩ = some (.int .i64 a0_4) := (blk_cell BK495.out 4).trans rfl
          have hfz38_0 := blk_frozen BK495.out 0
          have hfz38_1 := blk_frozen BK495.out 1
          have hfz38_2 := blk_frozen BK495.out 2
          have hfz38_3 := blk_frozen BK495.out 3
          have hfz38_4 := blk_frozen BK495.out 4
          go_wp2_with (first | ((with_reducible refine gate_callee (f := 54) rfl ?_); refine goesL_ (some 60) rfl rfl Tryd.func54 (by kernel_rfl) rfl #[.agg #[.slice A0_0 l0_0.length c0_0, .slice A0_1 l0_1.length c0_1, .slice A0_2 l0_2.length c0_2, .int .i64 a0_3, .int .i64 a0_4], .slice A1 l1.length c1] rfl (by (try simp only [List.map_toArray, List.map_cons, List.map_nil]); first | done | rfl | (simp only [List.length_drop, List.length_take]; rfl)) ?_; (with_reducible refine (element_CheckAll.calls k3 _ _ l0_0 _ _ l0_1 _ _ l0_2 a0_3 a0_4 _ _ l1 t497 _ ?side1 ?side2 ?side3 ?side4 ?side5 ?side6 ?side7 ?side8 A37.out).mono ?_); (case side1 => repeat (first | exact (Kd.C_below HR0_0.out HB.out) | (with_reducible refine Kd.C_alloc ?_ _) | (with_reducible refine Kd.C_drewN ?_ _) | (with_reducible refine Kd.C_drew ?_))); (case side2 => exact HC0_0.out); (case side3 => repeat (first | exact (Kd.C_below HR0_1.out HB.out) | (with_reducible refine Kd.C_alloc ?_ _) | (with_reducible refine Kd.C_drewN ?_ _) | (with_reducible refine Kd.C_drew ?_))); (case side4 => exact HC0_1.out); (case side5 => repeat (first | exact (Kd.C_below HR0_2.out HB.out) | (with_reducible refine Kd.C_alloc ?_ _) | (with_reducible refine Kd.C_drewN ?_ _) | (with_reducible refine Kd.C_drew ?_))); (case side6 => exact HC0_2.out); (case side7 => repeat (first | exact (Kd.C_below HR1.out HB.out) | (with_reducible refine Kd.C_alloc ?_ _) | (with_reducible refine Kd.C_drewN ?_ _) | (with_reducible refine Kd.C_drew ?_))); (case side8 => exact HC1.out); rintro e w39 ⟨rfl, hb⟩; refine ⟨_, rfl, ?_⟩; have n0_ := Aside0.mk (blk_below (g := gb495) (o := .cells #[.slice A0_0 l0_0.length c0_0, .slice A0_1 l0_1.length c0_1, .slice A0_2 l0_2.length c0_2, .int .i64 a0_3, .int .i64 a0_4] 86 (0, 0)) (by (with_reducible repeat (first | refine blk_drewN ?_ _ | refine blk_drew ?_ | refine blk_alloc ?_ _)); exact BK495.out) hb); have n1_ := Aside0.mk (below_step (by repeat (first | (with_reducible first | exact HB.out | apply below_alloc | apply pw_below_drewN | apply below_drew1 | refine below_set ?_ GE495.out) | exact HB.out)) hb); clear BK495; clear HB; have BK495 := n0_; have HB := n1_; clear n0_ n1_; (try clear hb); (try clear hb2); (try clear hk); (try clear hi)))
          go_ret
          exact ⟨by first | rfl | (simp [errW_none, errW_some] <;> rfl) | (simp [*, errW_none, errW_some] <;> rfl), by repeat (first | (with_reducible first | exact HB.out | apply below_alloc | apply pw_below_drewN | apply below_drew1 | refine below_set ?_ GE495.out) | exact HB.out)⟩
 ·replace c4 := Bool.eq_false_iff.mpr c4
  subst c4
  have H1 : (some false) = some r := by rw [if_neg (show ¬ (false = true) by decide)] at H; exact H
  clear H
  have H := H1
  clear H1
  obtain rfl := Option.some.inj H
  go_enter Tryd.func11, Tryd.ntmps11
  go_wp2_with (first | ((with_reducible refine gate_dst (N := 2) rfl ?_); (try (refine gate_guard (by rfl) ?_; dsimp only)); refine box_event ?hg (N := 2) ?hd (cs := #[.slice A0_0 l0_0.length c0_0, .slice A0_1 l0_1.length c0_1, .slice A0_2 l0_2.length c0_2, .int .i64 a0_3, .int .i64 a0_4]) (t := 86) ?hr ?_; (case hd => rfl); (case hg => rfl); (case hr => first | (go_simp; done) | (go_simp; rfl)); intro gb495 hg w40 hbox hb; have n0_ := Aside0.mk (below_step (by repeat (first | (with_reducible first | exact HB.out | apply below_alloc | apply pw_below_drewN | apply below_drew1) | exact HB.out)) hb); have n1_ := Aside0.mk (hbox); have n2_ := Aside0.mk ((by rw [hg]; exact (below_size (by repeat (first | (with_reducible first | exact HB.out | apply below_alloc | apply pw_below_drewN | apply below_drew1) | exact HB.out))) : w.heap.size ≤ gb495)); have n3_ := Aside0.mk ((by rw [hg]; exact (below_size (by repeat (first | (with_reducible first | exact HB.out | apply below_alloc | apply pw_below_drewN | apply below_drew1) | exact HB.out))) : w.heap.size ≤ gb495)); clear HB; have HB := n0_; have BK495 := n1_; have GW495 := n2_; have GE495 := n3_; clear n0_ n1_ n2_ n3_; clear hb hbox hg) | ((with_reducible refine gate_callee (f := 35) rfl ?_); refine goesL_ (some 13) rfl rfl Tryd.func35 (by kernel_rfl) rfl #[] rfl (by (try simp only [List.map_toArray, List.map_cons, List.map_nil]); first | done | rfl | (simp only [List.length_drop, List.length_take]; rfl)) ?_; (with_reducible refine (stipendlaw11_worths.calls  false _ A3.out).mono ?_); rintro e w41 ⟨rfl, hb⟩; refine ⟨_, rfl, ?_⟩; have n0_ := Aside0.mk (blk_below (g := gb495) (o := .cells #[.slice A0_0 l0_0.length c0_0, .slice A0_1 l0_1.length c0_1, .slice A0_2 l0_2.length c0_2, .int .i64 a0_3, .int .i64 a0_4] 86 (0, 0)) (by (with_reducible repeat (first | refine blk_drewN ?_ _ | refine blk_drew ?_ | refine blk_alloc ?_ _)); exact BK495.out) hb); have n1_ := Aside0.mk (below_step (by repeat (first | (with_reducible first | exact HB.out | apply below_alloc | apply pw_below_drewN | apply below_drew1 | refine below_set ?_ GE495.out) | exact HB.out)) hb); clear BK495; clear HB; have BK495 := n0_; have HB := n1_; clear n0_ n1_; (try clear hb); (try clear hb2); (try clear hk); (try clear hi)))
  go_ret
  exact ⟨by first | rfl | (simp [errW_none, errW_some] <;> rfl) | (simp [*, errW_none, errW_some] <;> rfl), by repeat (first | (with_reducible first | exact HB.out | apply below_alloc | apply pw_below_drewN | apply below_drew1 | refine below_set ?_ GE495.out) | exact HB.out)⟩

end Go.Proofs.YtmocphafkimdpaaDoor.P
