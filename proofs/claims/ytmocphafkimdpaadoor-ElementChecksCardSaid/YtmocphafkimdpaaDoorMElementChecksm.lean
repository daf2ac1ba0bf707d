/- A part of the proof of ElementChecks's card: 'ElementChecks' answers true for every input (the conditions: those of the given statement alone). Merged by a program (wip/merge.py) out of: Pf54. -/
import Derived.Test.YtmocphafkimdpaaDoorMElementChecksa
import Derived.Test.YtmocphafkimdpaaDoorMElementChecksl

-- written by a program (a patched copy of the kit's print: wip/mkprint.py); Lean checks it
namespace Go.Proofs.YtmocphafkimdpaaDoor.P
open Go.RowKit Go.Proofs.YtmocphafkimdpaaDoorW.PrintWords Go.Proofs.YtmocphafkimdpaaDoorW.PrintLast Go.Proofs.YtmocphafkimdpaaDoorW.PrintMore
attribute [local go_sem] max2_int min2_int max_two min_two max_three min_three max_four min_four   -- for this text's walks alone
set_option linter.unusedVariables false
set_option linter.unusedSimpArgs false

/-! ### element_CheckAll: function 54 -/
def element_CheckAll.l0 : Nat → List (S48) → Int → Int → List (List (S222)) → List (S97) → List (S89) → Int → Int → Option (Int)
 | 0, _, _, _, _, _, _, _, _ => none
 | k + 1, x11, x12, x13, x492000, x492001, x492002, x492003, x492004 => if x13 < x12 then (if 0 ≤ x13 then (if x13 < (x11.length : Int) then ((element_Check.f k x492000 x492001 x492002 x492003 x492004 ((rd_T48 x11 x13).f0) ((rd_T48 x11 x13).f1) ((rd_T48 x11 x13).f2)).bind fun t494 => (if t494 = 0 then (element_CheckAll.l0 k x11 x12 (wrap64 (x13 + 1)) x492000 x492001 x492002 x492003 x492004) else (some t494))) else (none)) else (none)) else (some 0)
def element_CheckAll.f (k : Nat) (l0_0 : List (List (S222))) (l0_1 : List (S97)) (l0_2 : List (S89)) (a0_3 : Int) (a0_4 : Int) (l1 : List (S48)) : Option (Int) := if (l1.length : Int) > 32 then (some 2) else (element_CheckAll.l0 k l1 (l1.length : Int) 0 l0_0 l0_1 l0_2 a0_3 a0_4)
theorem element_CheckAll.mono_l : ∀ k, (∀ y0 y1 y2 y3 y4 y5 y6 y7, LeO (element_CheckAll.l0 k y0 y1 y2 y3 y4 y5 y6 y7) (element_CheckAll.l0 (k + 1) y0 y1 y2 y3 y4 y5 y6 y7))
 | 0 => fun _ _ _ _ _ _ _ _ r h => by simp [element_CheckAll.l0] at h
 | k + 1 => by
  have ih0 := element_CheckAll.mono_l k
  ·intro y0 y1 y2 y3 y4 y5 y6 y7
   unfold element_CheckAll.l0
   repeat' first
   | (with_reducible exact ih0 _ _ _ _ _ _ _ _)
   | (with_reducible exact element_Check.mono _ _ _ _ _ _ _ _ _)
   | (with_reducible exact LeO.refl _)
   | (with_reducible exact LeO.none _)
   | (with_reducible refine LeO.ite ?_ ?_)
   | (with_reducible refine LeO.bind ?_ (fun _ => ?_))
   | exact ih0 _ _ _ _ _ _ _ _
   | exact element_Check.mono _ _ _ _ _ _ _ _ _
   | exact LeO.none _
   | refine LeO.ite ?_ ?_
   | refine LeO.bind ?_ (fun _ => ?_)
theorem element_CheckAll.mono : ∀ a0 a1 a2 a3 a4 a5 k, LeO (element_CheckAll.f k a0 a1 a2 a3 a4 a5) (element_CheckAll.f (k + 1) a0 a1 a2 a3 a4 a5) := by
 intro a0 a1 a2 a3 a4 a5 k
 have ih0 := element_CheckAll.mono_l k
 unfold element_CheckAll.f
 repeat' first
   | (with_reducible exact ih0 _ _ _ _ _ _ _ _)
   | (with_reducible exact element_Check.mono _ _ _ _ _ _ _ _ _)
   | (with_reducible exact LeO.refl _)
   | (with_reducible exact LeO.none _)
   | (with_reducible refine LeO.ite ?_ ?_)
   | (with_reducible refine LeO.bind ?_ (fun _ => ?_))
   | exact ih0 _ _ _ _ _ _ _ _
   | exact element_Check.mono _ _ _ _ _ _ _ _ _
   | exact LeO.none _
   | refine LeO.ite ?_ ?_
   | refine LeO.bind ?_ (fun _ => ?_)
set_option maxHeartbeats 8000000 in
set_option maxRecDepth 100000 in
theorem element_CheckAll.calls (k : Nat) (A0_0 : Option Addr) (c0_0 : Nat) (l0_0 : List (List (S222))) (A0_1 : Option Addr) (c0_1 : Nat) (l0_1 : List (S97)) (A0_2 : Option Addr) (c0_2 : Nat) (l0_2 : List (S89)) (a0_3 : Int) (a0_4 : Int) (A1 : Option Addr) (c1 : Nat) (l1 : List (S48)) (r : Int) (w : World) (hr0_0 : Kd.C (Kd.slice 222 k222) w A0_0 l0_0.length l0_0) (hc0_0 : l0_0.length ≤ c0_0) (hr0_1 : Kd.C k97 w A0_1 l0_1.length l0_1) (hc0_1 : l0_1.length ≤ c0_1) (hr0_2 : Kd.C k89 w A0_2 l0_2.length l0_2) (hc0_2 : l0_2.length ≤ c0_2) (hr1 : Kd.C k48 w A1 l1.length l1) (hc1 : l1.length ≤ c1) (h : element_CheckAll.f k l0_0 l0_1 l0_2 a0_3 a0_4 l1 = some r) :
  Calls Tryd.prog 54 #[.agg #[.slice A0_0 l0_0.length c0_0, .slice A0_1 l0_1.length c0_1, .slice A0_2 l0_2.length c0_2, .int .i64 a0_3, .int .i64 a0_4], .slice A1 l1.length c1] w fun e w' => e = .returned (.int .i64 r) ∧ Below w.heap.size w w' := by
 have hu86 := Tryd.underlying86
 have hu48 := Tryd.underlying48
 have HR0_0 := Aside0.mk hr0_0
 have HC0_0 := Aside0.mk hc0_0
 clear hr0_0 hc0_0
 have HR0_1 := Aside0.mk hr0_1
 have HC0_1 := Aside0.mk hc0_1
 clear hr0_1 hc0_1
 have HR0_2 := Aside0.mk hr0_2
 have HC0_2 := Aside0.mk hc0_2
 clear hr0_2 hc0_2
 have HR1 := Aside0.mk hr1
 have HC1 := Aside0.mk hc1
 clear hr1 hc1
 have HB := Aside0.mk (Below.refl w.heap.size w)
 have H : (if (l1.length : Int) > 32 then (some 2) else (element_CheckAll.l0 k l1 (l1.length : Int) 0 l0_0 l0_1 l0_2 a0_3 a0_4)) = some r := h
 clear h
 by_cases c3 : (l1.length : Int) > 32
 ·rw [if_pos c3] at H
  have c3b0 : decide (32 < (l1.length : Int)) = true := decide_eq_true c3
  have c3b1 : decide (32 < l1.length) = true := decide_eq_true (by omega)
  clear c3
  obtain rfl := Option.some.inj H
  go_enter Tryd.func54, Tryd.ntmps54
  go_wp2_with (first | ((with_reducible refine gate_dst (N := 2) rfl ?_); refine box_event ?hg (N := 2) ?hd (cs := #[.slice A0_0 l0_0.length c0_0, .slice A0_1 l0_1.length c0_1, .slice A0_2 l0_2.length c0_2, .int .i64 a0_3, .int .i64 a0_4]) (t := 86) ?hr ?_; (case hd => rfl); (case hg => rfl); (case hr => first | (go_simp; done) | (go_simp; rfl)); intro gb491 hg w4 hbox hb; have n0_ := Aside0.mk (below_step (by repeat (first | (with_reducible first | exact HB.out | apply below_alloc | apply pw_below_drewN | apply below_drew1) | exact HB.out)) hb); have n1_ := Aside0.mk (hbox); have n2_ := Aside0.mk ((by rw [hg]; exact (below_size (by repeat (first | (with_reducible first | exact HB.out | apply below_alloc | apply pw_below_drewN | apply below_drew1) | exact HB.out))) : w.heap.size ≤ gb491)); have n3_ := Aside0.mk ((by rw [hg]; exact (below_size (by repeat (first | (with_reducible first | exact HB.out | apply below_alloc | apply pw_below_drewN | apply below_drew1) | exact HB.out))) : w.heap.size ≤ gb491)); clear HB; have HB := n0_; have BK491 := n1_; have GW491 := n2_; have GE491 := n3_; clear n0_ n1_ n2_ n3_; clear hb hbox hg))
  go_ret
  exact ⟨by first | rfl | (simp [errW_none, errW_some] <;> rfl) | (simp [*, errW_none, errW_some] <;> rfl), by repeat (first | (with_reducible first | exact HB.out | apply below_alloc | apply pw_below_drewN | apply below_drew1 | refine below_set ?_ GE491.out) | exact HB.out)⟩
 ·rw [if_neg c3] at H
  have c3b0 : decide (32 < (l1.length : Int)) = false := decide_eq_false c3
  have c3b1 : decide (32 < l1.length) = false := decide_eq_false (by omega)
  clear c3
  have H' := Aside0.mk H
  clear H
  go_enter Tryd.func54, Tryd.ntmps54
  go_wp2_with (first | ((with_reducible refine gate_dst (N := 2) rfl ?_); refine box_event ?hg (N := 2) ?hd (cs := #[.slice A0_0 l0_0.length c0_0, .slice A0_1 l0_1.length c0_1, .slice A0_2 l0_2.length c0_2, .int .i64 a0_3, .int .i64 a0_4]) (t := 86) ?hr ?_; (case hd => rfl); (case hg => rfl); (case hr => first | (go_simp; done) | (go_simp; rfl)); intro gb491 hg w5 hbox hb; have n0_ := Aside0.mk (below_step (by repeat (first | (with_reducible first | exact HB.out | apply below_alloc | apply pw_below_drewN | apply below_drew1) | exact HB.out)) hb); have n1_ := Aside0.mk (hbox); have n2_ := Aside0.mk ((by rw [hg]; exact (below_size (by repeat (first | (with_reducible first | exact HB.out | apply below_alloc | apply pw_below_drewN | apply below_drew1) | exact HB.out))) : w.heap.size ≤ gb491)); have n3_ := Aside0.mk ((by rw [hg]; exact (below_size (by repeat (first | (with_reducible first | exact HB.out | apply below_alloc | apply pw_below_drewN | apply below_drew1) | exact HB.out))) : w.heap.size ≤ gb491)); clear HB; have HB := n0_; have BK491 := n1_; have GW491 := n2_; have GE491 := n3_; clear n0_ n1_ n2_ n3_; clear hb hbox hg))
  go_loopg [13] k (fun kq v13 w' => ∃ (x13_1 : Int), v13 = .int .i64 x13_1 ∧ Aside0 (element_CheckAll.l0 kq l1 (l1.length : Int) x13_1 l0_0 l0_1 l0_2 a0_3 a0_4 = some r) ∧ Aside0 (kq ≤ k) ∧ Aside0 (w'.heap[gb491]? = some (.cells #[(.slice A0_0 l0_0.length c0_0), (.slice A0_1 l0_1.length c0_1), (.slice A0_2 l0_2.length c0_2), .int .i64 a0_3, .int .i64 a0_4] 86 (0, 0))) ∧ Aside0 (Below w.heap.size w w'))
  case atStart => exact ⟨(0), (by first | rfl | (simp; done) | (simp [*]; done)), H', ⟨Nat.le_refl _⟩, ⟨by (with_reducible repeat (first | refine blk_drewN ?_ _ | refine blk_drew ?_ | refine blk_alloc ?_ _)); exact BK491.out⟩, ⟨by repeat (first | (with_reducible first | exact HB.out | apply below_alloc | apply pw_below_drewN | apply below_drew1 | refine below_set ?_ GE491.out) | exact HB.out)⟩⟩
  case round =>
   clear H'
   try clear c1
   try clear p2
   try clear c3
   try clear c3b0
   try clear c3b1
   try clear c5
   obtain ⟨x13_1, rfl, HA, HK1, BK491, HB⟩ := hrel
   cases gk with
   | zero => exact absurd HA.out (by simp [element_CheckAll.l0])
   | succ k1 =>
    have H := HA.out
    clear HA
    simp only [element_CheckAll.l0] at H
    by_cases c6 : x13_1 < (l1.length : Int)
    ·rw [if_pos c6] at H
     have c6b0 : decide (x13_1 < (l1.length : Int)) = true := decide_eq_true c6
     clear c6
     by_cases c7 : 0 ≤ x13_1
     ·rw [if_pos c7] at H
      have c7b0 : decide (0 ≤ x13_1) = true := decide_eq_true c7
      clear c7
      by_cases c8 : x13_1 < (l1.length : Int)
      ·rw [if_pos c8] at H
       have c8b0 : decide (x13_1 < (l1.length : Int)) = true := decide_eq_true c8
       clear c8
       replace H := Option.bind_eq_some_iff.mp H
       obtain ⟨t494, A90, H⟩ := H
       replace H : (if t494 = 0 then (element_CheckAll.l0 k1 l1 (l1.length : Int) (wrap64 (x13_1 + 1)) l0_0 l0_1 l0_2 a0_3 a0_4) else (some t494)) = some r := H
       have A9 := Aside0.mk A90
       clear A90
       by_cases c10 : t494 = 0
       ·rw [if_pos c10] at H
        have c10b0 : (t494 == 0) = true := beq_iff_eq.mpr c10
        have c10b1 : (t494 != 0) = false := bne_eq_false_iff_eq.mpr c10
        clear c10
        have H' := Aside0.mk H
        clear H
        have p492 : 0 ≤ (x13_1 : Int) := of_decide_eq_true (by first | (with_reducible assumption) | assumption)
        have q492 : x13_1 < (l1.length : Int) := of_decide_eq_true (by first | (with_reducible assumption) | assumption)
        obtain ⟨ad492, e492, hx492_0, hx492_1, hx492_2⟩ := at_T48 HR1.out x13_1 p492 q492
        cases e492
        replace hx492_0 := (HB.out.cell (World.block_lt_of_cell? w _ hx492_0)).trans hx492_0
        replace hx492_1 := (HB.out.cell (World.block_lt_of_cell? w _ hx492_1)).trans hx492_1
        replace hx492_2 := (HB.out.cell (World.block_lt_of_cell? w _ hx492_2)).trans hx492_2
        replace p492 := eq_true p492
        replace q492 := eq_true q492
        go_wp2_with (first | ((with_reducible refine gate_dst (N := 6) rfl ?_); refine box_event ?hg (N := 6) ?hd (cs := #[.string (⟨#[]⟩ : ByteArray), .int .i64 0, .int .i64 0]) (t := 48) ?hr ?_; (case hd => rfl); (case hg => rfl); (case hr => first | (go_simp; done) | (go_simp; rfl)); intro gb493 hg w11 hbox hb; have n0_ := Aside0.mk (blk_below (g := gb491) (o := .cells #[.slice A0_0 l0_0.length c0_0, .slice A0_1 l0_1.length c0_1, .slice A0_2 l0_2.length c0_2, .int .i64 a0_3, .int .i64 a0_4] 86 (0, 0)) (by (with_reducible repeat (first | refine blk_drewN ?_ _ | refine blk_drew ?_ | refine blk_alloc ?_ _)); exact BK491.out) hb); have n1_ := Aside0.mk (below_step (by repeat (first | (with_reducible first | exact HB.out | apply below_alloc | apply pw_below_drewN | apply below_drew1 | refine below_set ?_ GE491.out) | exact HB.out)) hb); have n2_ := Aside0.mk (hbox); have n3_ := Aside0.mk ((by rw [hg]; exact (below_size (by repeat (first | (with_reducible first | exact HB.out | apply below_alloc | apply pw_below_drewN | apply below_drew1 | refine below_set ?_ GE491.out) | exact HB.out))) : w.heap.size ≤ gb493)); have n4_ := Aside0.mk ((by rw [hg]; exact (below_size (by repeat (first | (with_reducible first | exact HB.out | apply below_alloc | apply pw_below_drewN | apply below_drew1 | refine below_set ?_ GE491.out) | exact HB.out))) : w.heap.size ≤ gb493)); have n5_ := Aside0.mk ((by rw [hg]; exact Nat.ne_of_lt (blk_lt (g := gb491) (o := .cells #[.slice A0_0 l0_0.length c0_0, .slice A0_1 l0_1.length c0_1, .slice A0_2 l0_2.length c0_2, .int .i64 a0_3, .int .i64 a0_4] 86 (0, 0)) (by (with_reducible repeat (first | refine blk_drewN ?_ _ | refine blk_drew ?_ | refine blk_alloc ?_ _)); exact BK491.out)) : gb491 ≠ gb493)); have n6_ := Aside0.mk ((by rw [hg]; exact Nat.ne_of_gt (blk_lt (g := gb491) (o := .cells #[.slice A0_0 l0_0.length c0_0, .slice A0_1 l0_1.length c0_1, .slice A0_2 l0_2.length c0_2, .int .i64 a0_3, .int .i64 a0_4] 86 (0, 0)) (by (with_reducible repeat (first | refine blk_drewN ?_ _ | refine blk_drew ?_ | refine blk_alloc ?_ _)); exact BK491.out)) : gb493 ≠ gb491)); clear BK491; clear HB; have BK491 := n0_; have HB := n1_; have BK493 := n2_; have GW493 := n3_; have GE493 := n4_; have NB491_493 := n5_; have NB493_491 := n6_; clear n0_ n1_ n2_ n3_ n4_ n5_ n6_; clear hb hbox hg; have hnb12 := NB493_491.out; have hnc12 := NB491_493.out; have hcz13_0 : w11.cell? ⟨gb493, 0, none⟩ = some (.string (⟨#[]⟩ : ByteArray)) := (blk_cell BK493.out 0).trans rfl; have hcz13_1 : w11.cell? ⟨gb493, 1, none⟩ = some (.int .i64 0) := (blk_cell BK493.out 1).trans rfl; have hcz13_2 : w11.cell? ⟨gb493, 2, none⟩ = some (.int .i64 0) := (blk_cell BK493.out 2).trans rfl; have hfz13_0 := blk_frozen BK493.out 0; have hfz13_1 := blk_frozen BK493.out 1; have hfz13_2 := blk_frozen BK493.out 2; have hcz14_0 : w11.cell? ⟨gb491, 0, none⟩ = some (.slice A0_0 l0_0.length c0_0) := (blk_cell BK491.out 0).trans rfl; have hcz14_1 : w11.cell? ⟨gb491, 1, none⟩ = some (.slice A0_1 l0_1.length c0_1) := (blk_cell BK491.out 1).trans rfl; have hcz14_2 : w11.cell? ⟨gb491, 2, none⟩ = some (.slice A0_2 l0_2.length c0_2) := (blk_cell BK491.out 2).trans rfl; have hcz14_3 : w11.cell? ⟨gb491, 3, none⟩ = some (.int .i64 a0_3) := (blk_cell BK491.out 3).trans rfl; have hcz14_4 : w11.cell? ⟨gb491, 4, none⟩ = some (.int .i64 a0_4) := (blk_cell BK491.out 4).trans rfl; have hfz14_0 := blk_frozen BK491.out 0; have hfz14_1 := blk_frozen BK491.out 1; have hfz14_2 := blk_frozen BK491.out 2; have hfz14_3 := blk_frozen BK491.out 3; have hfz14_4 := blk_frozen BK491.out 4) | ((with_reducible refine gate_callee (f := 52) rfl ?_); refine goesL_ (some 19) rfl rfl Tryd.func52 (by kernel_rfl) rfl #[.agg #[.slice A0_0 l0_0.length c0_0, .slice A0_1 l0_1.length c0_1, .slice A0_2 l0_2.length c0_2, .int .i64 a0_3, .int .i64 a0_4], .agg #[.string ((rd_T48 l1 x13_1).f0), .int .i64 ((rd_T48 l1 x13_1).f1), .int .i64 ((rd_T48 l1 x13_1).f2)]] rfl (by (try simp only [List.map_toArray, List.map_cons, List.map_nil]); first | done | rfl | (simp only [List.length_drop, List.length_take]; rfl)) ?_; (with_reducible refine (element_Check.calls k1 _ _ l0_0 _ _ l0_1 _ _ l0_2 a0_3 a0_4 ((rd_T48 l1 x13_1).f0) ((rd_T48 l1 x13_1).f1) ((rd_T48 l1 x13_1).f2) t494 _ ?side1 ?side2 ?side3 ?side4 ?side5 ?side6 A9.out).mono ?_); (case side1 => exact Kd.C_below HR0_0.out (by repeat (first | (with_reducible first | exact HB.out | apply below_alloc | apply pw_below_drewN | apply below_drew1 | refine below_set ?_ GE491.out | refine below_set ?_ GE493.out) | exact HB.out))); (case side2 => exact HC0_0.out); (case side3 => exact Kd.C_below HR0_1.out (by repeat (first | (with_reducible first | exact HB.out | apply below_alloc | apply pw_below_drewN | apply below_drew1 | refine below_set ?_ GE491.out | refine below_set ?_ GE493.out) | exact HB.out))); (case side4 => exact HC0_1.out); (case side5 => exact Kd.C_below HR0_2.out (by repeat (first | (with_reducible first | exact HB.out | apply below_alloc | apply pw_below_drewN | apply below_drew1 | refine below_set ?_ GE491.out | refine below_set ?_ GE493.out) | exact HB.out))); (case side6 => exact HC0_2.out); rintro e w15 ⟨rfl, hb⟩; refine ⟨_, rfl, ?_⟩; have n0_ := Aside0.mk (blk_below (g := gb491) (o := .cells #[.slice A0_0 l0_0.length c0_0, .slice A0_1 l0_1.length c0_1, .slice A0_2 l0_2.length c0_2, .int .i64 a0_3, .int .i64 a0_4] 86 (0, 0)) (by (with_reducible repeat (first | refine blk_drewN ?_ _ | refine blk_drew ?_ | refine blk_alloc ?_ _)); refine blk_far ?_ NB491_493.out _; (with_reducible repeat (first | refine blk_drewN ?_ _ | refine blk_drew ?_ | refine blk_alloc ?_ _)); refine blk_far ?_ NB491_493.out _; (with_reducible repeat (first | refine blk_drewN ?_ _ | refine blk_drew ?_ | refine blk_alloc ?_ _)); refine blk_far ?_ NB491_493.out _; (with_reducible repeat (first | refine blk_drewN ?_ _ | refine blk_drew ?_ | refine blk_alloc ?_ _)); exact BK491.out) hb); have n1_ := Aside0.mk (blk_below (g := gb493) (o := .cells #[.string ((rd_T48 l1 x13_1).f0), .int .i64 ((rd_T48 l1 x13_1).f1), .int .i64 ((rd_T48 l1 x13_1).f2)] 48 (0, 0)) (by (with_reducible repeat (first | refine blk_drewN ?_ _ | refine blk_drew ?_ | refine blk_alloc ?_ _)); refine blk_put (cs := #[.string ((rd_T48 l1 x13_1).f0), .int .i64 ((rd_T48 l1 x13_1).f1), .int .i64 0]) ?_ 2 _ rfl; (with_reducible repeat (first | refine blk_drewN ?_ _ | refine blk_drew ?_ | refine blk_alloc ?_ _)); refine blk_put (cs := #[.string ((rd_T48 l1 x13_1).f0), .int .i64 0, .int .i64 0]) ?_ 1 _ rfl; (with_reducible repeat (first | refine blk_drewN ?_ _ | refine blk_drew ?_ | refine blk_alloc ?_ _)); refine blk_put (cs := #[.string (⟨#[]⟩ : ByteArray), .int .i64 0, .int .i64 0]) ?_ 0 _ rfl; (with_reducible repeat (first | refine blk_drewN ?_ _ | refine blk_drew ?_ | refine blk_alloc ?_ _)); exact BK493.out) hb); have n2_ := Aside0.mk (below_step (by repeat (first | (with_reducible first | exact HB.out | apply below_alloc | apply pw_below_drewN | apply below_drew1 | refine below_set ?_ GE491.out | refine below_set ?_ GE493.out) | exact HB.out)) hb); clear BK491; clear BK493; clear HB; have BK491 := n0_; have BK493 := n1_; have HB := n2_; clear n0_ n1_ n2_; (try clear hb); (try clear hb2); (try clear hk); (try clear hi)))
        go_roundg k1
        case measure => have := HK1.out; omega
        case rel => exact ⟨(wrap64 (x13_1 + 1)), (by first | rfl | (simp; done) | (simp [*]; done)), H', ⟨by have := HK1.out; omega⟩, ⟨by (with_reducible repeat (first | refine blk_drewN ?_ _ | refine blk_drew ?_ | refine blk_alloc ?_ _)); exact BK491.out⟩, ⟨by repeat (first | (with_reducible first | exact HB.out | apply below_alloc | apply pw_below_drewN | apply below_drew1 | refine below_set ?_ GE491.out | refine below_set ?_ GE493.out) | exact HB.out)⟩⟩
       ·rw [if_neg c10] at H
        have c10b0 : (t494 == 0) = false := beq_eq_false_iff_ne.mpr c10
        have c10b1 : (t494 != 0) = true := bne_iff_ne.mpr c10
        obtain rfl := Option.some.inj H
        have p492 : 0 ≤ (x13_1 : Int) := of_decide_eq_true (by first | (with_reducible assumption) | assumption)
        have q492 : x13_1 < (l1.length : Int) := of_decide_eq_true (by first | (with_reducible assumption) | assumption)
        obtain ⟨ad492, e492, hx492_0, hx492_1, hx492_2⟩ := at_T48 HR1.out x13_1 p492 q492
        cases e492
        replace hx492_0 := (HB.out.cell (World.block_lt_of_cell? w _ hx492_0)).trans hx492_0
        replace hx492_1 := (HB.out.cell (World.block_lt_of_cell? w _ hx492_1)).trans hx492_1
        replace hx492_2 := (HB.out.cell (World.block_lt_of_cell? w _ hx492_2)).trans hx492_2
        replace p492 := eq_true p492
        replace q492 := eq_true q492
        go_wp2_with (first | ((with_reducible refine gate_dst (N := 6) rfl ?_); refine box_event ?hg (N := 6) ?hd (cs := #[.string (⟨#[]⟩ : ByteArray), .int .i64 0, .int .i64 0]) (t := 48) ?hr ?_; (case hd => rfl); (case hg => rfl); (case hr => first | (go_simp; done) | (go_simp; rfl)); intro gb493 hg w16 hbox hb; have n0_ := Aside0.mk (blk_below (g := gb491) (o := .cells #[.slice A0_0 l0_0.length c0_0, .slice A0_1 l0_1.length c0_1, .slice A0_2 l0_2.length c0_2, .int .i64 a0_3, .int .i64 a0_4] 86 (0, 0)) (by (with_reducible repeat (first | refine blk_drewN ?_ _ | refine blk_drew ?_ | refine blk_alloc ?_ _)); exact BK491.out) hb); have n1_ := Aside0.mk (below_step (by repeat (first | (with_reducible first | exact HB.out | apply below_alloc | apply pw_below_drewN | apply below_drew1 | refine below_set ?_ GE491.out) | exact HB.out)) hb); have n2_ := Aside0.mk (hbox); have n3_ := Aside0.mk ((by rw [hg]; exact (below_size (by repeat (first | (with_reducible first | exact HB.out | apply below_alloc | apply pw_below_drewN | apply below_drew1 | refine below_set ?_ GE491.out) | exact HB.out))) : w.heap.size ≤ gb493)); have n4_ := Aside0.mk ((by rw [hg]; exact (below_size (by repeat (first | (with_reducible first | exact HB.out | apply below_alloc | apply pw_below_drewN | apply below_drew1 | refine below_set ?_ GE491.out) | exact HB.out))) : w.heap.size ≤ gb493)); have n5_ := Aside0.mk ((by rw [hg]; exact Nat.ne_of_lt (blk_lt (g := gb491) (o := .cells #[.slice A0_0 l0_0.length c0_0, .slice A0_1 l0_1.length c0_1, .slice A0_2 l0_2.length c0_2, .int .i64 a0_3, .int .i64 a0_4] 86 (0, 0)) (by (with_reducible repeat (first | refine blk_drewN ?_ _ | refine blk_drew ?_ | refine blk_alloc ?_ _)); exact BK491.out)) : gb491 ≠ gb493)); have n6_ := Aside0.mk ((by rw [hg]; exact Nat.ne_of_gt (blk_lt (g := gb491) (o := .cells #[.slice A0_0 l0_0.length c0_0, .slice A0_1 l0_1.length c0_1, .slice A0_2 l0_2.length c0_2, .int .i64 a0_3, .int .i64 a0_4] 86 (0, 0)) (by (with_reducible repeat (first | refine blk_drewN ?_ _ | refine blk_drew ?_ | refine blk_alloc ?_ _)); exact BK491.out)) : gb493 ≠ gb491)); clear BK491; clear HB; have BK491 := n0_; have HB := n1_; have BK493 := n2_; have GW493 := n3_; have GE493 := n4_; have NB491_493 := n5_; have NB493_491 := n6_; clear n0_ n1_ n2_ n3_ n4_ n5_ n6_; clear hb hbox hg; have hnb17 := NB493_491.out; have hnc17 := NB491_493.out; have hcz18_0 : w16.cell? ⟨gb493, 0, none⟩ = some (.string (⟨#[]⟩ : ByteArray)) := (blk_cell BK493.out 0).trans rfl; have hcz18_1 : w16.cell? ⟨gb493, 1, none⟩ = some (.int .i64 0) := (blk_cell BK493.out 1).trans rfl; have hcz18_2 : w16.cell? ⟨gb493, 2, none⟩ = some (.int .i64 0) := (blk_cell BK493.out 2).trans rfl; have hfz18_0 := blk_frozen BK493.out 0; have hfz18_1 := blk_frozen BK493.out 1; have hfz18_2 := blk_frozen BK493.out 2; have hcz19_0 : w16.cell? ⟨gb491, 0, none⟩ = some (.slice A0_0 l0_0.length c0_0) := (blk_cell BK491.out 0).trans rfl; have hcz19_1 : w16.cell? ⟨gb491, 1, none⟩ = some (.slice A0_1 l0_1.length c0_1) := (blk_cell BK491.out 1).trans rfl; have hcz19_2 : w16.cell? ⟨gb491, 2, none⟩ = some (.slice A0_2 l0_2.length c0_2) := (blk_cell BK491.out 2).trans rfl; have hcz19_3 : w16.cell? ⟨gb491, 3, none⟩ = some (.int .i64 a0_3) := (blk_cell BK491.out 3).trans rfl; have hcz19_4 : w16.cell? ⟨gb491, 4, none⟩ = some (.int .i64 a0_4) := (blk_cell BK491.out 4).trans rfl; have hfz19_0 := blk_frozen BK491.out 0; have hfz19_1 := blk_frozen BK491.out 1; have hfz19_2 := blk_frozen BK491.out 2; have hfz19_3 := blk_frozen BK491.out 3; have hfz19_4 := blk_frozen BK491.out 4) | ((with_reducible refine gate_callee (f := 52) rfl ?_); refine goesL_ (some 19) rfl rfl Tryd.func52 (by kernel_rfl) rfl #[.agg #[.slice A0_0 l0_0.length c0_0, .slice A0_1 l0_1.length c0_1, .slice A0_2 l0_2.length c0_2, .int .i64 a0_3, .int .i64 a0_4], .agg #[.string ((rd_T48 l1 x13_1).f0), .int .i64 ((rd_T48 l1 x13_1).f1), .int .i64 ((rd_T48 l1 x13_1).f2)]] rfl (by (try simp only [List.map_toArray, List.map_cons, List.map_nil]); first | done | rfl | (simp only [List.length_drop, List.length_take]; rfl)) ?_; (with_reducible refine (element_Check.calls k1 _ _ l0_0 _ _ l0_1 _ _ l0_2 a0_3 a0_4 ((rd_T48 l1 x13_1).f0) ((rd_T48 l1 x13_1).f1) ((rd_T48 l1 x13_1).f2) t494 _ ?side1 ?side2 ?side3 ?side4 ?side5 ?side6 A9.out).mono ?_); (case side1 => exact Kd.C_below HR0_0.out (by repeat (first | (with_reducible first | exact HB.out | apply below_alloc | apply pw_below_drewN | apply below_drew1 | refine below_set ?_ GE491.out | refine below_set ?_ GE493.out) | exact HB.out))); (case side2 => exact HC0_0.out); (case side3 => exact Kd.C_below HR0_1.out (by repeat (first | (with_reducible first | exact HB.out | apply below_alloc | apply pw_below_drewN | apply below_drew1 | refine below_set ?_ GE491.out | refine below_set ?_ GE493.out) | exact HB.out))); (case side4 => exact HC0_1.out); (case side5 => exact Kd.C_below HR0_2.out (by repeat (first | (with_reducible first | exact HB.out | apply below_alloc | apply pw_below_drewN | apply below_drew1 | refine below_set ?_ GE491.out | refine below_set ?_ GE493.out) | exact HB.out))); (case side6 => exact HC0_2.out); rintro e w20 ⟨rfl, hb⟩; refine ⟨_, rfl, ?_⟩; have n0_ := Aside0.mk (blk_below (g := gb491) (o := .cells #[.slice A0_0 l0_0.length c0_0, .slice A0_1 l0_1.length c0_1, .slice A0_2 l0_2.length c0_2, .int .i64 a0_3, .int .i64 a0_4] 86 (0, 0)) (by (with_reducible repeat (first | refine blk_drewN ?_ _ | refine blk_drew ?_ | refine blk_alloc ?_ _)); refine blk_far ?_ NB491_493.out _; (with_reducible repeat (first | refine blk_drewN ?_ _ | refine blk_drew ?_ | refine blk_alloc ?_ _)); refine blk_far ?_ NB491_493.out _; (with_reducible repeat (first | refine blk_drewN ?_ _ | refine blk_drew ?_ | refine blk_alloc ?_ _)); refine blk_far ?_ NB491_493.out _; (with_reducible repeat (first | refine blk_drewN ?_ _ | refine blk_drew ?_ | refine blk_alloc ?_ _)); exact BK491.out) hb); have n1_ := Aside0.mk (blk_below (g := gb493) (o := .cells #[.string ((rd_T48 l1 x13_1).f0), .int .i64 ((rd_T48 l1 x13_1).f1), .int .i64 ((rd_T48 l1 x13_1).f2)] 48 (0, 0)) (by (with_reducible repeat (first | refine blk_drewN ?_ _ | refine blk_drew ?_ | refine blk_alloc ?_ _)); refine blk_put (cs := #[.string ((rd_T48 l1 x13_1).f0), .int .i64 ((rd_T48 l1 x13_1).f1), .int .i64 0]) ?_ 2 _ rfl; (with_reducible repeat (first | refine blk_drewN ?_ _ | refine blk_drew ?_ | refine blk_alloc ?_ _)); refine blk_put (cs := #[.string ((rd_T48 l1 x13_1).f0), .int .i64 0, .int .i64 0]) ?_ 1 _ rfl; (with_reducible repeat (first | refine blk_drewN ?_ _ | refine blk_drew ?_ | refine blk_alloc ?_ _)); refine blk_put (cs := #[.string (⟨#[]⟩ : ByteArray), .int .i64 0, .int .i64 0]) ?_ 0 _ rfl; (with_reducible repeat (first | refine blk_drewN ?_ _ | refine blk_drew ?_ | refine blk_alloc ?_ _)); exact BK493.out) hb); have n2_ := Aside0.mk (below_step (by repeat (first | (with_reducible first | exact HB.out | apply below_alloc | apply pw_below_drewN | apply below_drew1 | refine below_set ?_ GE491.out | refine below_set ?_ GE493.out) | exact HB.out)) hb); clear BK491; clear BK493; clear HB; have BK491 := n0_; have BK493 := n1_; have HB := n2_; clear n0_ n1_ n2_; (try clear hb); (try clear hb2); (try clear hk); (try clear hi)))
        go_ret
        exact ⟨by first | rfl | (simp [errW_none, errW_some] <;> rfl) | (simp [*, errW_none, errW_some] <;> rfl), by repeat (first | (with_reducible first | exact HB.out | apply below_alloc | apply pw_below_drewN | apply below_drew1 | refine below_set ?_ GE491.out | refine below_set ?_ GE493.out) | exact HB.out)⟩
      ·rw [if_neg c8] at H
       exact absurd H (by simp)
     ·rw [if_neg c7] at H
      exact absurd H (by simp)
    ·rw [if_neg c6] at H
     have c6b0 : decide (x13_1 < (l1.length : Int)) = false := decide_eq_false c6
     clear c6
     obtain rfl := Option.some.inj H
     go_wp2
     go_ret
     exact ⟨by first | rfl | (simp [errW_none, errW_some] <;> rfl) | (simp [*, errW_none, errW_some] <;> rfl), by repeat (first | (with_reducible first | exact HB.out | apply below_alloc | apply pw_below_drewN | apply below_drew1 | refine below_set ?_ GE491.out) | exact HB.out)⟩

end Go.Proofs.YtmocphafkimdpaaDoor.P
