/- A part of the proof of the cards of Share..: each of these statements answers true for every input (the conditions: those of the given statements alone). Merged by a program (wip/merge.py) out of: Pf55, GPostsPure, Pe0, Pe1, GPosts, Pf25, GRows, GOpen. -/
import Derived.Test.YtmocphafkimdpaaDoorBSharea
import Derived.Test.YtmocphafkimdpaaDoorBSharee
import Derived.Test.YtmocphafkimdpaaDoorBShareb
import Derived.WalkKit
import Derived.ProofKit
import Derived.OpenShut
import Derived.ShutString
import Derived.ChangeOld
import Derived.Deep.Slices

-- written by a program (a patched copy of the kit's print: wip/mkprint.py); Lean checks it
namespace Go.Proofs.YtmocphafkimdpaaDoor.P
open Go.RowKit Go.Proofs.YtmocphafkimdpaaDoorW.PrintWords Go.Proofs.YtmocphafkimdpaaDoorW.PrintLast Go.Proofs.YtmocphafkimdpaaDoorW.PrintMore
attribute [local go_sem] max2_int min2_int max_two min_two max_three min_three max_four min_four   -- for this text's walks alone
set_option linter.unusedVariables false
set_option linter.unusedSimpArgs false

/-! ### share_Lines: function 55 -/
def share_Lines.l0 : Nat → List ByteArray → List (S29) → Int → Int → List (List (S222)) → List (S97) → List (S89) → Int → Int → Option (List ByteArray)
 | 0, _, _, _, _, _, _, _, _, _ => none
 | k + 1, x5, x14, x15, x16, x197000, x197001, x197002, x197003, x197004 => if x16 < x15 then (if 0 ≤ x16 then (if x16 < (x14.length : Int) then (if x16 < (x197001.length : Int) then (if ((rd_T97 x197001 x16).f0).size + 1 ≤ 9223372036854775807 then ((money_Text.f ((rd_T29 x14 x16).f0)).bind fun t200 => (if (((rd_T97 x197001 x16).f0) ++ (⟨#[32]⟩ : ByteArray)).size + t200.size ≤ 9223372036854775807 then (if ((((rd_T97 x197001 x16).f0) ++ (⟨#[32]⟩ : ByteArray)) ++ t200).size + 1 ≤ 9223372036854775807 then ((money_Text.f ((rd_T29 x14 x16).f1)).bind fun t201 => (if (((((rd_T97 x197001 x16).f0) ++ (⟨#[32]⟩ : ByteArray)) ++ t200) ++ (⟨#[32]⟩ : ByteArray)).size + t201.size ≤ 9223372036854775807 then (if x5.length < 8796093022208 then (share_Lines.l0 k (x5 ++ [(((((rd_T97 x197001 x16).f0) ++ (⟨#[32]⟩ : ByteArray)) ++ t200) ++ (⟨#[32]⟩ : ByteArray)) ++ t201]) x14 x15 (wrap64 (x16 + 1)) x197000 x197001 x197002 x197003 x197004) else (none)) else (none))) else (none)) else (none))) else (none)) else (none)) else (none)) else (none)) else (some x5)
def share_Lines.f (k : Nat) (l0_0 : List (List (S222))) (l0_1 : List (S97)) (l0_2 : List (S89)) (a0_3 : Int) (a0_4 : Int) (l1 : List (S29)) : Option (List ByteArray) := if (l1.length : Int) = (l0_1.length : Int) then (share_Lines.l0 k ([] : List ByteArray) l1 (l1.length : Int) 0 l0_0 l0_1 l0_2 a0_3 a0_4) else (some ([] : List ByteArray))
theorem share_Lines.mono_l : ∀ k, (∀ y0 y1 y2 y3 y4 y5 y6 y7 y8, LeO (share_Lines.l0 k y0 y1 y2 y3 y4 y5 y6 y7 y8) (share_Lines.l0 (k + 1) y0 y1 y2 y3 y4 y5 y6 y7 y8))
 | 0 => fun _ _ _ _ _ _ _ _ _ r h => by simp [share_Lines.l0] at h
 | k + 1 => by
  have ih0 := share_Lines.mono_l k
  ·intro y0 y1 y2 y3 y4 y5 y6 y7 y8
   unfold share_Lines.l0
   repeat' first
   | (with_reducible exact ih0 _ _ _ _ _ _ _ _ _)
   | (with_reducible exact LeO.refl _)
   | (with_reducible exact LeO.none _)
   | (with_reducible refine LeO.ite ?_ ?_)
   | (with_reducible refine LeO.bind ?_ (fun _ => ?_))
   | exact ih0 _ _ _ _ _ _ _ _ _
   | exact LeO.none _
   | refine LeO.ite ?_ ?_
   | refine LeO.bind ?_ (fun _ => ?_)
theorem share_Lines.mono : ∀ a0 a1 a2 a3 a4 a5 k, LeO (share_Lines.f k a0 a1 a2 a3 a4 a5) (share_Lines.f (k + 1) a0 a1 a2 a3 a4 a5) := by
 intro a0 a1 a2 a3 a4 a5 k
 have ih0 := share_Lines.mono_l k
 unfold share_Lines.f
 repeat' first
   | (with_reducible exact ih0 _ _ _ _ _ _ _ _ _)
   | (with_reducible exact LeO.refl _)
   | (with_reducible exact LeO.none _)
   | (with_reducible refine LeO.ite ?_ ?_)
   | (with_reducible refine LeO.bind ?_ (fun _ => ?_))
   | exact ih0 _ _ _ _ _ _ _ _ _
   | exact LeO.none _
   | refine LeO.ite ?_ ?_
   | refine LeO.bind ?_ (fun _ => ?_)
def share_Lines.T7 : Bool × List (List Nat × List Nat) := (true, [([], []), ([], []), ([1], [1]), ([], []), ([2, 3], [2, 3]), ([4], [4]), ([5], [5]), ([6], [6]), ([], []), ([8], [8]), ([9], [9]), ([7, 10], [7, 10]), ([11], [11]), ([], []), ([13], [13]), ([14, 10], [14]), ([12, 15], [12, 15]), ([16], [16]), ([0, 17, 15], [0, 17]), ([18, 18, 0, 1, 2, 3, 4, 5, 6, 7, 8, 9, 10, 11, 12, 13, 14, 15, 16, 17, 18], [0, 18])])
def share_Lines.B7 : List Nat := [0, 0, 2, 0, 14, 30, 62, 126, 0, 256, 768, 2046, 4094, 0, 8192, 26368, 65534, 131070, 262143, 524287]
theorem share_Lines.tab7 : rtab .any (opsOf Tryd.f55 7) = share_Lines.T7 := by kernel_rfl
theorem share_Lines.bits7 : waitsOk share_Lines.T7.2 share_Lines.B7 = true := by kernel_rfl
set_option maxHeartbeats 8000000 in
set_option maxRecDepth 100000 in
theorem share_Lines.calls (k : Nat) (A0_0 : Option Addr) (c0_0 : Nat) (l0_0 : List (List (S222))) (A0_1 : Option Addr) (c0_1 : Nat) (l0_1 : List (S97)) (A0_2 : Option Addr) (c0_2 : Nat) (l0_2 : List (S89)) (a0_3 : Int) (a0_4 : Int) (A1 : Option Addr) (c1 : Nat) (l1 : List (S29)) (r : List ByteArray) (w : World) (hr0_0 : Kd.C (Kd.slice 222 k222) w A0_0 l0_0.length l0_0) (hc0_0 : l0_0.length ≤ c0_0) (hr0_1 : Kd.C k97 w A0_1 l0_1.length l0_1) (hc0_1 : l0_1.length ≤ c0_1) (hr0_2 : Kd.C k89 w A0_2 l0_2.length l0_2) (hc0_2 : l0_2.length ≤ c0_2) (hr1 : Kd.C k29 w A1 l1.length l1) (hc1 : l1.length ≤ c1) (h : share_Lines.f k l0_0 l0_1 l0_2 a0_3 a0_4 l1 = some r) (hG : GTab w := by first | exact GTab.below HG.out (by repeat (first | (with_reducible first | exact HB.out | apply below_alloc | apply pw_below_drewN | apply below_drew1 | apply below_drew) | exact HB.out)) | exact HG.out) :
  Calls Tryd.prog 55 #[.agg #[.slice A0_0 l0_0.length c0_0, .slice A0_1 l0_1.length c0_1, .slice A0_2 l0_2.length c0_2, .int .i64 a0_3, .int .i64 a0_4], .slice A1 l1.length c1] w fun e w' => ∃ v0_ : Value, e = .returned (v0_) ∧ Kd.R Kd.string 9 w' w.heap.size (fun _ => True) v0_ r ∧ Below w.heap.size w w' := by
 have hu86 := Tryd.underlying86
 have hu29 := Tryd.underlying29
 have HG := Aside0.mk hG; clear hG
 have HR0_0 := Aside0.mk hr0_0
 have HC0_0 := Aside0.mk hc0_0
 clear hr0_0 hc0_0
 have HR0_1 := Aside0.mk hr0_1
 have HC0_1 := Aside0.mk hc0_1
 clear hr0_1 hc0_1
 have HR0_2 := Aside0.mk hr0_2
 have HC0_2 := Aside0.mk hc0_2
 clear hr0_2 hc0_2
 have HR1 := Aside0.mk hr1
 have HC1 := Aside0.mk hc1
 clear hr1 hc1
 have HB := Aside0.mk (Below.refl w.heap.size w)
 have H : (if (l1.length : Int) = (l0_1.length : Int) then (share_Lines.l0 k ([] : List ByteArray) l1 (l1.length : Int) 0 l0_0 l0_1 l0_2 a0_3 a0_4) else (some ([] : List ByteArray))) = some r := h
 clear h
 by_cases c3 : (l1.length : Int) = (l0_1.length : Int)
 ·rw [if_pos c3] at H
  have c3b0 : ((l1.length : Int) == (l0_1.length : Int)) = true := beq_iff_eq.mpr c3
  have c3b1 : ((l1.length : Int) != (l0_1.length : Int)) = false := bne_eq_false_iff_eq.mpr c3
  have c3b2 : (l1.length == l0_1.length) = true := by first | simpa using c3 | (simp at c3 ⊢; omega)
  clear c3
  have H' := Aside0.mk H
  clear H
  go_enter Tryd.func55, Tryd.ntmps55
  go_wp2_with (first | ((with_reducible refine gate_dst (N := 2) rfl ?_); refine box_event ?hg (N := 2) ?hd (cs := #[.slice A0_0 l0_0.length c0_0, .slice A0_1 l0_1.length c0_1, .slice A0_2 l0_2.length c0_2, .int .i64 a0_3, .int .i64 a0_4]) (t := 86) ?hr ?_; (case hd => rfl); (case hg => rfl); (case hr => first | (go_simp; done) | (go_simp; rfl)); intro gb196 hg w4 hbox hb; have n0_ := Aside0.mk (below_step (by repeat (first | (with_reducible first | exact HB.out | apply below_alloc | apply pw_below_drewN | apply below_drew1) | exact HB.out)) hb); have n1_ := Aside0.mk (hbox); have n2_ := Aside0.mk ((by rw [hg]; exact (below_size (by repeat (first | (with_reducible first | exact HB.out | apply below_alloc | apply pw_below_drewN | apply below_drew1) | exact HB.out))) : w.heap.size ≤ gb196)); have n3_ := Aside0.mk ((by rw [hg]; exact (below_size (by repeat (first | (with_reducible first | exact HB.out | apply below_alloc | apply pw_below_drewN | apply below_drew1) | exact HB.out))) : w.heap.size ≤ gb196)); clear HB; have HB := n0_; have BK196 := n1_; have GW196 := n2_; have GE196 := n3_; clear n0_ n1_ n2_ n3_; clear hb hbox hg; have hcz5_0 : w4.cell? ⟨gb196, 0, none⟩ = some (.slice A0_0 l0_0.length c0_0) := (blk_cell BK196.out 0).trans rfl; have hcz5_1 : w4.cell? ⟨gb196, 1, none⟩ = some (.slice A0_1 l0_1.length c0_1) := (blk_cell BK196.out 1).trans rfl; have hcz5_2 : w4.cell? ⟨gb196, 2, none⟩ = some (.slice A0_2 l0_2.length c0_2) := (blk_cell BK196.out 2).trans rfl; have hcz5_3 : w4.cell? ⟨gb196, 3, none⟩ = some (.int .i64 a0_3) := (blk_cell BK196.out 3).trans rfl; have hcz5_4 : w4.cell? ⟨gb196, 4, none⟩ = some (.int .i64 a0_4) := (blk_cell BK196.out 4).trans rfl; have hfz5_0 := blk_frozen BK196.out 0; have hfz5_1 := blk_frozen BK196.out 1; have hfz5_2 := blk_frozen BK196.out 2; have hfz5_3 := blk_frozen BK196.out 3; have hfz5_4 := blk_frozen BK196.out 4))
  go_loopg [5, 16] k (fun kq v5 v16 w' => ∃ (x5_1 : List ByteArray) (x16_1 : Int), v16 = .int .i64 x16_1 ∧ Aside0 (share_Lines.l0 kq x5_1 l1 (l1.length : Int) x16_1 l0_0 l0_1 l0_2 a0_3 a0_4 = some r) ∧ Aside0 (kq ≤ k) ∧ Aside0 (Kd.R Kd.string 9 w' w.heap.size (fun _ => True) v5 x5_1) ∧ Aside0 (w'.heap[gb196]? = some (.cells #[(.slice A0_0 l0_0.length c0_0), (.slice A0_1 l0_1.length c0_1), (.slice A0_2 l0_2.length c0_2), .int .i64 a0_3, .int .i64 a0_4] 86 (0, 0))) ∧ Aside0 (Below w.heap.size w w'))
  case atStart => exact ⟨(([] : List ByteArray)), (0), (by first | rfl | (simp; done) | (simp [*]; done)), H', ⟨Nat.le_refl _⟩, ⟨by first | exact Kd.R_nil _ _ _ _ _ | exact Kd.N_nil _ _ _ _ _ | exact Kd.V_nil _ _ _ _ _ | exact Kd.Q_nil _ _ _ _ _ | exact Kd.S_nil _ _ _ _ _⟩, ⟨by (with_reducible repeat (first | refine blk_drewN ?_ _ | refine blk_drew ?_ | refine blk_alloc ?_ _)); exact BK196.out⟩, ⟨by repeat (first | (with_reducible first | exact HB.out | apply below_alloc | apply pw_below_drewN | apply below_drew1 | refine below_set ?_ GE196.out) | exact HB.out)⟩⟩
  case round =>
   clear H'
   try clear c1
   try clear p2
   try clear c3
   try clear c3b0
   try clear c3b1
   try clear c3b2
   try clear c5
   try clear hcz5_0
   try clear hcz5_1
   try clear hcz5_2
   try clear hcz5_3
   try clear hcz5_4
   try clear hfz5_0
   try clear hfz5_1
   try clear hfz5_2
   try clear hfz5_3
   try clear hfz5_4
   obtain ⟨x5_1, x16_1, rfl, HA, HK1, HO_5, BK196, HB⟩ := hrel
   cases gk with
   | zero => exact absurd HA.out (by simp [share_Lines.l0])
   | succ k1 =>
    have H := HA.out
    clear HA
    simp only [share_Lines.l0] at H
    by_cases c6 : x16_1 < (l1.length : Int)
    ·rw [if_pos c6] at H
     have c6b0 : decide (x16_1 < (l1.length : Int)) = true := decide_eq_true c6
     clear c6
     by_cases c7 : 0 ≤ x16_1
     ·rw [if_pos c7] at H
      have c7b0 : decide (0 ≤ x16_1) = true := decide_eq_true c7
      clear c7
      by_cases c8 : x16_1 < (l1.length : Int)
      ·rw [if_pos c8] at H
       have c8b0 : decide (x16_1 < (l1.length : Int)) = true := decide_eq_true c8
       clear c8
       by_cases c9 : x16_1 < (l0_1.length : Int)
       ·rw [if_pos c9] at H
        have c9b0 : decide (x16_1 < (l0_1.length : Int)) = true := decide_eq_true c9
        clear c9
        by_cases c10 : ((rd_T97 l0_1 x16_1).f0).size + 1 ≤ 9223372036854775807
        ·rw [if_pos c10] at H
         have c10b0 := eq_true c10
         have c10b1 : decide (((rd_T97 l0_1 x16_1).f0).size + 1 ≤ 9223372036854775807) = true := decide_eq_true c10
         try have c10b2 : (9223372036854775807 < ((rd_T97 l0_1 x16_1).f0).size + 1) = False := eq_false (Nat.not_lt.2 c10)
         (try (have c10s := c10b2; simp only [ByteArray.size_append] at c10s))
         replace H := Option.bind_eq_some_iff.mp H
         obtain ⟨t200, A110, H⟩ := H
         replace H : (if (((rd_T97 l0_1 x16_1).f0) ++ (⟨#[32]⟩ : ByteArray)).size + t200.size ≤ 9223372036854775807 then (if ((((rd_T97 l0_1 x16_1).f0) ++ (⟨#[32]⟩ : ByteArray)) ++ t200).size + 1 ≤ 9223372036854775807 then ((money_Text.f ((rd_T29 l1 x16_1).f1)).bind fun t201 => (if (((((rd_T97 l0_1 x16_1).f0) ++ (⟨#[32]⟩ : ByteArray)) ++ t200) ++ (⟨#[32]⟩ : ByteArray)).size + t201.size ≤ 9223372036854775807 then (if x5_1.length < 8796093022208 then (share_Lines.l0 k1 (x5_1 ++ [(((((rd_T97 l0_1 x16_1).f0) ++ (⟨#[32]⟩ : ByteArray)) ++ t200) ++ (⟨#[32]⟩ : ByteArray)) ++ t201]) l1 (l1.length : Int) (wrap64 (x16_1 + 1)) l0_0 l0_1 l0_2 a0_3 a0_4) else (none)) else (none))) else (none)) else (none)) = some r := H
         have A11 := Aside0.mk A110
         clear A110
         by_cases c12 : (((rd_T97 l0_1 x16_1).f0) ++ (⟨#[32]⟩ : ByteArray)).size + t200.size ≤ 9223372036854775807
         ·rw [if_pos c12] at H
          have c12b0 := eq_true c12
          have c12b1 : decide ((((rd_T97 l0_1 x16_1).f0) ++ (⟨#[32]⟩ : ByteArray)).size + t200.size ≤ 9223372036854775807) = true := decide_eq_true c12
          try have c12b2 : (9223372036854775807 < (((rd_T97 l0_1 x16_1).f0) ++ (⟨#[32]⟩ : ByteArray)).size + t200.size) = False := eq_false (Nat.not_lt.2 c12)
          (try (have c12s := c12b2; simp only [ByteArray.size_append, show (⟨#[32]⟩ : ByteArray).size = 1 from rfl] at c12s))
          by_cases c13 : ((((rd_T97 l0_1 x16_1).f0) ++ (⟨#[32]⟩ : ByteArray)) ++ t200).size + 1 ≤ 9223372036854775807
          ·rw [if_pos c13] at H
           have c13b0 := eq_true c13
           have c13b1 : decide (((((rd_T97 l0_1 x16_1).f0) ++ (⟨#[32]⟩ : ByteArray)) ++ t200).size + 1 ≤ 9223372036854775807) = true := decide_eq_true c13
           try have c13b2 : (9223372036854775807 < ((((rd_T97 l0_1 x16_1).f0) ++ (⟨#[32]⟩ : ByteArray)) ++ t200).size + 1) = False := eq_false (Nat.not_lt.2 c13)
           (try (have c13s := c13b2; simp only [ByteArray.size_append, show (⟨#[32]⟩ : ByteArray).size = 1 from rfl] at c13s))
           replace H := Option.bind_eq_some_iff.mp H
           obtain ⟨t201, A140, H⟩ := H
           replace H : (if (((((rd_T97 l0_1 x16_1).f0) ++ (⟨#[32]⟩ : ByteArray)) ++ t200) ++ (⟨#[32]⟩ : ByteArray)).size + t201.size ≤ 9223372036854775807 then (if x5_1.length < 8796093022208 then (share_Lines.l0 k1 (x5_1 ++ [(((((rd_T97 l0_1 x16_1).f0) ++ (⟨#[32]⟩ : ByteArray)) ++ t200) ++ (⟨#[32]⟩ : ByteArray)) ++ t201]) l1 (l1.length : Int) (wrap64 (x16_1 + 1)) l0_0 l0_1 l0_2 a0_3 a0_4) else (none)) else (none)) = some r := H
           have A14 := Aside0.mk A140
           clear A140
           by_cases c15 : (((((rd_T97 l0_1 x16_1).f0) ++ (⟨#[32]⟩ : ByteArray)) ++ t200) ++ (⟨#[32]⟩ : ByteArray)).size + t201.size ≤ 9223372036854775807
           ·rw [if_pos c15] at H
            have c15b0 := eq_true c15
            have c15b1 : decide ((((((rd_T97 l0_1 x16_1).f0) ++ (⟨#[32]⟩ : ByteArray)) ++ t200) ++ (⟨#[32]⟩ : ByteArray)).size + t201.size ≤ 9223372036854775807) = true := decide_eq_true c15
            try have c15b2 : (9223372036854775807 < (((((rd_T97 l0_1 x16_1).f0) ++ (⟨#[32]⟩ : ByteArray)) ++ t200) ++ (⟨#[32]⟩ : ByteArray)).size + t201.size) = False := eq_false (Nat.not_lt.2 c15)
            (try (have c15s := c15b2; simp only [ByteArray.size_append, show (⟨#[32]⟩ : ByteArray).size = 1 from rfl] at c15s))
            by_cases c16 : x5_1.length < 8796093022208
            ·rw [if_pos c16] at H
             have LMc16 := Aside0.mk c16
             clear c16
             obtain ⟨y202, hy202⟩ : ∃ y_ : List ByteArray, y_ = (x5_1 ++ [(((((rd_T97 l0_1 x16_1).f0) ++ (⟨#[32]⟩ : ByteArray)) ++ t200) ++ (⟨#[32]⟩ : ByteArray)) ++ t201]) := ⟨_, rfl⟩
             replace H : (share_Lines.l0 k1 y202 l1 (l1.length : Int) (wrap64 (x16_1 + 1)) l0_0 l0_1 l0_2 a0_3 a0_4) = some r := by first | (rw [hy202]; with_reducible exact H) | (have H2_ := (Option.bind_some _ _).symm.trans H; rw [hy202]; with_reducible exact H2_) | (have H2_ := (Option.bind_some _ _).symm.trans H; with_reducible exact H2_) | with_reducible exact H | (rw [hy202]; exact H) | exact H
             have Ny202 := Aside0.mk hy202
             clear hy202
             have H' := Aside0.mk H
             clear H
             have p197 : 0 ≤ (x16_1 : Int) := of_decide_eq_true (by first | (with_reducible assumption) | assumption)
             have q197 : x16_1 < (l1.length : Int) := of_decide_eq_true (by first | (with_reducible assumption) | assumption)
             obtain ⟨ad197, e197, hx197_0, hx197_1⟩ := at_T29 HR1.out x16_1 p197 q197
             cases e197
             replace hx197_0 := (HB.out.cell (World.block_lt_of_cell? w _ hx197_0)).trans hx197_0
             replace hx197_1 := (HB.out.cell (World.block_lt_of_cell? w _ hx197_1)).trans hx197_1
             replace p197 := eq_true p197
             replace q197 := eq_true q197
             try go_wp2_with (first | ((with_reducible refine gate_dst (N := 7) rfl ?_); refine box_event ?hg (N := 7) ?hd (cs := #[.int .i64 0, .int .i64 0]) (t := 29) ?hr ?_; (case hd => rfl); (case hg => rfl); (case hr => first | (go_simp; done) | (go_simp; rfl)); intro gb198 hg w17 hbox hb; have n0_ := Aside0.mk (Kd.R_below (by (with_reducible repeat (first | apply Kd.R_alloc | apply Kd.R_drewN | apply Kd.R_drew)); exact HO_5.out) hb); have n1_ := Aside0.mk (blk_below (g := gb196) (o := .cells #[.slice A0_0 l0_0.length c0_0, .slice A0_1 l0_1.length c0_1, .slice A0_2 l0_2.length c0_2, .int .i64 a0_3, .int .i64 a0_4] 86 (0, 0)) (by (with_reducible repeat (first | refine blk_drewN ?_ _ | refine blk_drew ?_ | refine blk_alloc ?_ _)); exact BK196.out) hb); have n2_ := Aside0.mk (below_step (by repeat (first | (with_reducible first | exact HB.out | apply below_alloc | apply pw_below_drewN | apply below_drew1 | refine below_set ?_ GE196.out) | exact HB.out)) hb); have n3_ := Aside0.mk (hbox); have n4_ := Aside0.mk ((by rw [hg]; exact (below_size (by repeat (first | (with_reducible first | exact HB.out | apply below_alloc | apply pw_below_drewN | apply below_drew1 | refine below_set ?_ GE196.out) | exact HB.out))) : w.heap.size ≤ gb198)); have n5_ := Aside0.mk ((by rw [hg]; exact (below_size (by repeat (first | (with_reducible first | exact HB.out | apply below_alloc | apply pw_below_drewN | apply below_drew1 | refine below_set ?_ GE196.out) | exact HB.out))) : w.heap.size ≤ gb198)); have n6_ := Aside0.mk ((by rw [hg]; exact Nat.ne_of_lt (blk_lt (g := gb196) (o := .cells #[.slice A0_0 l0_0.length c0_0, .slice A0_1 l0_1.length c0_1, .slice A0_2 l0_2.length c0_2, .int .i64 a0_3, .int .i64 a0_4] 86 (0, 0)) (by (with_reducible repeat (first | refine blk_drewN ?_ _ | refine blk_drew ?_ | refine blk_alloc ?_ _)); exact BK196.out)) : gb196 ≠ gb198)); have n7_ := Aside0.mk ((by rw [hg]; exact Nat.ne_of_gt (blk_lt (g := gb196) (o := .cells #[.slice A0_0 l0_0.length c0_0, .slice A0_1 l0_1.length c0_1, .slice A0_2 l0_2.length c0_2, .int .i64 a0_3, .int .i64 a0_4] 86 (0, 0)) (by (with_reducible repeat (first | refine blk_drewN ?_ _ | refine blk_drew ?_ | refine blk_alloc ?_ _)); exact BK196.out)) : gb198 ≠ gb196)); clear HO_5; clear BK196; clear HB; have HO_5 := n0_; have BK196 := n1_; have HB := n2_; have BK198 := n3_; have GW198 := n4_; have GE198 := n5_; have NB196_198 := n6_; have NB198_196 := n7_; clear n0_ n1_ n2_ n3_ n4_ n5_ n6_ n7_; clear hb hbox hg; have hnb18 := NB198_196.out; have hnc18 := NB196_198.out; have hcz19_0 : w17.cell? ⟨gb198, 0, none⟩ = some (.int .i64 0) := (blk_cell BK198.out 0).trans rfl; have hcz19_1 : w17.cell? ⟨gb198, 1, none⟩ = some (.int .i64 0) := (blk_cell BK198.out 1).trans rfl; have hfz19_0 := blk_frozen BK198.out 0; have hfz19_1 := blk_frozen BK198.out 1))
             have n0_ : Aside0 (Kd.R Kd.string 9 ((w17.setCell ⟨gb198, 0, none⟩ (.int .i64 ((rd_T29 l1 x16_1).f0))).setCell ⟨gb198, 1, none⟩ (.int .i64 ((rd_T29 l1 x16_1).f1))) w.heap.size (fun _ => True) u5 x5_1) := ⟨by (with_reducible repeat (first | apply Kd.R_alloc | apply Kd.R_drewN | apply Kd.R_drew)); exact Kd.R_mono (Kd.R_far (p := ⟨gb198, 1, none⟩) (Kd.R_far (p := ⟨gb198, 0, none⟩) (Kd.R_types HO_5.out BK198.out (by decide)) (fun _ hk => hk.2) (.int .i64 ((rd_T29 l1 x16_1).f0))) (fun _ hk => hk.2) (.int .i64 ((rd_T29 l1 x16_1).f1))) (fun _ hk => trivial)⟩
             have n1_ : Aside0 (((w17.setCell ⟨gb198, 0, none⟩ (.int .i64 ((rd_T29 l1 x16_1).f0))).setCell ⟨gb198, 1, none⟩ (.int .i64 ((rd_T29 l1 x16_1).f1))).heap[gb196]? = some (.cells #[.slice A0_0 l0_0.length c0_0, .slice A0_1 l0_1.length c0_1, .slice A0_2 l0_2.length c0_2, .int .i64 a0_3, .int .i64 a0_4] 86 (0, 0))) := ⟨by (with_reducible repeat (first | refine blk_drewN ?_ _ | refine blk_drew ?_ | refine blk_alloc ?_ _)); refine blk_far ?_ NB196_198.out _; (with_reducible repeat (first | refine blk_drewN ?_ _ | refine blk_drew ?_ | refine blk_alloc ?_ _)); refine blk_far ?_ NB196_198.out _; (with_reducible repeat (first | refine blk_drewN ?_ _ | refine blk_drew ?_ | refine blk_alloc ?_ _)); exact BK196.out⟩
             have n2_ : Aside0 (((w17.setCell ⟨gb198, 0, none⟩ (.int .i64 ((rd_T29 l1 x16_1).f0))).setCell ⟨gb198, 1, none⟩ (.int .i64 ((rd_T29 l1 x16_1).f1))).heap[gb198]? = some (.cells #[.int .i64 ((rd_T29 l1 x16_1).f0), .int .i64 ((rd_T29 l1 x16_1).f1)] 29 (0, 0))) := ⟨by (with_reducible repeat (first | refine blk_drewN ?_ _ | refine blk_drew ?_ | refine blk_alloc ?_ _)); refine blk_put (cs := #[.int .i64 ((rd_T29 l1 x16_1).f0), .int .i64 0]) ?_ 1 _ rfl; (with_reducible repeat (first | refine blk_drewN ?_ _ | refine blk_drew ?_ | refine blk_alloc ?_ _)); refine blk_put (cs := #[.int .i64 0, .int .i64 0]) ?_ 0 _ rfl; (with_reducible repeat (first | refine blk_drewN ?_ _ | refine blk_drew ?_ | refine blk_alloc ?_ _)); exact BK198.out⟩
             have n3_ : Aside0 (Below w.heap.size w ((w17.setCell ⟨gb198, 0, none⟩ (.int .i64 ((rd_T29 l1 x16_1).f0))).setCell ⟨gb198, 1, none⟩ (.int .i64 ((rd_T29 l1 x16_1).f1)))) := ⟨by repeat (first | (with_reducible first | exact HB.out | apply below_alloc | apply pw_below_drewN | apply below_drew1 | refine below_set ?_ GE196.out | refine below_set ?_ GE198.out) | exact HB.out)⟩
             (try clear HO_5)
             (try clear BK196)
             (try clear BK198)
             (try clear HB)
             generalize ((w17.setCell ⟨gb198, 0, none⟩ (.int .i64 ((rd_T29 l1 x16_1).f0))).setCell ⟨gb198, 1, none⟩ (.int .i64 ((rd_T29 l1 x16_1).f1))) = w20 at n0_ n1_ n2_ n3_ ⊢
             have HO_5 := n0_
             have BK196 := n1_
             have BK198 := n2_
             have HB := n3_
             clear n0_ n1_ n2_ n3_
             have n0_ := Aside0.mk (Kd.R_drew HO_5.out)
             have n1_ := Aside0.mk (blk_drew BK196.out)
             have n2_ := Aside0.mk (blk_drew BK198.out)
             have n3_ := Aside0.mk (below_drew1 HB.out)
             clear HO_5
             clear BK196
             clear BK198
             clear HB
             have HO_5 := n0_
             have BK196 := n1_
             have BK198 := n2_
             have HB := n3_
             clear n0_ n1_ n2_ n3_
             have p199 : 0 ≤ (x16_1 : Int) := of_decide_eq_true (by first | (with_reducible assumption) | assumption)
             have q199 : x16_1 < (l0_1.length : Int) := of_decide_eq_true (by first | (with_reducible assumption) | assumption)
             obtain ⟨ad199, A199_2, c199_2, e199, hx199_0, hx199_1, hx199_2, hx199_3, hx199_4, hx199_5, hl199_2, hi199_2⟩ := at_T97 HR0_1.out x16_1 p199 q199
             have hw199_5 := hx199_5
             have hw199_4 := hx199_4
             have hw199_3 := hx199_3
             have hw199_2 := hx199_2
             have hw199_1 := hx199_1
             have hw199_0 := hx199_0
             cases e199
             replace hx199_0 := (HB.out.cell (World.block_lt_of_cell? w _ hx199_0)).trans hx199_0
             replace hx199_1 := (HB.out.cell (World.block_lt_of_cell? w _ hx199_1)).trans hx199_1
             replace hx199_2 := (HB.out.cell (World.block_lt_of_cell? w _ hx199_2)).trans hx199_2
             replace hx199_3 := (HB.out.cell (World.block_lt_of_cell? w _ hx199_3)).trans hx199_3
             replace hx199_4 := (HB.out.cell (World.block_lt_of_cell? w _ hx199_4)).trans hx199_4
             replace hx199_5 := (HB.out.cell (World.block_lt_of_cell? w _ hx199_5)).trans hx199_5
             have HR199_2 := Aside0.mk hi199_2
             have HC199_2 := Aside0.mk hl199_2
             clear hi199_2 hl199_2
             replace p199 := eq_true p199
             replace q199 := eq_true q199
             refine start_ (n := 20) (S := fun w' => w'.cell? ⟨gb196, 0, none⟩ = some (.slice A0_0 l0_0.length c0_0) ∧ w'.cell? ⟨gb196, 1, none⟩ = some (.slice (some ad199) l0_1.length c0_1) ∧ w'.cell? ⟨gb196, 2, none⟩ = some (.slice A0_2 l0_2.length c0_2) ∧ w'.cell? ⟨gb196, 3, none⟩ = some (.int .i64 a0_3) ∧ w'.cell? ⟨gb196, 4, none⟩ = some (.int .i64 a0_4) ∧ w'.cell? ⟨gb198, 0, none⟩ = some (.int .i64 ((rd_T29 l1 x16_1).f0)) ∧ w'.cell? ⟨gb198, 1, none⟩ = some (.int .i64 ((rd_T29 l1 x16_1).f1)) ∧ w'.cell? (ad199.add ((x16_1).toNat * 6)) = some (.string ((rd_T97 l0_1 x16_1).f0)) ∧ w'.cell? ⟨(ad199.add ((x16_1).toNat * 6)).block, (ad199.add ((x16_1).toNat * 6)).off + 1, none⟩ = some (.int .i64 ((rd_T97 l0_1 x16_1).f1)) ∧ w'.cell? ⟨(ad199.add ((x16_1).toNat * 6)).block, (ad199.add ((x16_1).toNat * 6)).off + 2, none⟩ = some (.slice A199_2 ((rd_T97 l0_1 x16_1).f2).length c199_2) ∧ w'.cell? ⟨(ad199.add ((x16_1).toNat * 6)).block, (ad199.add ((x16_1).toNat * 6)).off + 3, none⟩ = some (.int .i64 ((rd_T97 l0_1 x16_1).f3)) ∧ w'.cell? ⟨(ad199.add ((x16_1).toNat * 6)).block, (ad199.add ((x16_1).toNat * 6)).off + 4, none⟩ = some (.int .i64 ((rd_T97 l0_1 x16_1).f4)) ∧ w'.cell? ⟨(ad199.add ((x16_1).toNat * 6)).block, (ad199.add ((x16_1).toNat * 6)).off + 5, none⟩ = some (.int .i64 ((rd_T97 l0_1 x16_1).f5))) (ds := []) #[false, false, false, false, false, false, false, false, false, false, false, false, false, false, false, false, false, false, false, false] (by kernel_rfl) rfl rfl ⟨(blk_cell BK196.out 0).trans rfl, (blk_cell BK196.out 1).trans rfl, (blk_cell BK196.out 2).trans rfl, (blk_cell BK196.out 3).trans rfl, (blk_cell BK196.out 4).trans rfl, (blk_cell BK198.out 0).trans rfl, (blk_cell BK198.out 1).trans rfl, ((HB.out.cell (World.block_lt_of_cell? w _ hw199_0)).trans hw199_0), ((HB.out.cell (World.block_lt_of_cell? w _ hw199_1)).trans hw199_1), ((HB.out.cell (World.block_lt_of_cell? w _ hw199_2)).trans hw199_2), ((HB.out.cell (World.block_lt_of_cell? w _ hw199_3)).trans hw199_3), ((HB.out.cell (World.block_lt_of_cell? w _ hw199_4)).trans hw199_4), ((HB.out.cell (World.block_lt_of_cell? w _ hw199_5)).trans hw199_5)⟩ (fun hHeld => ?_); refine with_tabW share_Lines.tab7 share_Lines.bits7 (fun HT_ HW_ => ?_)
             generalize w20.drew = w21 at HO_5 BK196 BK198 HB HR199_2 hx199_0 hx199_1 hx199_2 hx199_3 hx199_4 hx199_5 hHeld ⊢
             refine pure_ (i := 0) (N := some 21) (v := ?_) (a' := ?_) #[true, false, false, false, false, false, false, false, false, false, false, false, false, false, false, false, false, false, false, false] rfl rfl (any_of HT_.out (by kernel_rfl)) (fun _ _ _ h => h) (Or.inl ⟨by rfl, ?_⟩) ?_ ?_
             rotate_left
             ·intro w'
              go_simp
              with_reducible rfl
             rotate_left
             ·simp only [Act.put, List.setIfInBounds_toArray, List.set_cons_zero, List.set_cons_succ, i64_w, i32_w]
              rfl
             refine pure_ (i := 1) (N := some 22) (v := ?_) (a' := ?_) #[true, true, false, false, false, false, false, false, false, false, false, false, false, false, false, false, false, false, false, false] rfl rfl (any_of HT_.out (by kernel_rfl)) (fun _ _ _ h => h) (Or.inl ⟨by rfl, ?_⟩) ?_ ?_
             rotate_left
             ·intro w'
              go_simp
              with_reducible rfl
             rotate_left
             ·simp only [Act.put, List.setIfInBounds_toArray, List.set_cons_zero, List.set_cons_succ, i64_w, i32_w]
              rfl
             refine pure_ (i := 3) (N := some 24) (v := ?_) (a' := ?_) #[true, true, false, true, false, false, false, false, false, false, false, false, false, false, false, false, false, false, false, false] rfl rfl (any_of HT_.out (by kernel_rfl)) (fun _ _ _ h => h) (Or.inl ⟨by rfl, ?_⟩) ?_ ?_
             rotate_left
             ·intro w'
              go_simp
              with_reducible rfl
             rotate_left
             ·simp only [Act.put, List.setIfInBounds_toArray, List.set_cons_zero, List.set_cons_succ, i64_w, i32_w]
              rfl
             refine pure_ (i := 8) (N := some 29) (v := ?_) (a' := ?_) #[true, true, false, true, false, false, false, false, true, false, false, false, false, false, false, false, false, false, false, false] rfl rfl (any_of HT_.out (by kernel_rfl)) (fun _ _ _ h => h) (Or.inl ⟨by rfl, ?_⟩) ?_ ?_
             rotate_left
             ·intro w'
              go_simp
              with_reducible rfl
             rotate_left
             ·simp only [Act.put, List.setIfInBounds_toArray, List.set_cons_zero, List.set_cons_succ, i64_w, i32_w]
              rfl
             refine pure_ (i := 13) (N := some 34) (v := ?_) (a' := ?_) #[true, true, false, true, false, false, false, false, true, false, false, false, false, true, false, false, false, false, false, false] rfl rfl (any_of HT_.out (by kernel_rfl)) (fun _ _ _ h => h) (Or.inl ⟨by rfl, ?_⟩) ?_ ?_
             rotate_left
             ·intro w'
              go_simp
              with_reducible rfl
             rotate_left
             ·simp only [Act.put, List.setIfInBounds_toArray, List.set_cons_zero, List.set_cons_succ, i64_w, i32_w]
              rfl
             refine take_ (i := 2) (N := some 23) (v := ?_) (a' := ?_) #[true, true, true, true, false, false, false, false, true, false, false, false, false, true, false, false, false, false, false, false] rfl rfl (take_ofW HT_.out HW_.out (by kernel_rfl)) (fun _ _ _ h => h) (Or.inl ⟨by rfl, ?_⟩) hHeld ?_ ?_
             rotate_left
             ·rintro w' ⟨s0, s1, s2, s3, s4, s5, s6, s7, s8, s9, s10, s11, s12⟩
              go_simp
              with_reducible rfl
             rotate_left
             ·simp only [Act.put, List.setIfInBounds_toArray, List.set_cons_zero, List.set_cons_succ, i64_w, i32_w]
              rfl
             refine pure_ (i := 4) (N := some 25) (v := ?_) (a' := ?_) #[true, true, true, true, true, false, false, false, true, false, false, false, false, true, false, false, false, false, false, false] rfl rfl (any_of HT_.out (by kernel_rfl)) (fun _ _ _ h => h) (Or.inl ⟨by rfl, ?_⟩) ?_ ?_
             rotate_left
             ·intro w'
              go_simp
              with_reducible rfl
             rotate_left
             ·simp only [Act.put, List.setIfInBounds_toArray, List.set_cons_zero, List.set_cons_succ, i64_w, i32_w]
              rfl
             refine pure_ (i := 5) (N := some 26) (v := ?_) (a' := ?_) #[true, true, true, true, true, true, false, false, true, false, false, false, false, true, false, false, false, false, false, false] rfl rfl (any_of HT_.out (by kernel_rfl)) (fun _ _ _ h => h) (Or.inl ⟨by rfl, ?_⟩) ?_ ?_
             rotate_left
             ·intro w'
              go_simp
              with_reducible rfl
             rotate_left
             ·simp only [Act.put, List.setIfInBounds_toArray, List.set_cons_zero, List.set_cons_succ, i64_w, i32_w]
              rfl
             refine take_ (i := 6) (N := some 27) (v := ?_) (a' := ?_) #[true, true, true, true, true, true, true, false, true, false, false, false, false, true, false, false, false, false, false, false] rfl rfl (take_ofW HT_.out HW_.out (by kernel_rfl)) (fun _ _ _ h => h) (Or.inl ⟨by rfl, ?_⟩) hHeld ?_ ?_
             rotate_left
             ·rintro w' ⟨s0, s1, s2, s3, s4, s5, s6, s7, s8, s9, s10, s11, s12⟩
              go_simp
              with_reducible rfl
             rotate_left
             ·simp only [Act.put, List.setIfInBounds_toArray, List.set_cons_zero, List.set_cons_succ, i64_w, i32_w]
              rfl
             refine pure_ (i := 7) (N := some 28) (v := ?_) (a' := ?_) #[true, true, true, true, true, true, true, true, true, false, false, false, false, true, false, false, false, false, false, false] rfl rfl (any_of HT_.out (by kernel_rfl)) (fun _ _ _ h => h) (Or.inl ⟨by rfl, ?_⟩) ?_ ?_
             rotate_left
             ·intro w'
              go_simp
              with_reducible rfl
             rotate_left
             ·simp only [Act.put, List.setIfInBounds_toArray, List.set_cons_zero, List.set_cons_succ, i64_w, i32_w]
              rfl
             refine take_ (i := 9) (N := some 30) (v := ?_) (a' := ?_) #[true, true, true, true, true, true, true, true, true, true, false, false, false, true, false, false, false, false, false, false] rfl rfl (take_ofW HT_.out HW_.out (by kernel_rfl)) (fun _ _ _ h => h) (Or.inl ⟨by rfl, ?_⟩) hHeld ?_ ?_
             rotate_left
             ·rintro w' ⟨s0, s1, s2, s3, s4, s5, s6, s7, s8, s9, s10, s11, s12⟩
              go_simp
              with_reducible rfl
             rotate_left
             ·simp only [Act.put, List.setIfInBounds_toArray, List.set_cons_zero, List.set_cons_succ, i64_w, i32_w]
              rfl
             refine take_ (i := 14) (N := some 35) (v := ?_) (a' := ?_) #[true, true, true, true, true, true, true, true, true, true, false, false, false, true, true, false, false, false, false, false] rfl rfl (take_ofW HT_.out HW_.out (by kernel_rfl)) (fun _ _ _ h => h) (Or.inl ⟨by rfl, ?_⟩) hHeld ?_ ?_
             rotate_left
             ·rintro w' ⟨s0, s1, s2, s3, s4, s5, s6, s7, s8, s9, s10, s11, s12⟩
              go_simp
              with_reducible rfl
             rotate_left
             ·simp only [Act.put, List.setIfInBounds_toArray, List.set_cons_zero, List.set_cons_succ, i64_w, i32_w]
              rfl
             refine one_ (i := 10) (N := some 31) #[true, true, true, true, true, true, true, true, true, true, true, false, false, true, true, false, false, false, false, false] rfl rfl (one_of HT_.out (by kernel_rfl)) (by decide) (fun K hK => ?_)
             refine goes_ Tryd.func39 (by kernel_rfl) rfl #[.int .i64 ((rd_T29 l1 x16_1).f0)] (by rfl) rfl rfl (by (try simp only [List.map_toArray, List.map_cons, List.map_nil]); first | done | rfl | (simp only [List.length_drop, List.length_take]; rfl)) ?_
             with_reducible refine (money_Text.calls ((rd_T29 l1 x16_1).f0) t200 _ A11.out).mono ?_
             rintro e w22 ⟨rfl, hb⟩
             refine ⟨_, rfl, ?_⟩
             have n0_ := Aside0.mk (Kd.R_below (by (with_reducible repeat (first | apply Kd.R_alloc | apply Kd.R_drewN | apply Kd.R_drew)); exact HO_5.out) hb)
             have n1_ := Aside0.mk (blk_below (g := gb196) (o := .cells #[.slice A0_0 l0_0.length c0_0, .slice (some ad199) l0_1.length c0_1, .slice A0_2 l0_2.length c0_2, .int .i64 a0_3, .int .i64 a0_4] 86 (0, 0)) (by (with_reducible repeat (first | refine blk_drewN ?_ _ | refine blk_drew ?_ | refine blk_alloc ?_ _)); exact BK196.out) hb)
             have n2_ := Aside0.mk (blk_below (g := gb198) (o := .cells #[.int .i64 ((rd_T29 l1 x16_1).f0), .int .i64 ((rd_T29 l1 x16_1).f1)] 29 (0, 0)) (by (with_reducible repeat (first | refine blk_drewN ?_ _ | refine blk_drew ?_ | refine blk_alloc ?_ _)); exact BK198.out) hb)
             have n3_ := Aside0.mk (below_step (by repeat (first | (with_reducible first | exact HB.out | apply below_alloc | apply pw_below_drewN | apply below_drew1 | refine below_set ?_ GE196.out | refine below_set ?_ GE198.out) | exact HB.out)) hb)
             clear HO_5
             clear BK196
             clear BK198
             clear HB
             have HO_5 := n0_
             have BK196 := n1_
             have BK198 := n2_
             have HB := n3_
             clear n0_ n1_ n2_ n3_
             (try clear hb)
             (try clear hb2)
             (try clear hk)
             (try clear hi)
             refine hK.out _ _ ⟨(blk_cell BK196.out 0).trans rfl, (blk_cell BK196.out 1).trans rfl, (blk_cell BK196.out 2).trans rfl, (blk_cell BK196.out 3).trans rfl, (blk_cell BK196.out 4).trans rfl, (blk_cell BK198.out 0).trans rfl, (blk_cell BK198.out 1).trans rfl, ((HB.out.cell (World.block_lt_of_cell? w _ hw199_0)).trans hw199_0), ((HB.out.cell (World.block_lt_of_cell? w _ hw199_1)).trans hw199_1), ((HB.out.cell (World.block_lt_of_cell? w _ hw199_2)).trans hw199_2), ((HB.out.cell (World.block_lt_of_cell? w _ hw199_3)).trans hw199_3), ((HB.out.cell (World.block_lt_of_cell? w _ hw199_4)).trans hw199_4), ((HB.out.cell (World.block_lt_of_cell? w _ hw199_5)).trans hw199_5)⟩ (fun hHeld => ?_)
             clear hK K
             refine norm_ (a' := ?_) ?_ ?_
             rotate_left
             ·show Act.put _ (some 31) _ = _
              simp only [Act.put, List.setIfInBounds_toArray, List.set_cons_zero, List.set_cons_succ, i64_w, i32_w]
              rfl
             refine pure_ (i := 11) (N := some 32) (v := ?_) (a' := ?_) #[true, true, true, true, true, true, true, true, true, true, true, true, false, true, true, false, false, false, false, false] rfl rfl (any_of HT_.out (by kernel_rfl)) (fun _ _ _ h => h) (Or.inl ⟨by rfl, ?_⟩) ?_ ?_
             rotate_left
             ·intro w'
              go_simp
              with_reducible rfl
             rotate_left
             ·simp only [Act.put, List.setIfInBounds_toArray, List.set_cons_zero, List.set_cons_succ, i64_w, i32_w]
              rfl
             refine pure_ (i := 12) (N := some 33) (v := ?_) (a' := ?_) #[true, true, true, true, true, true, true, true, true, true, true, true, true, true, true, false, false, false, false, false] rfl rfl (any_of HT_.out (by kernel_rfl)) (fun _ _ _ h => h) (Or.inl ⟨by rfl, ?_⟩) ?_ ?_
             rotate_left
             ·intro w'
              go_simp
              with_reducible rfl
             rotate_left
             ·simp only [Act.put, List.setIfInBounds_toArray, List.set_cons_zero, List.set_cons_succ, i64_w, i32_w]
              rfl
             refine one_ (i := 15) (N := some 36) #[true, true, true, true, true, true, true, true, true, true, true, true, true, true, true, true, false, false, false, false] rfl rfl (one_of HT_.out (by kernel_rfl)) (by decide) (fun K hK => ?_)
             refine goes_ Tryd.func39 (by kernel_rfl) rfl #[.int .i64 ((rd_T29 l1 x16_1).f1)] (by rfl) rfl rfl (by (try simp only [List.map_toArray, List.map_cons, List.map_nil]); first | done | rfl | (simp only [List.length_drop, List.length_take]; rfl)) ?_
             with_reducible refine (money_Text.calls ((rd_T29 l1 x16_1).f1) t201 _ A14.out).mono ?_
             rintro e w23 ⟨rfl, hb⟩
             refine ⟨_, rfl, ?_⟩
             have n0_ := Aside0.mk (Kd.R_below (by (with_reducible repeat (first | apply Kd.R_alloc | apply Kd.R_drewN | apply Kd.R_drew)); exact HO_5.out) hb)
             have n1_ := Aside0.mk (blk_below (g := gb196) (o := .cells #[.slice A0_0 l0_0.length c0_0, .slice (some ad199) l0_1.length c0_1, .slice A0_2 l0_2.length c0_2, .int .i64 a0_3, .int .i64 a0_4] 86 (0, 0)) (by (with_reducible repeat (first | refine blk_drewN ?_ _ | refine blk_drew ?_ | refine blk_alloc ?_ _)); exact BK196.out) hb)
             have n2_ := Aside0.mk (blk_below (g := gb198) (o := .cells #[.int .i64 ((rd_T29 l1 x16_1).f0), .int .i64 ((rd_T29 l1 x16_1).f1)] 29 (0, 0)) (by (with_reducible repeat (first | refine blk_drewN ?_ _ | refine blk_drew ?_ | refine blk_alloc ?_ _)); exact BK198.out) hb)
             have n3_ := Aside0.mk (below_step (by repeat (first | (with_reducible first | exact HB.out | apply below_alloc | apply pw_below_drewN | apply below_drew1 | refine below_set ?_ GE196.out | refine below_set ?_ GE198.out) | exact HB.out)) hb)
             clear HO_5
             clear BK196
             clear BK198
             clear HB
             have HO_5 := n0_
             have BK196 := n1_
             have BK198 := n2_
             have HB := n3_
             clear n0_ n1_ n2_ n3_
             (try clear hb)
             (try clear hb2)
             (try clear hk)
             (try clear hi)
             refine hK.out _ _ ⟨(blk_cell BK196.out 0).trans rfl, (blk_cell BK196.out 1).trans rfl, (blk_cell BK196.out 2).trans rfl, (blk_cell BK196.out 3).trans rfl, (blk_cell BK196.out 4).trans rfl, (blk_cell BK198.out 0).trans rfl, (blk_cell BK198.out 1).trans rfl, ((HB.out.cell (World.block_lt_of_cell? w _ hw199_0)).trans hw199_0), ((HB.out.cell (World.block_lt_of_cell? w _ hw199_1)).trans hw199_1), ((HB.out.cell (World.block_lt_of_cell? w _ hw199_2)).trans hw199_2), ((HB.out.cell (World.block_lt_of_cell? w _ hw199_3)).trans hw199_3), ((HB.out.cell (World.block_lt_of_cell? w _ hw199_4)).trans hw199_4), ((HB.out.cell (World.block_lt_of_cell? w _ hw199_5)).trans hw199_5)⟩ (fun hHeld => ?_)
             clear hK K
             refine norm_ (a' := ?_) ?_ ?_
             rotate_left
             ·show Act.put _ (some 36) _ = _
              simp only [Act.put, List.setIfInBounds_toArray, List.set_cons_zero, List.set_cons_succ, i64_w, i32_w]
              rfl
             refine pure_ (i := 16) (N := some 37) (v := ?_) (a' := ?_) #[true, true, true, true, true, true, true, true, true, true, true, true, true, true, true, true, true, false, false, false] rfl rfl (any_of HT_.out (by kernel_rfl)) (fun _ _ _ h => h) (Or.inl ⟨by rfl, ?_⟩) ?_ ?_
             rotate_left
             ·intro w'
              go_simp
              with_reducible rfl
             rotate_left
             ·simp only [Act.put, List.setIfInBounds_toArray, List.set_cons_zero, List.set_cons_succ, i64_w, i32_w]
              rfl
             refine one_ (i := 17) (N := some 38) #[true, true, true, true, true, true, true, true, true, true, true, true, true, true, true, true, true, true, false, false] rfl rfl (one_of HT_.out (by kernel_rfl)) (by decide) (fun K hK => ?_)
             refine value_ (w1 := ?_) (v := ?_) (by rfl) rfl ?_ ?_
             rotate_left 2
             ·go_simp
              constructor
              ·rfl
              ·rfl
             refine hK.out _ _ ⟨(blk_cell (blk_alloc BK196.out _) 0).trans rfl, (blk_cell (blk_alloc BK196.out _) 1).trans rfl, (blk_cell (blk_alloc BK196.out _) 2).trans rfl, (blk_cell (blk_alloc BK196.out _) 3).trans rfl, (blk_cell (blk_alloc BK196.out _) 4).trans rfl, (blk_cell (blk_alloc BK198.out _) 0).trans rfl, (blk_cell (blk_alloc BK198.out _) 1).trans rfl, (World.cell?_alloc_lt _ _ _ (World.block_lt_of_cell? _ _ (((HB.out.cell (World.block_lt_of_cell? w _ hw199_0)).trans hw199_0)))).trans (((HB.out.cell (World.block_lt_of_cell? w _ hw199_0)).trans hw199_0)), (World.cell?_alloc_lt _ _ _ (World.block_lt_of_cell? _ _ (((HB.out.cell (World.block_lt_of_cell? w _ hw199_1)).trans hw199_1)))).trans (((HB.out.cell (World.block_lt_of_cell? w _ hw199_1)).trans hw199_1)), (World.cell?_alloc_lt _ _ _ (World.block_lt_of_cell? _ _ (((HB.out.cell (World.block_lt_of_cell? w _ hw199_2)).trans hw199_2)))).trans (((HB.out.cell (World.block_lt_of_cell? w _ hw199_2)).trans hw199_2)), (World.cell?_alloc_lt _ _ _ (World.block_lt_of_cell? _ _ (((HB.out.cell (World.block_lt_of_cell? w _ hw199_3)).trans hw199_3)))).trans (((HB.out.cell (World.block_lt_of_cell? w _ hw199_3)).trans hw199_3)), (World.cell?_alloc_lt _ _ _ (World.block_lt_of_cell? _ _ (((HB.out.cell (World.block_lt_of_cell? w _ hw199_4)).trans hw199_4)))).trans (((HB.out.cell (World.block_lt_of_cell? w _ hw199_4)).trans hw199_4)), (World.cell?_alloc_lt _ _ _ (World.block_lt_of_cell? _ _ (((HB.out.cell (World.block_lt_of_cell? w _ hw199_5)).trans hw199_5)))).trans (((HB.out.cell (World.block_lt_of_cell? w _ hw199_5)).trans hw199_5))⟩ (fun hHeld => ?_)
             clear hK K
             refine norm_ (a' := ?_) ?_ ?_
             rotate_left
             ·show Act.put _ (some 38) _ = _
              simp only [Act.put, List.setIfInBounds_toArray, List.set_cons_zero, List.set_cons_succ, i64_w, i32_w]
              rfl
             refine one_ (i := 18) (N := some 39) #[true, true, true, true, true, true, true, true, true, true, true, true, true, true, true, true, true, true, true, false] rfl rfl (one_of HT_.out (by kernel_rfl)) (by decide) (fun K hK => ?_)
             refine Kd.R_append_step Kd.string (w0 := w) w.heap.size (by rfl) (.tmp 21) (.tmp 38) 65 9 (.string ⟨#[]⟩) 16 rfl Tryd.underlying65 info9 rfl (by decide) (by omega) u5 x5_1 ((((((rd_T97 l0_1 x16_1).f0) ++ (⟨#[32]⟩ : ByteArray)) ++ t200) ++ (⟨#[32]⟩ : ByteArray)) ++ t201) [.string ((((((rd_T97 l0_1 x16_1).f0) ++ (⟨#[32]⟩ : ByteArray)) ++ t200) ++ (⟨#[32]⟩ : ByteArray)) ++ t201)] (fun _ => True) (fun _ => False) rfl rfl ?aP (fun _ hk => hk.elim) ?aF ?aO ?aB ?aS ?aL ?_
             (case aP => exact rfl)
             (case aB => exact (by repeat (first | (with_reducible first | exact HB.out | apply below_alloc | apply pw_below_drewN | apply below_drew1 | refine below_set ?_ GE196.out | refine below_set ?_ GE198.out) | exact HB.out)))
             (case aF => exact (fun _ _ => trivial))
             (case aO => exact (by (with_reducible repeat (first | apply Kd.R_alloc | apply Kd.R_drewN | apply Kd.R_drew)); exact HO_5.out))
             (case aS => exact (below_size (by repeat (first | (with_reducible first | exact HB.out | apply below_alloc | apply pw_below_drewN | apply below_drew1 | refine below_set ?_ GE196.out | refine below_set ?_ GE198.out) | exact HB.out))))
             (case aL => have := LMc16.out; omega)
             intro v203 w24 ho hb hg hat
             rw [← Ny202.out] at ho
             have n0_ := Aside0.mk (blk_grown (g := gb196) (o := .cells #[.slice A0_0 l0_0.length c0_0, .slice (some ad199) l0_1.length c0_1, .slice A0_2 l0_2.length c0_2, .int .i64 a0_3, .int .i64 a0_4] 86 (0, 0)) (by (with_reducible repeat (first | refine blk_drewN ?_ _ | refine blk_drew ?_ | refine blk_alloc ?_ _)); exact BK196.out) hg (Kd.R_ne HO_5.out BK196.out (by decide)))
             have n1_ := Aside0.mk (blk_grown (g := gb198) (o := .cells #[.int .i64 ((rd_T29 l1 x16_1).f0), .int .i64 ((rd_T29 l1 x16_1).f1)] 29 (0, 0)) (by (with_reducible repeat (first | refine blk_drewN ?_ _ | refine blk_drew ?_ | refine blk_alloc ?_ _)); exact BK198.out) hg (Kd.R_ne HO_5.out BK198.out (by decide)))
             have n2_ := Aside0.mk (hb)
             have n3_ := Aside0.mk (ho)
             clear BK196
             clear BK198
             clear HB
             clear HO_5
             have BK196 := n0_
             have BK198 := n1_
             have HB := n2_
             have HO204 := n3_
             clear n0_ n1_ n2_ n3_
             clear ho hb hg hat
             refine hK.out _ _ ⟨(blk_cell BK196.out 0).trans rfl, (blk_cell BK196.out 1).trans rfl, (blk_cell BK196.out 2).trans rfl, (blk_cell BK196.out 3).trans rfl, (blk_cell BK196.out 4).trans rfl, (blk_cell BK198.out 0).trans rfl, (blk_cell BK198.out 1).trans rfl, ((HB.out.cell (World.block_lt_of_cell? w _ hw199_0)).trans hw199_0), ((HB.out.cell (World.block_lt_of_cell? w _ hw199_1)).trans hw199_1), ((HB.out.cell (World.block_lt_of_cell? w _ hw199_2)).trans hw199_2), ((HB.out.cell (World.block_lt_of_cell? w _ hw199_3)).trans hw199_3), ((HB.out.cell (World.block_lt_of_cell? w _ hw199_4)).trans hw199_4), ((HB.out.cell (World.block_lt_of_cell? w _ hw199_5)).trans hw199_5)⟩ (fun hHeld => ?_)
             clear hK K
             refine norm_ (a' := ?_) ?_ ?_
             rotate_left
             ·show Act.put _ (some 39) _ = _
              simp only [Act.put, List.setIfInBounds_toArray, List.set_cons_zero, List.set_cons_succ, i64_w, i32_w]
              rfl
             refine pure_ (i := 19) (N := some 5) (v := ?_) (a' := ?_) #[true, true, true, true, true, true, true, true, true, true, true, true, true, true, true, true, true, true, true, true] rfl rfl (any_of HT_.out (by kernel_rfl)) (fun _ _ _ h => h) (Or.inl ⟨by rfl, ?_⟩) ?_ ?_
             rotate_left
             ·intro w'
              go_simp
              with_reducible rfl
             rotate_left
             ·simp only [Act.put, List.setIfInBounds_toArray, List.set_cons_zero, List.set_cons_succ, i64_w, i32_w]
              rfl
             refine done_ (done_of HT_.out (by kernel_rfl)) ?_
             try go_wp2
             go_roundg k1
             case measure => have := HK1.out; omega
             case rel => exact ⟨(y202), (wrap64 (x16_1 + 1)), (by first | rfl | (simp; done) | (simp [*]; done)), H', ⟨by have := HK1.out; omega⟩, ⟨by (with_reducible repeat (first | apply Kd.R_alloc | apply Kd.R_drewN | apply Kd.R_drew)); exact HO204.out⟩, ⟨by (with_reducible repeat (first | refine blk_drewN ?_ _ | refine blk_drew ?_ | refine blk_alloc ?_ _)); exact BK196.out⟩, ⟨by repeat (first | (with_reducible first | exact HB.out | apply below_alloc | apply pw_below_drewN | apply below_drew1 | refine below_set ?_ GE196.out | refine below_set ?_ GE198.out) | exact HB.out)⟩⟩
            ·rw [if_neg c16] at H
             exact absurd H (by simp)
           ·rw [if_neg c15] at H
            exact absurd H (by simp)
          ·rw [if_neg c13] at H
           exact absurd H (by simp)
         ·rw [if_neg c12] at H
          exact absurd H (by simp)
        ·rw [if_neg c10] at H
         exact absurd H (by simp)
       ·rw [if_neg c9] at H
        exact absurd H (by simp)
      ·rw [if_neg c8] at H
       exact absurd H (by simp)
     ·rw [if_neg c7] at H
      exact absurd H (by simp)
    ·rw [if_neg c6] at H
     have c6b0 : decide (x16_1 < (l1.length : Int)) = false := decide_eq_false c6
     clear c6
     obtain rfl := Option.some.inj H
     go_wp2
     go_ret
     exact ⟨_, by first | rfl | (simp [errW_none, errW_some] <;> rfl) | (simp [*, errW_none, errW_some] <;> rfl), by (with_reducible repeat (first | apply Kd.R_alloc | apply Kd.R_drewN | apply Kd.R_drew)); exact HO_5.out, by repeat (first | (with_reducible first | exact HB.out | apply below_alloc | apply pw_below_drewN | apply below_drew1 | refine below_set ?_ GE196.out) | exact HB.out)⟩
 ·rw [if_neg c3] at H
  have c3b0 : ((l1.length : Int) == (l0_1.length : Int)) = false := beq_eq_false_iff_ne.mpr c3
  have c3b1 : ((l1.length : Int) != (l0_1.length : Int)) = true := bne_iff_ne.mpr c3
  have c3b2 : (l1.length == l0_1.length) = false := by first | simpa using c3 | (simp at c3 ⊢; omega)
  obtain rfl := Option.some.inj H
  go_enter Tryd.func55, Tryd.ntmps55
  go_wp2_with (first | ((with_reducible refine gate_dst (N := 2) rfl ?_); refine box_event ?hg (N := 2) ?hd (cs := #[.slice A0_0 l0_0.length c0_0, .slice A0_1 l0_1.length c0_1, .slice A0_2 l0_2.length c0_2, .int .i64 a0_3, .int .i64 a0_4]) (t := 86) ?hr ?_; (case hd => rfl); (case hg => rfl); (case hr => first | (go_simp; done) | (go_simp; rfl)); intro gb196 hg w25 hbox hb; have n0_ := Aside0.mk (below_step (by repeat (first | (with_reducible first | exact HB.out | apply below_alloc | apply pw_below_drewN | apply below_drew1) | exact HB.out)) hb); have n1_ := Aside0.mk (hbox); have n2_ := Aside0.mk ((by rw [hg]; exact (below_size (by repeat (first | (with_reducible first | exact HB.out | apply below_alloc | apply pw_below_drewN | apply below_drew1) | exact HB.out))) : w.heap.size ≤ gb196)); have n3_ := Aside0.mk ((by rw [hg]; exact (below_size (by repeat (first | (with_reducible first | exact HB.out | apply below_alloc | apply pw_below_drewN | apply below_drew1) | exact HB.out))) : w.heap.size ≤ gb196)); clear HB; have HB := n0_; have BK196 := n1_; have GW196 := n2_; have GE196 := n3_; clear n0_ n1_ n2_ n3_; clear hb hbox hg; have hcz26_0 : w25.cell? ⟨gb196, 0, none⟩ = some (.slice A0_0 l0_0.length c0_0) := (blk_cell BK196.out 0).trans rfl; have hcz26_1 : w25.cell? ⟨gb196, 1, none⟩ = some (.slice A0_1 l0_1.length c0_1) := (blk_cell BK196.out 1).trans rfl; have hcz26_2 : w25.cell? ⟨gb196, 2, none⟩ = some (.slice A0_2 l0_2.length c0_2) := (blk_cell BK196.out 2).trans rfl; have hcz26_3 : w25.cell? ⟨gb196, 3, none⟩ = some (.int .i64 a0_3) := (blk_cell BK196.out 3).trans rfl; have hcz26_4 : w25.cell? ⟨gb196, 4, none⟩ = some (.int .i64 a0_4) := (blk_cell BK196.out 4).trans rfl; have hfz26_0 := blk_frozen BK196.out 0; have hfz26_1 := blk_frozen BK196.out 1; have hfz26_2 := blk_frozen BK196.out 2; have hfz26_3 := blk_frozen BK196.out 3; have hfz26_4 := blk_frozen BK196.out 4))
  go_ret
  exact ⟨_, by first | rfl | (simp [errW_none, errW_some] <;> rfl) | (simp [*, errW_none, errW_some] <;> rfl), by first | exact Kd.R_nil _ _ _ _ _ | exact Kd.N_nil _ _ _ _ _ | exact Kd.V_nil _ _ _ _ _ | exact Kd.Q_nil _ _ _ _ _ | exact Kd.S_nil _ _ _ _ _, by repeat (first | (with_reducible first | exact HB.out | apply below_alloc | apply pw_below_drewN | apply below_drew1 | refine below_set ?_ GE196.out) | exact HB.out)⟩

end Go.Proofs.YtmocphafkimdpaaDoor.P


/- The numbers of the example that the statements about contributions begin with. -/
namespace Go.Proofs.YtmocphafkimdpaaDoor.P
open Go.RowKit Go.Proofs.YtmocphafkimdpaaDoorW.PrintWords Go.Proofs.YtmocphafkimdpaaDoorW.PrintLast Go.Proofs.YtmocphafkimdpaaDoorW.PrintMore

theorem ex_delta1 : share_Delta.f 30 [⟨5, 9⟩] [z29] = some ([⟨5, 9⟩], 0) := by kernel_rfl
theorem ex_delta2 : share_Delta.f 30 [⟨3, 9⟩] [⟨5, 9⟩] = some ([⟨-2, 0⟩], 0) := by kernel_rfl
theorem ex_post1 : share_Post.f 30 [z29] [⟨5, 9⟩] = some ([⟨5, 9⟩], 0) := by kernel_rfl
theorem ex_post2 : share_Post.f 30 [⟨5, 9⟩] [⟨-2, 0⟩] = some ([⟨3, 9⟩], 0) := by kernel_rfl
theorem ex_cost : share_Cost.f 30 100 [⟨1, 7⟩, ⟨0, 2⟩] = some (109, 0) := by kernel_rfl
theorem ex_text1 : money_Text.f (-2) = some ⟨#[45, 48, 46, 48, 50]⟩ := by
  rw [text_f _ (by omega) (by omega)]
  unfold textOf
  rw [show ((-2 : Int).natAbs / 100) = 0 from rfl, dec_small 0 (by omega)]
  rfl
theorem ex_text0 : money_Text.f 0 = some ⟨#[48, 46, 48, 48]⟩ := by
  rw [text_f _ (by omega) (by omega)]
  unfold textOf
  rw [show ((0 : Int).natAbs / 100) = 0 from rfl, dec_small 0 (by omega)]
  rfl
theorem ex_lines : share_Lines.f 30 [] [⟨⟨#[102, 117, 110, 100]⟩, 0, [], 0, 0, 0⟩] [] 0 0 [⟨-2, 0⟩] = some [⟨#[102, 117, 110, 100, 32, 45, 48, 46, 48, 50, 32, 48, 46, 48, 48]⟩] := by
  unfold share_Lines.f
  rw [if_pos (by decide)]
  unfold share_Lines.l0
  rw [if_pos (by decide), if_pos (by decide), if_pos (by decide), if_pos (by decide), if_pos (by decide)]
  rw [show (rd_T29 [⟨-2, 0⟩] 0).f0 = -2 from rfl, show (rd_T29 [⟨-2, 0⟩] 0).f1 = 0 from rfl, ex_text1, ex_text0, Option.bind_some]
  rw [if_pos (by decide), if_pos (by decide), Option.bind_some, if_pos (by decide), if_pos (by decide)]
  unfold share_Lines.l0
  rw [if_neg (by unfold wrap64; simp)]
  rfl

end Go.Proofs.YtmocphafkimdpaaDoor.P


-- written by a program (a patched copy of the kit's print: wip/mkprint.py); Lean checks it
namespace Go.Proofs.YtmocphafkimdpaaDoor.P
open Go.RowKit Go.Proofs.YtmocphafkimdpaaDoorW.PrintWords Go.Proofs.YtmocphafkimdpaaDoorW.PrintLast Go.Proofs.YtmocphafkimdpaaDoorW.PrintMore
attribute [local go_sem] max2_int min2_int max_two min_two max_three min_three max_four min_four   -- for this text's walks alone
set_option linter.unusedVariables false
set_option linter.unusedSimpArgs false

theorem eqA29 (d : Nat) (w : World) (x0 y0 : Int) (x1 y1 : Int) :
    (Op.equalIn (d + 2) 29 (.agg #[.int .i64 x0, .int .i64 x1]) (.agg #[.int .i64 y0, .int .i64 y1])).run Tryd.prog w = .ok (x0 == y0 && (x1 == y1)) w := by
  refine eqA_of Tryd.underlying29 (by kernel_rfl) ?_
  refine eqf_cons (by rfl) (by go_simp; rfl) (by go_simp; rfl) (by go_simp) ?_
  exact eqf_last (by rfl) (by go_simp; rfl) (by go_simp; rfl) (by go_simp)
end Go.Proofs.YtmocphafkimdpaaDoor.P


-- written by a program (a patched copy of the kit's print: wip/mkprint.py); Lean checks it
namespace Go.Proofs.YtmocphafkimdpaaDoor.P
open Go.RowKit Go.Proofs.YtmocphafkimdpaaDoorW.PrintWords Go.Proofs.YtmocphafkimdpaaDoorW.PrintLast Go.Proofs.YtmocphafkimdpaaDoorW.PrintMore
attribute [local go_sem] max2_int min2_int max_two min_two max_three min_three max_four min_four   -- for this text's walks alone
set_option linter.unusedVariables false
set_option linter.unusedSimpArgs false

theorem eqA48 (d : Nat) (w : World) (x0 y0 : ByteArray) (x1 y1 : Int) (x2 y2 : Int) :
    (Op.equalIn (d + 2) 48 (.agg #[.string x0, .int .i64 x1, .int .i64 x2]) (.agg #[.string y0, .int .i64 y1, .int .i64 y2])).run Tryd.prog w = .ok (x0.toList == y0.toList && (x1 == y1 && (x2 == y2))) w := by
  refine eqA_of Tryd.underlying48 (by kernel_rfl) ?_
  refine eqf_cons (by rfl) (by go_simp; rfl) (by go_simp; rfl) (by go_simp) ?_
  refine eqf_cons (by rfl) (by go_simp; rfl) (by go_simp; rfl) (by go_simp) ?_
  exact eqf_last (by rfl) (by go_simp; rfl) (by go_simp; rfl) (by go_simp)
end Go.Proofs.YtmocphafkimdpaaDoor.P


/- The example that the statements about contributions begin with answers true. -/
namespace Go.Proofs.YtmocphafkimdpaaDoor.P
open Go.RowKit Go.Proofs.YtmocphafkimdpaaDoorW.PrintWords Go.Proofs.YtmocphafkimdpaaDoorW.PrintLast Go.Proofs.YtmocphafkimdpaaDoorW.PrintMore

theorem YearAt.below {W W' : World} {g b : Nat} {v : Value} {row : List S29} {p : Int} (h : YearAt W g b v row p) (hb : Below W.heap.size W W') : YearAt W' g b v row p :=
  ⟨(hb.block g (blk_lt h.1)).trans h.1, Kd.R_below h.2 hb⟩

def cells29 (row : List S29) : List Value := row.flatMap fun x => [.int .i64 x.f0, .int .i64 x.f1]
theorem reps29 (w : World) (b : Nat) (ok : Nat → Prop) (row : List S29) : Reps (Kd.M k29 w b ok) 2 row (cells29 row) := by
  induction row with
  | nil => exact Reps.none _ _
  | cons x l ih =>
    have h1 : Reps (Kd.M k29 w b ok) 2 [x] [.int .i64 x.f0, .int .i64 x.f1] := by
      simpa using (Reps.none (Kd.M k29 w b ok) 2).snoc (k29_mkM w b ok x) rfl
    exact Kd.reps_append h1 ih
theorem lit_R (W : World) (row : List S29) (hl : row.length ≤ 1000) : Kd.R k29 29 (W.alloc (.cells (cells29 row).toArray 29)) W.heap.size (fun _ => True) (.slice (some ⟨W.heap.size, 0, none⟩) row.length row.length) row :=
  row_at (Nat.le_refl _) (heap_alloc_new W _) (reps29 W 0 (fun _ => True) row) (by unfold maxLen; omega)
theorem lit_C (W : World) (row : List S29) (hl : row.length ≤ 1000) : Kd.C k29 (W.alloc (.cells (cells29 row).toArray 29)) (some ⟨W.heap.size, 0, none⟩) row.length row := (Kd.R_reads' (lit_R W row hl)).2.2

theorem form29 {W : World} {b : Nat} {ok : Nat → Prop} {v : Value} {x : S29} (h : Kd.R k29 29 W b ok v [x]) : ∃ g c, v = .slice (some ⟨g, 0, none⟩) 1 c := by
  obtain ⟨g, c, h, _⟩ := Kd.R_form h (by simp)
  exact ⟨g, c, h⟩
theorem cell29 {W : World} {b g c : Nat} {ok : Nat → Prop} {x : S29} (h : Kd.R k29 29 W b ok (.slice (some ⟨g, 0, none⟩) 1 c) [x]) : W.cell? ⟨g, 0, none⟩ = some (.int .i64 x.f0) ∧ W.cell? ⟨g, 1, none⟩ = some (.int .i64 x.f1) := by
  obtain ⟨ad, e, h0, h1⟩ := at_T29 (Kd.R_reads' h).2.2 0 (by decide) (by simp)
  cases e
  simp only [add_plain] at h0 h1
  exact ⟨h0, h1⟩
theorem formS {W : World} {b : Nat} {ok : Nat → Prop} {v : Value} {x : ByteArray} (h : Kd.R Kd.string 9 W b ok v [x]) : ∃ g c, v = .slice (some ⟨g, 0, none⟩) 1 c := by
  obtain ⟨g, c, h, _⟩ := Kd.R_form h (by simp)
  exact ⟨g, c, h⟩
theorem cellS {W : World} {b g c : Nat} {ok : Nat → Prop} {x : ByteArray} (h : Kd.R Kd.string 9 W b ok (.slice (some ⟨g, 0, none⟩) 1 c) [x]) : W.cell? ⟨g, 0, none⟩ = some (.string x) := by
  obtain ⟨ad, e, h0⟩ := Kd.at_string (Kd.R_reads' h).2.2 0 (by decide) (by simp)
  cases e
  simp only [add_plain] at h0
  exact h0

/-- The one contribution of the example's table. -/
def exFund : S97 := ⟨⟨#[102, 117, 110, 100]⟩, 0, [], 0, 0, 0⟩
theorem lit97 (W : World) : Kd.C k97 (W.alloc (.cells #[.string ⟨#[102, 117, 110, 100]⟩, .int .i64 0, .slice none 0 0, .int .i64 0, .int .i64 0, .int .i64 0] 97)) (some ⟨W.heap.size, 0, none⟩) 1 [exFund] := by
  have hr : Reps (Kd.M k97 (W.alloc (.cells #[.string ⟨#[102, 117, 110, 100]⟩, .int .i64 0, .slice none 0 0, .int .i64 0, .int .i64 0, .int .i64 0] 97)) W.heap.size (fun k => True ∧ some k ≠ (Value.slice (some ⟨W.heap.size, 0, none⟩) 1 1).ownBlock)) 6 [exFund] [.string ⟨#[102, 117, 110, 100]⟩, .int .i64 0, .slice none 0 0, .int .i64 0, .int .i64 0, .int .i64 0] := by
    exact (Reps.none (Kd.M k97 _ _ _) 6).snoc (k97_mkM _ W.heap.size (fun k => True ∧ some k ≠ (Value.slice (some ⟨W.heap.size, 0, none⟩) 1 1).ownBlock) exFund (v2 := .slice none 0 0) (Kd.R_nil _ _ _ _ _)) rfl
  have h : Kd.R k97 97 (W.alloc (.cells #[.string ⟨#[102, 117, 110, 100]⟩, .int .i64 0, .slice none 0 0, .int .i64 0, .int .i64 0, .int .i64 0] 97)) W.heap.size (fun _ => True) (.slice (some ⟨W.heap.size, 0, none⟩) 1 1) [exFund] :=
    ⟨fun _ _ => trivial, _, show World.ownsRow _ W.heap.size 97 6 (.slice (some ⟨W.heap.size, 0, none⟩) 1 1) 1 _ from ⟨rfl, .inr ⟨_, 1, _, rfl, Nat.le_refl _, heap_alloc_new W _, Nat.le_refl _, by decide, rfl, rfl⟩⟩, hr⟩
  exact (Kd.R_reads' h).2.2

def stipendlaw16_posts.f : Option Bool := some true

set_option maxHeartbeats 4000000 in
set_option maxRecDepth 100000 in
theorem posts_true (w : World) (hG : GTab w) :
    Calls Tryd.prog 22 #[] w fun e w' => e = .returned (.bool true) ∧ Below w.heap.size w w' := by
  have N := Lib.hid (new_ok 1 w (by omega) (by omega))
  have HG := Lib.hid hG
  clear hG
  go_enter Tryd.func22, Tryd.ntmps22
  go_wp2_with fail
  refine N.out.mono ?_
  rintro e w1 ⟨g, v1, rfl, hg, hy1, hb1⟩
  clear N
  have R1 := Lib.hid (fun (W : World) (h1 : W = w1.alloc (.cells (cells29 [⟨5, 9⟩]).toArray 29)) => by
    subst h1
    exact reach_ok 30 g _ 1 0 v1 [z29] [⟨5, 9⟩] [⟨5, 9⟩] [⟨5, 9⟩] 0 (some ⟨w1.heap.size, 0, none⟩) w _ (below_alloc hb1 _) hg (hy1.below (below_alloc (Below.refl _ _) _)) (lit_C w1 [⟨5, 9⟩] (by decide)) (by decide) ex_delta1 ex_post1 rfl (by decide))
  have HB1 := Lib.hid hb1
  clear hy1 hb1
  go_wp2_with fail
  refine (R1.out _ rfl).mono ?_
  rintro e w2 ⟨va, vr1, rfl, hva, hy2, hk2, hb2⟩
  obtain ⟨ga, ca, rfl⟩ : ∃ g c, va = .slice (some ⟨g, 0, none⟩) 1 c := form29 hva
  clear R1
  have hyb := hy2.below (below_alloc (Below.refl _ (w2)) (.cells (cells29 [⟨3, 9⟩]).toArray 29))
  have HVA2 := Lib.hid (Kd.R_types (Kd.R_alloc hva (.cells (cells29 [⟨3, 9⟩]).toArray 29)) hyb.1 (by decide))
  have R2 := Lib.hid (fun (W : World) (h1 : W = w2.alloc (.cells (cells29 [⟨3, 9⟩]).toArray 29)) => by
    subst h1
    exact reach_ok 30 g _ 1 1 vr1 [⟨5, 9⟩] [⟨3, 9⟩] [⟨-2, 0⟩] [⟨3, 9⟩] (0 + 1) (some ⟨w2.heap.size, 0, none⟩) w _ (below_alloc hb2 _) hg hyb (lit_C w2 [⟨3, 9⟩] (by decide)) (by decide) ex_delta2 ex_post2 (by decide) (by decide))
  have HB2 := Lib.hid hb2
  clear hy2 hb2 hva hk2 hyb
  go_wp2_with fail
  refine (R2.out _ rfl).mono ?_
  rintro e w3 ⟨vb, vr2, rfl, hvb, hy3, hk3, hb3⟩
  obtain ⟨gb, cb, rfl⟩ : ∃ g c, vb = .slice (some ⟨g, 0, none⟩) 1 c := form29 hvb
  clear R2
  have HVA3 := Lib.hid (Kd.R_kept HVA2.out hk3 (fun k hk => hk.2))
  have HVB3 := Lib.hid hvb
  have HY3 := Lib.hid hy3
  have HB3 := Lib.hid hb3
  clear hy3 hb3 hvb hk3 HVA2
  have C1 := Lib.hid (fun (W : World) (h1 : W = w3.alloc (.cells (cells29 [⟨1, 7⟩, ⟨0, 2⟩]).toArray 29)) => by
    subst h1
    exact share_Cost.calls 30 100 (some ⟨w3.heap.size, 0, none⟩) 2 [⟨1, 7⟩, ⟨0, 2⟩] 109 0 _ (lit_C w3 [⟨1, 7⟩, ⟨0, 2⟩] (by decide)) (by decide) ex_cost)
  go_wp2_with fail
  refine (C1.out _ rfl).mono ?_
  rintro e w4 ⟨rfl, hb4⟩
  clear C1
  have bl4 := Lib.hid (below_step (below_alloc (Below.refl w3.heap.size w3) _) hb4)
  clear hb4
  have L1 := Lib.hid (fun (W : World) (h1 : W = w4.alloc (.cells #[.string ⟨#[102, 117, 110, 100]⟩, .int .i64 0, .slice none 0 0, .int .i64 0, .int .i64 0, .int .i64 0] 97)) => by
    subst h1
    have hbW := below_step bl4.out (below_alloc (Below.refl w4.heap.size w4) (.cells #[.string ⟨#[102, 117, 110, 100]⟩, .int .i64 0, .slice none 0 0, .int .i64 0, .int .i64 0, .int .i64 0] 97))
    exact share_Lines.calls 30 none 0 [] (some ⟨w4.heap.size, 0, none⟩) 1 [exFund] none 0 [] 0 0 (some ⟨gb, 0, none⟩) cb [⟨-2, 0⟩] _ _ (Kd.C_nil _ _) (Nat.le_refl _) (lit97 w4) (by decide) (Kd.C_nil _ _) (Nat.le_refl _) (Kd.R_reads' (Kd.R_below HVB3.out hbW)).2.2 (Kd.R_reads' HVB3.out).2.1 ex_lines ((HG.out.below HB3.out).below hbW))
  go_wp2_with fail
  refine (L1.out _ rfl).mono ?_
  rintro e w5 ⟨vl, rfl, hvl, hb5⟩
  obtain ⟨gl, cl, rfl⟩ := formS hvl
  clear L1
  have B35 := Lib.hid (below_step (below_step bl4.out (below_alloc (Below.refl w4.heap.size w4) _)) hb5)
  obtain ⟨a0, a1⟩ := cell29 (Kd.R_below HVA3.out B35.out)
  obtain ⟨b0, b1⟩ := cell29 (Kd.R_below HVB3.out B35.out)
  have HY5 := Lib.hid (HY3.out.below B35.out)
  have HVL := Lib.hid hvl
  clear hb5 hvl bl4
  have hu29 := Tryd.underlying29
  go_wp2_with fail
  refine (posts_any g _ _ _ _ _ HY5.out).mono ?_
  rintro e w' ⟨rfl, rfl⟩
  go_wp2_with fail
  refine (posted_any g _ _ _ _ _ HY5.out (by decide)).mono ?_
  rintro e w6 ⟨vp, rfl, hvp, hb6⟩
  obtain ⟨gp, cp, rfl⟩ := form29 hvp
  have HY6 := Lib.hid (HY5.out.below hb6)
  have HB6 := Lib.hid hb6
  clear hvp hb6 a0 a1 b0 b1
  go_wp2_with fail
  refine (posted_any g _ _ _ _ _ HY6.out (by decide)).mono ?_
  rintro e w7 ⟨vq, rfl, hvq, hb7⟩
  obtain ⟨gq, cq, rfl⟩ := form29 hvq
  obtain ⟨q0, q1⟩ := cell29 hvq
  have l0 := cellS (Kd.R_below (Kd.R_below HVL.out HB6.out) hb7)
  have HB7 := Lib.hid hb7
  clear hvq hb7
  go_wp2_with fail
  go_ret
  exact ⟨rfl, below_step (below_step (below_step HB3.out B35.out) HB6.out) HB7.out⟩

theorem stipendlaw16_posts.calls (r : Bool) (w : World) (h : stipendlaw16_posts.f = some r) (hG : GTab w := by first | exact GTab.below HG.out (by repeat (first | (with_reducible first | exact HB.out | apply below_alloc | apply pw_below_drewN | apply below_drew1 | apply below_drew) | exact HB.out)) | exact HG.out) :
    Calls Tryd.prog 22 #[] w fun e w' => e = .returned (.bool r) ∧ Below w.heap.size w w' := by
  obtain rfl : true = r := Option.some.inj h
  exact posts_true w hG

end Go.Proofs.YtmocphafkimdpaaDoor.P


-- written by a program (a patched copy of the kit's print: wip/mkprint.py); Lean checks it
namespace Go.Proofs.YtmocphafkimdpaaDoor.P
open Go.RowKit Go.Proofs.YtmocphafkimdpaaDoorW.PrintWords Go.Proofs.YtmocphafkimdpaaDoorW.PrintLast Go.Proofs.YtmocphafkimdpaaDoorW.PrintMore
attribute [local go_sem] max2_int min2_int max_two min_two max_three min_three max_four min_four   -- for this text's walks alone
set_option linter.unusedVariables false
set_option linter.unusedSimpArgs false

/-! ### stipendlaw16_right: function 25 -/
def stipendlaw16_right.l0 : Nat → List (S29) → Int → Int → Option (Bool)
 | 0, _, _, _ => none
 | k + 1, x5, x6, x7 => if x7 < x6 then (if 0 ≤ x7 then (if x7 < (x5.length : Int) then (if ((rd_T29 x5 x7).f0) > 100000000000 then (some false) else (if ((rd_T29 x5 x7).f0) < (-100000000000) then (some false) else (if ((rd_T29 x5 x7).f1) > 100000000000 then (some false) else (if ((rd_T29 x5 x7).f1) < (-100000000000) then (some false) else (stipendlaw16_right.l0 k x5 x6 (wrap64 (x7 + 1))))))) else (none)) else (none)) else (some true)
def stipendlaw16_right.f (k : Nat) (l0 : List (S29)) : Option (Bool) := stipendlaw16_right.l0 k l0 (l0.length : Int) 0
theorem stipendlaw16_right.mono_l : ∀ k, (∀ y0 y1 y2, LeO (stipendlaw16_right.l0 k y0 y1 y2) (stipendlaw16_right.l0 (k + 1) y0 y1 y2))
 | 0 => fun _ _ _ r h => by simp [stipendlaw16_right.l0] at h
 | k + 1 => by
  have ih0 := stipendlaw16_right.mono_l k
  ·intro y0 y1 y2
   unfold stipendlaw16_right.l0
   repeat' first
   | (with_reducible exact ih0 _ _ _)
   | (with_reducible exact LeO.refl _)
   | (with_reducible exact LeO.none _)
   | (with_reducible refine LeO.ite ?_ ?_)
   | (with_reducible refine LeO.bind ?_ (fun _ => ?_))
   | exact ih0 _ _ _
   | exact LeO.none _
   | refine LeO.ite ?_ ?_
   | refine LeO.bind ?_ (fun _ => ?_)
theorem stipendlaw16_right.mono : ∀ a0 k, LeO (stipendlaw16_right.f k a0) (stipendlaw16_right.f (k + 1) a0) := by
 intro a0 k
 have ih0 := stipendlaw16_right.mono_l k
 unfold stipendlaw16_right.f
 repeat' first
   | (with_reducible exact ih0 _ _ _)
   | (with_reducible exact LeO.refl _)
   | (with_reducible exact LeO.none _)
   | (with_reducible refine LeO.ite ?_ ?_)
   | (with_reducible refine LeO.bind ?_ (fun _ => ?_))
   | exact ih0 _ _ _
   | exact LeO.none _
   | refine LeO.ite ?_ ?_
   | refine LeO.bind ?_ (fun _ => ?_)
set_option maxHeartbeats 8000000 in
set_option maxRecDepth 100000 in
theorem stipendlaw16_right.calls (k : Nat) (A0 : Option Addr) (c0 : Nat) (l0 : List (S29)) (r : Bool) (w : World) (hr0 : Kd.C k29 w A0 l0.length l0) (hc0 : l0.length ≤ c0) (h : stipendlaw16_right.f k l0 = some r) :
  Calls Tryd.prog 25 #[.slice A0 l0.length c0] w fun e w' => e = .returned (.bool r) ∧ Below w.heap.size w w' := by
 have hu29 := Tryd.underlying29
 have HR0 := Aside0.mk hr0
 have HC0 := Aside0.mk hc0
 clear hr0 hc0
 have HB := Aside0.mk (Below.refl w.heap.size w)
 have H : (stipendlaw16_right.l0 k l0 (l0.length : Int) 0) = some r := h
 clear h
 have H' := Aside0.mk H
 clear H
 go_enter Tryd.func25, Tryd.ntmps25
 go_wp2
 go_loopg [7] k (fun kq v7 w' => ∃ (x7_1 : Int), v7 = .int .i64 x7_1 ∧ Aside0 (stipendlaw16_right.l0 kq l0 (l0.length : Int) x7_1 = some r) ∧ Aside0 (kq ≤ k) ∧ Aside0 (Below w.heap.size w w'))
 case atStart => exact ⟨(0), (by first | rfl | (simp; done) | (simp [*]; done)), H', ⟨Nat.le_refl _⟩, ⟨by repeat (first | (with_reducible first | exact HB.out | apply below_alloc | apply pw_below_drewN | apply below_drew1) | exact HB.out)⟩⟩
 case round =>
  clear H'
  obtain ⟨x7_1, rfl, HA, HK1, HB⟩ := hrel
  cases gk with
  | zero => exact absurd HA.out (by simp [stipendlaw16_right.l0])
  | succ k1 =>
   have H := HA.out
   clear HA
   simp only [stipendlaw16_right.l0] at H
   by_cases c2 : x7_1 < (l0.length : Int)
   ·rw [if_pos c2] at H
    have c2b0 : decide (x7_1 < (l0.length : Int)) = true := decide_eq_true c2
    clear c2
    by_cases c3 : 0 ≤ x7_1
    ·rw [if_pos c3] at H
     have c3b0 : decide (0 ≤ x7_1) = true := decide_eq_true c3
     clear c3
     by_cases c4 : x7_1 < (l0.length : Int)
     ·rw [if_pos c4] at H
      have c4b0 : decide (x7_1 < (l0.length : Int)) = true := decide_eq_true c4
      clear c4
      by_cases c5 : ((rd_T29 l0 x7_1).f0) > 100000000000
      ·rw [if_pos c5] at H
       have c5b0 : decide (100000000000 < ((rd_T29 l0 x7_1).f0)) = true := decide_eq_true c5
       clear c5
       obtain rfl := Option.some.inj H
       have p205 : 0 ≤ (x7_1 : Int) := of_decide_eq_true (by first | (with_reducible assumption) | assumption)
       have q205 : x7_1 < (l0.length : Int) := of_decide_eq_true (by first | (with_reducible assumption) | assumption)
       obtain ⟨ad205, e205, hx205_0, hx205_1⟩ := at_T29 HR0.out x7_1 p205 q205
       cases e205
       replace hx205_0 := (HB.out.cell (World.block_lt_of_cell? w _ hx205_0)).trans hx205_0
       replace hx205_1 := (HB.out.cell (World.block_lt_of_cell? w _ hx205_1)).trans hx205_1
       replace p205 := eq_true p205
       replace q205 := eq_true q205
       go_wp2_with (first | ((with_reducible refine gate_dst (N := 4) rfl ?_); refine box_event ?hg (N := 4) ?hd (cs := #[.int .i64 0, .int .i64 0]) (t := 29) ?hr ?_; (case hd => rfl); (case hg => rfl); (case hr => first | (go_simp; done) | (go_simp; rfl)); intro gb206 hg w6 hbox hb; have n0_ := Aside0.mk (below_step (by repeat (first | (with_reducible first | exact HB.out | apply below_alloc | apply pw_below_drewN | apply below_drew1) | exact HB.out)) hb); have n1_ := Aside0.mk (hbox); have n2_ := Aside0.mk ((by rw [hg]; exact (below_size (by repeat (first | (with_reducible first | exact HB.out | apply below_alloc | apply pw_below_drewN | apply below_drew1) | exact HB.out))) : w.heap.size ≤ gb206)); have n3_ := Aside0.mk ((by rw [hg]; exact (below_size (by repeat (first | (with_reducible first | exact HB.out | apply below_alloc | apply pw_below_drewN | apply below_drew1) | exact HB.out))) : w.heap.size ≤ gb206)); clear HB; have HB := n0_; have BK206 := n1_; have GW206 := n2_; have GE206 := n3_; clear n0_ n1_ n2_ n3_; clear hb hbox hg; have hcz7_0 : w6.cell? ⟨gb206, 0, none⟩ = some (.int .i64 0) := (blk_cell BK206.out 0).trans rfl; have hcz7_1 : w6.cell? ⟨gb206, 1, none⟩ = some (.int .i64 0) := (blk_cell BK206.out 1).trans rfl; have hfz7_0 := blk_frozen BK206.out 0; have hfz7_1 := blk_frozen BK206.out 1))
       go_ret
       exact ⟨by first | rfl | (simp [errW_none, errW_some] <;> rfl) | (simp [*, errW_none, errW_some] <;> rfl), by repeat (first | (with_reducible first | exact HB.out | apply below_alloc | apply pw_below_drewN | apply below_drew1 | refine below_set ?_ GE206.out) | exact HB.out)⟩
      ·rw [if_neg c5] at H
       have c5b0 : decide (100000000000 < ((rd_T29 l0 x7_1).f0)) = false := decide_eq_false c5
       clear c5
       by_cases c8 : ((rd_T29 l0 x7_1).f0) < (-100000000000)
       ·rw [if_pos c8] at H
        have c8b0 : decide (((rd_T29 l0 x7_1).f0) < (-100000000000)) = true := decide_eq_true c8
        clear c8
        obtain rfl := Option.some.inj H
        have p205 : 0 ≤ (x7_1 : Int) := of_decide_eq_true (by first | (with_reducible assumption) | assumption)
        have q205 : x7_1 < (l0.length : Int) := of_decide_eq_true (by first | (with_reducible assumption) | assumption)
        obtain ⟨ad205, e205, hx205_0, hx205_1⟩ := at_T29 HR0.out x7_1 p205 q205
        cases e205
        replace hx205_0 := (HB.out.cell (World.block_lt_of_cell? w _ hx205_0)).trans hx205_0
        replace hx205_1 := (HB.out.cell (World.block_lt_of_cell? w _ hx205_1)).trans hx205_1
        replace p205 := eq_true p205
        replace q205 := eq_true q205
        go_wp2_with (first | ((with_reducible refine gate_dst (N := 4) rfl ?_); refine box_event ?hg (N := 4) ?hd (cs := #[.int .i64 0, .int .i64 0]) (t := 29) ?hr ?_; (case hd => rfl); (case hg => rfl); (case hr => first | (go_simp; done) | (go_simp; rfl)); intro gb206 hg w9 hbox hb; have n0_ := Aside0.mk (below_step (by repeat (first | (with_reducible first | exact HB.out | apply below_alloc | apply pw_below_drewN | apply below_drew1) | exact HB.out)) hb); have n1_ := Aside0.mk (hbox); have n2_ := Aside0.mk ((by rw [hg]; exact (below_size (by repeat (first | (with_reducible first | exact HB.out | apply below_alloc | apply pw_below_drewN | apply below_drew1) | exact HB.out))) : w.heap.size ≤ gb206)); have n3_ := Aside0.mk ((by rw [hg]; exact (below_size (by repeat (first | (with_reducible first | exact HB.out | apply below_alloc | apply pw_below_drewN | apply below_drew1) | exact HB.out))) : w.heap.size ≤ gb206)); clear HB; have HB := n0_; have BK206 := n1_; have GW206 := n2_; have GE206 := n3_; clear n0_ n1_ n2_ n3_; clear hb hbox hg; have hcz10_0 : w9.cell? ⟨gb206, 0, none⟩ = some (.int .i64 0) := (blk_cell BK206.out 0).trans rfl; have hcz10_1 : w9.cell? ⟨gb206, 1, none⟩ = some (.int .i64 0) := (blk_cell BK206.out 1).trans rfl; have hfz10_0 := blk_frozen BK206.out 0; have hfz10_1 := blk_frozen BK206.out 1))
        go_ret
        exact ⟨by first | rfl | (simp [errW_none, errW_some] <;> rfl) | (simp [*, errW_none, errW_some] <;> rfl), by repeat (first | (with_reducible first | exact HB.out | apply below_alloc | apply pw_below_drewN | apply below_drew1 | refine below_set ?_ GE206.out) | exact HB.out)⟩
       ·rw [if_neg c8] at H
        have c8b0 : decide (((rd_T29 l0 x7_1).f0) < (-100000000000)) = false := decide_eq_false c8
        clear c8
        by_cases c11 : ((rd_T29 l0 x7_1).f1) > 100000000000
        ·rw [if_pos c11] at H
         have c11b0 : decide (100000000000 < ((rd_T29 l0 x7_1).f1)) = true := decide_eq_true c11
         clear c11
         obtain rfl := Option.some.inj H
         have p205 : 0 ≤ (x7_1 : Int) := of_decide_eq_true (by first | (with_reducible assumption) | assumption)
         have q205 : x7_1 < (l0.length : Int) := of_decide_eq_true (by first | (with_reducible assumption) | assumption)
         obtain ⟨ad205, e205, hx205_0, hx205_1⟩ := at_T29 HR0.out x7_1 p205 q205
         cases e205
         replace hx205_0 := (HB.out.cell (World.block_lt_of_cell? w _ hx205_0)).trans hx205_0
         replace hx205_1 := (HB.out.cell (World.block_lt_of_cell? w _ hx205_1)).trans hx205_1
         replace p205 := eq_true p205
         replace q205 := eq_true q205
         go_wp2_with (first | ((with_reducible refine gate_dst (N := 4) rfl ?_); refine box_event ?hg (N := 4) ?hd (cs := #[.int .i64 0, .int .i64 0]) (t := 29) ?hr ?_; (case hd => rfl); (case hg => rfl); (case hr => first | (go_simp; done) | (go_simp; rfl)); intro gb206 hg w12 hbox hb; have n0_ := Aside0.mk (below_step (by repeat (first | (with_reducible first | exact HB.out | apply below_alloc | apply pw_below_drewN | apply below_drew1) | exact HB.out)) hb); have n1_ := Aside0.mk (hbox); have n2_ := Aside0.mk ((by rw [hg]; exact (below_size (by repeat (first | (with_reducible first | exact HB.out | apply below_alloc | apply pw_below_drewN | apply below_drew1) | exact HB.out))) : w.heap.size ≤ gb206)); have n3_ := Aside0.mk ((by rw [hg]; exact (below_size (by repeat (first | (with_reducible first | exact HB.out | apply below_alloc | apply pw_below_drewN | apply below_drew1) | exact HB.out))) : w.heap.size ≤ gb206)); clear HB; have HB := n0_; have BK206 := n1_; have GW206 := n2_; have GE206 := n3_; clear n0_ n1_ n2_ n3_; clear hb hbox hg; have hcz13_0 : w12.cell? ⟨gb206, 0, none⟩ = some (.int .i64 0) := (blk_cell BK206.out 0).trans rfl; have hcz13_1 : w12.cell? ⟨gb206, 1, none⟩ = some (.int .i64 0) := (blk_cell BK206.out 1).trans rfl; have hfz13_0 := blk_frozen BK206.out 0; have hfz13_1 := blk_frozen BK206.out 1))
         go_ret
         exact ⟨by first | rfl | (simp [errW_none, errW_some] <;> rfl) | (simp [*, errW_none, errW_some] <;> rfl), by repeat (first | (with_reducible first | exact HB.out | apply below_alloc | apply pw_below_drewN | apply below_drew1 | refine below_set ?_ GE206.out) | exact HB.out)⟩
        ·rw [if_neg c11] at H
         have c11b0 : decide (100000000000 < ((rd_T29 l0 x7_1).f1)) = false := decide_eq_false c11
         clear c11
         by_cases c14 : ((rd_T29 l0 x7_1).f1) < (-100000000000)
         ·rw [if_pos c14] at H
          have c14b0 : decide (((rd_T29 l0 x7_1).f1) < (-100000000000)) = true := decide_eq_true c14
          clear c14
          obtain rfl := Option.some.inj H
          have p205 : 0 ≤ (x7_1 : Int) := of_decide_eq_true (by first | (with_reducible assumption) | assumption)
          have q205 : x7_1 < (l0.length : Int) := of_decide_eq_true (by first | (with_reducible assumption) | assumption)
          obtain ⟨ad205, e205, hx205_0, hx205_1⟩ := at_T29 HR0.out x7_1 p205 q205
          cases e205
          replace hx205_0 := (HB.out.cell (World.block_lt_of_cell? w _ hx205_0)).trans hx205_0
          replace hx205_1 := (HB.out.cell (World.block_lt_of_cell? w _ hx205_1)).trans hx205_1
          replace p205 := eq_true p205
          replace q205 := eq_true q205
          go_wp2_with (first | ((with_reducible refine gate_dst (N := 4) rfl ?_); refine box_event ?hg (N := 4) ?hd (cs := #[.int .i64 0, .int .i64 0]) (t := 29) ?hr ?_; (case hd => rfl); (case hg => rfl); (case hr => first | (go_simp; done) | (go_simp; rfl)); intro gb206 hg w15 hbox hb; have n0_ := Aside0.mk (below_step (by repeat (first | (with_reducible first | exact HB.out | apply below_alloc | apply pw_below_drewN | apply below_drew1) | exact HB.out)) hb); have n1_ := Aside0.mk (hbox); have n2_ := Aside0.mk ((by rw [hg]; exact (below_size (by repeat (first | (with_reducible first | exact HB.out | apply below_alloc | apply pw_below_drewN | apply below_drew1) | exact HB.out))) : w.heap.size ≤ gb206)); have n3_ := Aside0.mk ((by rw [hg]; exact (below_size (by repeat (first | (with_reducible first | exact HB.out | apply below_alloc | apply pw_below_drewN | apply below_drew1) | exact HB.out))) : w.heap.size ≤ gb206)); clear HB; have HB := n0_; have BK206 := n1_; have GW206 := n2_; have GE206 := n3_; clear n0_ n1_ n2_ n3_; clear hb hbox hg; have hcz16_0 : w15.cell? ⟨gb206, 0, none⟩ = some (.int .i64 0) := (blk_cell BK206.out 0).trans rfl; have hcz16_1 : w15.cell? ⟨gb206, 1, none⟩ = some (.int .i64 0) := (blk_cell BK206.out 1).trans rfl; have hfz16_0 := blk_frozen BK206.out 0; have hfz16_1 := blk_frozen BK206.out 1))
          go_ret
          exact ⟨by first | rfl | (simp [errW_none, errW_some] <;> rfl) | (simp [*, errW_none, errW_some] <;> rfl), by repeat (first | (with_reducible first | exact HB.out | apply below_alloc | apply pw_below_drewN | apply below_drew1 | refine below_set ?_ GE206.out) | exact HB.out)⟩
         ·rw [if_neg c14] at H
          have c14b0 : decide (((rd_T29 l0 x7_1).f1) < (-100000000000)) = false := decide_eq_false c14
          clear c14
          have H' := Aside0.mk H
          clear H
          have p205 : 0 ≤ (x7_1 : Int) := of_decide_eq_true (by first | (with_reducible assumption) | assumption)
          have q205 : x7_1 < (l0.length : Int) := of_decide_eq_true (by first | (with_reducible assumption) | assumption)
          obtain ⟨ad205, e205, hx205_0, hx205_1⟩ := at_T29 HR0.out x7_1 p205 q205
          cases e205
          replace hx205_0 := (HB.out.cell (World.block_lt_of_cell? w _ hx205_0)).trans hx205_0
          replace hx205_1 := (HB.out.cell (World.block_lt_of_cell? w _ hx205_1)).trans hx205_1
          replace p205 := eq_true p205
          replace q205 := eq_true q205
          go_wp2_with (first | ((with_reducible refine gate_dst (N := 4) rfl ?_); refine box_event ?hg (N := 4) ?hd (cs := #[.int .i64 0, .int .i64 0]) (t := 29) ?hr ?_; (case hd => rfl); (case hg => rfl); (case hr => first | (go_simp; done) | (go_simp; rfl)); intro gb206 hg w17 hbox hb; have n0_ := Aside0.mk (below_step (by repeat (first | (with_reducible first | exact HB.out | apply below_alloc | apply pw_below_drewN | apply below_drew1) | exact HB.out)) hb); have n1_ := Aside0.mk (hbox); have n2_ := Aside0.mk ((by rw [hg]; exact (below_size (by repeat (first | (with_reducible first | exact HB.out | apply below_alloc | apply pw_below_drewN | apply below_drew1) | exact HB.out))) : w.heap.size ≤ gb206)); have n3_ := Aside0.mk ((by rw [hg]; exact (below_size (by repeat (first | (with_reducible first | exact HB.out | apply below_alloc | apply pw_below_drewN | apply below_drew1) | exact HB.out))) : w.heap.size ≤ gb206)); clear HB; have HB := n0_; have BK206 := n1_; have GW206 := n2_; have GE206 := n3_; clear n0_ n1_ n2_ n3_; clear hb hbox hg; have hcz18_0 : w17.cell? ⟨gb206, 0, none⟩ = some (.int .i64 0) := (blk_cell BK206.out 0).trans rfl; have hcz18_1 : w17.cell? ⟨gb206, 1, none⟩ = some (.int .i64 0) := (blk_cell BK206.out 1).trans rfl; have hfz18_0 := blk_frozen BK206.out 0; have hfz18_1 := blk_frozen BK206.out 1))
          go_roundg k1
          case measure => have := HK1.out; omega
          case rel => exact ⟨(wrap64 (x7_1 + 1)), (by first | rfl | (simp; done) | (simp [*]; done)), H', ⟨by have := HK1.out; omega⟩, ⟨by repeat (first | (with_reducible first | exact HB.out | apply below_alloc | apply pw_below_drewN | apply below_drew1 | refine below_set ?_ GE206.out) | exact HB.out)⟩⟩
     ·rw [if_neg c4] at H
      exact absurd H (by simp)
    ·rw [if_neg c3] at H
     exact absurd H (by simp)
   ·rw [if_neg c2] at H
    have c2b0 : decide (x7_1 < (l0.length : Int)) = false := decide_eq_false c2
    clear c2
    obtain rfl := Option.some.inj H
    go_wp2
    go_ret
    exact ⟨by first | rfl | (simp [errW_none, errW_some] <;> rfl) | (simp [*, errW_none, errW_some] <;> rfl), by repeat (first | (with_reducible first | exact HB.out | apply below_alloc | apply pw_below_drewN | apply below_drew1) | exact HB.out)⟩

end Go.Proofs.YtmocphafkimdpaaDoor.P


/- What the rows' functions tell, in plain words: right, Delta, Total, Sum, Post. -/
namespace Go.Proofs.YtmocphafkimdpaaDoor.P
open Go.RowKit Go.Proofs.YtmocphafkimdpaaDoorW.PrintWords Go.Proofs.YtmocphafkimdpaaDoorW.PrintLast Go.Proofs.YtmocphafkimdpaaDoorW.PrintMore

def okSh (x : S29) : Bool := okAmt x.f0 && okAmt x.f1
theorem okSh_iff (x : S29) : okSh x = true ↔ (-100000000000 ≤ x.f0 ∧ x.f0 ≤ 100000000000) ∧ -100000000000 ≤ x.f1 ∧ x.f1 ≤ 100000000000 := by
  simp [okSh, okAmt_iff]

theorem right_ev_l (l : List S29) (hl : l.length < 1000) : ∀ (t : List S29) (i : Nat), l.drop i = t → i ≤ l.length → Ev (fun k => stipendlaw16_right.l0 k l (l.length : Int) i) (t.all okSh)
  | [], i, h, hi => by
    have : l.length ≤ i := by simpa using h
    refine Ev.shift (fun k => by rw [stipendlaw16_right.l0]) ?_
    exact Ev.neg (by omega) Ev.now
  | a :: t, i, h, hi => by
    obtain ⟨h1, h2, h3⟩ := drop_cons_get h
    refine Ev.shift (fun k => by rw [stipendlaw16_right.l0]) ?_
    refine Ev.pos (by omega) (Ev.pos (by omega) (Ev.pos (by omega) ?_))
    rw [rdt h1]
    by_cases c : okSh a = true
    · have c' := (okSh_iff a).1 c
      refine Ev.neg (by omega) (Ev.neg (by omega) (Ev.neg (by omega) (Ev.neg (by omega) ?_)))
      rw [show wrap64 ((i : Int) + 1) = ((i + 1 : Nat) : Int) by rw [w64 (by omega) (by omega)]; rfl]
      rw [show (a :: t).all okSh = t.all okSh by simp [c]]
      exact right_ev_l l hl t (i + 1) h2 (by omega)
    · have c1 : (a :: t).all okSh = false := by simp [Bool.eq_false_iff.2 c]
      have c' : ¬ ((-100000000000 ≤ a.f0 ∧ a.f0 ≤ 100000000000) ∧ -100000000000 ≤ a.f1 ∧ a.f1 ≤ 100000000000) := fun h => c ((okSh_iff a).2 h)
      rw [c1]
      by_cases d1 : a.f0 > 100000000000
      · exact Ev.pos d1 Ev.now
      refine Ev.neg d1 ?_
      by_cases d2 : a.f0 < -100000000000
      · exact Ev.pos d2 Ev.now
      refine Ev.neg d2 ?_
      by_cases d3 : a.f1 > 100000000000
      · exact Ev.pos d3 Ev.now
      refine Ev.neg d3 ?_
      exact Ev.pos (by omega) Ev.now
theorem right_ev (l : List S29) (hl : l.length < 1000) : Ev (fun k => stipendlaw16_right.f k l) (l.all okSh) := by
  have := right_ev_l l hl l 0 (by simp) (by omega)
  exact this

/-- Two shares together. -/
def tOk (x y : S29) : Bool := okSh x && okSh y && okSh ⟨x.f0 + y.f0, x.f1 + y.f1⟩
theorem tOk_iff (x y : S29) : tOk x y = true ↔ (okAmt x.f0 = true ∧ okAmt y.f0 = true ∧ okAmt (x.f0 + y.f0) = true) ∧ (okAmt x.f1 = true ∧ okAmt y.f1 = true ∧ okAmt (x.f1 + y.f1) = true) := by
  simp only [tOk, okSh, Bool.and_eq_true]
  exact ⟨fun ⟨⟨⟨a, b⟩, c, d⟩, e, f⟩ => ⟨⟨a, c, e⟩, b, d, f⟩, fun ⟨⟨a, c, e⟩, b, d, f⟩ => ⟨⟨⟨a, b⟩, c, d⟩, e, f⟩⟩
theorem total_ev (x y : S29) : Ev (fun k => pair_Total.f k [x, y]) (if tOk x y = true then (x.f0 + y.f0, x.f1 + y.f1, 0) else (0, 0, 10)) := by
  unfold pair_Total.f
  refine Ev.shift (fun k => by rw [pair_Total.l0]) ?_
  refine Ev.pos (by simp) (Ev.pos (by decide) (Ev.pos (by simp) ?_))
  rw [show rd_T29 [x, y] 0 = x from rfl]
  rw [show wrap64 (0 + 1) = 1 from w64 (by decide) (by decide)]
  by_cases hx0 : okAmt x.f0 = true
  · refine Ev.bind (add0 x.f0 hx0) (Ev.pos rfl ?_)
    by_cases hx1 : okAmt x.f1 = true
    · refine Ev.bind (add0 x.f1 hx1) (Ev.pos rfl ?_)
      refine Ev.shift (fun k => by rw [pair_Total.l0]) ?_
      refine Ev.pos (by simp) (Ev.pos (by decide) (Ev.pos (by simp) ?_))
      rw [show wrap64 (1 + 1) = 2 from w64 (by decide) (by decide)]
      rw [show rd_T29 [x, y] 1 = y from rfl]
      by_cases c : okAmt x.f0 = true ∧ okAmt y.f0 = true ∧ okAmt (x.f0 + y.f0) = true
      · refine Ev.bind (madd_ok x.f0 y.f0 c.1 c.2.1 c.2.2) (Ev.pos rfl ?_)
        by_cases d : okAmt x.f1 = true ∧ okAmt y.f1 = true ∧ okAmt (x.f1 + y.f1) = true
        · refine Ev.bind (madd_ok x.f1 y.f1 d.1 d.2.1 d.2.2) (Ev.pos rfl ?_)
          rw [if_pos ((tOk_iff x y).2 ⟨c, d⟩)]
          refine Ev.shift (fun k => by rw [pair_Total.l0]) ?_
          exact Ev.neg (by simp) Ev.now
        · refine Ev.bind (madd_no x.f1 y.f1 d) (Ev.neg (by decide) ?_)
          rw [if_neg (fun h => d ((tOk_iff x y).1 h).2)]
          exact Ev.now
      · refine Ev.bind (madd_no x.f0 y.f0 c) (Ev.neg (by decide) ?_)
        rw [if_neg (fun h => c ((tOk_iff x y).1 h).1)]
        exact Ev.now
    · refine Ev.bind (add0_no x.f1 hx1) (Ev.neg (by decide) ?_)
      rw [if_neg (fun h => hx1 ((tOk_iff x y).1 h).2.1)]
      exact Ev.now
  · refine Ev.bind (add0_no x.f0 hx0) (Ev.neg (by decide) ?_)
    rw [if_neg (fun h => hx0 ((tOk_iff x y).1 h).1.1)]
    exact Ev.now

def addS (x y : S29) : S29 := ⟨x.f0 + y.f0, x.f1 + y.f1⟩
def subS (x y : S29) : S29 := ⟨x.f0 - y.f0, x.f1 - y.f1⟩
def dOk (a b : S29) : Bool := okSh a && okSh b && okSh (subS a b)
/-- Rows, put beside each other. -/
def addOf : List S29 → List S29 → Option (List S29)
  | a :: t, b :: u => if tOk a b = true then (addOf t u).map (addS a b :: ·) else none
  | _, _ => some []
def deltaOf : List S29 → List S29 → Option (List S29)
  | a :: t, b :: u => if dOk a b = true then (deltaOf t u).map (subS a b :: ·) else none
  | _, _ => some []
def orBad (o : Option (List S29)) : List S29 × Int := match o with
  | some d => (d, 0)
  | none => ([], 10)

theorem less_ev (a b : S29) : share_less.f a.f0 a.f1 b.f0 b.f1 = some (if dOk a b = true then ((subS a b).f0, (subS a b).f1, 0) else (0, 0, 10)) := by
  unfold share_less.f
  have e1 : [a.f0, a.f1, b.f0, b.f1].all okAmt = (okSh a && okSh b) := by simp [okSh, Bool.and_assoc]
  have e2 : [a.f0 - b.f0, a.f1 - b.f1].all okAmt = okSh (subS a b) := by simp [okSh, subS]
  rw [e1, e2]
  unfold dOk
  cases okSh a && okSh b <;> cases okSh (subS a b) <;> rfl

theorem delta_ev_l (x y : List S29) (hx : x.length < 1000) (hxy : x.length = y.length) : ∀ (t u acc : List S29) (i : Nat), x.drop i = t → y.drop i = u → acc.length = i → i ≤ x.length →
    Ev (fun k => share_Delta.l0 k x y acc (x.length : Int) i) (orBad ((deltaOf t u).map (acc ++ ·)))
  | [], u, acc, i, h, h', ha, hi => by
    have : x.length ≤ i := by simpa using h
    refine Ev.shift (fun k => by rw [share_Delta.l0]) ?_
    have e : deltaOf [] u = some [] := by cases u <;> rfl
    rw [e]
    simp only [Option.map_some, orBad, List.append_nil]
    exact Ev.neg (by omega) Ev.now
  | a :: t, u, acc, i, h, h', ha, hi => by
    obtain ⟨h1, h2, h3⟩ := drop_cons_get h
    obtain ⟨b, u, rfl⟩ : ∃ b u', u = b :: u' := by
      cases u with
      | nil => have : y.length ≤ i := by simpa using h'
               omega
      | cons b u => exact ⟨b, u, rfl⟩
    obtain ⟨h1', h2', h3'⟩ := drop_cons_get h'
    refine Ev.shift (fun k => by rw [share_Delta.l0]) ?_
    refine Ev.pos (by omega) (Ev.pos (by omega) (Ev.pos (by omega) (Ev.pos (by omega) ?_)))
    rw [rdt h1, rdt h1', less_ev]
    by_cases c : dOk a b = true
    · rw [if_pos c]
      refine Ev.bindc rfl (Ev.pos rfl (Ev.pos (by omega) ?_))
      rw [show wrap64 ((i : Int) + 1) = ((i + 1 : Nat) : Int) by rw [w64 (by omega) (by omega)]; rfl]
      have ih := delta_ev_l x y hx hxy t u (acc ++ [subS a b]) (i + 1) h2 h2' (by simp [ha]) (by omega)
      refine ih.res ?_
      simp only [deltaOf, if_pos c, Option.map_map]
      congr 2
      funext z
      simp
    · rw [if_neg c]
      refine Ev.bindc rfl (Ev.neg (by decide) ?_)
      simp only [deltaOf, if_neg c]
      exact Ev.now
theorem delta_ev (x y : List S29) (hx : x.length < 1000) : Ev (fun k => share_Delta.f k x y) (if x.length = y.length then orBad (deltaOf x y) else ([], 3)) := by
  unfold share_Delta.f
  by_cases c : x.length = y.length
  · rw [if_pos c]
    refine Ev.pos (by omega) ?_
    refine (delta_ev_l x y hx c x y [] 0 rfl rfl rfl (by omega)).res ?_
    congr 1
    cases deltaOf x y <;> simp
  · rw [if_neg c]
    exact Ev.neg (by omega) Ev.now

theorem sum_l1_ev (n : Nat) (hn : n < 1000) (row : List S29) (hr : row.length = n) (ls : List (List S29)) (z : Int) (j : Nat) (hj : j < 1000) (r : List S29 × Int) :
    ∀ (t u out : List S29) (i : Nat), out.drop i = t → row.drop i = u → out.length = n → i ≤ n →
    (match addOf t u with | some s => Ev (fun k => social_Sum.l0 k n (out.take i ++ s) ls z ((j + 1 : Nat) : Int)) r | none => r = ([], 10)) →
    Ev (fun k => social_Sum.l1 k n out row ls z j (n : Int) i) r
  | [], u, out, i, h, h', ho, hi, H => by
    have : out.length ≤ i := by simpa using h
    have e : addOf [] u = some [] := by cases u <;> rfl
    rw [e] at H
    refine Ev.shift (fun k => by rw [social_Sum.l1]) ?_
    refine Ev.neg (by omega) ?_
    rw [show wrap64 ((j : Int) + 1) = ((j + 1 : Nat) : Int) by rw [w64 (by omega) (by omega)]; rfl]
    have e2 : out.take i ++ [] = out := by rw [List.append_nil, List.take_of_length_le this]
    simp only [e2] at H
    exact H
  | a :: t, u, out, i, h, h', ho, hi, H => by
    obtain ⟨h1, h2, h3⟩ := drop_cons_get h
    obtain ⟨b, u, rfl⟩ : ∃ b u', u = b :: u' := by
      cases u with
      | nil => have : row.length ≤ i := by simpa using h'
               omega
      | cons b u => exact ⟨b, u, rfl⟩
    obtain ⟨h1', h2', h3'⟩ := drop_cons_get h'
    refine Ev.shift (fun k => by rw [social_Sum.l1]) ?_
    refine Ev.pos (by omega) (Ev.pos (by omega) (Ev.pos (by omega) (Ev.pos (by omega) ?_)))
    rw [rdt h1, rdt h1']
    refine Ev.bind (total_ev a b) ?_
    by_cases c : tOk a b = true
    · rw [if_pos c]
      simp only [addOf, if_pos c] at H
      refine Ev.pos rfl ?_
      rw [show wrap64 ((i : Int) + 1) = ((i + 1 : Nat) : Int) by rw [w64 (by omega) (by omega)]; rfl, Int.toNat_natCast]
      refine sum_l1_ev n hn row hr ls z j hj r t u (out.set i (addS a b)) (i + 1) ?_ h2' (by simp [ho]) (by omega) ?_
      · rw [List.drop_set_of_lt (by omega), h2]
      · have e3 : (out.set i (addS a b)).take (i + 1) = out.take i ++ [addS a b] := by
          rw [List.take_add_one, List.take_set_of_le (by omega), List.getElem?_set_self (by omega)]
          rfl
        rw [e3]
        revert H
        cases addOf t u with
        | none => exact id
        | some s => simp
    · rw [if_neg c]
      simp only [addOf, if_neg c] at H
      subst H
      exact Ev.neg (by decide) Ev.now

theorem sum_two_ev (n : Nat) (hn : n ≤ 64) (p q : List S29) (hp : p.length = n) (hq : q.length = n) :
    Ev (fun k => social_Sum.f k (n : Int) [p, q]) (orBad ((addOf (List.replicate n z29) p).bind fun s => addOf s q)) := by
  have len : ∀ (a b s : List S29), a.length = n → b.length = n → addOf a b = some s → s.length = n := by
    intro a b s h1 h2 h3
    have : ∀ (a b s : List S29), a.length = b.length → addOf a b = some s → s.length = a.length := by
      intro a
      induction a with
      | nil => intro b s h h'; cases b <;> simp [addOf] at h' <;> simp [← h']
      | cons x t ih =>
        intro b s h h'
        cases b with
        | nil => simp at h
        | cons y u =>
          simp only [addOf] at h'
          split at h'
          · obtain ⟨s', hs, rfl⟩ := Option.map_eq_some_iff.1 h'
            simp [ih u s' (by simpa using h) hs]
          · cases h'
    rw [this a b s (by omega) h3, h1]
  unfold social_Sum.f
  refine Ev.neg (by omega) ?_
  refine Ev.shift (fun k => by rw [social_Sum.j0]) ?_
  refine Ev.neg (by simp; omega) ?_
  refine Ev.pos (by omega) (Ev.pos (by simp; omega) ?_)
  rw [Int.toNat_natCast]
  refine Ev.shift (fun k => by rw [social_Sum.l0]) ?_
  refine Ev.pos (by simp) (Ev.pos (by decide) (Ev.pos (by simp) ?_))
  rw [show rd_L2 [p, q] 0 = p from rfl]
  refine Ev.pos (by omega) ?_
  rw [hp]
  refine sum_l1_ev n (by omega) p hp [p, q] _ 0 (by omega) _ (List.replicate n z29) p (List.replicate n z29) 0 rfl rfl (by simp) (by omega) ?_
  cases hs : addOf (List.replicate n z29) p with
  | none => rfl
  | some s =>
    have hsl := len _ _ s (by simp) hp hs
    simp only [List.take_zero, List.nil_append, Option.bind_some]
    refine Ev.shift (fun k => by rw [social_Sum.l0]) ?_
    refine Ev.pos (by simp) (Ev.pos (by simp) (Ev.pos (by simp) ?_))
    rw [show rd_L2 [p, q] ((0 + 1 : Nat) : Int) = q from rfl]
    refine Ev.pos (by omega) ?_
    rw [hq]
    refine sum_l1_ev n (by omega) q hq [p, q] _ 1 (by omega) _ s q s 0 rfl rfl hsl (by omega) ?_
    cases addOf s q with
    | none => rfl
    | some s' =>
      simp only [List.take_zero, List.nil_append]
      refine Ev.shift (fun k => by rw [social_Sum.l0]) ?_
      exact Ev.neg (by simp) Ev.now

theorem zeros_add : ∀ (p : List S29), addOf (List.replicate p.length z29) p = if p.all okSh = true then some p else none
  | [] => rfl
  | a :: t => by
    have z : okSh z29 = true := by decide
    have e : addS z29 a = a := by cases a; simp [addS, z29]
    have c : tOk z29 a = okSh a := by
      unfold tOk
      rw [z]
      have : (⟨z29.f0 + a.f0, z29.f1 + a.f1⟩ : S29) = a := by cases a; simp [z29]
      rw [this]
      simp
    simp only [List.length_cons, List.replicate_succ, addOf, c, e, zeros_add t, List.all_cons]
    by_cases h1 : okSh a = true <;> by_cases h2 : t.all okSh = true <;> simp [h1, h2]

theorem post_ev (p q : List S29) (hp : p.length ≤ 64) : Ev (fun k => share_Post.f k p q) (if p.length = q.length then orBad (if p.all okSh = true then addOf p q else none) else ([], 3)) := by
  unfold share_Post.f
  by_cases c : p.length = q.length
  · rw [if_pos c]
    refine Ev.pos (by omega) ?_
    refine Ev.bind (sum_two_ev p.length hp p q rfl c.symm) (Ev.const ?_)
    rw [zeros_add]
    cases p.all okSh <;> rfl
  · rw [if_neg c]
    exact Ev.neg (by omega) Ev.now

/-- What is to be posted, put to what was posted, is what is due. -/
theorem delta_add : ∀ (x y d : List S29), x.length = y.length → deltaOf x y = some d → addOf y d = some x ∧ d.length = x.length ∧ y.all okSh = true
  | [], [], d, _, h => by cases h; exact ⟨rfl, rfl, rfl⟩
  | a :: t, b :: u, d, hl, h => by
    simp only [deltaOf] at h
    split at h
    · rename_i c
      obtain ⟨d', hd, rfl⟩ := Option.map_eq_some_iff.1 h
      obtain ⟨h1, h2, h3⟩ := delta_add t u d' (by simpa using hl) hd
      unfold dOk at c
      simp only [Bool.and_eq_true] at c
      have e : addS b (subS a b) = a := by
        cases a; cases b
        simp only [addS, subS, S29.mk.injEq]
        omega
      have c2 : tOk b (subS a b) = true := by
        unfold tOk
        have : (⟨b.f0 + (subS a b).f0, b.f1 + (subS a b).f1⟩ : S29) = a := e
        rw [this, c.1.1, c.1.2, c.2]
        rfl
      refine ⟨?_, by simp [h2], by simp [c.1.2, h3]⟩
      show (if tOk b (subS a b) = true then (addOf u d').map (addS b (subS a b) :: ·) else none) = _
      rw [if_pos c2, h1, e]
      rfl
    · cases h
  | [], _ :: _, _, hl, _ => by simp at hl
  | _ :: _, [], _, hl, _ => by simp at hl
end Go.Proofs.YtmocphafkimdpaaDoor.P


/- A datum that is read as an argument is a value of its kind: the printed contracts' own readings, out of a row's premises. -/
namespace Go.Proofs.YtmocphafkimdpaaDoor.P
open Go.RowKit Go.Proofs.YtmocphafkimdpaaDoorW.PrintWords Go.Proofs.YtmocphafkimdpaaDoorW.PrintLast Go.Proofs.YtmocphafkimdpaaDoorW.PrintMore

/-- Every reading at type T is a value of kind d that keeps G. -/
def Opens (P : Program) (T : TypeId) {α : Type} (d : Kd α) (G : α → Prop) : Prop :=
  ∀ (H : Type) (enc : TypeId × Value → H) (w : World) (base : Nat) (spare : Nat → Bool) (held : Bool) (fuel : Nat) (cs : List Value) (x : DataW H × List MemPlace),
    DataW.trod enc P w base spare held fuel T cs = some x → ∃ a, d.K w a cs ∧ G a

/-- .. the fields of a struct, from offset off on (n cells in all). -/
def OpensF (P : Program) (n : Nat) (fs : List Field) (off : Nat) {α : Type} (d : Kd α) (G : α → Prop) : Prop :=
  ∀ (H : Type) (enc : TypeId × Value → H) (w : World) (base : Nat) (spare : Nat → Bool) (held : Bool) (fuel : Nat) (cs : List Value), cs.length = n →
    (∀ f, f ∈ fs → ∃ y, DataW.trod enc P w base spare held fuel f.type ((cs.drop f.offset).take (P.cellsOf f.type)) = some y) → ∃ a, d.K w a (cs.drop off) ∧ G a

theorem opens_int {P : Program} {T : TypeId} {k : IntKind} (ht : P.underlying T = some (.int k)) : Opens P T (Kd.int k) (fun n => (Lit.int k n).wf = true) := by
  intro H enc w base spare held fuel cs x h
  obtain ⟨n, rfl, _, hw⟩ := DataW.trod_int ht h
  exact ⟨n, rfl, hw⟩

theorem opens_string {P : Program} {T : TypeId} (ht : P.underlying T = some .string) : Opens P T Kd.string (fun s => s.size ≤ maxLen) := by
  intro H enc w base spare held fuel cs x h
  cases fuel with
  | zero => simp [DataW.trod] at h
  | succ n =>
    unfold DataW.trod at h
    rw [ht] at h
    split at h <;> simp_all
    rename_i s
    exact ⟨s, rfl, h.1⟩

theorem opens_iso {P : Program} {T : TypeId} {α β : Type} {d : Kd α} {G : α → Prop} (h : Opens P T d G) (f : β → α) (g : α → β) (hfg : ∀ a, f (g a) = a) : Opens P T (Kd.iso d f) (fun b => G (f b)) := by
  intro H enc w base spare held fuel cs x hx
  obtain ⟨a, ha, hg⟩ := h H enc w base spare held fuel cs x hx
  exact ⟨g a, by show d.K w (f (g a)) cs; rw [hfg]; exact ha, by show G (f (g a)); rw [hfg]; exact hg⟩

theorem opensF_one {P : Program} {n : Nat} {f : Field} {α : Type} {d : Kd α} {G : α → Prop} (off : Nat) (h : Opens P f.type d G) (ho : f.offset = off) (hn : off + P.cellsOf f.type = n) : OpensF P n [f] off d G := by
  intro H enc w base spare held fuel cs hl hf
  subst ho
  obtain ⟨y, hy⟩ := hf f (by simp)
  have e : (cs.drop f.offset).take (P.cellsOf f.type) = cs.drop f.offset := List.take_of_length_le (by rw [List.length_drop]; omega)
  rw [e] at hy
  exact h H enc w base spare held fuel _ _ hy

theorem opensF_cons {P : Program} {n off : Nat} {f : Field} {fs : List Field} {α β : Type} {d : Kd α} {d' : Kd β} {G : α → Prop} {G' : β → Prop} (off' : Nat) (h : Opens P f.type d G) (ho : f.offset = off) (he : off + P.cellsOf f.type = off') (hs : OpensF P n fs off' d' G') :
    OpensF P n (f :: fs) off (Kd.pair d d') (fun x => G x.1 ∧ G' x.2) := by
  intro H enc w base spare held fuel cs hl hf
  subst ho he
  obtain ⟨y, hy⟩ := hf f (by simp)
  obtain ⟨a, ha, hg⟩ := h H enc w base spare held fuel _ _ hy
  obtain ⟨b, hb, hg'⟩ := hs H enc w base spare held fuel cs hl (fun f' hf' => hf f' (List.mem_cons_of_mem _ hf'))
  refine ⟨(a, b), ⟨_, _, ?_, ha, hb⟩, hg, hg'⟩
  rw [← List.drop_drop, List.take_append_drop]

theorem opens_struct {P : Program} {T : TypeId} {fs : Array Field} {α : Type} {d : Kd α} {G : α → Prop} (ht : P.underlying T = some (.struct fs)) (h : OpensF P (P.cellsOf T) fs.toList 0 d G) : Opens P T d G := by
  intro H enc w base spare held fuel cs x hx
  obtain ⟨xs, n, _, _, hl, hlen, hf⟩ := DataW.trod_struct ht hx
  obtain ⟨a, ha, hg⟩ := h H enc w base spare held n cs hl (fun f hf' => by
    obtain ⟨i, hi⟩ := List.mem_iff_getElem?.1 hf'
    have h1 := hf i f (by simpa using hi)
    have hlt : i < xs.length := by
      have h2 : i < fs.toList.length := by
        obtain ⟨h3, _⟩ := List.getElem?_eq_some_iff.1 hi
        exact h3
      simp at h2
      omega
    rw [List.getElem?_eq_getElem hlt] at h1
    exact ⟨_, h1⟩)
  exact ⟨a, by simpa using ha, hg⟩

theorem gather {β : Type} {p : Nat → β → Prop} : ∀ {n : Nat}, (∀ i, i < n → ∃ x, p i x) → ∃ q : List β, q.length = n ∧ ∀ i x, q[i]? = some x → p i x
  | 0, _ => ⟨[], rfl, fun i p h => by simp at h⟩
  | n + 1, hall => by
    obtain ⟨q, hq, hp⟩ := gather (n := n) (p := p) (fun i hi => hall i (by omega))
    obtain ⟨x, hx⟩ := hall n (by omega)
    refine ⟨q ++ [x], by simp [hq], fun i p' h => ?_⟩
    rw [List.getElem?_append] at h
    split at h
    · exact hp i p' h
    · rename_i hge
      rcases Nat.eq_or_lt_of_le (Nat.le_of_not_lt hge) with h3 | h3
      · subst h3
        simp at h
        subst h
        rw [hq]
        exact hx
      · rw [List.getElem?_eq_none (by simp; omega)] at h
        cases h

theorem opens_slice {P : Program} {T e : TypeId} {α : Type} {d : Kd α} {G : α → Prop} (ht : P.underlying T = some (.slice e)) (he : Opens P e d G) (hc : P.cellsOf e = d.sz) :
    Opens P T (Kd.slice e d) (fun l => l.length ≤ maxLen ∧ ∀ x ∈ l, G x) := by
  intro H enc w base spare held fuel cs x hx
  rcases Go.Deep.open_slice ht hx with ⟨rfl, _⟩ | ⟨a, len, cap, m, n, D, Pl, rfl, hb, hl, hm, hmm, _, hi⟩
  · exact ⟨[], ⟨none, 0, rfl, Nat.le_refl _, rfl, by simp, fun h => absurd h (by simp)⟩, by simp, by simp⟩
  · have hle : len ≤ m := by rw [hmm]; split <;> omega
    have hall : ∀ i, i < len → ∃ p : α × List Value, w.cells? base (a.add (i * P.cellsOf e)) (P.cellsOf e) = some p.2 ∧ d.K w p.1 p.2 ∧ G p.1 := fun i hlt => by
      obtain ⟨cs', h1, h2⟩ := hi i (by omega)
      obtain ⟨y, hy, hg⟩ := he H enc w base spare held n cs' _ h2
      exact ⟨(y, cs'), h1, hy, hg⟩
    have hex := gather (n := len) (p := fun i (p : α × List Value) => w.cells? base (a.add (i * P.cellsOf e)) (P.cellsOf e) = some p.2 ∧ d.K w p.1 p.2 ∧ G p.1) hall
    obtain ⟨q, hq, hp⟩ := hex
    refine ⟨q.map (·.1), ⟨some a, cap, by simp [hq], by simp [hq]; exact hl, rfl, ?_, fun _ => ⟨a, rfl, fun j p hj => ?_⟩⟩, by simp [hq]; exact Nat.le_trans hl hm, ?_⟩
    · simp [hq]
      have : maxLen = 9223372036854775807 := by decide
      omega
    · rw [List.getElem?_map, Option.map_eq_some_iff] at hj
      obtain ⟨p', hj, rfl⟩ := hj
      obtain ⟨h1, h2, h3⟩ := hp j p' hj
      obtain ⟨_, hlen, hcell⟩ := World.cells?_some h1
      refine ⟨p'.2, d.K_len h2, h2, fun i u hu => ?_⟩
      have hilt : i < P.cellsOf e := by
        obtain ⟨h4, _⟩ := List.getElem?_eq_some_iff.1 hu
        omega
      have := hcell i hilt
      rw [hu, Go.Deep.add_add, hc] at this
      exact this
    · intro y hy
      obtain ⟨p, hpm, rfl⟩ := List.mem_map.1 hy
      obtain ⟨i, hi⟩ := List.mem_iff_getElem?.1 hpm
      exact (hp i p hi).2.2

/-! the kinds of this seat's arguments -/
theorem oc2 : Tryd.prog.cellsOf 2 = 1 := by kernel_rfl
theorem oc3 : Tryd.prog.cellsOf 3 = 1 := by kernel_rfl
theorem oc9 : Tryd.prog.cellsOf 9 = 1 := by kernel_rfl
theorem oc23 : Tryd.prog.cellsOf 23 = 1 := by kernel_rfl
theorem oc29 : Tryd.prog.cellsOf 29 = 2 := by kernel_rfl
theorem oc48 : Tryd.prog.cellsOf 48 = 3 := by kernel_rfl
theorem oc82 : Tryd.prog.cellsOf 82 = 1 := by kernel_rfl
theorem oc83 : Tryd.prog.cellsOf 83 = 1 := by kernel_rfl
theorem oc84 : Tryd.prog.cellsOf 84 = 1 := by kernel_rfl
theorem oc86 : Tryd.prog.cellsOf 86 = 5 := by kernel_rfl
theorem oc89 : Tryd.prog.cellsOf 89 = 4 := by kernel_rfl
theorem oc95 : Tryd.prog.cellsOf 95 = 1 := by kernel_rfl
theorem oc97 : Tryd.prog.cellsOf 97 = 6 := by kernel_rfl
theorem oc222 : Tryd.prog.cellsOf 222 = 3 := by kernel_rfl

theorem o2 : Opens Tryd.prog 2 (Kd.int .i64) (fun n => (Lit.int .i64 n).wf = true) := opens_int Tryd.underlying2
theorem o3 : Opens Tryd.prog 3 (Kd.int .i64) (fun n => (Lit.int .i64 n).wf = true) := opens_int Tryd.underlying3
theorem o9 : Opens Tryd.prog 9 Kd.string (fun s => s.size ≤ maxLen) := opens_string Tryd.underlying9
def okI (n : Int) : Prop := (Lit.int .i64 n).wf = true
def okS (s : ByteArray) : Prop := s.size ≤ maxLen
def okL {α : Type} (g : α → Prop) (l : List α) : Prop := l.length ≤ maxLen ∧ ∀ x ∈ l, g x
def ok29 (x : S29) : Prop := okI x.f0 ∧ okI x.f1
theorem o29 : Opens Tryd.prog 29 k29 ok29 :=
  opens_iso (opens_struct Tryd.underlying29 (opensF_cons 1 o2 rfl (by kernel_rfl) (opensF_one 1 o2 rfl (by kernel_rfl)))) _ (fun a => ⟨a.1, a.2⟩) (fun _ => rfl)
theorem o23 : Opens Tryd.prog 23 (Kd.slice 29 k29) (okL ok29) := opens_slice Tryd.underlying23 o29 oc29
theorem o32 : Opens Tryd.prog 32 (Kd.slice 23 (Kd.slice 29 k29)) (okL (okL ok29)) := opens_slice Tryd.underlying32 o23 oc23
def ok48 (x : S48) : Prop := okS x.f0 ∧ okI x.f1 ∧ okI x.f2
theorem o48 : Opens Tryd.prog 48 k48 ok48 :=
  opens_iso (opens_struct Tryd.underlying48 (opensF_cons 1 o9 rfl (by kernel_rfl) (opensF_cons 2 o2 rfl (by kernel_rfl) (opensF_one 2 o2 rfl (by kernel_rfl))))) _ (fun a => ⟨a.1, a.2.1, a.2.2⟩) (fun _ => rfl)
theorem o71 : Opens Tryd.prog 71 (Kd.slice 48 k48) (okL ok48) := opens_slice Tryd.underlying71 o48 oc48
theorem o52 : Opens Tryd.prog 52 (Kd.slice 3 (Kd.int .i64)) (okL okI) := opens_slice Tryd.underlying52 o3 oc3
theorem o56 : Opens Tryd.prog 56 (Kd.slice 2 (Kd.int .i64)) (okL okI) := opens_slice Tryd.underlying56 o2 oc2
theorem o65 : Opens Tryd.prog 65 (Kd.slice 9 Kd.string) (okL okS) := opens_slice Tryd.underlying65 o9 oc9
def ok222 (x : S222) : Prop := okI x.f0 ∧ okI x.f1 ∧ okI x.f2
theorem o222 : Opens Tryd.prog 222 k222 ok222 :=
  opens_iso (opens_struct Tryd.underlying222 (opensF_cons 1 o2 rfl (by kernel_rfl) (opensF_cons 2 o3 rfl (by kernel_rfl) (opensF_one 2 o3 rfl (by kernel_rfl))))) _ (fun a => ⟨a.1, a.2.1, a.2.2⟩) (fun _ => rfl)
theorem o95 : Opens Tryd.prog 95 (Kd.slice 222 k222) (okL ok222) := opens_slice Tryd.underlying95 o222 oc222
theorem o82 : Opens Tryd.prog 82 (Kd.slice 95 (Kd.slice 222 k222)) (okL (okL ok222)) := opens_slice Tryd.underlying82 o95 oc95
def ok97 (x : S97) : Prop := okS x.f0 ∧ okI x.f1 ∧ okL ok222 x.f2 ∧ okI x.f3 ∧ okI x.f4 ∧ okI x.f5
theorem o97 : Opens Tryd.prog 97 k97 ok97 :=
  opens_iso (opens_struct Tryd.underlying97 (opensF_cons 1 o9 rfl (by kernel_rfl) (opensF_cons 2 o3 rfl (by kernel_rfl) (opensF_cons 3 o95 rfl (by kernel_rfl) (opensF_cons 4 o2 rfl (by kernel_rfl) (opensF_cons 5 o2 rfl (by kernel_rfl) (opensF_one 5 o3 rfl (by kernel_rfl)))))))) _ (fun a => ⟨a.1, a.2.1, a.2.2.1, a.2.2.2.1, a.2.2.2.2.1, a.2.2.2.2.2⟩) (fun _ => rfl)
theorem o83 : Opens Tryd.prog 83 (Kd.slice 97 k97) (okL ok97) := opens_slice Tryd.underlying83 o97 oc97
def ok89 (x : S89) : Prop := okS x.f0 ∧ okI x.f1 ∧ okI x.f2 ∧ okI x.f3
theorem o89 : Opens Tryd.prog 89 k89 ok89 :=
  opens_iso (opens_struct Tryd.underlying89 (opensF_cons 1 o9 rfl (by kernel_rfl) (opensF_cons 2 o3 rfl (by kernel_rfl) (opensF_cons 3 o3 rfl (by kernel_rfl) (opensF_one 3 o3 rfl (by kernel_rfl)))))) _ (fun a => ⟨a.1, a.2.1, a.2.2.1, a.2.2.2⟩) (fun _ => rfl)
theorem o84 : Opens Tryd.prog 84 (Kd.slice 89 k89) (okL ok89) := opens_slice Tryd.underlying84 o89 oc89
/-- A table's cells, side by side. -/
def ok86 (x : List (List S222) × List S97 × List S89 × Int × Int) : Prop := okL (okL ok222) x.1 ∧ okL ok97 x.2.1 ∧ okL ok89 x.2.2.1 ∧ okI x.2.2.2.1 ∧ okI x.2.2.2.2
def k86 : Kd (List (List S222) × List S97 × List S89 × Int × Int) := Kd.pair (Kd.slice 95 (Kd.slice 222 k222)) (Kd.pair (Kd.slice 97 k97) (Kd.pair (Kd.slice 89 k89) (Kd.pair (Kd.int .i64) (Kd.int .i64))))
set_option maxRecDepth 20000 in
theorem o86 : Opens Tryd.prog 86 k86 ok86 :=
  opens_struct Tryd.underlying86 (opensF_cons 1 o82 rfl (by kernel_rfl) (opensF_cons 2 o83 rfl (by kernel_rfl) (opensF_cons 3 o84 rfl (by kernel_rfl) (opensF_cons 4 o3 rfl (by kernel_rfl) (opensF_one 4 o3 rfl (by kernel_rfl))))))

theorem slice_of {P : Program} {T e : TypeId} (ht : P.underlying T = some (.slice e)) {w : World} {r : Reach} {b0 : Nat} {v : Value} (hv : Value.okWide P w r b0 T v) : ∃ A n c, v = .slice A n c := by
  exact Go.WideShapes.okWide_slice ht hv
/-- An argument that is a slice. -/
theorem open_row {P : Program} {T e : TypeId} {α : Type} {d : Kd α} {G : α → Prop} (ht : P.underlying T = some (.slice e)) (ho : Opens P T (Kd.slice e d) (okL G)) {H : Type} {enc : TypeId × Value → H} {w : World} {base b0 : Nat} {spare : Nat → Bool} {held : Bool} {r : Reach} {v : Value} {x : DataW H} {ps : List MemPlace}
    (hv : Value.okWide P w r b0 T v) (h : DataW.Trod enc P w base spare held T v x ps) : ∃ A c l, v = .slice A l.length c ∧ l.length ≤ c ∧ Kd.C d w A l.length l ∧ okL G l := by
  obtain ⟨a, len, cap, rfl⟩ := slice_of ht hv
  obtain ⟨fuel, hf⟩ := h
  obtain ⟨l, ⟨A, c, e1, hl, hC⟩, hg⟩ := ho H enc w base spare held fuel _ _ hf
  simp [Value.cells] at e1
  obtain ⟨rfl, rfl, rfl⟩ := e1
  exact ⟨a, cap, l, rfl, hl, hC, hg⟩
theorem trod_below {P : Program} {H : Type} {enc : TypeId × Value → H} {w : World} {base : Nat} {spare : Nat → Bool} {held : Bool} {T : TypeId} {v : Value} {x : DataW H} {ps : List MemPlace} (h : DataW.Trod enc P w base spare held T v x ps) : ∀ p ∈ ps, p.block < w.heap.size := by
  obtain ⟨m, hm⟩ := h
  exact DataW.trod_lt m _ _ _ hm
end Go.Proofs.YtmocphafkimdpaaDoor.P
