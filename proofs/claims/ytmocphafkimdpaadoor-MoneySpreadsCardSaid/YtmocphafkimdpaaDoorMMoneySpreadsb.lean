/- A part of the proof of MoneySpreads's card: 'MoneySpreads' answers true for every input (the conditions: those of the given statement alone). Merged by a program (wip/merge.py) out of: Pf63. -/
import Derived.Test.YtmocphafkimdpaaDoorBMoneya

-- written by a program (a patched copy of the kit's print: wip/mkprint.py); Lean checks it
namespace Go.Proofs.YtmocphafkimdpaaDoor.P
open Go.RowKit Go.Proofs.YtmocphafkimdpaaDoorW.PrintWords Go.Proofs.YtmocphafkimdpaaDoorW.PrintLast Go.Proofs.YtmocphafkimdpaaDoorW.PrintMore
attribute [local go_sem] max2_int min2_int max_two min_two max_three min_three max_four min_four   -- for this text's walks alone
set_option linter.unusedVariables false
set_option linter.unusedSimpArgs false

/-! ### stipendref01_Spread: function 63 -/
mutual
def stipendref01_Spread.l0 : Nat → Int → List Int → Int → Int → Option (List Int)
 | 0, _, _, _, _ => none
 | k + 1, x0, x1, x5, x6 => if x6 < (x1.length : Int) then (if 0 ≤ x6 then (stipendref01_Spread.l0 k x0 x1 (wrap64 (x5 + (rd x1 x6))) (wrap64 (x6 + 1))) else (none)) else (if 0 ≤ (x1.length : Int) then (if ((x1.length : Int) : Int).toNat ≤ 35184372088832 then ((some (List.replicate ((x1.length : Int) : Int).toNat 0 : List Int)).bind fun y573 => (if x0 < 0 then (stipendref01_Spread.j1 k x0 x1 x5 y573 (wrap64 (-x0))) else (stipendref01_Spread.j1 k x0 x1 x5 y573 x0))) else (none)) else (none))
def stipendref01_Spread.j1 : Nat → Int → List Int → Int → List Int → Int → Option (List Int)
 | 0, _, _, _, _, _ => none
 | k + 1, x0, x1, x5, x7, x8 => stipendref01_Spread.l1 k x0 x1 x5 x7 x8 x8 0
def stipendref01_Spread.l1 : Nat → Int → List Int → Int → List Int → Int → Int → Int → Option (List Int)
 | 0, _, _, _, _, _, _, _ => none
 | k + 1, x0, x1, x5, x7, x8, x9, x10 => if x10 < (x1.length : Int) then (if 0 ≤ x10 then (if x5 = 0 then (none) else (if x10 < (x7.length : Int) then ((some (x7.set (x10 : Int).toNat (wrap64 (Int.tdiv (wrap64 (x8 * (rd x1 x10))) x5)) : List Int)).bind fun y577 => (stipendref01_Spread.l1 k x0 x1 x5 y577 x8 (wrap64 (x9 - (rd y577 x10))) (wrap64 (x10 + 1)))) else (none))) else (none)) else (if 0 ≤ (x1.length : Int) then (if ((x1.length : Int) : Int).toNat ≤ 281474976710656 then (stipendref01_Spread.l2 k x0 x1 x5 x7 x8 x9 (List.replicate ((x1.length : Int) : Int).toNat false)) else (none)) else (none))
def stipendref01_Spread.l2 : Nat → Int → List Int → Int → List Int → Int → Int → List Bool → Option (List Int)
 | 0, _, _, _, _, _, _, _ => none
 | k + 1, x0, x1, x5, x7, x8, x9, x11 => if x9 > 0 then (stipendref01_Spread.l3 k x0 x1 x5 x7 x8 x9 x11 (-1) 0) else (if x0 < 0 then (stipendref01_Spread.l4 k x7 0) else (some x7))
def stipendref01_Spread.l3 : Nat → Int → List Int → Int → List Int → Int → Int → List Bool → Int → Int → Option (List Int)
 | 0, _, _, _, _, _, _, _, _, _ => none
 | k + 1, x0, x1, x5, x7, x8, x9, x11, x12, x13 => if x13 < (x1.length : Int) then (if 0 ≤ x13 then (if x13 < (x11.length : Int) then (if rdOf false x11 x13 = true then (stipendref01_Spread.l3 k x0 x1 x5 x7 x8 x9 x11 x12 (wrap64 (x13 + 1))) else (if x12 < 0 then (stipendref01_Spread.l3 k x0 x1 x5 x7 x8 x9 x11 x13 (wrap64 (x13 + 1))) else (if x5 = 0 then (none) else (if 0 ≤ x12 then (if x12 < (x1.length : Int) then (if (Int.tmod (wrap64 (x8 * (rd x1 x13))) x5) > (Int.tmod (wrap64 (x8 * (rd x1 x12))) x5) then (stipendref01_Spread.l3 k x0 x1 x5 x7 x8 x9 x11 x13 (wrap64 (x13 + 1))) else (stipendref01_Spread.l3 k x0 x1 x5 x7 x8 x9 x11 x12 (wrap64 (x13 + 1)))) else (none)) else (none))))) else (none)) else (none)) else (if 0 ≤ x12 then (if x12 < (x11.length : Int) then (if x12 < (x7.length : Int) then (stipendref01_Spread.l2 k x0 x1 x5 (x7.set (x12 : Int).toNat (wrap64 ((rd x7 x12) + 1))) x8 (wrap64 (x9 - 1)) (x11.set (x12 : Int).toNat true)) else (none)) else (none)) else (none))
def stipendref01_Spread.l4 : Nat → List Int → Int → Option (List Int)
 | 0, _, _ => none
 | k + 1, x7, x14 => if x14 < (x7.length : Int) then (if 0 ≤ x14 then (stipendref01_Spread.l4 k (x7.set (x14 : Int).toNat (wrap64 (-(rd x7 x14)))) (wrap64 (x14 + 1))) else (none)) else (some x7)
end
def stipendref01_Spread.f (k : Nat) (a0 : Int) (l1 : List Int) : Option (List Int) := stipendref01_Spread.l0 k a0 l1 0 0
theorem stipendref01_Spread.mono_l : ∀ k, (∀ y0 y1 y2 y3, LeO (stipendref01_Spread.l0 k y0 y1 y2 y3) (stipendref01_Spread.l0 (k + 1) y0 y1 y2 y3)) ∧ (∀ y0 y1 y2 y3 y4, LeO (stipendref01_Spread.j1 k y0 y1 y2 y3 y4) (stipendref01_Spread.j1 (k + 1) y0 y1 y2 y3 y4)) ∧ (∀ y0 y1 y2 y3 y4 y5 y6, LeO (stipendref01_Spread.l1 k y0 y1 y2 y3 y4 y5 y6) (stipendref01_Spread.l1 (k + 1) y0 y1 y2 y3 y4 y5 y6)) ∧ (∀ y0 y1 y2 y3 y4 y5 y6, LeO (stipendref01_Spread.l2 k y0 y1 y2 y3 y4 y5 y6) (stipendref01_Spread.l2 (k + 1) y0 y1 y2 y3 y4 y5 y6)) ∧ (∀ y0 y1 y2 y3 y4 y5 y6 y7 y8, LeO (stipendref01_Spread.l3 k y0 y1 y2 y3 y4 y5 y6 y7 y8) (stipendref01_Spread.l3 (k + 1) y0 y1 y2 y3 y4 y5 y6 y7 y8)) ∧ (∀ y0 y1, LeO (stipendref01_Spread.l4 k y0 y1) (stipendref01_Spread.l4 (k + 1) y0 y1))
 | 0 => ⟨fun _ _ _ _ r h => by simp [stipendref01_Spread.l0] at h, fun _ _ _ _ _ r h => by simp [stipendref01_Spread.j1] at h, fun _ _ _ _ _ _ _ r h => by simp [stipendref01_Spread.l1] at h, fun _ _ _ _ _ _ _ r h => by simp [stipendref01_Spread.l2] at h, fun _ _ _ _ _ _ _ _ _ r h => by simp [stipendref01_Spread.l3] at h, fun _ _ r h => by simp [stipendref01_Spread.l4] at h⟩
 | k + 1 => by
  obtain ⟨ih0, ih1, ih2, ih3, ih4, ih5⟩ := stipendref01_Spread.mono_l k
  refine ⟨?_, ?_, ?_, ?_, ?_, ?_⟩
  ·intro y0 y1 y2 y3
   unfold stipendref01_Spread.l0
   repeat' first
   | (with_reducible exact ih0 _ _ _ _)
   | (with_reducible exact ih1 _ _ _ _ _)
   | (with_reducible exact ih2 _ _ _ _ _ _ _)
   | (with_reducible exact ih3 _ _ _ _ _ _ _)
   | (with_reducible exact ih4 _ _ _ _ _ _ _ _ _)
   | (with_reducible exact ih5 _ _)
   | (with_reducible exact LeO.refl _)
   | (with_reducible exact LeO.none _)
   | (with_reducible refine LeO.ite ?_ ?_)
   | (with_reducible refine LeO.bind ?_ (fun _ => ?_))
   | exact ih0 _ _ _ _
   | exact ih1 _ _ _ _ _
   | exact ih2 _ _ _ _ _ _ _
   | exact ih3 _ _ _ _ _ _ _
   | exact ih4 _ _ _ _ _ _ _ _ _
   | exact ih5 _ _
   | exact LeO.none _
   | refine LeO.ite ?_ ?_
   | refine LeO.bind ?_ (fun _ => ?_)
  ·intro y0 y1 y2 y3 y4
   unfold stipendref01_Spread.j1
   repeat' first
   | (with_reducible exact ih0 _ _ _ _)
   | (with_reducible exact ih1 _ _ _ _ _)
   | (with_reducible exact ih2 _ _ _ _ _ _ _)
   | (with_reducible exact ih3 _ _ _ _ _ _ _)
   | (with_reducible exact ih4 _ _ _ _ _ _ _ _ _)
   | (with_reducible exact ih5 _ _)
   | (with_reducible exact LeO.refl _)
   | (with_reducible exact LeO.none _)
   | (with_reducible refine LeO.ite ?_ ?_)
   | (with_reducible refine LeO.bind ?_ (fun _ => ?_))
   | exact ih0 _ _ _ _
   | exact ih1 _ _ _ _ _
   | exact ih2 _ _ _ _ _ _ _
   | exact ih3 _ _ _ _ _ _ _
   | exact ih4 _ _ _ _ _ _ _ _ _
   | exact ih5 _ _
   | exact LeO.none _
   | refine LeO.ite ?_ ?_
   | refine LeO.bind ?_ (fun _ => ?_)
  ·intro y0 y1 y2 y3 y4 y5 y6
   unfold stipendref01_Spread.l1
   repeat' first
   | (with_reducible exact ih0 _ _ _ _)
   | (with_reducible exact ih1 _ _ _ _ _)
   | (with_reducible exact ih2 _ _ _ _ _ _ _)
   | (with_reducible exact ih3 _ _ _ _ _ _ _)
   | (with_reducible exact ih4 _ _ _ _ _ _ _ _ _)
   | (with_reducible exact ih5 _ _)
   | (with_reducible exact LeO.refl _)
   | (with_reducible exact LeO.none _)
   | (with_reducible refine LeO.ite ?_ ?_)
   | (with_reducible refine LeO.bind ?_ (fun _ => ?_))
   | exact ih0 _ _ _ _
   | exact ih1 _ _ _ _ _
   | exact ih2 _ _ _ _ _ _ _
   | exact ih3 _ _ _ _ _ _ _
   | exact ih4 _ _ _ _ _ _ _ _ _
   | exact ih5 _ _
   | exact LeO.none _
   | refine LeO.ite ?_ ?_
   | refine LeO.bind ?_ (fun _ => ?_)
  ·intro y0 y1 y2 y3 y4 y5 y6
   unfold stipendref01_Spread.l2
   repeat' first
   | (with_reducible exact ih0 _ _ _ _)
   | (with_reducible exact ih1 _ _ _ _ _)
   | (with_reducible exact ih2 _ _ _ _ _ _ _)
   | (with_reducible exact ih3 _ _ _ _ _ _ _)
   | (with_reducible exact ih4 _ _ _ _ _ _ _ _ _)
   | (with_reducible exact ih5 _ _)
   | (with_reducible exact LeO.refl _)
   | (with_reducible exact LeO.none _)
   | (with_reducible refine LeO.ite ?_ ?_)
   | (with_reducible refine LeO.bind ?_ (fun _ => ?_))
   | exact ih0 _ _ _ _
   | exact ih1 _ _ _ _ _
   | exact ih2 _ _ _ _ _ _ _
   | exact ih3 _ _ _ _ _ _ _
   | exact ih4 _ _ _ _ _ _ _ _ _
   | exact ih5 _ _
   | exact LeO.none _
   | refine LeO.ite ?_ ?_
   | refine LeO.bind ?_ (fun _ => ?_)
  ·intro y0 y1 y2 y3 y4 y5 y6 y7 y8
   unfold stipendref01_Spread.l3
   repeat' first
   | (with_reducible exact ih0 _ _ _ _)
   | (with_reducible exact ih1 _ _ _ _ _)
   | (with_reducible exact ih2 _ _ _ _ _ _ _)
   | (with_reducible exact ih3 _ _ _ _ _ _ _)
   | (with_reducible exact ih4 _ _ _ _ _ _ _ _ _)
   | (with_reducible exact ih5 _ _)
   | (with_reducible exact LeO.refl _)
   | (with_reducible exact LeO.none _)
   | (with_reducible refine LeO.ite ?_ ?_)
   | (with_reducible refine LeO.bind ?_ (fun _ => ?_))
   | exact ih0 _ _ _ _
   | exact ih1 _ _ _ _ _
   | exact ih2 _ _ _ _ _ _ _
   | exact ih3 _ _ _ _ _ _ _
   | exact ih4 _ _ _ _ _ _ _ _ _
   | exact ih5 _ _
   | exact LeO.none _
   | refine LeO.ite ?_ ?_
   | refine LeO.bind ?_ (fun _ => ?_)
  ·intro y0 y1
   unfold stipendref01_Spread.l4
   repeat' first
   | (with_reducible exact ih0 _ _ _ _)
   | (with_reducible exact ih1 _ _ _ _ _)
   | (with_reducible exact ih2 _ _ _ _ _ _ _)
   | (with_reducible exact ih3 _ _ _ _ _ _ _)
   | (with_reducible exact ih4 _ _ _ _ _ _ _ _ _)
   | (with_reducible exact ih5 _ _)
   | (with_reducible exact LeO.refl _)
   | (with_reducible exact LeO.none _)
   | (with_reducible refine LeO.ite ?_ ?_)
   | (with_reducible refine LeO.bind ?_ (fun _ => ?_))
   | exact ih0 _ _ _ _
   | exact ih1 _ _ _ _ _
   | exact ih2 _ _ _ _ _ _ _
   | exact ih3 _ _ _ _ _ _ _
   | exact ih4 _ _ _ _ _ _ _ _ _
   | exact ih5 _ _
   | exact LeO.none _
   | refine LeO.ite ?_ ?_
   | refine LeO.bind ?_ (fun _ => ?_)
theorem stipendref01_Spread.mono : ∀ a0 a1 k, LeO (stipendref01_Spread.f k a0 a1) (stipendref01_Spread.f (k + 1) a0 a1) := by
 intro a0 a1 k
 obtain ⟨ih0, ih1, ih2, ih3, ih4, ih5⟩ := stipendref01_Spread.mono_l k
 unfold stipendref01_Spread.f
 repeat' first
   | (with_reducible exact ih0 _ _ _ _)
   | (with_reducible exact ih1 _ _ _ _ _)
   | (with_reducible exact ih2 _ _ _ _ _ _ _)
   | (with_reducible exact ih3 _ _ _ _ _ _ _)
   | (with_reducible exact ih4 _ _ _ _ _ _ _ _ _)
   | (with_reducible exact ih5 _ _)
   | (with_reducible exact LeO.refl _)
   | (with_reducible exact LeO.none _)
   | (with_reducible refine LeO.ite ?_ ?_)
   | (with_reducible refine LeO.bind ?_ (fun _ => ?_))
   | exact ih0 _ _ _ _
   | exact ih1 _ _ _ _ _
   | exact ih2 _ _ _ _ _ _ _
   | exact ih3 _ _ _ _ _ _ _
   | exact ih4 _ _ _ _ _ _ _ _ _
   | exact ih5 _ _
   | exact LeO.none _
   | refine LeO.ite ?_ ?_
   | refine LeO.bind ?_ (fun _ => ?_)
set_option maxHeartbeats 8000000 in
set_option maxRecDepth 100000 in
theorem stipendref01_Spread.calls (k : Nat) (a0 : Int) (A1 : Option Addr) (c1 : Nat) (l1 : List Int) (r : List Int) (w : World) (hr1 : Kd.C (Kd.int .i64) w A1 l1.length l1) (hc1 : l1.length ≤ c1) (h : stipendref01_Spread.f k a0 l1 = some r) :
  Calls Tryd.prog 63 #[.int .i64 a0, .slice A1 l1.length c1] w fun e w' => ∃ v0_ : Value, e = .returned (v0_) ∧ Kd.R (Kd.int .i64) 2 w' w.heap.size (fun _ => True) v0_ r ∧ Below w.heap.size w w' := by
 have HR1 := Aside0.mk hr1
 have HC1 := Aside0.mk hc1
 clear hr1 hc1
 have HB := Aside0.mk (Below.refl w.heap.size w)
 have H : (stipendref01_Spread.l0 k a0 l1 0 0) = some r := h
 clear h
 have H' := Aside0.mk H
 clear H
 go_enter Tryd.func63, Tryd.ntmps63
 go_wp2
 repeat (go_quiet (fail); try go_wp2)
 go_loopg [5, 6] k (fun kq v5 v6 w' => ∃ (x5_1 : Int) (x6_1 : Int), v5 = .int .i64 x5_1 ∧ v6 = .int .i64 x6_1 ∧ Aside0 (stipendref01_Spread.l0 kq a0 l1 x5_1 x6_1 = some r) ∧ Aside0 (kq ≤ k) ∧ Aside0 (Below w.heap.size w w'))
 case atStart => exact ⟨(0), (0), (by first | rfl | (simp; done) | (simp [*]; done)), (by first | rfl | (simp; done) | (simp [*]; done)), H', ⟨Nat.le_refl _⟩, ⟨by repeat (first | (with_reducible first | exact HB.out | apply below_alloc | apply pw_below_drewN | apply below_drew1) | exact HB.out)⟩⟩
 case round =>
  clear H'
  try clear c1
  try clear p2
  obtain ⟨x5_1, x6_1, rfl, rfl, HA, HK1, HB⟩ := hrel
  cases gk with
  | zero => exact absurd HA.out (by simp [stipendref01_Spread.l0])
  | succ k1 =>
   have H := HA.out
   clear HA
   simp only [stipendref01_Spread.l0] at H
   by_cases c3 : x6_1 < (l1.length : Int)
   ·rw [if_pos c3] at H
    have c3b0 : decide (x6_1 < (l1.length : Int)) = true := decide_eq_true c3
    clear c3
    by_cases c4 : 0 ≤ x6_1
    ·rw [if_pos c4] at H
     have c4b0 : decide (0 ≤ x6_1) = true := decide_eq_true c4
     clear c4
     have H' := Aside0.mk H
     clear H
     have p572 : 0 ≤ (x6_1 : Int) := of_decide_eq_true (by first | (with_reducible assumption) | assumption)
     have q572 : x6_1 < (l1.length : Int) := of_decide_eq_true (by first | (with_reducible assumption) | assumption)
     obtain ⟨ad572, e572, hx572_0⟩ := Kd.at_int HR1.out x6_1 p572 q572
     cases e572
     replace hx572_0 := (HB.out.cell (World.block_lt_of_cell? w _ hx572_0)).trans hx572_0
     replace p572 := eq_true p572
     replace q572 := eq_true q572
     go_wp2
     repeat (go_quiet (fail); try go_wp2)
     go_roundg k1
     case measure => have := HK1.out; omega
     case rel => exact ⟨(wrap64 (x5_1 + (rd l1 x6_1))), (wrap64 (x6_1 + 1)), (by first | rfl | (simp; done) | (simp [*]; done)), (by first | rfl | (simp; done) | (simp [*]; done)), H', ⟨by have := HK1.out; omega⟩, ⟨by repeat (first | (with_reducible first | exact HB.out | apply below_alloc | apply pw_below_drewN | apply below_drew1) | exact HB.out)⟩⟩
    ·rw [if_neg c4] at H
     exact absurd H (by simp)
   ·rw [if_neg c3] at H
    have c3b0 : decide (x6_1 < (l1.length : Int)) = false := decide_eq_false c3
    clear c3
    by_cases c5 : 0 ≤ (l1.length : Int)
    ·rw [if_pos c5] at H
     have c5b0 := eq_true c5
     have c5b1 : decide (0 ≤ (l1.length : Int)) = true := decide_eq_true c5
     clear c5
     by_cases c6 : ((l1.length : Int) : Int).toNat ≤ 35184372088832
     ·rw [if_pos c6] at H
      have c6b0 := eq_true c6
      have c6b1 : decide (((l1.length : Int) : Int).toNat ≤ 35184372088832) = true := decide_eq_true c6
      clear c6
      obtain ⟨y573, hy573⟩ : ∃ y_ : List Int, y_ = (List.replicate ((l1.length : Int) : Int).toNat 0) := ⟨_, rfl⟩
      replace H : (if a0 < 0 then (stipendref01_Spread.j1 k1 a0 l1 x5_1 y573 (wrap64 (-a0))) else (stipendref01_Spread.j1 k1 a0 l1 x5_1 y573 a0)) = some r := by first | (rw [hy573]; with_reducible exact H) | (have H2_ := (Option.bind_some _ _).symm.trans H; rw [hy573]; with_reducible exact H2_) | (have H2_ := (Option.bind_some _ _).symm.trans H; with_reducible exact H2_) | with_reducible exact H | (rw [hy573]; exact H) | exact H
      have Ny573 := Aside0.mk hy573
      clear hy573
      have HC7 := Aside0.mk H
      clear H
      go_upto_if 32 with (first | ((with_reducible refine gate_dst (N := 29) rfl ?_); refine Kd.R_make (Kd.int .i64) _ 2 rfl (N := 29) rfl 56 _ _ rfl (l1.length : Int) rfl rfl Tryd.underlying56 (.int .i64 0) 8 info2 rfl (by decide) (by omega) 0 (ok := fun _ => True) (okp := fun _ => True) rfl (fun _ hk => hk) trivial (of_decide_eq_true (by first | (with_reducible assumption) | assumption)) (Nat.le_trans (Nat.mul_le_mul_right _ (of_decide_eq_true (by first | (with_reducible assumption) | assumption) : (l1.length : Int).toNat ≤ 35184372088832)) (by omega)) (Below.refl _ _) (Nat.le_refl _) ?_; intro v574 w8 ho9 hb hg_ hnew_; clear hg_ hnew_; (first | rw [← Ny573.out] at ho9 | (simp only [Int.reduceToNat] at ho9; rw [← Ny573.out] at ho9)); have n0_ := Aside0.mk (Kd.R_lower ho9 (below_size (by repeat (first | (with_reducible first | exact HB.out | apply below_alloc | apply pw_below_drewN | apply below_drew1) | exact HB.out)))); have n1_ := Aside0.mk (below_step (by repeat (first | (with_reducible first | exact HB.out | apply below_alloc | apply pw_below_drewN | apply below_drew1) | exact HB.out)) hb); clear HB; have HO575 := n0_; have HB := n1_; clear n0_ n1_; clear hb ho9))
      repeat (go_quiet (first | ((with_reducible refine gate_dst (N := 29) rfl ?_); refine Kd.R_make (Kd.int .i64) _ 2 rfl (N := 29) rfl 56 _ _ rfl (l1.length : Int) rfl rfl Tryd.underlying56 (.int .i64 0) 8 info2 rfl (by decide) (by omega) 0 (ok := fun _ => True) (okp := fun _ => True) rfl (fun _ hk => hk) trivial (of_decide_eq_true (by first | (with_reducible assumption) | assumption)) (Nat.le_trans (Nat.mul_le_mul_right _ (of_decide_eq_true (by first | (with_reducible assumption) | assumption) : (l1.length : Int).toNat ≤ 35184372088832)) (by omega)) (Below.refl _ _) (Nat.le_refl _) ?_; intro v574 w8 ho9 hb hg_ hnew_; clear hg_ hnew_; (first | rw [← Ny573.out] at ho9 | (simp only [Int.reduceToNat] at ho9; rw [← Ny573.out] at ho9)); have n0_ := Aside0.mk (Kd.R_lower ho9 (below_size (by repeat (first | (with_reducible first | exact HB.out | apply below_alloc | apply pw_below_drewN | apply below_drew1) | exact HB.out)))); have n1_ := Aside0.mk (below_step (by repeat (first | (with_reducible first | exact HB.out | apply below_alloc | apply pw_below_drewN | apply below_drew1) | exact HB.out)) hb); clear HB; have HO575 := n0_; have HB := n1_; clear n0_ n1_; clear hb ho9)); go_upto_if 32 with (first | ((with_reducible refine gate_dst (N := 29) rfl ?_); refine Kd.R_make (Kd.int .i64) _ 2 rfl (N := 29) rfl 56 _ _ rfl (l1.length : Int) rfl rfl Tryd.underlying56 (.int .i64 0) 8 info2 rfl (by decide) (by omega) 0 (ok := fun _ => True) (okp := fun _ => True) rfl (fun _ hk => hk) trivial (of_decide_eq_true (by first | (with_reducible assumption) | assumption)) (Nat.le_trans (Nat.mul_le_mul_right _ (of_decide_eq_true (by first | (with_reducible assumption) | assumption) : (l1.length : Int).toNat ≤ 35184372088832)) (by omega)) (Below.refl _ _) (Nat.le_refl _) ?_; intro v574 w8 ho9 hb hg_ hnew_; clear hg_ hnew_; (first | rw [← Ny573.out] at ho9 | (simp only [Int.reduceToNat] at ho9; rw [← Ny573.out] at ho9)); have n0_ := Aside0.mk (Kd.R_lower ho9 (below_size (by repeat (first | (with_reducible first | exact HB.out | apply below_alloc | apply pw_below_drewN | apply below_drew1) | exact HB.out)))); have n1_ := Aside0.mk (below_step (by repeat (first | (with_reducible first | exact HB.out | apply below_alloc | apply pw_below_drewN | apply below_drew1) | exact HB.out)) hb); clear HB; have HO575 := n0_; have HB := n1_; clear n0_ n1_; clear hb ho9)))
      (try simp only [Act.put, List.setIfInBounds_toArray, List.set_cons_zero, List.set_cons_succ])
      go_cut [8] (fun v8 wc => ∃ (kq : Nat) (x8_6 : Int), v8 = .int .i64 x8_6 ∧ Aside0 (stipendref01_Spread.j1 kq a0 l1 x5_1 y573 x8_6 = some r) ∧ Aside0 (kq ≤ k1) ∧ Aside0 (Kd.R (Kd.int .i64) 2 wc w.heap.size (fun _ => True) v574 y573) ∧ Aside0 (Below w.heap.size w wc))
      case first =>
       have H := HC7.out
       clear HC7
       by_cases c10 : a0 < 0
       ·rw [if_pos c10] at H
        have c10b0 : decide (a0 < 0) = true := decide_eq_true c10
        clear c10
        (first | rw [c10b0] | (simp only [i64_w, i32_w]; rw [c10b0]) | skip)
        have H' := Aside0.mk H
        clear H
        go_wp2
        repeat (go_quiet (fail); try go_wp2)
        go_meet
        case rel => exact ⟨_, (wrap64 (-a0)), (by first | rfl | (simp; done) | (simp [*]; done)), H', ⟨by have := HK1.out; first | omega | exact Nat.le_refl _⟩, ⟨by (with_reducible repeat (first | apply Kd.R_alloc | apply Kd.R_drewN | apply Kd.R_drew)); exact HO575.out⟩, ⟨by repeat (first | (with_reducible first | exact HB.out | apply below_alloc | apply pw_below_drewN | apply below_drew1) | exact HB.out)⟩⟩
       ·rw [if_neg c10] at H
        have c10b0 : decide (a0 < 0) = false := decide_eq_false c10
        clear c10
        (first | rw [c10b0] | (simp only [i64_w, i32_w]; rw [c10b0]) | skip)
        have H' := Aside0.mk H
        clear H
        go_wp2
        repeat (go_quiet (fail); try go_wp2)
        go_meet
        case rel => exact ⟨_, (a0), (by first | rfl | (simp; done) | (simp [*]; done)), H', ⟨by have := HK1.out; first | omega | exact Nat.le_refl _⟩, ⟨by (with_reducible repeat (first | apply Kd.R_alloc | apply Kd.R_drewN | apply Kd.R_drew)); exact HO575.out⟩, ⟨by repeat (first | (with_reducible first | exact HB.out | apply below_alloc | apply pw_below_drewN | apply below_drew1) | exact HB.out)⟩⟩
      case rest =>
       clear HC7
       try clear c1
       try clear p2
       try clear c3
       try clear c3b0
       try clear c4
       try clear c4b0
       try clear c5
       try clear c5b0
       try clear c5b1
       try clear p5
       try clear q5
       try clear hx5
       try clear c6
       try clear c6b0
       try clear c6b1
       try clear p6
       try clear c10
       try clear c10b0
       try clear hx572_0
       try clear p2
       try clear p572
       try clear q572
       obtain ⟨kq, x8_6, rfl, HA, HJ6, HO_7, HB⟩ := hcut
       cases kq with
       | zero => exact absurd HA.out (by simp [stipendref01_Spread.j1])
       | succ kj6 =>
        have H := HA.out
        clear HA
        simp only [stipendref01_Spread.j1] at H
        have H' := Aside0.mk H
        clear H
        go_wp2
        repeat (go_quiet (fail); try go_wp2)
        go_loopg [9, 10] kj6 (fun kq v9 v10 w' => ∃ (x7_3 : List Int) (x9_3 : Int) (x10_3 : Int), v9 = .int .i64 x9_3 ∧ v10 = .int .i64 x10_3 ∧ Aside0 (stipendref01_Spread.l1 kq a0 l1 x5_1 x7_3 x8_6 x9_3 x10_3 = some r) ∧ Aside0 (kq ≤ kj6) ∧ Aside0 (Kd.R (Kd.int .i64) 2 w' w.heap.size (fun _ => True) v574 x7_3) ∧ Aside0 (Below w.heap.size w w'))
        case atStart => exact ⟨(y573), (x8_6), (0), (by first | rfl | (simp; done) | (simp [*]; done)), (by first | rfl | (simp; done) | (simp [*]; done)), H', ⟨Nat.le_refl _⟩, ⟨by (with_reducible repeat (first | apply Kd.R_alloc | apply Kd.R_drewN | apply Kd.R_drew)); exact HO_7.out⟩, ⟨by repeat (first | (with_reducible first | exact HB.out | apply below_alloc | apply pw_below_drewN | apply below_drew1) | exact HB.out)⟩⟩
        case round =>
         clear H'
         try clear c1
         try clear p2
         try clear c3
         try clear c3b0
         try clear c4
         try clear c4b0
         try clear c5
         try clear c5b0
         try clear c5b1
         try clear p5
         try clear q5
         try clear hx5
         try clear c6
         try clear c6b0
         try clear c6b1
         try clear p6
         try clear c10
         try clear c10b0
         try clear hx572_0
         try clear p2
         try clear p5
         try clear p572
         try clear p6
         try clear q5
         try clear q572
         obtain ⟨x7_3, x9_3, x10_3, rfl, rfl, HA, HK3, HO_7, HB⟩ := hrel
         cases gk with
         | zero => exact absurd HA.out (by simp [stipendref01_Spread.l1])
         | succ k3 =>
          have H := HA.out
          clear HA
          simp only [stipendref01_Spread.l1] at H
          by_cases c11 : x10_3 < (l1.length : Int)
          ·rw [if_pos c11] at H
           have c11b0 : decide (x10_3 < (l1.length : Int)) = true := decide_eq_true c11
           clear c11
           by_cases c12 : 0 ≤ x10_3
           ·rw [if_pos c12] at H
            have c12b0 : decide (0 ≤ x10_3) = true := decide_eq_true c12
            clear c12
            by_cases c13 : x5_1 = 0
            ·rw [if_pos c13] at H
             exact absurd H (by simp)
            ·rw [if_neg c13] at H
             have c13b0 : (x5_1 == 0) = false := beq_eq_false_iff_ne.mpr c13
             have c13b1 : (x5_1 != 0) = true := bne_iff_ne.mpr c13
             by_cases c14 : x10_3 < (x7_3.length : Int)
             ·rw [if_pos c14] at H
              have c14b0 : decide (x10_3 < (x7_3.length : Int)) = true := decide_eq_true c14
              clear c14
              obtain ⟨y577, hy577⟩ : ∃ y_ : List Int, y_ = (x7_3.set (x10_3 : Int).toNat (wrap64 (Int.tdiv (wrap64 (x8_6 * (rd l1 x10_3))) x5_1))) := ⟨_, rfl⟩
              replace H : (stipendref01_Spread.l1 k3 a0 l1 x5_1 y577 x8_6 (wrap64 (x9_3 - (rd y577 x10_3))) (wrap64 (x10_3 + 1))) = some r := by first | (rw [hy577]; with_reducible exact H) | (have H2_ := (Option.bind_some _ _).symm.trans H; rw [hy577]; with_reducible exact H2_) | (have H2_ := (Option.bind_some _ _).symm.trans H; with_reducible exact H2_) | with_reducible exact H | (rw [hy577]; exact H) | exact H
              have Ny577 := Aside0.mk hy577
              clear hy577
              have H' := Aside0.mk H
              clear H
              have p576 : 0 ≤ (x10_3 : Int) := of_decide_eq_true (by first | (with_reducible assumption) | assumption)
              have q576 : x10_3 < (l1.length : Int) := of_decide_eq_true (by first | (with_reducible assumption) | assumption)
              obtain ⟨ad576, e576, hx576_0⟩ := Kd.at_int HR1.out x10_3 p576 q576
              cases e576
              replace hx576_0 := (HB.out.cell (World.block_lt_of_cell? w _ hx576_0)).trans hx576_0
              replace p576 := eq_true p576
              replace q576 := eq_true q576
              have p15 : 0 ≤ (x10_3 : Int) := of_decide_eq_true (by first | (with_reducible assumption) | assumption)
              have q15 : (x10_3 : Int) < ((x7_3.length : Int) : Int) := of_decide_eq_true (by first | (with_reducible assumption) | assumption)
              obtain ⟨go15, co15, eo15, gb15, gl15, cl15, HG15⟩ := Kd.R_form HO_7.out (by omega)
              (first | cases eo15 | (injection eo15 with ea_ en_ ec_; (first | subst ea_ | (injection ea_ with ea_; subst ea_)); subst ec_; clear en_))
              have GB15 := Aside0.mk gb15
              have GG15 := Aside0.mk HG15
              clear gb15 gl15 HG15
              obtain ⟨hx15_0, hf15_0⟩ := Kd.R_celln 0 HO_7.out (x10_3 : Int) p15 q15
              replace p15 := eq_true p15
              replace q15 := eq_true q15
              have HP16 := Kd.R_putg HO_7.out (x10_3 : Int) (wrap64 (Int.tdiv (wrap64 (x8_6 * (rd l1 x10_3))) x5_1))
              go_wp2_with (first | ((with_reducible refine gate_store (t := 2) (p := 52) rfl ?_); (try (rw [drewN_self wr]; generalize hq_ : World.drewN wr _ = wr; have n0_ := Aside0.mk (Kd.R_at hq_ HO_7.out); have n1_ := Aside0.mk (below_at hq_ HB.out); clear hq_ HO_7 HB; have HO_7 := n0_; have HB := n1_; clear n0_ n1_; (try (have HP16 := Kd.R_putg HO_7.out (x10_3 : Int) (wrap64 (Int.tdiv (wrap64 (x8_6 * (rd l1 x10_3))) x5_1)))))); refine store_event (t := 2) (p := 52) (v := ?vo_w17) (w1 := (wr.setCell ⟨go15, (x10_3 : Int).toNat, none⟩ (.int .i64 (wrap64 (Int.tdiv (wrap64 (x8_6 * (rd l1 x10_3))) x5_1))))) ?hg ?ho ?hn ?hr ?_; (case ho => rfl); (case hg => rfl); (case hn => rfl); (case hr => first | (go_simp; done) | (go_simp; rfl)); intro w17 hw; have hg : wr.grownBy w17 (some go15) := (by rw [hw]; exact HP16.2); have hp_ : Kd.R (Kd.int .i64) 2 w17 w.heap.size (fun _ => True) (.slice (some ⟨go15, 0, none⟩) x7_3.length co15) y577 := (by rw [hw, Ny577.out]; exact HP16.1); clear HP16; have n0_ := Aside0.mk (hp_); have n1_ := Aside0.mk ((by rw [hw]; exact below_set (HB.out) GB15.out : Below w.heap.size w w17)); clear HO_7; clear HB; have HO_7 := n0_; have HB := n1_; clear n0_ n1_; clear hg hw hp_; have p578 : 0 ≤ (x10_3 : Int) := of_decide_eq_true (by first | (with_reducible assumption) | assumption); have q578 : x10_3 < (y577.length : Int) := (by have h_ : (x10_3 : Int) < ((x7_3.length : Int) : Int) := of_decide_eq_true (by first | (with_reducible assumption) | assumption); first | (have e_ := (Kd.R_reads' HO_7.out).1; omega) | simpa only [Ny577.out, List.length_set] using h_); have ql578 : ((x10_3 : Int) < ((x7_3.length : Int) : Int)) = True := eq_true (of_decide_eq_true (by first | (with_reducible assumption) | assumption)); obtain ⟨ad578, e578, hx578_0⟩ := Kd.at_int (Kd.R_reads' HO_7.out).2.2 x10_3 p578 q578; obtain rfl : (⟨go15, 0, none⟩ : Addr) = ad578 := (by injection e578); (first | simp only [add_plain] at hx578_0 | simp only [add_at] at hx578_0 | simp only [Addr.add, Nat.zero_add] at hx578_0 | skip); replace p578 := eq_true p578; replace q578 := eq_true q578))
              repeat (go_quiet (first | ((with_reducible refine gate_store (t := 2) (p := 52) rfl ?_); (try (rw [drewN_self wr]; generalize hq_ : World.drewN wr _ = wr; have n0_ := Aside0.mk (Kd.R_at hq_ HO_7.out); have n1_ := Aside0.mk (below_at hq_ HB.out); clear hq_ HO_7 HB; have HO_7 := n0_; have HB := n1_; clear n0_ n1_; (try (have HP16 := Kd.R_putg HO_7.out (x10_3 : Int) (wrap64 (Int.tdiv (wrap64 (x8_6 * (rd l1 x10_3))) x5_1)))))); refine store_event (t := 2) (p := 52) (v := ?vo_w17) (w1 := (wr.setCell ⟨go15, (x10_3 : Int).toNat, none⟩ (.int .i64 (wrap64 (Int.tdiv (wrap64 (x8_6 * (rd l1 x10_3))) x5_1))))) ?hg ?ho ?hn ?hr ?_; (case ho => rfl); (case hg => rfl); (case hn => rfl); (case hr => first | (go_simp; done) | (go_simp; rfl)); intro w17 hw; have hg : wr.grownBy w17 (some go15) := (by rw [hw]; exact HP16.2); have hp_ : Kd.R (Kd.int .i64) 2 w17 w.heap.size (fun _ => True) (.slice (some ⟨go15, 0, none⟩) x7_3.length co15) y577 := (by rw [hw, Ny577.out]; exact HP16.1); clear HP16; have n0_ := Aside0.mk (hp_); have n1_ := Aside0.mk ((by rw [hw]; exact below_set (HB.out) GB15.out : Below w.heap.size w w17)); clear HO_7; clear HB; have HO_7 := n0_; have HB := n1_; clear n0_ n1_; clear hg hw hp_; have p578 : 0 ≤ (x10_3 : Int) := of_decide_eq_true (by first | (with_reducible assumption) | assumption); have q578 : x10_3 < (y577.length : Int) := (by have h_ : (x10_3 : Int) < ((x7_3.length : Int) : Int) := of_decide_eq_true (by first | (with_reducible assumption) | assumption); first | (have e_ := (Kd.R_reads' HO_7.out).1; omega) | simpa only [Ny577.out, List.length_set] using h_); have ql578 : ((x10_3 : Int) < ((x7_3.length : Int) : Int)) = True := eq_true (of_decide_eq_true (by first | (with_reducible assumption) | assumption)); obtain ⟨ad578, e578, hx578_0⟩ := Kd.at_int (Kd.R_reads' HO_7.out).2.2 x10_3 p578 q578; obtain rfl : (⟨go15, 0, none⟩ : Addr) = ad578 := (by injection e578); (first | simp only [add_plain] at hx578_0 | simp only [add_at] at hx578_0 | simp only [Addr.add, Nat.zero_add] at hx578_0 | skip); replace p578 := eq_true p578; replace q578 := eq_true q578)); try go_wp2_with (first | ((with_reducible refine gate_store (t := 2) (p := 52) rfl ?_); (try (rw [drewN_self wr]; generalize hq_ : World.drewN wr _ = wr; have n0_ := Aside0.mk (Kd.R_at hq_ HO_7.out); have n1_ := Aside0.mk (below_at hq_ HB.out); clear hq_ HO_7 HB; have HO_7 := n0_; have HB := n1_; clear n0_ n1_; (try (have HP16 := Kd.R_putg HO_7.out (x10_3 : Int) (wrap64 (Int.tdiv (wrap64 (x8_6 * (rd l1 x10_3))) x5_1)))))); refine store_event (t := 2) (p := 52) (v := ?vo_w17) (w1 := (wr.setCell ⟨go15, (x10_3 : Int).toNat, none⟩ (.int .i64 (wrap64 (Int.tdiv (wrap64 (x8_6 * (rd l1 x10_3))) x5_1))))) ?hg ?ho ?hn ?hr ?_; (case ho => rfl); (case hg => rfl); (case hn => rfl); (case hr => first | (go_simp; done) | (go_simp; rfl)); intro w17 hw; have hg : wr.grownBy w17 (some go15) := (by rw [hw]; exact HP16.2); have hp_ : Kd.R (Kd.int .i64) 2 w17 w.heap.size (fun _ => True) (.slice (some ⟨go15, 0, none⟩) x7_3.length co15) y577 := (by rw [hw, Ny577.out]; exact HP16.1); clear HP16; have n0_ := Aside0.mk (hp_); have n1_ := Aside0.mk ((by rw [hw]; exact below_set (HB.out) GB15.out : Below w.heap.size w w17)); clear HO_7; clear HB; have HO_7 := n0_; have HB := n1_; clear n0_ n1_; clear hg hw hp_; have p578 : 0 ≤ (x10_3 : Int) := of_decide_eq_true (by first | (with_reducible assumption) | assumption); have q578 : x10_3 < (y577.length : Int) := (by have h_ : (x10_3 : Int) < ((x7_3.length : Int) : Int) := of_decide_eq_true (by first | (with_reducible assumption) | assumption); first | (have e_ := (Kd.R_reads' HO_7.out).1; omega) | simpa only [Ny577.out, List.length_set] using h_); have ql578 : ((x10_3 : Int) < ((x7_3.length : Int) : Int)) = True := eq_true (of_decide_eq_true (by first | (with_reducible assumption) | assumption)); obtain ⟨ad578, e578, hx578_0⟩ := Kd.at_int (Kd.R_reads' HO_7.out).2.2 x10_3 p578 q578; obtain rfl : (⟨go15, 0, none⟩ : Addr) = ad578 := (by injection e578); (first | simp only [add_plain] at hx578_0 | simp only [add_at] at hx578_0 | simp only [Addr.add, Nat.zero_add] at hx578_0 | skip); replace p578 := eq_true p578; replace q578 := eq_true q578)))
              go_roundg k3
              case measure => have := HK1.out; have := HJ6.out; have := HK3.out; omega
              case rel => exact ⟨(y577), (wrap64 (x9_3 - (rd y577 x10_3))), (wrap64 (x10_3 + 1)), (by first | rfl | (simp; done) | (simp [*]; done)), (by first | rfl | (simp; done) | (simp [*]; done)), H', ⟨by have := HK1.out; have := HJ6.out; have := HK3.out; omega⟩, ⟨by (with_reducible repeat (first | apply Kd.R_alloc | apply Kd.R_drewN | apply Kd.R_drew)); exact HO_7.out⟩, ⟨by repeat (first | (with_reducible first | exact HB.out | apply below_alloc | apply pw_below_drewN | apply below_drew1) | exact HB.out)⟩⟩
             ·rw [if_neg c14] at H
              exact absurd H (by simp)
           ·rw [if_neg c12] at H
            exact absurd H (by simp)
          ·rw [if_neg c11] at H
           have c11b0 : decide (x10_3 < (l1.length : Int)) = false := decide_eq_false c11
           clear c11
           by_cases c18 : 0 ≤ (l1.length : Int)
           ·rw [if_pos c18] at H
            have c18b0 := eq_true c18
            have c18b1 : decide (0 ≤ (l1.length : Int)) = true := decide_eq_true c18
            clear c18
            by_cases c19 : ((l1.length : Int) : Int).toNat ≤ 281474976710656
            ·rw [if_pos c19] at H
             have c19b0 := eq_true c19
             have c19b1 : decide (((l1.length : Int) : Int).toNat ≤ 281474976710656) = true := decide_eq_true c19
             clear c19
             obtain ⟨y579, hy579⟩ : ∃ y_ : List Bool, y_ = (List.replicate ((l1.length : Int) : Int).toNat false) := ⟨_, rfl⟩
             replace H : (stipendref01_Spread.l2 k3 a0 l1 x5_1 x7_3 x8_6 x9_3 y579) = some r := by first | (rw [hy579]; with_reducible exact H) | (have H2_ := (Option.bind_some _ _).symm.trans H; rw [hy579]; with_reducible exact H2_) | (have H2_ := (Option.bind_some _ _).symm.trans H; with_reducible exact H2_) | with_reducible exact H | (rw [hy579]; exact H) | exact H
             have Ny579 := Aside0.mk hy579
             clear hy579
             have H' := Aside0.mk H
             clear H
             go_wp2_with (first | ((with_reducible refine gate_dst (N := 61) rfl ?_); refine Kd.R_make Kd.bool _ 4 rfl (N := 61) rfl 146 _ _ rfl (l1.length : Int) rfl rfl Tryd.underlying146 (.bool false) 1 info4 rfl (by decide) (by omega) false (ok := fun _ => True) (okp := fun _ => True) rfl (fun _ hk => hk) trivial (of_decide_eq_true (by first | (with_reducible assumption) | assumption)) (Nat.le_trans (Nat.mul_le_mul_right _ (of_decide_eq_true (by first | (with_reducible assumption) | assumption) : (l1.length : Int).toNat ≤ 281474976710656)) (by omega)) (Below.refl _ _) (Nat.le_refl _) ?_; intro v580 w20 ho21 hb hg_ hnew_; clear hg_ hnew_; (first | rw [← Ny579.out] at ho21 | (simp only [Int.reduceToNat] at ho21; rw [← Ny579.out] at ho21)); have n0_ := Aside0.mk (Kd.R_below (by (with_reducible repeat (first | apply Kd.R_alloc | apply Kd.R_drewN | apply Kd.R_drew)); exact HO_7.out) hb); have n1_ := Aside0.mk (Kd.R_lower ho21 (below_size (by repeat (first | (with_reducible first | exact HB.out | apply below_alloc | apply pw_below_drewN | apply below_drew1) | exact HB.out)))); have n2_ := Aside0.mk (below_step (by repeat (first | (with_reducible first | exact HB.out | apply below_alloc | apply pw_below_drewN | apply below_drew1) | exact HB.out)) hb); clear HO_7; clear HB; have HO_7 := n0_; have HO581 := n1_; have HB := n2_; clear n0_ n1_ n2_; clear hb ho21))
             repeat (go_quiet (first | ((with_reducible refine gate_dst (N := 61) rfl ?_); refine Kd.R_make Kd.bool _ 4 rfl (N := 61) rfl 146 _ _ rfl (l1.length : Int) rfl rfl Tryd.underlying146 (.bool false) 1 info4 rfl (by decide) (by omega) false (ok := fun _ => True) (okp := fun _ => True) rfl (fun _ hk => hk) trivial (of_decide_eq_true (by first | (with_reducible assumption) | assumption)) (Nat.le_trans (Nat.mul_le_mul_right _ (of_decide_eq_true (by first | (with_reducible assumption) | assumption) : (l1.length : Int).toNat ≤ 281474976710656)) (by omega)) (Below.refl _ _) (Nat.le_refl _) ?_; intro v580 w20 ho21 hb hg_ hnew_; clear hg_ hnew_; (first | rw [← Ny579.out] at ho21 | (simp only [Int.reduceToNat] at ho21; rw [← Ny579.out] at ho21)); have n0_ := Aside0.mk (Kd.R_below (by (with_reducible repeat (first | apply Kd.R_alloc | apply Kd.R_drewN | apply Kd.R_drew)); exact HO_7.out) hb); have n1_ := Aside0.mk (Kd.R_lower ho21 (below_size (by repeat (first | (with_reducible first | exact HB.out | apply below_alloc | apply pw_below_drewN | apply below_drew1) | exact HB.out)))); have n2_ := Aside0.mk (below_step (by repeat (first | (with_reducible first | exact HB.out | apply below_alloc | apply pw_below_drewN | apply below_drew1) | exact HB.out)) hb); clear HO_7; clear HB; have HO_7 := n0_; have HO581 := n1_; have HB := n2_; clear n0_ n1_ n2_; clear hb ho21)); try go_wp2_with (first | ((with_reducible refine gate_dst (N := 61) rfl ?_); refine Kd.R_make Kd.bool _ 4 rfl (N := 61) rfl 146 _ _ rfl (l1.length : Int) rfl rfl Tryd.underlying146 (.bool false) 1 info4 rfl (by decide) (by omega) false (ok := fun _ => True) (okp := fun _ => True) rfl (fun _ hk => hk) trivial (of_decide_eq_true (by first | (with_reducible assumption) | assumption)) (Nat.le_trans (Nat.mul_le_mul_right _ (of_decide_eq_true (by first | (with_reducible assumption) | assumption) : (l1.length : Int).toNat ≤ 281474976710656)) (by omega)) (Below.refl _ _) (Nat.le_refl _) ?_; intro v580 w20 ho21 hb hg_ hnew_; clear hg_ hnew_; (first | rw [← Ny579.out] at ho21 | (simp only [Int.reduceToNat] at ho21; rw [← Ny579.out] at ho21)); have n0_ := Aside0.mk (Kd.R_below (by (with_reducible repeat (first | apply Kd.R_alloc | apply Kd.R_drewN | apply Kd.R_drew)); exact HO_7.out) hb); have n1_ := Aside0.mk (Kd.R_lower ho21 (below_size (by repeat (first | (with_reducible first | exact HB.out | apply below_alloc | apply pw_below_drewN | apply below_drew1) | exact HB.out)))); have n2_ := Aside0.mk (below_step (by repeat (first | (with_reducible first | exact HB.out | apply below_alloc | apply pw_below_drewN | apply below_drew1) | exact HB.out)) hb); clear HO_7; clear HB; have HO_7 := n0_; have HO581 := n1_; have HB := n2_; clear n0_ n1_ n2_; clear hb ho21)))
             go_loopg [9] k3 (fun kq v9 w' => ∃ (x7_4 : List Int) (x9_4 : Int) (x11_4 : List Bool), v9 = .int .i64 x9_4 ∧ Aside0 (stipendref01_Spread.l2 kq a0 l1 x5_1 x7_4 x8_6 x9_4 x11_4 = some r) ∧ Aside0 (kq ≤ k3) ∧ Aside0 (Kd.R (Kd.int .i64) 2 w' w.heap.size (fun _ => True) v574 x7_4) ∧ Aside0 (Kd.R Kd.bool 4 w' w.heap.size (fun _ => True) v580 x11_4) ∧ Aside0 (Below w.heap.size w w'))
             case atStart => exact ⟨(x7_3), (x9_3), (y579), (by first | rfl | (simp; done) | (simp [*]; done)), H', ⟨Nat.le_refl _⟩, ⟨by (with_reducible repeat (first | apply Kd.R_alloc | apply Kd.R_drewN | apply Kd.R_drew)); exact HO_7.out⟩, ⟨by (with_reducible repeat (first | apply Kd.R_alloc | apply Kd.R_drewN | apply Kd.R_drew)); exact HO581.out⟩, ⟨by repeat (first | (with_reducible first | exact HB.out | apply below_alloc | apply pw_below_drewN | apply below_drew1) | exact HB.out)⟩⟩
             case round =>
              clear H'
              try clear c1
              try clear p1
              try clear q1
              try clear hx1
              try clear p2
              try clear c3
              try clear c3b0
              try clear c4
              try clear c4b0
              try clear c5
              try clear c5b0
              try clear c5b1
              try clear p5
              try clear q5
              try clear hx5
              try clear c6
              try clear c6b0
              try clear c6b1
              try clear p6
              try clear c10
              try clear c10b0
              try clear c11
              try clear c11b0
              try clear c12
              try clear c12b0
              try clear c13
              try clear c13b0
              try clear c13b1
              try clear c14
              try clear c14b0
              try clear p15
              try clear q15
              try clear hx15
              try clear hf15
              try clear c18
              try clear c18b0
              try clear c18b1
              try clear c19
              try clear c19b0
              try clear c19b1
              try clear hx15_0
              try clear hx572_0
              try clear hx576_0
              try clear hx578_0
              try clear p15
              try clear p2
              try clear p5
              try clear p572
              try clear p576
              try clear p578
              try clear p6
              try clear q15
              try clear q5
              try clear q572
              try clear q576
              try clear q578
              obtain ⟨x7_4, x9_4, x11_4, rfl, HA, HK4, HO_7, HO_11, HB⟩ := hrel
              cases gk with
              | zero => exact absurd HA.out (by simp [stipendref01_Spread.l2])
              | succ k4 =>
               have H := HA.out
               clear HA
               simp only [stipendref01_Spread.l2] at H
               by_cases c22 : x9_4 > 0
               ·rw [if_pos c22] at H
                have c22b0 : decide (0 < x9_4) = true := decide_eq_true c22
                clear c22
                have H' := Aside0.mk H
                clear H
                go_wp2
                repeat (go_quiet (fail); try go_wp2)
                go_loopg [12, 13] k4 (fun kq v12 v13 w' => ∃ (x12_5 : Int) (x13_5 : Int), v12 = .int .i64 x12_5 ∧ v13 = .int .i64 x13_5 ∧ Aside0 (stipendref01_Spread.l3 kq a0 l1 x5_1 x7_4 x8_6 x9_4 x11_4 x12_5 x13_5 = some r) ∧ Aside0 (kq ≤ k4) ∧ Aside0 (Kd.R (Kd.int .i64) 2 w' w.heap.size (fun _ => True) v574 x7_4) ∧ Aside0 (Kd.R Kd.bool 4 w' w.heap.size (fun _ => True) v580 x11_4) ∧ Aside0 (Below w.heap.size w w'))
                case atStart => exact ⟨((-1)), (0), (by first | rfl | (simp; done) | (simp [*]; done)), (by first | rfl | (simp; done) | (simp [*]; done)), H', ⟨Nat.le_refl _⟩, ⟨by (with_reducible repeat (first | apply Kd.R_alloc | apply Kd.R_drewN | apply Kd.R_drew)); exact HO_7.out⟩, ⟨by (with_reducible repeat (first | apply Kd.R_alloc | apply Kd.R_drewN | apply Kd.R_drew)); exact HO_11.out⟩, ⟨by repeat (first | (with_reducible first | exact HB.out | apply below_alloc | apply pw_below_drewN | apply below_drew1) | exact HB.out)⟩⟩
                case round =>
                 clear H'
                 try clear c1
                 try clear p1
                 try clear q1
                 try clear hx1
                 try clear c2
                 try clear p2
                 try clear c3
                 try clear c3b0
                 try clear c4
                 try clear c4b0
                 try clear c5
                 try clear c5b0
                 try clear c5b1
                 try clear p5
                 try clear q5
                 try clear hx5
                 try clear c6
                 try clear c6b0
                 try clear c6b1
                 try clear p6
                 try clear c10
                 try clear c10b0
                 try clear c11
                 try clear c11b0
                 try clear c12
                 try clear c12b0
                 try clear c13
                 try clear c13b0
                 try clear c13b1
                 try clear c14
                 try clear c14b0
                 try clear p15
                 try clear q15
                 try clear hx15
                 try clear hf15
                 try clear c18
                 try clear c18b0
                 try clear c18b1
                 try clear c19
                 try clear c19b0
                 try clear c19b1
                 try clear c22
                 try clear c22b0
                 try clear hx15_0
                 try clear hx572_0
                 try clear hx576_0
                 try clear hx578_0
                 try clear p1
                 try clear p15
                 try clear p2
                 try clear p5
                 try clear p572
                 try clear p576
                 try clear p578
                 try clear p6
                 try clear q1
                 try clear q15
                 try clear q5
                 try clear q572
                 try clear q576
                 try clear q578
                 obtain ⟨x12_5, x13_5, rfl, rfl, HA, HK5, HO_7, HO_11, HB⟩ := hrel
                 cases gk with
                 | zero => exact absurd HA.out (by simp [stipendref01_Spread.l3])
                 | succ k5 =>
                  have H := HA.out
                  clear HA
                  simp only [stipendref01_Spread.l3] at H
                  by_cases c23 : x13_5 < (l1.length : Int)
                  ·rw [if_pos c23] at H
                   have c23b0 : decide (x13_5 < (l1.length : Int)) = true := decide_eq_true c23
                   clear c23
                   by_cases c24 : 0 ≤ x13_5
                   ·rw [if_pos c24] at H
                    have c24b0 : decide (0 ≤ x13_5) = true := decide_eq_true c24
                    clear c24
                    by_cases c25 : x13_5 < (x11_4.length : Int)
                    ·rw [if_pos c25] at H
                     have c25b0 : decide (x13_5 < (x11_4.length : Int)) = true := decide_eq_true c25
                     clear c25
                     obtain ⟨bq26, hbq26⟩ : ∃ b_ : Bool, b_ = (rdOf false x11_4 x13_5) := ⟨_, rfl⟩
                     replace H : (if bq26 = true then (stipendref01_Spread.l3 k5 a0 l1 x5_1 x7_4 x8_6 x9_4 x11_4 x12_5 (wrap64 (x13_5 + 1))) else (if x12_5 < 0 then (stipendref01_Spread.l3 k5 a0 l1 x5_1 x7_4 x8_6 x9_4 x11_4 x13_5 (wrap64 (x13_5 + 1))) else (if x5_1 = 0 then (none) else (if 0 ≤ x12_5 then (if x12_5 < (l1.length : Int) then (if (Int.tmod (wrap64 (x8_6 * (rd l1 x13_5))) x5_1) > (Int.tmod (wrap64 (x8_6 * (rd l1 x12_5))) x5_1) then (stipendref01_Spread.l3 k5 a0 l1 x5_1 x7_4 x8_6 x9_4 x11_4 x13_5 (wrap64 (x13_5 + 1))) else (stipendref01_Spread.l3 k5 a0 l1 x5_1 x7_4 x8_6 x9_4 x11_4 x12_5 (wrap64 (x13_5 + 1)))) else (none)) else (none))))) = some r := by rw [← hbq26] at H; exact H
                     have Nbq26 := Aside0.mk hbq26
                     clear hbq26
                     by_cases c27 : bq26 = true
                     ·subst c27
                      have H1 : (stipendref01_Spread.l3 k5 a0 l1 x5_1 x7_4 x8_6 x9_4 x11_4 x12_5 (wrap64 (x13_5 + 1))) = some r := by rw [if_pos rfl] at H; exact H
                      clear H
                      have H := H1
                      clear H1
                      have H' := Aside0.mk H
                      clear H
                      obtain ⟨Ao28, co28, eo28⟩ := Kd.R_slice HO_11.out
                      subst eo28
                      have p582 : 0 ≤ (x13_5 : Int) := of_decide_eq_true (by first | (with_reducible assumption) | assumption)
                      have q582 : x13_5 < (x11_4.length : Int) := of_decide_eq_true (by first | (with_reducible assumption) | assumption)
                      obtain ⟨ad582, e582, hx582_0⟩ := Kd.at_bool (Kd.R_reads' HO_11.out).2.2 x13_5 p582 q582
                      (try rw [← Nbq26.out] at hx582_0)
                      cases e582
                      replace p582 := eq_true p582
                      replace q582 := eq_true q582
                      go_wp2
                      repeat (go_quiet (fail); try go_wp2)
                      go_roundg k5
                      case measure => have := HK1.out; have := HJ6.out; have := HK3.out; have := HK4.out; have := HK5.out; omega
                      case rel => exact ⟨(x12_5), (wrap64 (x13_5 + 1)), (by first | rfl | (simp; done) | (simp [*]; done)), (by first | rfl | (simp; done) | (simp [*]; done)), H', ⟨by have := HK1.out; have := HJ6.out; have := HK3.out; have := HK4.out; have := HK5.out; omega⟩, ⟨by (with_reducible repeat (first | apply Kd.R_alloc | apply Kd.R_drewN | apply Kd.R_drew)); exact HO_7.out⟩, ⟨by (with_reducible repeat (first | apply Kd.R_alloc | apply Kd.R_drewN | apply Kd.R_drew)); exact HO_11.out⟩, ⟨by repeat (first | (with_reducible first | exact HB.out | apply below_alloc | apply pw_below_drewN | apply below_drew1) | exact HB.out)⟩⟩
                     ·replace c27 := Bool.eq_false_iff.mpr c27
                      subst c27
                      have H1 : (if x12_5 < 0 then (stipendref01_Spread.l3 k5 a0 l1 x5_1 x7_4 x8_6 x9_4 x11_4 x13_5 (wrap64 (x13_5 + 1))) else (if x5_1 = 0 then (none) else (if 0 ≤ x12_5 then (if x12_5 < (l1.length : Int) then (if (Int.tmod (wrap64 (x8_6 * (rd l1 x13_5))) x5_1) > (Int.tmod (wrap64 (x8_6 * (rd l1 x12_5))) x5_1) then (stipendref01_Spread.l3 k5 a0 l1 x5_1 x7_4 x8_6 x9_4 x11_4 x13_5 (wrap64 (x13_5 + 1))) else (stipendref01_Spread.l3 k5 a0 l1 x5_1 x7_4 x8_6 x9_4 x11_4 x12_5 (wrap64 (x13_5 + 1)))) else (none)) else (none)))) = some r := by rw [if_neg (show ¬ (false = true) by decide)] at H; exact H
                      clear H
                      have H := H1
                      clear H1
                      by_cases c29 : x12_5 < 0
                      ·rw [if_pos c29] at H
                       have c29b0 : decide (x12_5 < 0) = true := decide_eq_true c29
                       clear c29
                       have H' := Aside0.mk H
                       clear H
                       obtain ⟨Ao30, co30, eo30⟩ := Kd.R_slice HO_11.out
                       subst eo30
                       have p582 : 0 ≤ (x13_5 : Int) := of_decide_eq_true (by first | (with_reducible assumption) | assumption)
                       have q582 : x13_5 < (x11_4.length : Int) := of_decide_eq_true (by first | (with_reducible assumption) | assumption)
                       obtain ⟨ad582, e582, hx582_0⟩ := Kd.at_bool (Kd.R_reads' HO_11.out).2.2 x13_5 p582 q582
                       (try rw [← Nbq26.out] at hx582_0)
                       cases e582
                       replace p582 := eq_true p582
                       replace q582 := eq_true q582
                       go_wp2
                       repeat (go_quiet (fail); try go_wp2)
                       go_roundg k5
                       case measure => have := HK1.out; have := HJ6.out; have := HK3.out; have := HK4.out; have := HK5.out; omega
                       case rel => exact ⟨(x13_5), (wrap64 (x13_5 + 1)), (by first | rfl | (simp; done) | (simp [*]; done)), (by first | rfl | (simp; done) | (simp [*]; done)), H', ⟨by have := HK1.out; have := HJ6.out; have := HK3.out; have := HK4.out; have := HK5.out; omega⟩, ⟨by (with_reducible repeat (first | apply Kd.R_alloc | apply Kd.R_drewN | apply Kd.R_drew)); exact HO_7.out⟩, ⟨by (with_reducible repeat (first | apply Kd.R_alloc | apply Kd.R_drewN | apply Kd.R_drew)); exact HO_11.out⟩, ⟨by repeat (first | (with_reducible first | exact HB.out | apply below_alloc | apply pw_below_drewN | apply below_drew1) | exact HB.out)⟩⟩
                      ·rw [if_neg c29] at H
                       have c29b0 : decide (x12_5 < 0) = false := decide_eq_false c29
                       clear c29
                       by_cases c31 : x5_1 = 0
                       ·rw [if_pos c31] at H
                        exact absurd H (by simp)
                       ·rw [if_neg c31] at H
                        have c31b0 : (x5_1 == 0) = false := beq_eq_false_iff_ne.mpr c31
                        have c31b1 : (x5_1 != 0) = true := bne_iff_ne.mpr c31
                        by_cases c32 : 0 ≤ x12_5
                        ·rw [if_pos c32] at H
                         have c32b0 : decide (0 ≤ x12_5) = true := decide_eq_true c32
                         clear c32
                         by_cases c33 : x12_5 < (l1.length : Int)
                         ·rw [if_pos c33] at H
                          have c33b0 : decide (x12_5 < (l1.length : Int)) = true := decide_eq_true c33
                          clear c33
                          by_cases c34 : (Int.tmod (wrap64 (x8_6 * (rd l1 x13_5))) x5_1) > (Int.tmod (wrap64 (x8_6 * (rd l1 x12_5))) x5_1)
                          ·rw [if_pos c34] at H
                           have c34b0 : decide ((Int.tmod (wrap64 (x8_6 * (rd l1 x12_5))) x5_1) < (Int.tmod (wrap64 (x8_6 * (rd l1 x13_5))) x5_1)) = true := decide_eq_true c34
                           clear c34
                           have H' := Aside0.mk H
                           clear H
                           obtain ⟨Ao35, co35, eo35⟩ := Kd.R_slice HO_11.out
                           subst eo35
                           have p582 : 0 ≤ (x13_5 : Int) := of_decide_eq_true (by first | (with_reducible assumption) | assumption)
                           have q582 : x13_5 < (x11_4.length : Int) := of_decide_eq_true (by first | (with_reducible assumption) | assumption)
                           obtain ⟨ad582, e582, hx582_0⟩ := Kd.at_bool (Kd.R_reads' HO_11.out).2.2 x13_5 p582 q582
                           (try rw [← Nbq26.out] at hx582_0)
                           cases e582
                           replace p582 := eq_true p582
                           replace q582 := eq_true q582
                           have p583 : 0 ≤ (x13_5 : Int) := of_decide_eq_true (by first | (with_reducible assumption) | assumption)
                           have q583 : x13_5 < (l1.length : Int) := of_decide_eq_true (by first | (with_reducible assumption) | assumption)
                           obtain ⟨ad583, e583, hx583_0⟩ := Kd.at_int HR1.out x13_5 p583 q583
                           cases e583
                           replace hx583_0 := (HB.out.cell (World.block_lt_of_cell? w _ hx583_0)).trans hx583_0
                           replace p583 := eq_true p583
                           replace q583 := eq_true q583
                           have p584 : 0 ≤ (x12_5 : Int) := of_decide_eq_true (by first | (with_reducible assumption) | assumption)
                           have q584 : x12_5 < (l1.length : Int) := of_decide_eq_true (by first | (with_reducible assumption) | assumption)
                           obtain ⟨ad584, e584, hx584_0⟩ := Kd.at_int HR1.out x12_5 p584 q584
                           obtain rfl : ad583 = ad584 := (by injection e584)
                           replace hx584_0 := (HB.out.cell (World.block_lt_of_cell? w _ hx584_0)).trans hx584_0
                           replace p584 := eq_true p584
                           replace q584 := eq_true q584
                           go_wp2
                           repeat (go_quiet (fail); try go_wp2)
                           go_roundg k5
                           case measure => have := HK1.out; have := HJ6.out; have := HK3.out; have := HK4.out; have := HK5.out; omega
                           case rel => exact ⟨(x13_5), (wrap64 (x13_5 + 1)), (by first | rfl | (simp; done) | (simp [*]; done)), (by first | rfl | (simp; done) | (simp [*]; done)), H', ⟨by have := HK1.out; have := HJ6.out; have := HK3.out; have := HK4.out; have := HK5.out; omega⟩, ⟨by (with_reducible repeat (first | apply Kd.R_alloc | apply Kd.R_drewN | apply Kd.R_drew)); exact HO_7.out⟩, ⟨by (with_reducible repeat (first | apply Kd.R_alloc | apply Kd.R_drewN | apply Kd.R_drew)); exact HO_11.out⟩, ⟨by repeat (first | (with_reducible first | exact HB.out | apply below_alloc | apply pw_below_drewN | apply below_drew1) | exact HB.out)⟩⟩
                          ·rw [if_neg c34] at H
                           have c34b0 : decide ((Int.tmod (wrap64 (x8_6 * (rd l1 x12_5))) x5_1) < (Int.tmod (wrap64 (x8_6 * (rd l1 x13_5))) x5_1)) = false := decide_eq_false c34
                           clear c34
                           have H' := Aside0.mk H
                           clear H
                           obtain ⟨Ao36, co36, eo36⟩ := Kd.R_slice HO_11.out
                           subst eo36
                           have p582 : 0 ≤ (x13_5 : Int) := of_decide_eq_true (by first | (with_reducible assumption) | assumption)
                           have q582 : x13_5 < (x11_4.length : Int) := of_decide_eq_true (by first | (with_reducible assumption) | assumption)
                           obtain ⟨ad582, e582, hx582_0⟩ := Kd.at_bool (Kd.R_reads' HO_11.out).2.2 x13_5 p582 q582
                           (try rw [← Nbq26.out] at hx582_0)
                           cases e582
                           replace p582 := eq_true p582
                           replace q582 := eq_true q582
                           have p583 : 0 ≤ (x13_5 : Int) := of_decide_eq_true (by first | (with_reducible assumption) | assumption)
                           have q583 : x13_5 < (l1.length : Int) := of_decide_eq_true (by first | (with_reducible assumption) | assumption)
                           obtain ⟨ad583, e583, hx583_0⟩ := Kd.at_int HR1.out x13_5 p583 q583
                           cases e583
                           replace hx583_0 := (HB.out.cell (World.block_lt_of_cell? w _ hx583_0)).trans hx583_0
                           replace p583 := eq_true p583
                           replace q583 := eq_true q583
                           have p584 : 0 ≤ (x12_5 : Int) := of_decide_eq_true (by first | (with_reducible assumption) | assumption)
                           have q584 : x12_5 < (l1.length : Int) := of_decide_eq_true (by first | (with_reducible assumption) | assumption)
                           obtain ⟨ad584, e584, hx584_0⟩ := Kd.at_int HR1.out x12_5 p584 q584
                           obtain rfl : ad583 = ad584 := (by injection e584)
                           replace hx584_0 := (HB.out.cell (World.block_lt_of_cell? w _ hx584_0)).trans hx584_0
                           replace p584 := eq_true p584
                           replace q584 := eq_true q584
                           go_wp2
                           repeat (go_quiet (fail); try go_wp2)
                           go_roundg k5
                           case measure => have := HK1.out; have := HJ6.out; have := HK3.out; have := HK4.out; have := HK5.out; omega
                           case rel => exact ⟨(x12_5), (wrap64 (x13_5 + 1)), (by first | rfl | (simp; done) | (simp [*]; done)), (by first | rfl | (simp; done) | (simp [*]; done)), H', ⟨by have := HK1.out; have := HJ6.out; have := HK3.out; have := HK4.out; have := HK5.out; omega⟩, ⟨by (with_reducible repeat (first | apply Kd.R_alloc | apply Kd.R_drewN | apply Kd.R_drew)); exact HO_7.out⟩, ⟨by (with_reducible repeat (first | apply Kd.R_alloc | apply Kd.R_drewN | apply Kd.R_drew)); exact HO_11.out⟩, ⟨by repeat (first | (with_reducible first | exact HB.out | apply below_alloc | apply pw_below_drewN | apply below_drew1) | exact HB.out)⟩⟩
                         ·rw [if_neg c33] at H
                          exact absurd H (by simp)
                        ·rw [if_neg c32] at H
                         exact absurd H (by simp)
                    ·rw [if_neg c25] at H
                     exact absurd H (by simp)
                   ·rw [if_neg c24] at H
                    exact absurd H (by simp)
                  ·rw [if_neg c23] at H
                   have c23b0 : decide (x13_5 < (l1.length : Int)) = false := decide_eq_false c23
                   clear c23
                   by_cases c37 : 0 ≤ x12_5
                   ·rw [if_pos c37] at H
                    have c37b0 : decide (0 ≤ x12_5) = true := decide_eq_true c37
                    clear c37
                    by_cases c38 : x12_5 < (x11_4.length : Int)
                    ·rw [if_pos c38] at H
                     have c38b0 : decide (x12_5 < (x11_4.length : Int)) = true := decide_eq_true c38
                     clear c38
                     obtain ⟨y585, hy585⟩ : ∃ y_ : List Bool, y_ = (x11_4.set (x12_5 : Int).toNat true) := ⟨_, rfl⟩
                     replace H : (if x12_5 < (x7_4.length : Int) then (stipendref01_Spread.l2 k5 a0 l1 x5_1 (x7_4.set (x12_5 : Int).toNat (wrap64 ((rd x7_4 x12_5) + 1))) x8_6 (wrap64 (x9_4 - 1)) y585) else (none)) = some r := by first | (rw [hy585]; with_reducible exact H) | (have H2_ := (Option.bind_some _ _).symm.trans H; rw [hy585]; with_reducible exact H2_) | (have H2_ := (Option.bind_some _ _).symm.trans H; with_reducible exact H2_) | with_reducible exact H | (rw [hy585]; exact H) | exact H
                     have Ny585 := Aside0.mk hy585
                     clear hy585
                     by_cases c40 : x12_5 < (x7_4.length : Int)
                     ·rw [if_pos c40] at H
                      have c40b0 : decide (x12_5 < (x7_4.length : Int)) = true := decide_eq_true c40
                      clear c40
                      obtain ⟨y587, hy587⟩ : ∃ y_ : List Int, y_ = (x7_4.set (x12_5 : Int).toNat (wrap64 ((rd x7_4 x12_5) + 1))) := ⟨_, rfl⟩
                      replace H : (stipendref01_Spread.l2 k5 a0 l1 x5_1 y587 x8_6 (wrap64 (x9_4 - 1)) y585) = some r := by first | (rw [hy587]; with_reducible exact H) | (have H2_ := (Option.bind_some _ _).symm.trans H; rw [hy587]; with_reducible exact H2_) | (have H2_ := (Option.bind_some _ _).symm.trans H; with_reducible exact H2_) | with_reducible exact H | (rw [hy587]; exact H) | exact H
                      have Ny587 := Aside0.mk hy587
                      clear hy587
                      have H' := Aside0.mk H
                      clear H
                      have p39 : 0 ≤ (x12_5 : Int) := of_decide_eq_true (by first | (with_reducible assumption) | assumption)
                      have q39 : (x12_5 : Int) < ((x11_4.length : Int) : Int) := of_decide_eq_true (by first | (with_reducible assumption) | assumption)
                      obtain ⟨go39, co39, eo39, gb39, gl39, cl39, HG39⟩ := Kd.R_form HO_11.out (by omega)
                      (first | cases eo39 | (injection eo39 with ea_ en_ ec_; (first | subst ea_ | (injection ea_ with ea_; subst ea_)); subst ec_; clear en_))
                      have GB39 := Aside0.mk gb39
                      have GG39 := Aside0.mk HG39
                      clear gb39 gl39 HG39
                      obtain ⟨hx39_0, hf39_0⟩ := Kd.R_celln false HO_11.out (x12_5 : Int) p39 q39
                      replace p39 := eq_true p39
                      replace q39 := eq_true q39
                      have HP42 := Kd.R_putg HO_11.out (x12_5 : Int) true
                      go_wp2_with (first | ((with_reducible refine gate_store (t := 4) (p := 101) rfl ?_); (try (rw [drewN_self wr]; generalize hq_ : World.drewN wr _ = wr; have n0_ := Aside0.mk (Kd.R_at hq_ HO_7.out); have n1_ := Aside0.mk (Kd.R_at hq_ HO_11.out); have n2_ := Aside0.mk (below_at hq_ HB.out); clear hq_ HO_7 HO_11 HB; have HO_7 := n0_; have HO_11 := n1_; have HB := n2_; clear n0_ n1_ n2_; (try (have HP42 := Kd.R_putg HO_11.out (x12_5 : Int) true)))); refine store_event (t := 4) (p := 101) (v := ?vo_w43) (w1 := (wr.setCell ⟨go39, (x12_5 : Int).toNat, none⟩ (.bool true))) ?hg ?ho ?hn ?hr ?_; (case ho => rfl); (case hg => rfl); (case hn => rfl); (case hr => first | (go_simp; done) | (go_simp; rfl)); intro w43 hw; have hg : wr.grownBy w43 (some go39) := (by rw [hw]; exact HP42.2); have hp_ : Kd.R Kd.bool 4 w43 w.heap.size (fun _ => True) (.slice (some ⟨go39, 0, none⟩) x11_4.length co39) y585 := (by rw [hw, Ny585.out]; exact HP42.1); clear HP42; have n0_ := Aside0.mk (Kd.R_over' (v := (.slice (some ⟨go39, 0, none⟩) x11_4.length co39)) (by (with_reducible repeat (first | apply Kd.R_alloc | apply Kd.R_drewN | apply Kd.R_drew)); exact HO_7.out) (Kd.R_typed HO_11.out) (by decide) hg); have n1_ := Aside0.mk (hp_); have n2_ := Aside0.mk ((by rw [hw]; exact below_set (HB.out) GB39.out : Below w.heap.size w w43)); clear HO_7; clear HO_11; clear HB; have HO_7 := n0_; have HO_11 := n1_; have HB := n2_; clear n0_ n1_ n2_; clear hg hw hp_; obtain ⟨Ao44, co44, eo44⟩ := Kd.R_slice HO_7.out; subst eo44; have p586 : 0 ≤ (x12_5 : Int) := of_decide_eq_true (by first | (with_reducible assumption) | assumption); have q586 : x12_5 < (x7_4.length : Int) := of_decide_eq_true (by first | (with_reducible assumption) | assumption); obtain ⟨ad586, e586, hx586_0⟩ := Kd.at_int (Kd.R_reads' HO_7.out).2.2 x12_5 p586 q586; cases e586; replace p586 := eq_true p586; replace q586 := eq_true q586; have p41 : 0 ≤ (x12_5 : Int) := of_decide_eq_true (by first | (with_reducible assumption) | assumption); have q41 : (x12_5 : Int) < ((x7_4.length : Int) : Int) := of_decide_eq_true (by first | (with_reducible assumption) | assumption); obtain ⟨go41, co41, eo41, gb41, gl41, cl41, HG41⟩ := Kd.R_form HO_7.out (by omega); (first | cases eo41 | (injection eo41 with ea_ en_ ec_; (first | subst ea_ | (injection ea_ with ea_; subst ea_)); subst ec_; clear en_)); have GB41 := Aside0.mk gb41; have GG41 := Aside0.mk HG41; clear gb41 gl41 HG41; (first | simp only [add_plain] at hx586_0 | skip); obtain ⟨hx41_0, hf41_0⟩ := Kd.R_celln 0 HO_7.out (x12_5 : Int) p41 q41; replace p41 := eq_true p41; replace q41 := eq_true q41; obtain ⟨hy45_, hz45_⟩ := Kd.R_celln 0 HO_7.out (x12_5 : Int) (of_decide_eq_true (by first | (with_reducible assumption) | assumption)) (of_decide_eq_true (by first | (with_reducible assumption) | assumption)); have HP45 := Kd.R_putg HO_7.out (x12_5 : Int) (wrap64 ((rd x7_4 x12_5) + 1))) | ((with_reducible refine gate_store (t := 2) (p := 107) rfl ?_); (try (rw [drewN_self w43]; generalize hq_ : World.drewN w43 _ = w43; have n0_ := Aside0.mk (Kd.R_at hq_ HO_7.out); have n1_ := Aside0.mk (Kd.R_at hq_ HO_11.out); have n2_ := Aside0.mk (below_at hq_ HB.out); clear hq_ HO_7 HO_11 HB; have HO_7 := n0_; have HO_11 := n1_; have HB := n2_; clear n0_ n1_ n2_; (try (obtain ⟨hy45_, hz45_⟩ := Kd.R_celln 0 HO_7.out (x12_5 : Int) (of_decide_eq_true (by first | (with_reducible assumption) | assumption)) (of_decide_eq_true (by first | (with_reducible assumption) | assumption)))); (try (have HP45 := Kd.R_putg HO_7.out (x12_5 : Int) (wrap64 ((rd x7_4 x12_5) + 1)))))); refine store_event (t := 2) (p := 107) (v := ?vo_w46) (w1 := (w43.setCell ⟨go41, (x12_5 : Int).toNat, none⟩ (.int .i64 (wrap64 ((rd x7_4 x12_5) + 1))))) ?hg ?ho ?hn ?hr ?_; (case ho => rfl); (case hg => rfl); (case hn => rfl); (case hr => first | (go_simp; done) | (go_simp; rfl)); intro w46 hw; have hg : w43.grownBy w46 (some go41) := (by rw [hw]; exact HP45.2); have hp_ : Kd.R (Kd.int .i64) 2 w46 w.heap.size (fun _ => True) (.slice (some ⟨go41, 0, none⟩) x7_4.length co44) y587 := (by rw [hw, Ny587.out]; exact HP45.1); clear HP45; have n0_ := Aside0.mk (hp_); have n1_ := Aside0.mk (Kd.R_over' (v := (.slice (some ⟨go41, 0, none⟩) x7_4.length co44)) (by (with_reducible repeat (first | apply Kd.R_alloc | apply Kd.R_drewN | apply Kd.R_drew)); exact HO_11.out) (Kd.R_typed HO_7.out) (by decide) hg); have n2_ := Aside0.mk ((by rw [hw]; exact below_set (HB.out) GB41.out : Below w.heap.size w w46)); clear HO_7; clear HO_11; clear HB; have HO_7 := n0_; have HO_11 := n1_; have HB := n2_; clear n0_ n1_ n2_; clear hg hw hp_))
                      repeat (go_quiet (first | ((with_reducible refine gate_store (t := 4) (p := 101) rfl ?_); (try (rw [drewN_self wr]; generalize hq_ : World.drewN wr _ = wr; have n0_ := Aside0.mk (Kd.R_at hq_ HO_7.out); have n1_ := Aside0.mk (Kd.R_at hq_ HO_11.out); have n2_ := Aside0.mk (below_at hq_ HB.out); clear hq_ HO_7 HO_11 HB; have HO_7 := n0_; have HO_11 := n1_; have HB := n2_; clear n0_ n1_ n2_; (try (have HP42 := Kd.R_putg HO_11.out (x12_5 : Int) true)))); refine store_event (t := 4) (p := 101) (v := ?vo_w43) (w1 := (wr.setCell ⟨go39, (x12_5 : Int).toNat, none⟩ (.bool true))) ?hg ?ho ?hn ?hr ?_; (case ho => rfl); (case hg => rfl); (case hn => rfl); (case hr => first | (go_simp; done) | (go_simp; rfl)); intro w43 hw; have hg : wr.grownBy w43 (some go39) := (by rw [hw]; exact HP42.2); have hp_ : Kd.R Kd.bool 4 w43 w.heap.size (fun _ => True) (.slice (some ⟨go39, 0, none⟩) x11_4.length co39) y585 := (by rw [hw, Ny585.out]; exact HP42.1); clear HP42; have n0_ := Aside0.mk (Kd.R_over' (v := (.slice (some ⟨go39, 0, none⟩) x11_4.length co39)) (by (with_reducible repeat (first | apply Kd.R_alloc | apply Kd.R_drewN | apply Kd.R_drew)); exact HO_7.out) (Kd.R_typed HO_11.out) (by decide) hg); have n1_ := Aside0.mk (hp_); have n2_ := Aside0.mk ((by rw [hw]; exact below_set (HB.out) GB39.out : Below w.heap.size w w43)); clear HO_7; clear HO_11; clear HB; have HO_7 := n0_; have HO_11 := n1_; have HB := n2_; clear n0_ n1_ n2_; clear hg hw hp_; obtain ⟨Ao44, co44, eo44⟩ := Kd.R_slice HO_7.out; subst eo44; have p586 : 0 ≤ (x12_5 : Int) := of_decide_eq_true (by first | (with_reducible assumption) | assumption); have q586 : x12_5 < (x7_4.length : Int) := of_decide_eq_true (by first | (with_reducible assumption) | assumption); obtain ⟨ad586, e586, hx586_0⟩ := Kd.at_int (Kd.R_reads' HO_7.out).2.2 x12_5 p586 q586; cases e586; replace p586 := eq_true p586; replace q586 := eq_true q586; have p41 : 0 ≤ (x12_5 : Int) := of_decide_eq_true (by first | (with_reducible assumption) | assumption); have q41 : (x12_5 : Int) < ((x7_4.length : Int) : Int) := of_decide_eq_true (by first | (with_reducible assumption) | assumption); obtain ⟨go41, co41, eo41, gb41, gl41, cl41, HG41⟩ := Kd.R_form HO_7.out (by omega); (first | cases eo41 | (injection eo41 with ea_ en_ ec_; (first | subst ea_ | (injection ea_ with ea_; subst ea_)); subst ec_; clear en_)); have GB41 := Aside0.mk gb41; have GG41 := Aside0.mk HG41; clear gb41 gl41 HG41; (first | simp only [add_plain] at hx586_0 | skip); obtain ⟨hx41_0, hf41_0⟩ := Kd.R_celln 0 HO_7.out (x12_5 : Int) p41 q41; replace p41 := eq_true p41; replace q41 := eq_true q41; obtain ⟨hy45_, hz45_⟩ := Kd.R_celln 0 HO_7.out (x12_5 : Int) (of_decide_eq_true (by first | (with_reducible assumption) | assumption)) (of_decide_eq_true (by first | (with_reducible assumption) | assumption)); have HP45 := Kd.R_putg HO_7.out (x12_5 : Int) (wrap64 ((rd x7_4 x12_5) + 1))) | ((with_reducible refine gate_store (t := 2) (p := 107) rfl ?_); (try (rw [drewN_self w43]; generalize hq_ : World.drewN w43 _ = w43; have n0_ := Aside0.mk (Kd.R_at hq_ HO_7.out); have n1_ := Aside0.mk (Kd.R_at hq_ HO_11.out); have n2_ := Aside0.mk (below_at hq_ HB.out); clear hq_ HO_7 HO_11 HB; have HO_7 := n0_; have HO_11 := n1_; have HB := n2_; clear n0_ n1_ n2_; (try (obtain ⟨hy45_, hz45_⟩ := Kd.R_celln 0 HO_7.out (x12_5 : Int) (of_decide_eq_true (by first | (with_reducible assumption) | assumption)) (of_decide_eq_true (by first | (with_reducible assumption) | assumption)))); (try (have HP45 := Kd.R_putg HO_7.out (x12_5 : Int) (wrap64 ((rd x7_4 x12_5) + 1)))))); refine store_event (t := 2) (p := 107) (v := ?vo_w46) (w1 := (w43.setCell ⟨go41, (x12_5 : Int).toNat, none⟩ (.int .i64 (wrap64 ((rd x7_4 x12_5) + 1))))) ?hg ?ho ?hn ?hr ?_; (case ho => rfl); (case hg => rfl); (case hn => rfl); (case hr => first | (go_simp; done) | (go_simp; rfl)); intro w46 hw; have hg : w43.grownBy w46 (some go41) := (by rw [hw]; exact HP45.2); have hp_ : Kd.R (Kd.int .i64) 2 w46 w.heap.size (fun _ => True) (.slice (some ⟨go41, 0, none⟩) x7_4.length co44) y587 := (by rw [hw, Ny587.out]; exact HP45.1); clear HP45; have n0_ := Aside0.mk (hp_); have n1_ := Aside0.mk (Kd.R_over' (v := (.slice (some ⟨go41, 0, none⟩) x7_4.length co44)) (by (with_reducible repeat (first | apply Kd.R_alloc | apply Kd.R_drewN | apply Kd.R_drew)); exact HO_11.out) (Kd.R_typed HO_7.out) (by decide) hg); have n2_ := Aside0.mk ((by rw [hw]; exact below_set (HB.out) GB41.out : Below w.heap.size w w46)); clear HO_7; clear HO_11; clear HB; have HO_7 := n0_; have HO_11 := n1_; have HB := n2_; clear n0_ n1_ n2_; clear hg hw hp_)); try go_wp2_with (first | ((with_reducible refine gate_store (t := 4) (p := 101) rfl ?_); (try (rw [drewN_self wr]; generalize hq_ : World.drewN wr _ = wr; have n0_ := Aside0.mk (Kd.R_at hq_ HO_7.out); have n1_ := Aside0.mk (Kd.R_at hq_ HO_11.out); have n2_ := Aside0.mk (below_at hq_ HB.out); clear hq_ HO_7 HO_11 HB; have HO_7 := n0_; have HO_11 := n1_; have HB := n2_; clear n0_ n1_ n2_; (try (have HP42 := Kd.R_putg HO_11.out (x12_5 : Int) true)))); refine store_event (t := 4) (p := 101) (v := ?vo_w43) (w1 := (wr.setCell ⟨go39, (x12_5 : Int).toNat, none⟩ (.bool true))) ?hg ?ho ?hn ?hr ?_; (case ho => rfl); (case hg => rfl); (case hn => rfl); (case hr => first | (go_simp; done) | (go_simp; rfl)); intro w43 hw; have hg : wr.grownBy w43 (some go39) := (by rw [hw]; exact HP42.2); have hp_ : Kd.R Kd.bool 4 w43 w.heap.size (fun _ => True) (.slice (some ⟨go39, 0, none⟩) x11_4.length co39) y585 := (by rw [hw, Ny585.out]; exact HP42.1); clear HP42; have n0_ := Aside0.mk (Kd.R_over' (v := (.slice (some ⟨go39, 0, none⟩) x11_4.length co39)) (by (with_reducible repeat (first | apply Kd.R_alloc | apply Kd.R_drewN | apply Kd.R_drew)); exact HO_7.out) (Kd.R_typed HO_11.out) (by decide) hg); have n1_ := Aside0.mk (hp_); have n2_ := Aside0.mk ((by rw [hw]; exact below_set (HB.out) GB39.out : Below w.heap.size w w43)); clear HO_7; clear HO_11; clear HB; have HO_7 := n0_; have HO_11 := n1_; have HB := n2_; clear n0_ n1_ n2_; clear hg hw hp_; obtain ⟨Ao44, co44, eo44⟩ := Kd.R_slice HO_7.out; subst eo44; have p586 : 0 ≤ (x12_5 : Int) := of_decide_eq_true (by first | (with_reducible assumption) | assumption); have q586 : x12_5 < (x7_4.length : Int) := of_decide_eq_true (by first | (with_reducible assumption) | assumption); obtain ⟨ad586, e586, hx586_0⟩ := Kd.at_int (Kd.R_reads' HO_7.out).2.2 x12_5 p586 q586; cases e586; replace p586 := eq_true p586; replace q586 := eq_true q586; have p41 : 0 ≤ (x12_5 : Int) := of_decide_eq_true (by first | (with_reducible assumption) | assumption); have q41 : (x12_5 : Int) < ((x7_4.length : Int) : Int) := of_decide_eq_true (by first | (with_reducible assumption) | assumption); obtain ⟨go41, co41, eo41, gb41, gl41, cl41, HG41⟩ := Kd.R_form HO_7.out (by omega); (first | cases eo41 | (injection eo41 with ea_ en_ ec_; (first | subst ea_ | (injection ea_ with ea_; subst ea_)); subst ec_; clear en_)); have GB41 := Aside0.mk gb41; have GG41 := Aside0.mk HG41; clear gb41 gl41 HG41; (first | simp only [add_plain] at hx586_0 | skip); obtain ⟨hx41_0, hf41_0⟩ := Kd.R_celln 0 HO_7.out (x12_5 : Int) p41 q41; replace p41 := eq_true p41; replace q41 := eq_true q41; obtain ⟨hy45_, hz45_⟩ := Kd.R_celln 0 HO_7.out (x12_5 : Int) (of_decide_eq_true (by first | (with_reducible assumption) | assumption)) (of_decide_eq_true (by first | (with_reducible assumption) | assumption)); have HP45 := Kd.R_putg HO_7.out (x12_5 : Int) (wrap64 ((rd x7_4 x12_5) + 1))) | ((with_reducible refine gate_store (t := 2) (p := 107) rfl ?_); (try (rw [drewN_self w43]; generalize hq_ : World.drewN w43 _ = w43; have n0_ := Aside0.mk (Kd.R_at hq_ HO_7.out); have n1_ := Aside0.mk (Kd.R_at hq_ HO_11.out); have n2_ := Aside0.mk (below_at hq_ HB.out); clear hq_ HO_7 HO_11 HB; have HO_7 := n0_; have HO_11 := n1_; have HB := n2_; clear n0_ n1_ n2_; (try (obtain ⟨hy45_, hz45_⟩ := Kd.R_celln 0 HO_7.out (x12_5 : Int) (of_decide_eq_true (by first | (with_reducible assumption) | assumption)) (of_decide_eq_true (by first | (with_reducible assumption) | assumption)))); (try (have HP45 := Kd.R_putg HO_7.out (x12_5 : Int) (wrap64 ((rd x7_4 x12_5) + 1)))))); refine store_event (t := 2) (p := 107) (v := ?vo_w46) (w1 := (w43.setCell ⟨go41, (x12_5 : Int).toNat, none⟩ (.int .i64 (wrap64 ((rd x7_4 x12_5) + 1))))) ?hg ?ho ?hn ?hr ?_; (case ho => rfl); (case hg => rfl); (case hn => rfl); (case hr => first | (go_simp; done) | (go_simp; rfl)); intro w46 hw; have hg : w43.grownBy w46 (some go41) := (by rw [hw]; exact HP45.2); have hp_ : Kd.R (Kd.int .i64) 2 w46 w.heap.size (fun _ => True) (.slice (some ⟨go41, 0, none⟩) x7_4.length co44) y587 := (by rw [hw, Ny587.out]; exact HP45.1); clear HP45; have n0_ := Aside0.mk (hp_); have n1_ := Aside0.mk (Kd.R_over' (v := (.slice (some ⟨go41, 0, none⟩) x7_4.length co44)) (by (with_reducible repeat (first | apply Kd.R_alloc | apply Kd.R_drewN | apply Kd.R_drew)); exact HO_11.out) (Kd.R_typed HO_7.out) (by decide) hg); have n2_ := Aside0.mk ((by rw [hw]; exact below_set (HB.out) GB41.out : Below w.heap.size w w46)); clear HO_7; clear HO_11; clear HB; have HO_7 := n0_; have HO_11 := n1_; have HB := n2_; clear n0_ n1_ n2_; clear hg hw hp_)))
                      go_roundg k5
                      case measure => have := HK1.out; have := HJ6.out; have := HK3.out; have := HK4.out; have := HK5.out; omega
                      case rel => exact ⟨(y587), (wrap64 (x9_4 - 1)), (y585), (by first | rfl | (simp; done) | (simp [*]; done)), H', ⟨by have := HK1.out; have := HJ6.out; have := HK3.out; have := HK4.out; have := HK5.out; omega⟩, ⟨by (with_reducible repeat (first | apply Kd.R_alloc | apply Kd.R_drewN | apply Kd.R_drew)); exact HO_7.out⟩, ⟨by (with_reducible repeat (first | apply Kd.R_alloc | apply Kd.R_drewN | apply Kd.R_drew)); exact HO_11.out⟩, ⟨by repeat (first | (with_reducible first | exact HB.out | apply below_alloc | apply pw_below_drewN | apply below_drew1) | exact HB.out)⟩⟩
                     ·rw [if_neg c40] at H
                      exact absurd H (by simp)
                    ·rw [if_neg c38] at H
                     exact absurd H (by simp)
                   ·rw [if_neg c37] at H
                    exact absurd H (by simp)
               ·rw [if_neg c22] at H
                have c22b0 : decide (0 < x9_4) = false := decide_eq_false c22
                clear c22
                by_cases c47 : a0 < 0
                ·rw [if_pos c47] at H
                 have c47b0 : decide (a0 < 0) = true := decide_eq_true c47
                 clear c47
                 have H' := Aside0.mk H
                 clear H
                 go_wp2
                 repeat (go_quiet (fail); try go_wp2)
                 go_loopg [14] k4 (fun kq v14 w' => ∃ (x7_5 : List Int) (x14_5 : Int), v14 = .int .i64 x14_5 ∧ Aside0 (stipendref01_Spread.l4 kq x7_5 x14_5 = some r) ∧ Aside0 (kq ≤ k4) ∧ Aside0 (Kd.R (Kd.int .i64) 2 w' w.heap.size (fun _ => True) v574 x7_5) ∧ Aside0 (Below w.heap.size w w'))
                 case atStart => exact ⟨(x7_4), (0), (by first | rfl | (simp; done) | (simp [*]; done)), H', ⟨Nat.le_refl _⟩, ⟨by (with_reducible repeat (first | apply Kd.R_alloc | apply Kd.R_drewN | apply Kd.R_drew)); exact HO_7.out⟩, ⟨by repeat (first | (with_reducible first | exact HB.out | apply below_alloc | apply pw_below_drewN | apply below_drew1) | exact HB.out)⟩⟩
                 case round =>
                  clear H'
                  try clear c1
                  try clear p1
                  try clear q1
                  try clear hx1
                  try clear c2
                  try clear p2
                  try clear q2
                  try clear c3
                  try clear c3b0
                  try clear p3
                  try clear q3
                  try clear hx3
                  try clear hf3
                  try clear c4
                  try clear c4b0
                  try clear p4
                  try clear q4
                  try clear hx4
                  try clear hf4
                  try clear c5
                  try clear c5b0
                  try clear c5b1
                  try clear p5
                  try clear q5
                  try clear hx5
                  try clear c6
                  try clear c6b0
                  try clear c6b1
                  try clear p6
                  try clear c10
                  try clear c10b0
                  try clear c11
                  try clear c11b0
                  try clear c12
                  try clear c12b0
                  try clear c13
                  try clear c13b0
                  try clear c13b1
                  try clear c14
                  try clear c14b0
                  try clear p15
                  try clear q15
                  try clear hx15
                  try clear hf15
                  try clear c18
                  try clear c18b0
                  try clear c18b1
                  try clear c19
                  try clear c19b0
                  try clear c19b1
                  try clear c22
                  try clear c22b0
                  try clear c23
                  try clear c23b0
                  try clear c24
                  try clear c24b0
                  try clear c25
                  try clear c25b0
                  try clear q26
                  try clear c27
                  try clear c29
                  try clear c29b0
                  try clear c31
                  try clear c31b0
                  try clear c31b1
                  try clear c32
                  try clear c32b0
                  try clear c33
                  try clear c33b0
                  try clear c34
                  try clear c34b0
                  try clear c37
                  try clear c37b0
                  try clear c38
                  try clear c38b0
                  try clear p39
                  try clear q39
                  try clear hx39
                  try clear hf39
                  try clear c40
                  try clear c40b0
                  try clear p41
                  try clear q41
                  try clear hx41
                  try clear hf41
                  try clear c47
                  try clear c47b0
                  try clear hx15_0
                  try clear hx39_0
                  try clear hx41_0
                  try clear hx572_0
                  try clear hx576_0
                  try clear hx578_0
                  try clear hx582_0
                  try clear hx583_0
                  try clear hx584_0
                  try clear hx586_0
                  try clear p1
                  try clear p15
                  try clear p2
                  try clear p39
                  try clear p41
                  try clear p5
                  try clear p572
                  try clear p576
                  try clear p578
                  try clear p582
                  try clear p583
                  try clear p584
                  try clear p586
                  try clear p6
                  try clear q1
                  try clear q15
                  try clear q39
                  try clear q41
                  try clear q5
                  try clear q572
                  try clear q576
                  try clear q578
                  try clear q582
                  try clear q583
                  try clear q584
                  try clear q586
                  obtain ⟨x7_5, x14_5, rfl, HA, HK5, HO_7, HB⟩ := hrel
                  cases gk with
                  | zero => exact absurd HA.out (by simp [stipendref01_Spread.l4])
                  | succ k5 =>
                   have H := HA.out
                   clear HA
                   simp only [stipendref01_Spread.l4] at H
                   by_cases c48 : x14_5 < (x7_5.length : Int)
                   ·rw [if_pos c48] at H
                    have c48b0 : decide (x14_5 < (x7_5.length : Int)) = true := decide_eq_true c48
                    clear c48
                    by_cases c49 : 0 ≤ x14_5
                    ·rw [if_pos c49] at H
                     have c49b0 : decide (0 ≤ x14_5) = true := decide_eq_true c49
                     clear c49
                     obtain ⟨y589, hy589⟩ : ∃ y_ : List Int, y_ = (x7_5.set (x14_5 : Int).toNat (wrap64 (-(rd x7_5 x14_5)))) := ⟨_, rfl⟩
                     replace H : (stipendref01_Spread.l4 k5 y589 (wrap64 (x14_5 + 1))) = some r := by first | (rw [hy589]; with_reducible exact H) | (have H2_ := (Option.bind_some _ _).symm.trans H; rw [hy589]; with_reducible exact H2_) | (have H2_ := (Option.bind_some _ _).symm.trans H; with_reducible exact H2_) | with_reducible exact H | (rw [hy589]; exact H) | exact H
                     have Ny589 := Aside0.mk hy589
                     clear hy589
                     have H' := Aside0.mk H
                     clear H
                     obtain ⟨Ao51, co51, eo51⟩ := Kd.R_slice HO_7.out
                     subst eo51
                     have p588 : 0 ≤ (x14_5 : Int) := of_decide_eq_true (by first | (with_reducible assumption) | assumption)
                     have q588 : x14_5 < (x7_5.length : Int) := of_decide_eq_true (by first | (with_reducible assumption) | assumption)
                     obtain ⟨ad588, e588, hx588_0⟩ := Kd.at_int (Kd.R_reads' HO_7.out).2.2 x14_5 p588 q588
                     cases e588
                     replace p588 := eq_true p588
                     replace q588 := eq_true q588
                     have p50 : 0 ≤ (x14_5 : Int) := of_decide_eq_true (by first | (with_reducible assumption) | assumption)
                     have q50 : (x14_5 : Int) < ((x7_5.length : Int) : Int) := of_decide_eq_true (by first | (with_reducible assumption) | assumption)
                     obtain ⟨go50, co50, eo50, gb50, gl50, cl50, HG50⟩ := Kd.R_form HO_7.out (by omega)
                     (first | cases eo50 | (injection eo50 with ea_ en_ ec_; (first | subst ea_ | (injection ea_ with ea_; subst ea_)); subst ec_; clear en_))
                     have GB50 := Aside0.mk gb50
                     have GG50 := Aside0.mk HG50
                     clear gb50 gl50 HG50
                     (first | simp only [add_plain] at hx588_0 | skip)
                     obtain ⟨hx50_0, hf50_0⟩ := Kd.R_celln 0 HO_7.out (x14_5 : Int) p50 q50
                     replace p50 := eq_true p50
                     replace q50 := eq_true q50
                     have HP52 := Kd.R_putg HO_7.out (x14_5 : Int) (wrap64 (-(rd x7_5 x14_5)))
                     go_wp2_with (first | ((with_reducible refine gate_store (t := 2) (p := 125) rfl ?_); (try (rw [drewN_self wr]; generalize hq_ : World.drewN wr _ = wr; have n0_ := Aside0.mk (Kd.R_at hq_ HO_7.out); have n1_ := Aside0.mk (below_at hq_ HB.out); clear hq_ HO_7 HB; have HO_7 := n0_; have HB := n1_; clear n0_ n1_; (try (have HP52 := Kd.R_putg HO_7.out (x14_5 : Int) (wrap64 (-(rd x7_5 x14_5))))))); refine store_event (t := 2) (p := 125) (v := ?vo_w53) (w1 := (wr.setCell ⟨go50, (x14_5 : Int).toNat, none⟩ (.int .i64 (wrap64 (-(rd x7_5 x14_5)))))) ?hg ?ho ?hn ?hr ?_; (case ho => rfl); (case hg => rfl); (case hn => rfl); (case hr => first | (go_simp; done) | (go_simp; rfl)); intro w53 hw; have hg : wr.grownBy w53 (some go50) := (by rw [hw]; exact HP52.2); have hp_ : Kd.R (Kd.int .i64) 2 w53 w.heap.size (fun _ => True) (.slice (some ⟨go50, 0, none⟩) x7_5.length co51) y589 := (by rw [hw, Ny589.out]; exact HP52.1); clear HP52; have n0_ := Aside0.mk (hp_); have n1_ := Aside0.mk ((by rw [hw]; exact below_set (HB.out) GB50.out : Below w.heap.size w w53)); clear HO_7; clear HB; have HO_7 := n0_; have HB := n1_; clear n0_ n1_; clear hg hw hp_))
                     repeat (go_quiet (first | ((with_reducible refine gate_store (t := 2) (p := 125) rfl ?_); (try (rw [drewN_self wr]; generalize hq_ : World.drewN wr _ = wr; have n0_ := Aside0.mk (Kd.R_at hq_ HO_7.out); have n1_ := Aside0.mk (below_at hq_ HB.out); clear hq_ HO_7 HB; have HO_7 := n0_; have HB := n1_; clear n0_ n1_; (try (have HP52 := Kd.R_putg HO_7.out (x14_5 : Int) (wrap64 (-(rd x7_5 x14_5))))))); refine store_event (t := 2) (p := 125) (v := ?vo_w53) (w1 := (wr.setCell ⟨go50, (x14_5 : Int).toNat, none⟩ (.int .i64 (wrap64 (-(rd x7_5 x14_5)))))) ?hg ?ho ?hn ?hr ?_; (case ho => rfl); (case hg => rfl); (case hn => rfl); (case hr => first | (go_simp; done) | (go_simp; rfl)); intro w53 hw; have hg : wr.grownBy w53 (some go50) := (by rw [hw]; exact HP52.2); have hp_ : Kd.R (Kd.int .i64) 2 w53 w.heap.size (fun _ => True) (.slice (some ⟨go50, 0, none⟩) x7_5.length co51) y589 := (by rw [hw, Ny589.out]; exact HP52.1); clear HP52; have n0_ := Aside0.mk (hp_); have n1_ := Aside0.mk ((by rw [hw]; exact below_set (HB.out) GB50.out : Below w.heap.size w w53)); clear HO_7; clear HB; have HO_7 := n0_; have HB := n1_; clear n0_ n1_; clear hg hw hp_)); try go_wp2_with (first | ((with_reducible refine gate_store (t := 2) (p := 125) rfl ?_); (try (rw [drewN_self wr]; generalize hq_ : World.drewN wr _ = wr; have n0_ := Aside0.mk (Kd.R_at hq_ HO_7.out); have n1_ := Aside0.mk (below_at hq_ HB.out); clear hq_ HO_7 HB; have HO_7 := n0_; have HB := n1_; clear n0_ n1_; (try (have HP52 := Kd.R_putg HO_7.out (x14_5 : Int) (wrap64 (-(rd x7_5 x14_5))))))); refine store_event (t := 2) (p := 125) (v := ?vo_w53) (w1 := (wr.setCell ⟨go50, (x14_5 : Int).toNat, none⟩ (.int .i64 (wrap64 (-(rd x7_5 x14_5)))))) ?hg ?ho ?hn ?hr ?_; (case ho => rfl); (case hg => rfl); (case hn => rfl); (case hr => first | (go_simp; done) | (go_simp; rfl)); intro w53 hw; have hg : wr.grownBy w53 (some go50) := (by rw [hw]; exact HP52.2); have hp_ : Kd.R (Kd.int .i64) 2 w53 w.heap.size (fun _ => True) (.slice (some ⟨go50, 0, none⟩) x7_5.length co51) y589 := (by rw [hw, Ny589.out]; exact HP52.1); clear HP52; have n0_ := Aside0.mk (hp_); have n1_ := Aside0.mk ((by rw [hw]; exact below_set (HB.out) GB50.out : Below w.heap.size w w53)); clear HO_7; clear HB; have HO_7 := n0_; have HB := n1_; clear n0_ n1_; clear hg hw hp_)))
                     go_roundg k5
                     case measure => have := HK1.out; have := HJ6.out; have := HK3.out; have := HK4.out; have := HK5.out; omega
                     case rel => exact ⟨(y589), (wrap64 (x14_5 + 1)), (by first | rfl | (simp; done) | (simp [*]; done)), H', ⟨by have := HK1.out; have := HJ6.out; have := HK3.out; have := HK4.out; have := HK5.out; omega⟩, ⟨by (with_reducible repeat (first | apply Kd.R_alloc | apply Kd.R_drewN | apply Kd.R_drew)); exact HO_7.out⟩, ⟨by repeat (first | (with_reducible first | exact HB.out | apply below_alloc | apply pw_below_drewN | apply below_drew1) | exact HB.out)⟩⟩
                    ·rw [if_neg c49] at H
                     exact absurd H (by simp)
                   ·rw [if_neg c48] at H
                    have c48b0 : decide (x14_5 < (x7_5.length : Int)) = false := decide_eq_false c48
                    clear c48
                    obtain rfl := Option.some.inj H
                    obtain ⟨Ao54, co54, eo54⟩ := Kd.R_slice HO_7.out
                    subst eo54
                    go_wp2
                    repeat (go_quiet (fail); try go_wp2)
                    go_ret
                    exact ⟨_, by first | rfl | (simp [errW_none, errW_some] <;> rfl) | (simp [*, errW_none, errW_some] <;> rfl), by (with_reducible repeat (first | apply Kd.R_alloc | apply Kd.R_drewN | apply Kd.R_drew)); exact HO_7.out, by repeat (first | (with_reducible first | exact HB.out | apply below_alloc | apply pw_below_drewN | apply below_drew1) | exact HB.out)⟩
                ·rw [if_neg c47] at H
                 have c47b0 : decide (a0 < 0) = false := decide_eq_false c47
                 clear c47
                 obtain rfl := Option.some.inj H
                 go_wp2
                 repeat (go_quiet (fail); try go_wp2)
                 go_ret
                 exact ⟨_, by first | rfl | (simp [errW_none, errW_some] <;> rfl) | (simp [*, errW_none, errW_some] <;> rfl), by (with_reducible repeat (first | apply Kd.R_alloc | apply Kd.R_drewN | apply Kd.R_drew)); exact HO_7.out, by repeat (first | (with_reducible first | exact HB.out | apply below_alloc | apply pw_below_drewN | apply below_drew1) | exact HB.out)⟩
            ·rw [if_neg c19] at H
             exact absurd H (by simp)
           ·rw [if_neg c18] at H
            exact absurd H (by simp)
     ·rw [if_neg c6] at H
      exact absurd H (by simp)
    ·rw [if_neg c5] at H
     exact absurd H (by simp)

end Go.Proofs.YtmocphafkimdpaaDoor.P
