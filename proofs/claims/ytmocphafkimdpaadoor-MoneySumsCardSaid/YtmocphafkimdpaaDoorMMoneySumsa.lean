/- A part of the proof of MoneySums's card: 'MoneySums' answers true for every input (the conditions: those of the given statement alone). Merged by a program (wip/merge.py) out of: Pf44, Pf18, HMoneySums. -/
import Derived.Test.YtmocphafkimdpaaDoorBMoneya
import Derived.Test.YtmocphafkimdpaaDoorBMoneyi
import Derived.Test.YtmocphafkimdpaaDoorBMoneyj

-- written by a program (a patched copy of the kit's print: wip/mkprint.py); Lean checks it
namespace Go.Proofs.YtmocphafkimdpaaDoor.P
open Go.RowKit Go.Proofs.YtmocphafkimdpaaDoorW.PrintWords Go.Proofs.YtmocphafkimdpaaDoorW.PrintLast Go.Proofs.YtmocphafkimdpaaDoorW.PrintMore
attribute [local go_sem] max2_int min2_int max_two min_two max_three min_three max_four min_four   -- for this text's walks alone
set_option linter.unusedVariables false
set_option linter.unusedSimpArgs false

/-! ### money_Sum: function 44 -/
def money_Sum.l0 : Nat → Int → List Int → Int → Int → Option (Int × Int)
 | 0, _, _, _, _ => none
 | k + 1, x4, x9, x10, x11 => if x11 < x10 then (if 0 ≤ x11 then (if x11 < (x9.length : Int) then ((money_Add.f k x4 (rd x9 x11)).bind fun bt384 => (if bt384.2 = 0 then (money_Sum.l0 k bt384.1 x9 x10 (wrap64 (x11 + 1))) else (some (0, bt384.2)))) else (none)) else (none)) else (some (x4, 0))
def money_Sum.f (k : Nat) (l0 : List Int) : Option (Int × Int) := money_Sum.l0 k 0 l0 (l0.length : Int) 0
theorem money_Sum.mono_l : ∀ k, (∀ y0 y1 y2 y3, LeO (money_Sum.l0 k y0 y1 y2 y3) (money_Sum.l0 (k + 1) y0 y1 y2 y3))
 | 0 => fun _ _ _ _ r h => by simp [money_Sum.l0] at h
 | k + 1 => by
  have ih0 := money_Sum.mono_l k
  ·intro y0 y1 y2 y3
   unfold money_Sum.l0
   repeat' first
   | (with_reducible exact ih0 _ _ _ _)
   | (with_reducible exact money_Add.mono _ _ _)
   | (with_reducible exact LeO.refl _)
   | (with_reducible exact LeO.none _)
   | (with_reducible refine LeO.ite ?_ ?_)
   | (with_reducible refine LeO.bind ?_ (fun _ => ?_))
   | exact ih0 _ _ _ _
   | exact money_Add.mono _ _ _
   | exact LeO.none _
   | refine LeO.ite ?_ ?_
   | refine LeO.bind ?_ (fun _ => ?_)
theorem money_Sum.mono : ∀ a0 k, LeO (money_Sum.f k a0) (money_Sum.f (k + 1) a0) := by
 intro a0 k
 have ih0 := money_Sum.mono_l k
 unfold money_Sum.f
 repeat' first
   | (with_reducible exact ih0 _ _ _ _)
   | (with_reducible exact money_Add.mono _ _ _)
   | (with_reducible exact LeO.refl _)
   | (with_reducible exact LeO.none _)
   | (with_reducible refine LeO.ite ?_ ?_)
   | (with_reducible refine LeO.bind ?_ (fun _ => ?_))
   | exact ih0 _ _ _ _
   | exact money_Add.mono _ _ _
   | exact LeO.none _
   | refine LeO.ite ?_ ?_
   | refine LeO.bind ?_ (fun _ => ?_)
set_option maxHeartbeats 8000000 in
set_option maxRecDepth 100000 in
theorem money_Sum.calls (k : Nat) (A0 : Option Addr) (c0 : Nat) (l0 : List Int) (r1 : Int) (r2 : Int) (w : World) (hr0 : Kd.C (Kd.int .i64) w A0 l0.length l0) (hc0 : l0.length ≤ c0) (h : money_Sum.f k l0 = some (r1, r2)) :
  Calls Tryd.prog 44 #[.slice A0 l0.length c0] w fun e w' => e = .returned (.tuple #[.int .i64 r1, .int .i64 r2]) ∧ Below w.heap.size w w' := by
 have HR0 := Aside0.mk hr0
 have HC0 := Aside0.mk hc0
 clear hr0 hc0
 have HB := Aside0.mk (Below.refl w.heap.size w)
 have H : (money_Sum.l0 k 0 l0 (l0.length : Int) 0) = some (r1, r2) := h
 clear h
 have H' := Aside0.mk H
 clear H
 go_enter Tryd.func44, Tryd.ntmps44
 go_wp2
 go_loopg [4, 11] k (fun kq v4 v11 w' => ∃ (x4_1 : Int) (x11_1 : Int), v4 = .int .i64 x4_1 ∧ v11 = .int .i64 x11_1 ∧ Aside0 (money_Sum.l0 kq x4_1 l0 (l0.length : Int) x11_1 = some (r1, r2)) ∧ Aside0 (kq ≤ k) ∧ Aside0 (Below w.heap.size w w'))
 case atStart => exact ⟨(0), (0), (by first | rfl | (simp; done) | (simp [*]; done)), (by first | rfl | (simp; done) | (simp [*]; done)), H', ⟨Nat.le_refl _⟩, ⟨by repeat (first | (with_reducible first | exact HB.out | apply below_alloc | apply pw_below_drewN | apply below_drew1) | exact HB.out)⟩⟩
 case round =>
  clear H'
  obtain ⟨x4_1, x11_1, rfl, rfl, HA, HK1, HB⟩ := hrel
  cases gk with
  | zero => exact absurd HA.out (by simp [money_Sum.l0])
  | succ k1 =>
   have H := HA.out
   clear HA
   simp only [money_Sum.l0] at H
   by_cases c2 : x11_1 < (l0.length : Int)
   ·rw [if_pos c2] at H
    have c2b0 : decide (x11_1 < (l0.length : Int)) = true := decide_eq_true c2
    clear c2
    by_cases c3 : 0 ≤ x11_1
    ·rw [if_pos c3] at H
     have c3b0 : decide (0 ≤ x11_1) = true := decide_eq_true c3
     clear c3
     by_cases c4 : x11_1 < (l0.length : Int)
     ·rw [if_pos c4] at H
      have c4b0 : decide (x11_1 < (l0.length : Int)) = true := decide_eq_true c4
      clear c4
      replace H := Option.bind_eq_some_iff.mp H
      obtain ⟨⟨t384, t385⟩, A50, H⟩ := H
      replace H : (if t385 = 0 then (money_Sum.l0 k1 t384 l0 (l0.length : Int) (wrap64 (x11_1 + 1))) else (some (0, t385))) = some (r1, r2) := H
      have A5 := Aside0.mk A50
      clear A50
      by_cases c6 : t385 = 0
      ·rw [if_pos c6] at H
       have c6b0 : (t385 == 0) = true := beq_iff_eq.mpr c6
       have c6b1 : (t385 != 0) = false := bne_eq_false_iff_eq.mpr c6
       clear c6
       have H' := Aside0.mk H
       clear H
       have p383 : 0 ≤ (x11_1 : Int) := of_decide_eq_true (by first | (with_reducible assumption) | assumption)
       have q383 : x11_1 < (l0.length : Int) := of_decide_eq_true (by first | (with_reducible assumption) | assumption)
       obtain ⟨ad383, e383, hx383_0⟩ := Kd.at_int HR0.out x11_1 p383 q383
       cases e383
       replace hx383_0 := (HB.out.cell (World.block_lt_of_cell? w _ hx383_0)).trans hx383_0
       replace p383 := eq_true p383
       replace q383 := eq_true q383
       go_wp2_with (first | ((with_reducible refine gate_callee (f := 34) rfl ?_); refine goesL_ (some 18) rfl rfl Tryd.func34 (by kernel_rfl) rfl #[.int .i64 x4_1, .int .i64 (rd l0 x11_1)] rfl (by (try simp only [List.map_toArray, List.map_cons, List.map_nil]); first | done | rfl | (simp only [List.length_drop, List.length_take]; rfl)) ?_; (with_reducible refine (money_Add.calls k1 x4_1 (rd l0 x11_1) t384 t385 _ A5.out).mono ?_); rintro e w7 ⟨rfl, hb⟩; refine ⟨_, rfl, ?_⟩; have n0_ := Aside0.mk (below_step (by repeat (first | (with_reducible first | exact HB.out | apply below_alloc | apply pw_below_drewN | apply below_drew1) | exact HB.out)) hb); clear HB; have HB := n0_; clear n0_; (try clear hb); (try clear hb2); (try clear hk); (try clear hi)))
       go_roundg k1
       case measure => have := HK1.out; omega
       case rel => exact ⟨(t384), (wrap64 (x11_1 + 1)), (by first | rfl | (simp; done) | (simp [*]; done)), (by first | rfl | (simp; done) | (simp [*]; done)), H', ⟨by have := HK1.out; omega⟩, ⟨by repeat (first | (with_reducible first | exact HB.out | apply below_alloc | apply pw_below_drewN | apply below_drew1) | exact HB.out)⟩⟩
      ·rw [if_neg c6] at H
       have c6b0 : (t385 == 0) = false := beq_eq_false_iff_ne.mpr c6
       have c6b1 : (t385 != 0) = true := bne_iff_ne.mpr c6
       simp only [Option.some.injEq, Prod.mk.injEq] at H
       obtain ⟨rfl, rfl⟩ := H
       have p383 : 0 ≤ (x11_1 : Int) := of_decide_eq_true (by first | (with_reducible assumption) | assumption)
       have q383 : x11_1 < (l0.length : Int) := of_decide_eq_true (by first | (with_reducible assumption) | assumption)
       obtain ⟨ad383, e383, hx383_0⟩ := Kd.at_int HR0.out x11_1 p383 q383
       cases e383
       replace hx383_0 := (HB.out.cell (World.block_lt_of_cell? w _ hx383_0)).trans hx383_0
       replace p383 := eq_true p383
       replace q383 := eq_true q383
       go_wp2_with (first | ((with_reducible refine gate_callee (f := 34) rfl ?_); refine goesL_ (some 18) rfl rfl Tryd.func34 (by kernel_rfl) rfl #[.int .i64 x4_1, .int .i64 (rd l0 x11_1)] rfl (by (try simp only [List.map_toArray, List.map_cons, List.map_nil]); first | done | rfl | (simp only [List.length_drop, List.length_take]; rfl)) ?_; (with_reducible refine (money_Add.calls k1 x4_1 (rd l0 x11_1) t384 t385 _ A5.out).mono ?_); rintro e w8 ⟨rfl, hb⟩; refine ⟨_, rfl, ?_⟩; have n0_ := Aside0.mk (below_step (by repeat (first | (with_reducible first | exact HB.out | apply below_alloc | apply pw_below_drewN | apply below_drew1) | exact HB.out)) hb); clear HB; have HB := n0_; clear n0_; (try clear hb); (try clear hb2); (try clear hk); (try clear hi)))
       go_ret2
       exact ⟨by first | rfl | (simp [errW_none, errW_some] <;> rfl) | (simp [*, errW_none, errW_some] <;> rfl), by repeat (first | (with_reducible first | exact HB.out | apply below_alloc | apply pw_below_drewN | apply below_drew1) | exact HB.out)⟩
     ·rw [if_neg c4] at H
      exact absurd H (by simp)
    ·rw [if_neg c3] at H
     exact absurd H (by simp)
   ·rw [if_neg c2] at H
    have c2b0 : decide (x11_1 < (l0.length : Int)) = false := decide_eq_false c2
    clear c2
    simp only [Option.some.injEq, Prod.mk.injEq] at H
    obtain ⟨rfl, rfl⟩ := H
    go_wp2
    go_ret2
    exact ⟨by first | rfl | (simp [errW_none, errW_some] <;> rfl) | (simp [*, errW_none, errW_some] <;> rfl), by repeat (first | (with_reducible first | exact HB.out | apply below_alloc | apply pw_below_drewN | apply below_drew1) | exact HB.out)⟩

end Go.Proofs.YtmocphafkimdpaaDoor.P


-- written by a program (a patched copy of the kit's print: wip/mkprint.py); Lean checks it
namespace Go.Proofs.YtmocphafkimdpaaDoor.P
open Go.RowKit Go.Proofs.YtmocphafkimdpaaDoorW.PrintWords Go.Proofs.YtmocphafkimdpaaDoorW.PrintLast Go.Proofs.YtmocphafkimdpaaDoorW.PrintMore
attribute [local go_sem] max2_int min2_int max_two min_two max_three min_three max_four min_four   -- for this text's walks alone
set_option linter.unusedVariables false
set_option linter.unusedSimpArgs false

/-! ### stipendlaw01_MoneySums: function 18 -/
def stipendlaw01_MoneySums.l0 : Nat → Int → Int → Int → List Int → Int → Int → Option (Bool)
 | 0, _, _, _, _, _, _ => none
 | k + 1, x3, x4, x5, x18, x19, x20 => if x20 < x19 then (if 0 ≤ x20 then (if x20 < (x18.length : Int) then ((stipendref01_Right.f (rd x18 x20)).bind fun t643 => (if t643 = true then ((stipendref01_Right.f (wrap64 (x5 + (rd x18 x20)))).bind fun t644 => (if t644 = true then (stipendlaw01_MoneySums.l0 k x3 x4 (wrap64 (x5 + (rd x18 x20))) x18 x19 (wrap64 (x20 + 1))) else (if x4 = 10 then (some (x3 == 0)) else (some false)))) else (if x4 = 10 then (some (x3 == 0)) else (some false)))) else (none)) else (none)) else (if x4 = 0 then (some (x3 == x5)) else (some false))
def stipendlaw01_MoneySums.f (k : Nat) (l0 : List Int) : Option (Bool) := (stipendlaw01_counts.f k).bind fun t639 => (if t639 = true then (if (l0.length : Int) > 100 then (some true) else ((money_Sum.f k l0).bind fun bt640 => (stipendlaw01_MoneySums.l0 k bt640.1 bt640.2 0 l0 (l0.length : Int) 0))) else (some false))
theorem stipendlaw01_MoneySums.mono_l : ∀ k, (∀ y0 y1 y2 y3 y4 y5, LeO (stipendlaw01_MoneySums.l0 k y0 y1 y2 y3 y4 y5) (stipendlaw01_MoneySums.l0 (k + 1) y0 y1 y2 y3 y4 y5))
 | 0 => fun _ _ _ _ _ _ r h => by simp [stipendlaw01_MoneySums.l0] at h
 | k + 1 => by
  have ih0 := stipendlaw01_MoneySums.mono_l k
  ·intro y0 y1 y2 y3 y4 y5
   unfold stipendlaw01_MoneySums.l0
   repeat' first
   | (with_reducible exact ih0 _ _ _ _ _ _)
   | (with_reducible exact money_Sum.mono _ _)
   | (with_reducible exact stipendlaw01_counts.mono _)
   | (with_reducible exact LeO.refl _)
   | (with_reducible exact LeO.none _)
   | (with_reducible refine LeO.ite ?_ ?_)
   | (with_reducible refine LeO.bind ?_ (fun _ => ?_))
   | exact ih0 _ _ _ _ _ _
   | exact money_Sum.mono _ _
   | exact stipendlaw01_counts.mono _
   | exact LeO.none _
   | refine LeO.ite ?_ ?_
   | refine LeO.bind ?_ (fun _ => ?_)
theorem stipendlaw01_MoneySums.mono : ∀ a0 k, LeO (stipendlaw01_MoneySums.f k a0) (stipendlaw01_MoneySums.f (k + 1) a0) := by
 intro a0 k
 have ih0 := stipendlaw01_MoneySums.mono_l k
 unfold stipendlaw01_MoneySums.f
 repeat' first
   | (with_reducible exact ih0 _ _ _ _ _ _)
   | (with_reducible exact money_Sum.mono _ _)
   | (with_reducible exact stipendlaw01_counts.mono _)
   | (with_reducible exact LeO.refl _)
   | (with_reducible exact LeO.none _)
   | (with_reducible refine LeO.ite ?_ ?_)
   | (with_reducible refine LeO.bind ?_ (fun _ => ?_))
   | exact ih0 _ _ _ _ _ _
   | exact money_Sum.mono _ _
   | exact stipendlaw01_counts.mono _
   | exact LeO.none _
   | refine LeO.ite ?_ ?_
   | refine LeO.bind ?_ (fun _ => ?_)
set_option maxHeartbeats 8000000 in
set_option maxRecDepth 100000 in
theorem stipendlaw01_MoneySums.calls (k : Nat) (A0 : Option Addr) (c0 : Nat) (l0 : List Int) (r : Bool) (w : World) (hr0 : Kd.C (Kd.int .i64) w A0 l0.length l0) (hc0 : l0.length ≤ c0) (h : stipendlaw01_MoneySums.f k l0 = some r) (hG : GTab w := by first | exact GTab.below HG.out (by repeat (first | (with_reducible first | exact HB.out | apply below_alloc | apply pw_below_drewN | apply below_drew1 | apply below_drew) | exact HB.out)) | exact HG.out) :
  Calls Tryd.prog 18 #[.slice A0 l0.length c0] w fun e w' => e = .returned (.bool r) ∧ Below w.heap.size w w' := by
 have HG := Aside0.mk hG; clear hG
 have HR0 := Aside0.mk hr0
 have HC0 := Aside0.mk hc0
 clear hr0 hc0
 have HB := Aside0.mk (Below.refl w.heap.size w)
 have H : ((stipendlaw01_counts.f k).bind fun t639 => (if t639 = true then (if (l0.length : Int) > 100 then (some true) else ((money_Sum.f k l0).bind fun bt640 => (stipendlaw01_MoneySums.l0 k bt640.1 bt640.2 0 l0 (l0.length : Int) 0))) else (some false))) = some r := h
 clear h
 replace H := Option.bind_eq_some_iff.mp H
 obtain ⟨t639, A20, H⟩ := H
 replace H : (if t639 = true then (if (l0.length : Int) > 100 then (some true) else ((money_Sum.f k l0).bind fun bt640 => (stipendlaw01_MoneySums.l0 k bt640.1 bt640.2 0 l0 (l0.length : Int) 0))) else (some false)) = some r := H
 have A2 := Aside0.mk A20
 clear A20
 by_cases c3 : t639 = true
 ·subst c3
  have H1 : (if (l0.length : Int) > 100 then (some true) else ((money_Sum.f k l0).bind fun bt640 => (stipendlaw01_MoneySums.l0 k bt640.1 bt640.2 0 l0 (l0.length : Int) 0))) = some r := by rw [if_pos rfl] at H; exact H
  clear H
  have H := H1
  clear H1
  by_cases c4 : (l0.length : Int) > 100
  ·rw [if_pos c4] at H
   have c4b0 : decide (100 < (l0.length : Int)) = true := decide_eq_true c4
   have c4b1 : decide (100 < l0.length) = true := decide_eq_true (by omega)
   clear c4
   obtain rfl := Option.some.inj H
   go_enter Tryd.func18, Tryd.ntmps18
   go_wp2_with (first | ((with_reducible refine gate_callee (f := 57) rfl ?_); refine goesL_ (some 8) rfl rfl Tryd.func57 (by kernel_rfl) rfl #[] rfl (by (try simp only [List.map_toArray, List.map_cons, List.map_nil]); first | done | rfl | (simp only [List.length_drop, List.length_take]; rfl)) ?_; (with_reducible refine (stipendlaw01_counts.calls k  true _ A2.out).mono ?_); rintro e w5 ⟨rfl, hb⟩; refine ⟨_, rfl, ?_⟩; have n0_ := Aside0.mk (below_step (by repeat (first | (with_reducible first | exact HB.out | apply below_alloc | apply pw_below_drewN | apply below_drew1) | exact HB.out)) hb); clear HB; have HB := n0_; clear n0_; (try clear hb); (try clear hb2); (try clear hk); (try clear hi)))
   go_ret
   exact ⟨by first | rfl | (simp [errW_none, errW_some] <;> rfl) | (simp [*, errW_none, errW_some] <;> rfl), by repeat (first | (with_reducible first | exact HB.out | apply below_alloc | apply pw_below_drewN | apply below_drew1) | exact HB.out)⟩
  ·rw [if_neg c4] at H
   have c4b0 : decide (100 < (l0.length : Int)) = false := decide_eq_false c4
   have c4b1 : decide (100 < l0.length) = false := decide_eq_false (by omega)
   clear c4
   replace H := Option.bind_eq_some_iff.mp H
   obtain ⟨⟨t640, t641⟩, A60, H⟩ := H
   replace H : (stipendlaw01_MoneySums.l0 k t640 t641 0 l0 (l0.length : Int) 0) = some r := H
   have A6 := Aside0.mk A60
   clear A60
   have H' := Aside0.mk H
   clear H
   go_enter Tryd.func18, Tryd.ntmps18
   go_wp2_with (first | ((with_reducible refine gate_callee (f := 57) rfl ?_); refine goesL_ (some 8) rfl rfl Tryd.func57 (by kernel_rfl) rfl #[] rfl (by (try simp only [List.map_toArray, List.map_cons, List.map_nil]); first | done | rfl | (simp only [List.length_drop, List.length_take]; rfl)) ?_; (with_reducible refine (stipendlaw01_counts.calls k  true _ A2.out).mono ?_); rintro e w7 ⟨rfl, hb⟩; refine ⟨_, rfl, ?_⟩; have n0_ := Aside0.mk (below_step (by repeat (first | (with_reducible first | exact HB.out | apply below_alloc | apply pw_below_drewN | apply below_drew1) | exact HB.out)) hb); clear HB; have HB := n0_; clear n0_; (try clear hb); (try clear hb2); (try clear hk); (try clear hi)) | ((with_reducible refine gate_callee (f := 44) rfl ?_); refine goesL_ (some 15) rfl rfl Tryd.func44 (by kernel_rfl) rfl #[.slice A0 l0.length c0] rfl (by (try simp only [List.map_toArray, List.map_cons, List.map_nil]); first | done | rfl | (simp only [List.length_drop, List.length_take]; rfl)) ?_; (with_reducible refine (money_Sum.calls k _ _ l0 t640 t641 _ ?side1 ?side2 A6.out).mono ?_); (case side1 => repeat (first | exact (Kd.C_below HR0.out HB.out) | (with_reducible refine Kd.C_alloc ?_ _) | (with_reducible refine Kd.C_drewN ?_ _) | (with_reducible refine Kd.C_drew ?_))); (case side2 => exact HC0.out); rintro e w8 ⟨rfl, hb⟩; refine ⟨_, rfl, ?_⟩; have n0_ := Aside0.mk (below_step (by repeat (first | (with_reducible first | exact HB.out | apply below_alloc | apply pw_below_drewN | apply below_drew1) | exact HB.out)) hb); clear HB; have HB := n0_; clear n0_; (try clear hb); (try clear hb2); (try clear hk); (try clear hi)))
   go_loopg [5, 20] k (fun kq v5 v20 w' => ∃ (x5_1 : Int) (x20_1 : Int), v5 = .int .i64 x5_1 ∧ v20 = .int .i64 x20_1 ∧ Aside0 (stipendlaw01_MoneySums.l0 kq t640 t641 x5_1 l0 (l0.length : Int) x20_1 = some r) ∧ Aside0 (kq ≤ k) ∧ Aside0 (Below w.heap.size w w'))
   case atStart => exact ⟨(0), (0), (by first | rfl | (simp; done) | (simp [*]; done)), (by first | rfl | (simp; done) | (simp [*]; done)), H', ⟨Nat.le_refl _⟩, ⟨by repeat (first | (with_reducible first | exact HB.out | apply below_alloc | apply pw_below_drewN | apply below_drew1) | exact HB.out)⟩⟩
   case round =>
    clear H'
    try clear c1
    try clear p2
    try clear c3
    try clear c4
    try clear c4b0
    try clear c4b1
    try clear c5
    obtain ⟨x5_1, x20_1, rfl, rfl, HA, HK1, HB⟩ := hrel
    cases gk with
    | zero => exact absurd HA.out (by simp [stipendlaw01_MoneySums.l0])
    | succ k1 =>
     have H := HA.out
     clear HA
     simp only [stipendlaw01_MoneySums.l0] at H
     by_cases c9 : x20_1 < (l0.length : Int)
     ·rw [if_pos c9] at H
      have c9b0 : decide (x20_1 < (l0.length : Int)) = true := decide_eq_true c9
      clear c9
      by_cases c10 : 0 ≤ x20_1
      ·rw [if_pos c10] at H
       have c10b0 : decide (0 ≤ x20_1) = true := decide_eq_true c10
       clear c10
       by_cases c11 : x20_1 < (l0.length : Int)
       ·rw [if_pos c11] at H
        have c11b0 : decide (x20_1 < (l0.length : Int)) = true := decide_eq_true c11
        clear c11
        replace H := Option.bind_eq_some_iff.mp H
        obtain ⟨t643, A120, H⟩ := H
        replace H : (if t643 = true then ((stipendref01_Right.f (wrap64 (x5_1 + (rd l0 x20_1)))).bind fun t644 => (if t644 = true then (stipendlaw01_MoneySums.l0 k1 t640 t641 (wrap64 (x5_1 + (rd l0 x20_1))) l0 (l0.length : Int) (wrap64 (x20_1 + 1))) else (if t641 = 10 then (some (t640 == 0)) else (some false)))) else (if t641 = 10 then (some (t640 == 0)) else (some false))) = some r := H
        have A12 := Aside0.mk A120
        clear A120
        by_cases c13 : t643 = true
        ·subst c13
         have H1 : ((stipendref01_Right.f (wrap64 (x5_1 + (rd l0 x20_1)))).bind fun t644 => (if t644 = true then (stipendlaw01_MoneySums.l0 k1 t640 t641 (wrap64 (x5_1 + (rd l0 x20_1))) l0 (l0.length : Int) (wrap64 (x20_1 + 1))) else (if t641 = 10 then (some (t640 == 0)) else (some false)))) = some r := by rw [if_pos rfl] at H; exact H
         clear H
         have H := H1
         clear H1
         replace H := Option.bind_eq_some_iff.mp H
         obtain ⟨t644, A140, H⟩ := H
         replace H : (if t644 = true then (stipendlaw01_MoneySums.l0 k1 t640 t641 (wrap64 (x5_1 + (rd l0 x20_1))) l0 (l0.length : Int) (wrap64 (x20_1 + 1))) else (if t641 = 10 then (some (t640 == 0)) else (some false))) = some r := H
         have A14 := Aside0.mk A140
         clear A140
         by_cases c15 : t644 = true
         ·subst c15
          have H1 : (stipendlaw01_MoneySums.l0 k1 t640 t641 (wrap64 (x5_1 + (rd l0 x20_1))) l0 (l0.length : Int) (wrap64 (x20_1 + 1))) = some r := by rw [if_pos rfl] at H; exact H
          clear H
          have H := H1
          clear H1
          have H' := Aside0.mk H
          clear H
          have p642 : 0 ≤ (x20_1 : Int) := of_decide_eq_true (by first | (with_reducible assumption) | assumption)
          have q642 : x20_1 < (l0.length : Int) := of_decide_eq_true (by first | (with_reducible assumption) | assumption)
          obtain ⟨ad642, e642, hx642_0⟩ := Kd.at_int HR0.out x20_1 p642 q642
          cases e642
          replace hx642_0 := (HB.out.cell (World.block_lt_of_cell? w _ hx642_0)).trans hx642_0
          replace p642 := eq_true p642
          replace q642 := eq_true q642
          go_wp2_with (first | ((with_reducible refine gate_callee (f := 59) rfl ?_); refine goesL_ (some 25) rfl rfl Tryd.func59 (by kernel_rfl) rfl #[.int .i64 (rd l0 x20_1)] rfl (by (try simp only [List.map_toArray, List.map_cons, List.map_nil]); first | done | rfl | (simp only [List.length_drop, List.length_take]; rfl)) ?_; (with_reducible refine (stipendref01_Right.calls (rd l0 x20_1) true _ A12.out).mono ?_); rintro e w' ⟨rfl, ⟨nd, rfl⟩⟩; refine ⟨_, rfl, ?_⟩) | (go_at_call 59; (with_reducible refine (stipendref01_Right.calls (wrap64 (x5_1 + (rd l0 x20_1))) true _ A14.out).mono ?_); rintro e w' ⟨rfl, ⟨nd, rfl⟩⟩))
          go_roundg k1
          case measure => have := HK1.out; omega
          case rel => exact ⟨(wrap64 (x5_1 + (rd l0 x20_1))), (wrap64 (x20_1 + 1)), (by first | rfl | (simp; done) | (simp [*]; done)), (by first | rfl | (simp; done) | (simp [*]; done)), H', ⟨by have := HK1.out; omega⟩, ⟨by repeat (first | (with_reducible first | exact HB.out | apply below_alloc | apply pw_below_drewN | apply below_drew1) | exact HB.out)⟩⟩
         ·replace c15 := Bool.eq_false_iff.mpr c15
          subst c15
          have H1 : (if t641 = 10 then (some (t640 == 0)) else (some false)) = some r := by rw [if_neg (show ¬ (false = true) by decide)] at H; exact H
          clear H
          have H := H1
          clear H1
          by_cases c16 : t641 = 10
          ·rw [if_pos c16] at H
           have c16b0 : (t641 == 10) = true := beq_iff_eq.mpr c16
           have c16b1 : (t641 != 10) = false := bne_eq_false_iff_eq.mpr c16
           clear c16
           obtain rfl := Option.some.inj H
           have p642 : 0 ≤ (x20_1 : Int) := of_decide_eq_true (by first | (with_reducible assumption) | assumption)
           have q642 : x20_1 < (l0.length : Int) := of_decide_eq_true (by first | (with_reducible assumption) | assumption)
           obtain ⟨ad642, e642, hx642_0⟩ := Kd.at_int HR0.out x20_1 p642 q642
           cases e642
           replace hx642_0 := (HB.out.cell (World.block_lt_of_cell? w _ hx642_0)).trans hx642_0
           replace p642 := eq_true p642
           replace q642 := eq_true q642
           go_wp2_with (first | ((with_reducible refine gate_callee (f := 59) rfl ?_); refine goesL_ (some 25) rfl rfl Tryd.func59 (by kernel_rfl) rfl #[.int .i64 (rd l0 x20_1)] rfl (by (try simp only [List.map_toArray, List.map_cons, List.map_nil]); first | done | rfl | (simp only [List.length_drop, List.length_take]; rfl)) ?_; (with_reducible refine (stipendref01_Right.calls (rd l0 x20_1) true _ A12.out).mono ?_); rintro e w' ⟨rfl, ⟨nd, rfl⟩⟩; refine ⟨_, rfl, ?_⟩) | (go_at_call 59; (with_reducible refine (stipendref01_Right.calls (wrap64 (x5_1 + (rd l0 x20_1))) false _ A14.out).mono ?_); rintro e w' ⟨rfl, ⟨nd, rfl⟩⟩))
           go_ret
           exact ⟨by first | rfl | (simp [errW_none, errW_some] <;> rfl) | (simp [*, errW_none, errW_some] <;> rfl), by repeat (first | (with_reducible first | exact HB.out | apply below_alloc | apply pw_below_drewN | apply below_drew1) | exact HB.out)⟩
          ·rw [if_neg c16] at H
           have c16b0 : (t641 == 10) = false := beq_eq_false_iff_ne.mpr c16
           have c16b1 : (t641 != 10) = true := bne_iff_ne.mpr c16
           obtain rfl := Option.some.inj H
           have p642 : 0 ≤ (x20_1 : Int) := of_decide_eq_true (by first | (with_reducible assumption) | assumption)
           have q642 : x20_1 < (l0.length : Int) := of_decide_eq_true (by first | (with_reducible assumption) | assumption)
           obtain ⟨ad642, e642, hx642_0⟩ := Kd.at_int HR0.out x20_1 p642 q642
           cases e642
           replace hx642_0 := (HB.out.cell (World.block_lt_of_cell? w _ hx642_0)).trans hx642_0
           replace p642 := eq_true p642
           replace q642 := eq_true q642
           go_wp2_with (first | ((with_reducible refine gate_callee (f := 59) rfl ?_); refine goesL_ (some 25) rfl rfl Tryd.func59 (by kernel_rfl) rfl #[.int .i64 (rd l0 x20_1)] rfl (by (try simp only [List.map_toArray, List.map_cons, List.map_nil]); first | done | rfl | (simp only [List.length_drop, List.length_take]; rfl)) ?_; (with_reducible refine (stipendref01_Right.calls (rd l0 x20_1) true _ A12.out).mono ?_); rintro e w' ⟨rfl, ⟨nd, rfl⟩⟩; refine ⟨_, rfl, ?_⟩) | (go_at_call 59; (with_reducible refine (stipendref01_Right.calls (wrap64 (x5_1 + (rd l0 x20_1))) false _ A14.out).mono ?_); rintro e w' ⟨rfl, ⟨nd, rfl⟩⟩))
           go_ret
           exact ⟨by first | rfl | (simp [errW_none, errW_some] <;> rfl) | (simp [*, errW_none, errW_some] <;> rfl), by repeat (first | (with_reducible first | exact HB.out | apply below_alloc | apply pw_below_drewN | apply below_drew1) | exact HB.out)⟩
        ·replace c13 := Bool.eq_false_iff.mpr c13
         subst c13
         have H1 : (if t641 = 10 then (some (t640 == 0)) else (some false)) = some r := by rw [if_neg (show ¬ (false = true) by decide)] at H; exact H
         clear H
         have H := H1
         clear H1
         by_cases c17 : t641 = 10
         ·rw [if_pos c17] at H
          have c17b0 : (t641 == 10) = true := beq_iff_eq.mpr c17
          have c17b1 : (t641 != 10) = false := bne_eq_false_iff_eq.mpr c17
          clear c17
          obtain rfl := Option.some.inj H
          have p642 : 0 ≤ (x20_1 : Int) := of_decide_eq_true (by first | (with_reducible assumption) | assumption)
          have q642 : x20_1 < (l0.length : Int) := of_decide_eq_true (by first | (with_reducible assumption) | assumption)
          obtain ⟨ad642, e642, hx642_0⟩ := Kd.at_int HR0.out x20_1 p642 q642
          cases e642
          replace hx642_0 := (HB.out.cell (World.block_lt_of_cell? w _ hx642_0)).trans hx642_0
          replace p642 := eq_true p642
          replace q642 := eq_true q642
          go_wp2_with (first | ((with_reducible refine gate_callee (f := 59) rfl ?_); refine goesL_ (some 25) rfl rfl Tryd.func59 (by kernel_rfl) rfl #[.int .i64 (rd l0 x20_1)] rfl (by (try simp only [List.map_toArray, List.map_cons, List.map_nil]); first | done | rfl | (simp only [List.length_drop, List.length_take]; rfl)) ?_; (with_reducible refine (stipendref01_Right.calls (rd l0 x20_1) false _ A12.out).mono ?_); rintro e w' ⟨rfl, ⟨nd, rfl⟩⟩; refine ⟨_, rfl, ?_⟩))
          go_ret
          exact ⟨by first | rfl | (simp [errW_none, errW_some] <;> rfl) | (simp [*, errW_none, errW_some] <;> rfl), by repeat (first | (with_reducible first | exact HB.out | apply below_alloc | apply pw_below_drewN | apply below_drew1) | exact HB.out)⟩
         ·rw [if_neg c17] at H
          have c17b0 : (t641 == 10) = false := beq_eq_false_iff_ne.mpr c17
          have c17b1 : (t641 != 10) = true := bne_iff_ne.mpr c17
          obtain rfl := Option.some.inj H
          have p642 : 0 ≤ (x20_1 : Int) := of_decide_eq_true (by first | (with_reducible assumption) | assumption)
          have q642 : x20_1 < (l0.length : Int) := of_decide_eq_true (by first | (with_reducible assumption) | assumption)
          obtain ⟨ad642, e642, hx642_0⟩ := Kd.at_int HR0.out x20_1 p642 q642
          cases e642
          replace hx642_0 := (HB.out.cell (World.block_lt_of_cell? w _ hx642_0)).trans hx642_0
          replace p642 := eq_true p642
          replace q642 := eq_true q642
          go_wp2_with (first | ((with_reducible refine gate_callee (f := 59) rfl ?_); refine goesL_ (some 25) rfl rfl Tryd.func59 (by kernel_rfl) rfl #[.int .i64 (rd l0 x20_1)] rfl (by (try simp only [List.map_toArray, List.map_cons, List.map_nil]); first | done | rfl | (simp only [List.length_drop, List.length_take]; rfl)) ?_; (with_reducible refine (stipendref01_Right.calls (rd l0 x20_1) false _ A12.out).mono ?_); rintro e w' ⟨rfl, ⟨nd, rfl⟩⟩; refine ⟨_, rfl, ?_⟩))
          go_ret
          exact ⟨by first | rfl | (simp [errW_none, errW_some] <;> rfl) | (simp [*, errW_none, errW_some] <;> rfl), by repeat (first | (with_reducible first | exact HB.out | apply below_alloc | apply pw_below_drewN | apply below_drew1) | exact HB.out)⟩
       ·rw [if_neg c11] at H
        exact absurd H (by simp)
      ·rw [if_neg c10] at H
       exact absurd H (by simp)
     ·rw [if_neg c9] at H
      have c9b0 : decide (x20_1 < (l0.length : Int)) = false := decide_eq_false c9
      clear c9
      by_cases c18 : t641 = 0
      ·rw [if_pos c18] at H
       have c18b0 : (t641 == 0) = true := beq_iff_eq.mpr c18
       have c18b1 : (t641 != 0) = false := bne_eq_false_iff_eq.mpr c18
       clear c18
       obtain rfl := Option.some.inj H
       go_wp2
       go_ret
       exact ⟨by first | rfl | (simp [errW_none, errW_some] <;> rfl) | (simp [*, errW_none, errW_some] <;> rfl), by repeat (first | (with_reducible first | exact HB.out | apply below_alloc | apply pw_below_drewN | apply below_drew1) | exact HB.out)⟩
      ·rw [if_neg c18] at H
       have c18b0 : (t641 == 0) = false := beq_eq_false_iff_ne.mpr c18
       have c18b1 : (t641 != 0) = true := bne_iff_ne.mpr c18
       obtain rfl := Option.some.inj H
       go_wp2
       go_ret
       exact ⟨by first | rfl | (simp [errW_none, errW_some] <;> rfl) | (simp [*, errW_none, errW_some] <;> rfl), by repeat (first | (with_reducible first | exact HB.out | apply below_alloc | apply pw_below_drewN | apply below_drew1) | exact HB.out)⟩
 ·replace c3 := Bool.eq_false_iff.mpr c3
  subst c3
  have H1 : (some false) = some r := by rw [if_neg (show ¬ (false = true) by decide)] at H; exact H
  clear H
  have H := H1
  clear H1
  obtain rfl := Option.some.inj H
  go_enter Tryd.func18, Tryd.ntmps18
  go_wp2_with (first | ((with_reducible refine gate_callee (f := 57) rfl ?_); refine goesL_ (some 8) rfl rfl Tryd.func57 (by kernel_rfl) rfl #[] rfl (by (try simp only [List.map_toArray, List.map_cons, List.map_nil]); first | done | rfl | (simp only [List.length_drop, List.length_take]; rfl)) ?_; (with_reducible refine (stipendlaw01_counts.calls k  false _ A2.out).mono ?_); rintro e w19 ⟨rfl, hb⟩; refine ⟨_, rfl, ?_⟩; have n0_ := Aside0.mk (below_step (by repeat (first | (with_reducible first | exact HB.out | apply below_alloc | apply pw_below_drewN | apply below_drew1) | exact HB.out)) hb); clear HB; have HB := n0_; clear n0_; (try clear hb); (try clear hb2); (try clear hk); (try clear hi)))
  go_ret
  exact ⟨by first | rfl | (simp [errW_none, errW_some] <;> rfl) | (simp [*, errW_none, errW_some] <;> rfl), by repeat (first | (with_reducible first | exact HB.out | apply below_alloc | apply pw_below_drewN | apply below_drew1) | exact HB.out)⟩

end Go.Proofs.YtmocphafkimdpaaDoor.P


/- MoneySums answers true for every list: the plain law. -/
namespace Go.Proofs.YtmocphafkimdpaaDoor.P
open Go.RowKit Go.Proofs.YtmocphafkimdpaaDoorW.PrintWords Go.Proofs.YtmocphafkimdpaaDoorW.PrintLast Go.Proofs.YtmocphafkimdpaaDoorW.PrintMore
set_option linter.unusedVariables false
set_option linter.unusedSimpArgs false

/-- The sum, one by one. -/
def sumOf (s : Int) : List Int → Int × Int
  | [] => (s, 0)
  | a :: t => if (okAmt a && okAmt (s + a)) = true then sumOf (s + a) t else (0, 10)
theorem sum_l0_ev (l : List Int) (hl : l.length ≤ 1000) : ∀ (t : List Int) (i : Nat) (s : Int), l.drop i = t → i ≤ l.length → okAmt s = true → Ev (fun k => money_Sum.l0 k s l (l.length : Int) (i : Int)) (sumOf s t)
  | [], i, s, h, hi, hs => by
    have hi' : l.length ≤ i := by simpa using h
    refine Ev.shift (fun k => by rw [money_Sum.l0]) ?_
    exact Ev.neg (by omega) Ev.now
  | a :: t, i, s, h, hi, hs => by
    obtain ⟨h1, h2, h3⟩ := drop_cons_get h
    refine Ev.shift (fun k => by rw [money_Sum.l0]) ?_
    refine Ev.pos (by omega) (Ev.pos (by omega) (Ev.pos (by omega) ?_))
    rw [rdi h1]
    refine Ev.bind (madd_ev s a) ?_
    rw [hs, Bool.true_and]
    by_cases c : (okAmt a && okAmt (s + a)) = true
    · have e : sumOf s (a :: t) = sumOf (s + a) t := by rw [sumOf, if_pos c]
      rw [if_pos c, e]
      refine Ev.pos rfl ?_
      rw [show wrap64 ((i : Int) + 1) = ((i + 1 : Nat) : Int) by rw [w64 (by omega) (by omega)]; rfl]
      exact sum_l0_ev l hl t (i + 1) (s + a) h2 (by omega) (Bool.and_eq_true_iff.1 c).2
    · have e : sumOf s (a :: t) = (0, 10) := by rw [sumOf, if_neg c]
      rw [if_neg c, e]
      exact Ev.neg (by decide) Ev.now
theorem sum_ev (l : List Int) (hl : l.length ≤ 1000) : Ev (fun k => money_Sum.f k l) (sumOf 0 l) := sum_l0_ev l hl l 0 0 rfl (Nat.zero_le _) (by decide)

theorem sums_l0_ev (l : List Int) (hl : l.length ≤ 1000) (x e : Int) : ∀ (t : List Int) (i : Nat) (s : Int), l.drop i = t → i ≤ l.length → okAmt s = true → (∀ y ∈ t, -9223372036854775808 ≤ y ∧ y ≤ 9223372036854775807) → sumOf s t = (x, e) → Ev (fun k => stipendlaw01_MoneySums.l0 k x e s l (l.length : Int) (i : Int)) true
  | [], i, s, h, hi, hs, _, he => by
    have hi' : l.length ≤ i := by simpa using h
    simp only [sumOf, Prod.mk.injEq] at he
    obtain ⟨rfl, rfl⟩ := he
    refine Ev.shift (fun k => by rw [stipendlaw01_MoneySums.l0]) ?_
    exact Ev.neg (by omega) (Ev.pos rfl (Ev.const (by simp)))
  | a :: t, i, s, h, hi, hs, hy, he => by
    obtain ⟨h1, h2, h3⟩ := drop_cons_get h
    have hs' := (okAmt_iff s).1 hs
    refine Ev.shift (fun k => by rw [stipendlaw01_MoneySums.l0]) ?_
    refine Ev.pos (by omega) (Ev.pos (by omega) (Ev.pos (by omega) ?_))
    rw [rdi h1]
    by_cases ca : okAmt a = true
    · have ha' := (okAmt_iff a).1 ca
      refine Ev.bindc (refRight_f a) (Ev.pos ca ?_)
      rw [w64 (x := s + a) (by omega) (by omega)]
      refine Ev.bindc (refRight_f _) ?_
      by_cases cs : okAmt (s + a) = true
      · refine Ev.pos cs ?_
        rw [sumOf, ca, cs, Bool.and_self, if_pos rfl] at he
        rw [show wrap64 ((i : Int) + 1) = ((i + 1 : Nat) : Int) by rw [w64 (by omega) (by omega)]; rfl]
        exact sums_l0_ev l hl x e t (i + 1) (s + a) h2 (by omega) cs (fun y hy' => hy y (List.mem_cons_of_mem _ hy')) he
      · rw [sumOf, ca, Bool.true_and, if_neg cs] at he
        injection he with e1 e2
        subst e1 e2
        exact Ev.neg cs (Ev.pos rfl (Ev.const rfl))
    · rw [sumOf, if_neg (by simp [ca])] at he
      injection he with e1 e2
      subst e1 e2
      exact Ev.bindc (refRight_f a) (Ev.neg ca (Ev.pos rfl (Ev.const rfl)))
theorem moneySums_true (l : List Int) (g : okL okI l) : ∃ k, stipendlaw01_MoneySums.f k l = some true := by
  apply Ev.get
  unfold stipendlaw01_MoneySums.f
  refine Ev.bind counts_ev (Ev.pos rfl ?_)
  by_cases c : l.length > 100
  · exact Ev.pos (by omega) Ev.now
  · refine Ev.neg (by omega) (Ev.bind (sum_ev l (by omega)) ?_)
    exact sums_l0_ev l (by omega) _ _ l 0 0 rfl (Nat.zero_le _) (by decide) (fun y hy => i64b (g.2 y hy)) rfl
end Go.Proofs.YtmocphafkimdpaaDoor.P
