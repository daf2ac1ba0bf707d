/- A part of the proof of ElementChecks's card: 'ElementChecks' answers true for every input (the conditions: those of the given statement alone). Merged by a program (wip/merge.py) out of: Pf10. -/
import Derived.Test.YtmocphafkimdpaaDoorMElementChecksa
import Derived.Test.YtmocphafkimdpaaDoorMElementChecksi
import Derived.Test.YtmocphafkimdpaaDoorMElementChecksb
import Derived.Test.YtmocphafkimdpaaDoorMElementChecksg
import Derived.Test.YtmocphafkimdpaaDoorMElementCheckse

-- written by a program (a patched copy of the kit's print: wip/mkprint.py); Lean checks it
namespace Go.Proofs.YtmocphafkimdpaaDoor.P
open Go.RowKit Go.Proofs.YtmocphafkimdpaaDoorW.PrintWords Go.Proofs.YtmocphafkimdpaaDoorW.PrintLast Go.Proofs.YtmocphafkimdpaaDoorW.PrintMore
attribute [local go_sem] max2_int min2_int max_two min_two max_three min_three max_four min_four   -- for this text's walks alone
set_option linter.unusedVariables false
set_option linter.unusedSimpArgs false

attribute [local go_sem high] eqA48
/-! ### stipendlaw11_ElementChange: function 10 -/
mutual
def stipendlaw11_ElementChange.l0 : Nat → List (S48) → ByteArray → Int → List (S48) → List (S48) → Int → List (S48) → Int → Int → Option (Bool)
 | 0, _, _, _, _, _, _, _, _, _ => none
 | k + 1, x0, x1, x2, x7, x8, x9, x24, x25, x26 => if x26 < x25 then (if 0 ≤ x26 then (if x26 < (x24.length : Int) then (if ((rd_T48 x24 x26).f0).toList = x1.toList then ((element_Of.f x1 x2).bind fun bt460 => (if (!((((rd_T48 x24 x26).f0).toList) == bt460.1.toList) || (!(((rd_T48 x24 x26).f1) == bt460.2.1) || (!(((rd_T48 x24 x26).f2) == bt460.2.2)))) = true then (some false) else (stipendlaw11_ElementChange.l0 k x0 x1 x2 x7 x8 (wrap64 (x9 + 1)) x24 x25 (wrap64 (x26 + 1))))) else (if x8.length < 4398046511104 then (stipendlaw11_ElementChange.l0 k x0 x1 x2 x7 (x8 ++ [(⟨(rd_T48 x24 x26).f0, (rd_T48 x24 x26).f1, (rd_T48 x24 x26).f2⟩ : S48)]) x9 x24 x25 (wrap64 (x26 + 1))) else (none))) else (none)) else (none)) else (stipendlaw11_ElementChange.l1 k x1 x2 x7 x8 x9 0 x0 (x0.length : Int) 0)
def stipendlaw11_ElementChange.l1 : Nat → ByteArray → Int → List (S48) → List (S48) → Int → Int → List (S48) → Int → Int → Option (Bool)
 | 0, _, _, _, _, _, _, _, _, _ => none
 | k + 1, x1, x2, x7, x8, x9, x12, x46, x47, x48 => if x48 < x47 then (if 0 ≤ x48 then (if x48 < (x46.length : Int) then (if ((rd_T48 x46 x48).f0).toList = x1.toList then (stipendlaw11_ElementChange.l1 k x1 x2 x7 x8 x9 x12 x46 x47 (wrap64 (x48 + 1))) else (if x12 ≥ (x8.length : Int) then (some false) else (if 0 ≤ x12 then (if x12 < (x8.length : Int) then (if (!((((rd_T48 x8 x12).f0).toList) == (((rd_T48 x46 x48).f0).toList)) || (!(((rd_T48 x8 x12).f1) == ((rd_T48 x46 x48).f1)) || (!(((rd_T48 x8 x12).f2) == ((rd_T48 x46 x48).f2))))) = true then (some false) else (stipendlaw11_ElementChange.l1 k x1 x2 x7 x8 x9 (wrap64 (x12 + 1)) x46 x47 (wrap64 (x48 + 1)))) else (none)) else (none)))) else (none)) else (none)) else (if x12 = (x8.length : Int) then (if x2 = 0 then (if x9 = 0 then (stipendlaw11_ElementChange.j2 k x1 x2 x7 false) else (stipendlaw11_ElementChange.j2 k x1 x2 x7 true)) else (stipendlaw11_ElementChange.j2 k x1 x2 x7 (x9 != 1))) else (stipendlaw11_ElementChange.j2 k x1 x2 x7 true))
def stipendlaw11_ElementChange.j2 : Nat → ByteArray → Int → List (S48) → Bool → Option (Bool)
 | 0, _, _, _, _ => none
 | k + 1, x1, x2, x7, x90 => if x90 = true then (some false) else ((element_Change.f k x1 x2 x7).bind fun t469 => ((element_Same.f k x7 t469).bind fun t472 => (some t472)))
end
def stipendlaw11_ElementChange.f (k : Nat) (l0 : List (S48)) (a1 : ByteArray) (a2 : Int) : Option (Bool) := (stipendlaw11_worths.f).bind fun t454 => (if t454 = true then (if (l0.length : Int) > 40 then (some true) else ((element_Change.f k a1 a2 l0).bind fun t455 => (stipendlaw11_ElementChange.l0 k l0 a1 a2 t455 ([] : List (S48)) 0 t455 (t455.length : Int) 0))) else (some false))
theorem stipendlaw11_ElementChange.mono_l : ∀ k, (∀ y0 y1 y2 y3 y4 y5 y6 y7 y8, LeO (stipendlaw11_ElementChange.l0 k y0 y1 y2 y3 y4 y5 y6 y7 y8) (stipendlaw11_ElementChange.l0 (k + 1) y0 y1 y2 y3 y4 y5 y6 y7 y8)) ∧ (∀ y0 y1 y2 y3 y4 y5 y6 y7 y8, LeO (stipendlaw11_ElementChange.l1 k y0 y1 y2 y3 y4 y5 y6 y7 y8) (stipendlaw11_ElementChange.l1 (k + 1) y0 y1 y2 y3 y4 y5 y6 y7 y8)) ∧ (∀ y0 y1 y2 y3, LeO (stipendlaw11_ElementChange.j2 k y0 y1 y2 y3) (stipendlaw11_ElementChange.j2 (k + 1) y0 y1 y2 y3))
 | 0 => ⟨fun _ _ _ _ _ _ _ _ _ r h => by simp [stipendlaw11_ElementChange.l0] at h, fun _ _ _ _ _ _ _ _ _ r h => by simp [stipendlaw11_ElementChange.l1] at h, fun _ _ _ _ r h => by simp [stipendlaw11_ElementChange.j2] at h⟩
 | k + 1 => by
  obtain ⟨ih0, ih1, ih2⟩ := stipendlaw11_ElementChange.mono_l k
  refine ⟨?_, ?_, ?_⟩
  ·intro y0 y1 y2 y3 y4 y5 y6 y7 y8
   unfold stipendlaw11_ElementChange.l0
   repeat' first
   | (with_reducible exact ih0 _ _ _ _ _ _ _ _ _)
   | (with_reducible exact ih1 _ _ _ _ _ _ _ _ _)
   | (with_reducible exact ih2 _ _ _ _)
   | (with_reducible exact element_Change.mono _ _ _ _)
   | (with_reducible exact element_Same.mono _ _ _)
   | (with_reducible exact LeO.refl _)
   | (with_reducible exact LeO.none _)
   | (with_reducible refine LeO.ite ?_ ?_)
   | (with_reducible refine LeO.bind ?_ (fun _ => ?_))
   | exact ih0 _ _ _ _ _ _ _ _ _
   | exact ih1 _ _ _ _ _ _ _ _ _
   | exact ih2 _ _ _ _
   | exact element_Change.mono _ _ _ _
   | exact element_Same.mono _ _ _
   | exact LeO.none _
   | refine LeO.ite ?_ ?_
   | refine LeO.bind ?_ (fun _ => ?_)
  ·intro y0 y1 y2 y3 y4 y5 y6 y7 y8
   unfold stipendlaw11_ElementChange.l1
   repeat' first
   | (with_reducible exact ih0 _ _ _ _ _ _ _ _ _)
   | (with_reducible exact ih1 _ _ _ _ _ _ _ _ _)
   | (with_reducible exact ih2 _ _ _ _)
   | (with_reducible exact element_Change.mono _ _ _ _)
   | (with_reducible exact element_Same.mono _ _ _)
   | (with_reducible exact LeO.refl _)
   | (with_reducible exact LeO.none _)
   | (with_reducible refine LeO.ite ?_ ?_)
   | (with_reducible refine LeO.bind ?_ (fun _ => ?_))
   | exact ih0 _ _ _ _ _ _ _ _ _
   | exact ih1 _ _ _ _ _ _ _ _ _
   | exact ih2 _ _ _ _
   | exact element_Change.mono _ _ _ _
   | exact element_Same.mono _ _ _
   | exact LeO.none _
   | refine LeO.ite ?_ ?_
   | refine LeO.bind ?_ (fun _ => ?_)
  ·intro y0 y1 y2 y3
   unfold stipendlaw11_ElementChange.j2
   repeat' first
   | (with_reducible exact ih0 _ _ _ _ _ _ _ _ _)
   | (with_reducible exact ih1 _ _ _ _ _ _ _ _ _)
   | (with_reducible exact ih2 _ _ _ _)
   | (with_reducible exact element_Change.mono _ _ _ _)
   | (with_reducible exact element_Same.mono _ _ _)
   | (with_reducible exact LeO.refl _)
   | (with_reducible exact LeO.none _)
   | (with_reducible refine LeO.ite ?_ ?_)
   | (with_reducible refine LeO.bind ?_ (fun _ => ?_))
   | exact ih0 _ _ _ _ _ _ _ _ _
   | exact ih1 _ _ _ _ _ _ _ _ _
   | exact ih2 _ _ _ _
   | exact element_Change.mono _ _ _ _
   | exact element_Same.mono _ _ _
   | exact LeO.none _
   | refine LeO.ite ?_ ?_
   | refine LeO.bind ?_ (fun _ => ?_)
theorem stipendlaw11_ElementChange.mono : ∀ a0 a1 a2 k, LeO (stipendlaw11_ElementChange.f k a0 a1 a2) (stipendlaw11_ElementChange.f (k + 1) a0 a1 a2) := by
 intro a0 a1 a2 k
 obtain ⟨ih0, ih1, ih2⟩ := stipendlaw11_ElementChange.mono_l k
 unfold stipendlaw11_ElementChange.f
 repeat' first
   | (with_reducible exact ih0 _ _ _ _ _ _ _ _ _)
   | (with_reducible exact ih1 _ _ _ _ _ _ _ _ _)
   | (with_reducible exact ih2 _ _ _ _)
   | (with_reducible exact element_Change.mono _ _ _ _)
   | (with_reducible exact element_Same.mono _ _ _)
   | (with_reducible exact LeO.refl _)
   | (with_reducible exact LeO.none _)
   | (with_reducible refine LeO.ite ?_ ?_)
   | (with_reducible refine LeO.bind ?_ (fun _ => ?_))
   | exact ih0 _ _ _ _ _ _ _ _ _
   | exact ih1 _ _ _ _ _ _ _ _ _
   | exact ih2 _ _ _ _
   | exact element_Change.mono _ _ _ _
   | exact element_Same.mono _ _ _
   | exact LeO.none _
   | refine LeO.ite ?_ ?_
   | refine LeO.bind ?_ (fun _ => ?_)
def stipendlaw11_ElementChange.T22 : Bool × List (List Nat × List Nat) := (true, [([], []), ([], []), ([1], [1]), ([0, 2], [0, 2]), ([3], [3]), ([4], [4]), ([4], [4]), ([5, 6, 4], [4, 5, 6]), ([7, 4], [4, 7]), ([4], [4]), ([8, 9, 4], [4, 8, 9]), ([4, 10], [4, 10])])
def stipendlaw11_ElementChange.B22 : List Nat := [0, 0, 2, 7, 15, 31, 31, 127, 255, 31, 1023, 2047]
theorem stipendlaw11_ElementChange.tab22 : rtab .any (opsOf Tryd.f10 22) = stipendlaw11_ElementChange.T22 := by kernel_rfl
theorem stipendlaw11_ElementChange.bits22 : waitsOk stipendlaw11_ElementChange.T22.2 stipendlaw11_ElementChange.B22 = true := by kernel_rfl
set_option maxHeartbeats 8000000 in
set_option maxRecDepth 100000 in
theorem stipendlaw11_ElementChange.calls (k : Nat) (A0 : Option Addr) (c0 : Nat) (l0 : List (S48)) (a1 : ByteArray) (a2 : Int) (r : Bool) (w : World) (hr0 : Kd.C k48 w A0 l0.length l0) (hc0 : l0.length ≤ c0) (h : stipendlaw11_ElementChange.f k l0 a1 a2 = some r) (hG : GTab w := by first | exact GTab.below HG.out (by repeat (first | (with_reducible first | exact HB.out | apply below_alloc | apply pw_below_drewN | apply below_drew1 | apply below_drew) | exact HB.out)) | exact HG.out) :
  Calls Tryd.prog 10 #[.slice A0 l0.length c0, .string a1, .int .i64 a2] w fun e w' => e = .returned (.bool r) ∧ Below w.heap.size w w' := by
 have hu48 := Tryd.underlying48
 have HG := Aside0.mk hG; clear hG
 have HR0 := Aside0.mk hr0
 have HC0 := Aside0.mk hc0
 clear hr0 hc0
 have HB := Aside0.mk (Below.refl w.heap.size w)
 have H : ((stipendlaw11_worths.f).bind fun t454 => (if t454 = true then (if (l0.length : Int) > 40 then (some true) else ((element_Change.f k a1 a2 l0).bind fun t455 => (stipendlaw11_ElementChange.l0 k l0 a1 a2 t455 ([] : List (S48)) 0 t455 (t455.length : Int) 0))) else (some false))) = some r := h
 clear h
 replace H := Option.bind_eq_some_iff.mp H
 obtain ⟨t454, A40, H⟩ := H
 replace H : (if t454 = true then (if (l0.length : Int) > 40 then (some true) else ((element_Change.f k a1 a2 l0).bind fun t455 => (stipendlaw11_ElementChange.l0 k l0 a1 a2 t455 ([] : List (S48)) 0 t455 (t455.length : Int) 0))) else (some false)) = some r := H
 have A4 := Aside0.mk A40
 clear A40
 by_cases c5 : t454 = true
 ·subst c5
  have H1 : (if (l0.length : Int) > 40 then (some true) else ((element_Change.f k a1 a2 l0).bind fun t455 => (stipendlaw11_ElementChange.l0 k l0 a1 a2 t455 ([] : List (S48)) 0 t455 (t455.length : Int) 0))) = some r := by rw [if_pos rfl] at H; exact H
  clear H
  have H := H1
  clear H1
  by_cases c6 : (l0.length : Int) > 40
  ·rw [if_pos c6] at H
   have c6b0 : decide (40 < (l0.length : Int)) = true := decide_eq_true c6
   have c6b1 : decide (40 < l0.length) = true := decide_eq_true (by omega)
   clear c6
   obtain rfl := Option.some.inj H
   go_enter Tryd.func10, Tryd.ntmps10
   go_wp2_with (first | ((with_reducible refine gate_callee (f := 35) rfl ?_); refine goesL_ (some 15) rfl rfl Tryd.func35 (by kernel_rfl) rfl #[] rfl (by (try simp only [List.map_toArray, List.map_cons, List.map_nil]); first | done | rfl | (simp only [List.length_drop, List.length_take]; rfl)) ?_; (with_reducible refine (stipendlaw11_worths.calls  true _ A4.out).mono ?_); rintro e w7 ⟨rfl, hb⟩; refine ⟨_, rfl, ?_⟩; have n0_ := Aside0.mk (below_step (by repeat (first | (with_reducible first | exact HB.out | apply below_alloc | apply pw_below_drewN | apply below_drew1) | exact HB.out)) hb); clear HB; have HB := n0_; clear n0_; (try clear hb); (try clear hb2); (try clear hk); (try clear hi)))
   go_ret
   exact ⟨by first | rfl | (simp [errW_none, errW_some] <;> rfl) | (simp [*, errW_none, errW_some] <;> rfl), by repeat (first | (with_reducible first | exact HB.out | apply below_alloc | apply pw_below_drewN | apply below_drew1) | exact HB.out)⟩
  ·rw [if_neg c6] at H
   have c6b0 : decide (40 < (l0.length : Int)) = false := decide_eq_false c6
   have c6b1 : decide (40 < l0.length) = false := decide_eq_false (by omega)
   clear c6
   replace H := Option.bind_eq_some_iff.mp H
   obtain ⟨t455, A80, H⟩ := H
   replace H : (stipendlaw11_ElementChange.l0 k l0 a1 a2 t455 ([] : List (S48)) 0 t455 (t455.length : Int) 0) = some r := H
   have A8 := Aside0.mk A80
   clear A80
   have H' := Aside0.mk H
   clear H
   go_enter Tryd.func10, Tryd.ntmps10
   go_wp2_with (first | ((with_reducible refine gate_callee (f := 35) rfl ?_); refine goesL_ (some 15) rfl rfl Tryd.func35 (by kernel_rfl) rfl #[] rfl (by (try simp only [List.map_toArray, List.map_cons, List.map_nil]); first | done | rfl | (simp only [List.length_drop, List.length_take]; rfl)) ?_; (with_reducible refine (stipendlaw11_worths.calls  true _ A4.out).mono ?_); rintro e w9 ⟨rfl, hb⟩; refine ⟨_, rfl, ?_⟩; have n0_ := Aside0.mk (below_step (by repeat (first | (with_reducible first | exact HB.out | apply below_alloc | apply pw_below_drewN | apply below_drew1) | exact HB.out)) hb); clear HB; have HB := n0_; clear n0_; (try clear hb); (try clear hb2); (try clear hk); (try clear hi)) | ((with_reducible refine gate_callee (f := 49) rfl ?_); refine goesL_ (some 23) rfl rfl Tryd.func49 (by kernel_rfl) rfl #[.string a1, .int .i64 a2, .slice A0 l0.length c0] rfl (by (try simp only [List.map_toArray, List.map_cons, List.map_nil]); first | done | rfl | (simp only [List.length_drop, List.length_take]; rfl)) ?_; (with_reducible refine (element_Change.calls k a1 a2 _ _ l0 t455 _ ?side1 ?side2 A8.out).mono ?_); (case side1 => repeat (first | exact (Kd.C_below HR0.out HB.out) | (with_reducible refine Kd.C_alloc ?_ _) | (with_reducible refine Kd.C_drewN ?_ _) | (with_reducible refine Kd.C_drew ?_))); (case side2 => exact HC0.out); rintro e w10 ⟨v456, rfl, ho0, hb⟩; refine ⟨_, rfl, ?_⟩; have n0_ := Aside0.mk (Kd.R_lower ho0 (below_size (by repeat (first | (with_reducible first | exact HB.out | apply below_alloc | apply pw_below_drewN | apply below_drew1) | exact HB.out)))); have n1_ := Aside0.mk (below_step (by repeat (first | (with_reducible first | exact HB.out | apply below_alloc | apply pw_below_drewN | apply below_drew1) | exact HB.out)) hb); clear HB; have HO457 := n0_; have HB := n1_; clear n0_ n1_; (try clear hb); (try clear hb2); (try clear hk); (try clear hi); (try clear ho0); obtain ⟨Ao11, co11, eo11⟩ := Kd.R_slice HO457.out; subst eo11))
   go_loopg [8, 9, 26] k (fun kq v8 v9 v26 w' => ∃ (x8_1 : List (S48)) (x9_1 : Int) (x26_1 : Int), v9 = .int .i64 x9_1 ∧ v26 = .int .i64 x26_1 ∧ Aside0 (stipendlaw11_ElementChange.l0 kq l0 a1 a2 t455 x8_1 x9_1 t455 (t455.length : Int) x26_1 = some r) ∧ Aside0 (kq ≤ k) ∧ Aside0 (Kd.R k48 48 w' w.heap.size (fun k_ => some k_ ≠ (v8 : Value).ownBlock) (.slice Ao11 t455.length co11) t455) ∧ Aside0 (Kd.R k48 48 w' w.heap.size (fun k_ => some k_ ≠ ((.slice Ao11 t455.length co11) : Value).ownBlock ∧ some k_ ≠ ((.slice Ao11 t455.length co11) : Value).ownBlock) v8 x8_1) ∧ Aside0 (Kd.R k48 48 w' w.heap.size (fun k_ => some k_ ≠ (v8 : Value).ownBlock) (.slice Ao11 t455.length co11) t455) ∧ Aside0 (Below w.heap.size w w'))
   case atStart => exact ⟨(([] : List (S48))), (0), (0), (by first | rfl | (simp; done) | (simp [*]; done)), (by first | rfl | (simp; done) | (simp [*]; done)), H', ⟨Nat.le_refl _⟩, ⟨by (with_reducible repeat (first | apply Kd.R_alloc | apply Kd.R_drewN | apply Kd.R_drew)); exact Kd.R_mono HO457.out (fun _ hk => (by simp [Value.ownBlock]))⟩, ⟨by first | exact Kd.R_nil _ _ _ _ _ | exact Kd.N_nil _ _ _ _ _ | exact Kd.V_nil _ _ _ _ _ | exact Kd.Q_nil _ _ _ _ _ | exact Kd.S_nil _ _ _ _ _⟩, ⟨by (with_reducible repeat (first | apply Kd.R_alloc | apply Kd.R_drewN | apply Kd.R_drew)); exact Kd.R_mono HO457.out (fun _ hk => (by simp [Value.ownBlock]))⟩, ⟨by repeat (first | (with_reducible first | exact HB.out | apply below_alloc | apply pw_below_drewN | apply below_drew1) | exact HB.out)⟩⟩
   case round =>
    clear H'
    try clear c1
    try clear p2
    try clear c3
    try clear c4
    try clear c5
    try clear c6
    try clear c6b0
    try clear c6b1
    try clear c10
    obtain ⟨x8_1, x9_1, x26_1, rfl, rfl, HA, HK1, HO_7, HO_8, HO_24, HB⟩ := hrel
    cases gk with
    | zero => exact absurd HA.out (by simp [stipendlaw11_ElementChange.l0])
    | succ k1 =>
     have H := HA.out
     clear HA
     simp only [stipendlaw11_ElementChange.l0] at H
     by_cases c12 : x26_1 < (t455.length : Int)
     ·rw [if_pos c12] at H
      have c12b0 : decide (x26_1 < (t455.length : Int)) = true := decide_eq_true c12
      clear c12
      by_cases c13 : 0 ≤ x26_1
      ·rw [if_pos c13] at H
       have c13b0 : decide (0 ≤ x26_1) = true := decide_eq_true c13
       clear c13
       by_cases c14 : x26_1 < (t455.length : Int)
       ·rw [if_pos c14] at H
        have c14b0 : decide (x26_1 < (t455.length : Int)) = true := decide_eq_true c14
        clear c14
        by_cases c15 : ((rd_T48 t455 x26_1).f0).toList = a1.toList
        ·rw [if_pos c15] at H
         have c15b0 : (((rd_T48 t455 x26_1).f0).toList == a1.toList) = true := beq_iff_eq.mpr c15
         have c15b1 : (((rd_T48 t455 x26_1).f0).toList != a1.toList) = false := bne_eq_false_iff_eq.mpr c15
         clear c15
         replace H := Option.bind_eq_some_iff.mp H
         obtain ⟨⟨t460, t461, t462⟩, A160, H⟩ := H
         replace H : (if (!((((rd_T48 t455 x26_1).f0).toList) == t460.toList) || (!(((rd_T48 t455 x26_1).f1) == t461) || (!(((rd_T48 t455 x26_1).f2) == t462)))) = true then (some false) else (stipendlaw11_ElementChange.l0 k1 l0 a1 a2 t455 x8_1 (wrap64 (x9_1 + 1)) t455 (t455.length : Int) (wrap64 (x26_1 + 1)))) = some r := H
         have A16 := Aside0.mk A160
         clear A160
         by_cases c17 : (!((((rd_T48 t455 x26_1).f0).toList) == t460.toList) || (!(((rd_T48 t455 x26_1).f1) == t461) || (!(((rd_T48 t455 x26_1).f2) == t462)))) = true
         ·rw [if_pos c17] at H
          have c17b0 : (!((((rd_T48 t455 x26_1).f0).toList) == t460.toList) || (!(((rd_T48 t455 x26_1).f1) == t461) || (!(((rd_T48 t455 x26_1).f2) == t462)))) = true := c17
          clear c17
          obtain rfl := Option.some.inj H
          have p458 : 0 ≤ (x26_1 : Int) := of_decide_eq_true (by first | (with_reducible assumption) | assumption)
          have q458 : x26_1 < (t455.length : Int) := of_decide_eq_true (by first | (with_reducible assumption) | assumption)
          obtain ⟨ad458, e458, hx458_0, hx458_1, hx458_2⟩ := at_T48 (Kd.R_reads' HO_24.out).2.2 x26_1 p458 q458
          cases e458
          replace p458 := eq_true p458
          replace q458 := eq_true q458
          try go_wp2_with (first | ((with_reducible refine gate_dst (N := 11) rfl ?_); refine box_event ?hg (N := 11) ?hd (cs := #[.string (⟨#[]⟩ : ByteArray), .int .i64 0, .int .i64 0]) (t := 48) ?hr ?_; (case hd => rfl); (case hg => rfl); (case hr => first | (go_simp; done) | (go_simp; rfl)); intro gb459 hg w18 hbox hb; have n0_ := Aside0.mk (Kd.R_below (Kd.R_elderB (by (with_reducible repeat (first | apply Kd.R_alloc | apply Kd.R_drewN | apply Kd.R_drew)); exact HO_7.out) gb459 (Nat.le_of_eq hg.symm)) hb); have n1_ := Aside0.mk (Kd.R_below (Kd.R_elderB (by (with_reducible repeat (first | apply Kd.R_alloc | apply Kd.R_drewN | apply Kd.R_drew)); exact HO_8.out) gb459 (Nat.le_of_eq hg.symm)) hb); have n2_ := Aside0.mk (Kd.R_below (Kd.R_elderB (by (with_reducible repeat (first | apply Kd.R_alloc | apply Kd.R_drewN | apply Kd.R_drew)); exact HO_24.out) gb459 (Nat.le_of_eq hg.symm)) hb); have n3_ := Aside0.mk (below_step (by repeat (first | (with_reducible first | exact HB.out | apply below_alloc | apply pw_below_drewN | apply below_drew1) | exact HB.out)) hb); have n4_ := Aside0.mk (hbox); have n5_ := Aside0.mk ((by rw [hg]; exact (below_size (by repeat (first | (with_reducible first | exact HB.out | apply below_alloc | apply pw_below_drewN | apply below_drew1) | exact HB.out))) : w.heap.size ≤ gb459)); have n6_ := Aside0.mk ((by rw [hg]; exact (below_size (by repeat (first | (with_reducible first | exact HB.out | apply below_alloc | apply pw_below_drewN | apply below_drew1) | exact HB.out))) : w.heap.size ≤ gb459)); clear HO_7; clear HO_8; clear HO_24; clear HB; have HO_7 := n0_; have HO_8 := n1_; have HO_24 := n2_; have HB := n3_; have BK459 := n4_; have GW459 := n5_; have GE459 := n6_; clear n0_ n1_ n2_ n3_ n4_ n5_ n6_; clear hb hbox hg; have hcz19_0 : w18.cell? ⟨gb459, 0, none⟩ = some (.string (⟨#[]⟩ : ByteArray)) := (blk_cell BK459.out 0).trans rfl; have hcz19_1 : w18.cell? ⟨gb459, 1, none⟩ = some (.int .i64 0) := (blk_cell BK459.out 1).trans rfl; have hcz19_2 : w18.cell? ⟨gb459, 2, none⟩ = some (.int .i64 0) := (blk_cell BK459.out 2).trans rfl; have hfz19_0 := blk_frozen BK459.out 0; have hfz19_1 := blk_frozen BK459.out 1; have hfz19_2 := blk_frozen BK459.out 2))
          have n0_ : Aside0 (Kd.R k48 48 (((w18.setCell ⟨gb459, 0, none⟩ (.string ((rd_T48 t455 x26_1).f0))).setCell ⟨gb459, 1, none⟩ (.int .i64 ((rd_T48 t455 x26_1).f1))).setCell ⟨gb459, 2, none⟩ (.int .i64 ((rd_T48 t455 x26_1).f2))) w.heap.size (fun k_ => some k_ ≠ (u8 : Value).ownBlock ∧ k_ ≠ gb459) (.slice (some ad458) t455.length co11) t455) := ⟨by (with_reducible repeat (first | apply Kd.R_alloc | apply Kd.R_drewN | apply Kd.R_drew)); exact Kd.R_mono (Kd.R_far (p := ⟨gb459, 2, none⟩) (Kd.R_far (p := ⟨gb459, 1, none⟩) (Kd.R_far (p := ⟨gb459, 0, none⟩) (Kd.R_mono HO_7.out (fun k_ hk => (⟨hk, hk.2⟩ : _ ∧ k_ ≠ gb459))) (fun _ hk => hk.2) (.string ((rd_T48 t455 x26_1).f0))) (fun _ hk => hk.2) (.int .i64 ((rd_T48 t455 x26_1).f1))) (fun _ hk => hk.2) (.int .i64 ((rd_T48 t455 x26_1).f2))) (fun _ hk => ⟨hk.1.1, hk.1.2⟩)⟩
          have n1_ : Aside0 (Kd.R k48 48 (((w18.setCell ⟨gb459, 0, none⟩ (.string ((rd_T48 t455 x26_1).f0))).setCell ⟨gb459, 1, none⟩ (.int .i64 ((rd_T48 t455 x26_1).f1))).setCell ⟨gb459, 2, none⟩ (.int .i64 ((rd_T48 t455 x26_1).f2))) w.heap.size (fun k_ => some k_ ≠ (.slice (some ad458) t455.length co11 : Value).ownBlock ∧ some k_ ≠ (.slice (some ad458) t455.length co11 : Value).ownBlock ∧ k_ ≠ gb459) u8 x8_1) := ⟨by (with_reducible repeat (first | apply Kd.R_alloc | apply Kd.R_drewN | apply Kd.R_drew)); exact Kd.R_mono (Kd.R_far (p := ⟨gb459, 2, none⟩) (Kd.R_far (p := ⟨gb459, 1, none⟩) (Kd.R_far (p := ⟨gb459, 0, none⟩) (Kd.R_mono HO_8.out (fun k_ hk => (⟨hk, hk.2⟩ : _ ∧ k_ ≠ gb459))) (fun _ hk => hk.2) (.string ((rd_T48 t455 x26_1).f0))) (fun _ hk => hk.2) (.int .i64 ((rd_T48 t455 x26_1).f1))) (fun _ hk => hk.2) (.int .i64 ((rd_T48 t455 x26_1).f2))) (fun _ hk => ⟨hk.1.1.1, ⟨hk.1.1.2, hk.1.2⟩⟩)⟩
          have n2_ : Aside0 (Kd.R k48 48 (((w18.setCell ⟨gb459, 0, none⟩ (.string ((rd_T48 t455 x26_1).f0))).setCell ⟨gb459, 1, none⟩ (.int .i64 ((rd_T48 t455 x26_1).f1))).setCell ⟨gb459, 2, none⟩ (.int .i64 ((rd_T48 t455 x26_1).f2))) w.heap.size (fun k_ => some k_ ≠ (u8 : Value).ownBlock ∧ k_ ≠ gb459) (.slice (some ad458) t455.length co11) t455) := ⟨by (with_reducible repeat (first | apply Kd.R_alloc | apply Kd.R_drewN | apply Kd.R_drew)); exact Kd.R_mono (Kd.R_far (p := ⟨gb459, 2, none⟩) (Kd.R_far (p := ⟨gb459, 1, none⟩) (Kd.R_far (p := ⟨gb459, 0, none⟩) (Kd.R_mono HO_24.out (fun k_ hk => (⟨hk, hk.2⟩ : _ ∧ k_ ≠ gb459))) (fun _ hk => hk.2) (.string ((rd_T48 t455 x26_1).f0))) (fun _ hk => hk.2) (.int .i64 ((rd_T48 t455 x26_1).f1))) (fun _ hk => hk.2) (.int .i64 ((rd_T48 t455 x26_1).f2))) (fun _ hk => ⟨hk.1.1, hk.1.2⟩)⟩
          have n3_ : Aside0 ((((w18.setCell ⟨gb459, 0, none⟩ (.string ((rd_T48 t455 x26_1).f0))).setCell ⟨gb459, 1, none⟩ (.int .i64 ((rd_T48 t455 x26_1).f1))).setCell ⟨gb459, 2, none⟩ (.int .i64 ((rd_T48 t455 x26_1).f2))).heap[gb459]? = some (.cells #[.string ((rd_T48 t455 x26_1).f0), .int .i64 ((rd_T48 t455 x26_1).f1), .int .i64 ((rd_T48 t455 x26_1).f2)] 48 (0, 0))) := ⟨by (with_reducible repeat (first | refine blk_drewN ?_ _ | refine blk_drew ?_ | refine blk_alloc ?_ _)); refine blk_put (cs := #[.string ((rd_T48 t455 x26_1).f0), .int .i64 ((rd_T48 t455 x26_1).f1), .int .i64 0]) ?_ 2 _ rfl; (with_reducible repeat (first | refine blk_drewN ?_ _ | refine blk_drew ?_ | refine blk_alloc ?_ _)); refine blk_put (cs := #[.string ((rd_T48 t455 x26_1).f0), .int .i64 0, .int .i64 0]) ?_ 1 _ rfl; (with_reducible repeat (first | refine blk_drewN ?_ _ | refine blk_drew ?_ | refine blk_alloc ?_ _)); refine blk_put (cs := #[.string (⟨#[]⟩ : ByteArray), .int .i64 0, .int .i64 0]) ?_ 0 _ rfl; (with_reducible repeat (first | refine blk_drewN ?_ _ | refine blk_drew ?_ | refine blk_alloc ?_ _)); exact BK459.out⟩
          have n4_ : Aside0 (Below w.heap.size w (((w18.setCell ⟨gb459, 0, none⟩ (.string ((rd_T48 t455 x26_1).f0))).setCell ⟨gb459, 1, none⟩ (.int .i64 ((rd_T48 t455 x26_1).f1))).setCell ⟨gb459, 2, none⟩ (.int .i64 ((rd_T48 t455 x26_1).f2)))) := ⟨by repeat (first | (with_reducible first | exact HB.out | apply below_alloc | apply pw_below_drewN | apply below_drew1 | refine below_set ?_ GE459.out) | exact HB.out)⟩
          (try clear HO_7)
          (try clear HO_8)
          (try clear HO_24)
          (try clear BK459)
          (try clear HB)
          generalize (((w18.setCell ⟨gb459, 0, none⟩ (.string ((rd_T48 t455 x26_1).f0))).setCell ⟨gb459, 1, none⟩ (.int .i64 ((rd_T48 t455 x26_1).f1))).setCell ⟨gb459, 2, none⟩ (.int .i64 ((rd_T48 t455 x26_1).f2))) = w20 at n0_ n1_ n2_ n3_ n4_ ⊢
          have HO_7 := n0_
          have HO_8 := n1_
          have HO_24 := n2_
          have BK459 := n3_
          have HB := n4_
          clear n0_ n1_ n2_ n3_ n4_
          have n0_ := Aside0.mk (Kd.R_drew HO_7.out)
          have n1_ := Aside0.mk (Kd.R_drew HO_8.out)
          have n2_ := Aside0.mk (Kd.R_drew HO_24.out)
          have n3_ := Aside0.mk (blk_drew BK459.out)
          have n4_ := Aside0.mk (below_drew1 HB.out)
          clear HO_7
          clear HO_8
          clear HO_24
          clear BK459
          clear HB
          have HO_7 := n0_
          have HO_8 := n1_
          have HO_24 := n2_
          have BK459 := n3_
          have HB := n4_
          clear n0_ n1_ n2_ n3_ n4_
          refine start_ (n := 5) (S := fun w' => w'.cell? ⟨gb459, 0, none⟩ = some (.string ((rd_T48 t455 x26_1).f0)) ∧ w'.cell? ⟨gb459, 1, none⟩ = some (.int .i64 ((rd_T48 t455 x26_1).f1)) ∧ w'.cell? ⟨gb459, 2, none⟩ = some (.int .i64 ((rd_T48 t455 x26_1).f2))) (ds := []) #[false, false, false, false, false] (by kernel_rfl) rfl rfl ⟨(blk_cell BK459.out 0).trans rfl, (blk_cell BK459.out 1).trans rfl, (blk_cell BK459.out 2).trans rfl⟩ (fun hHeld => ?_)
          generalize w20.drew = w21 at HO_7 HO_8 HO_24 BK459 HB hHeld ⊢
          refine pure_ (i := 1) (N := some 37) (v := ?_) (a' := ?_) #[false, true, false, false, false] rfl rfl (by kernel_rfl) (fun _ _ _ h => h) (Or.inl ⟨by rfl, ?_⟩) ?_ ?_
          rotate_left
          ·intro w'
           go_simp
           with_reducible rfl
          rotate_left
          ·simp only [Act.put, List.setIfInBounds_toArray, List.set_cons_zero, List.set_cons_succ, i64_w, i32_w]
           rfl
          refine pure_ (i := 2) (N := some 38) (v := ?_) (a' := ?_) #[false, true, true, false, false] rfl rfl (by kernel_rfl) (fun _ _ _ h => h) (Or.inl ⟨by rfl, ?_⟩) ?_ ?_
          rotate_left
          ·intro w'
           go_simp
           with_reducible rfl
          rotate_left
          ·simp only [Act.put, List.setIfInBounds_toArray, List.set_cons_zero, List.set_cons_succ, i64_w, i32_w]
           rfl
          refine take_ (i := 0) (N := some 36) (v := ?_) (a' := ?_) #[true, true, true, false, false] rfl rfl (by kernel_rfl) (fun _ _ _ h => h) (Or.inl ⟨by rfl, ?_⟩) hHeld ?_ ?_
          rotate_left
          ·rintro w' ⟨s0, s1, s2⟩
           go_simp
           with_reducible rfl
          rotate_left
          ·simp only [Act.put, List.setIfInBounds_toArray, List.set_cons_zero, List.set_cons_succ, i64_w, i32_w]
           rfl
          refine one_ (i := 3) (N := some 39) #[true, true, true, true, false] rfl rfl (by kernel_rfl) (by decide) (fun K hK => ?_)
          refine goes_ Tryd.func50 (by kernel_rfl) rfl #[.string a1, .int .i64 a2] (by rfl) rfl rfl (by (try simp only [List.map_toArray, List.map_cons, List.map_nil]); first | done | rfl | (simp only [List.length_drop, List.length_take]; rfl)) ?_
          with_reducible refine (element_Of.calls a1 a2 t460 t461 t462 _ A16.out).mono ?_
          rintro e w22 ⟨rfl, hb⟩
          refine ⟨_, rfl, ?_⟩
          have n0_ := Aside0.mk (Kd.R_below (by (with_reducible repeat (first | apply Kd.R_alloc | apply Kd.R_drewN | apply Kd.R_drew)); exact HO_7.out) hb)
          have n1_ := Aside0.mk (Kd.R_below (by (with_reducible repeat (first | apply Kd.R_alloc | apply Kd.R_drewN | apply Kd.R_drew)); exact HO_8.out) hb)
          have n2_ := Aside0.mk (Kd.R_below (by (with_reducible repeat (first | apply Kd.R_alloc | apply Kd.R_drewN | apply Kd.R_drew)); exact HO_24.out) hb)
          have n3_ := Aside0.mk (blk_below (g := gb459) (o := .cells #[.string ((rd_T48 t455 x26_1).f0), .int .i64 ((rd_T48 t455 x26_1).f1), .int .i64 ((rd_T48 t455 x26_1).f2)] 48 (0, 0)) (by (with_reducible repeat (first | refine blk_drewN ?_ _ | refine blk_drew ?_ | refine blk_alloc ?_ _)); exact BK459.out) hb)
          have n4_ := Aside0.mk (below_step (by repeat (first | (with_reducible first | exact HB.out | apply below_alloc | apply pw_below_drewN | apply below_drew1 | refine below_set ?_ GE459.out) | exact HB.out)) hb)
          clear HO_7
          clear HO_8
          clear HO_24
          clear BK459
          clear HB
          have HO_7 := n0_
          have HO_8 := n1_
          have HO_24 := n2_
          have BK459 := n3_
          have HB := n4_
          clear n0_ n1_ n2_ n3_ n4_
          (try clear hb)
          (try clear hb2)
          (try clear hk)
          (try clear hi)
          refine hK.out _ _ ⟨(blk_cell BK459.out 0).trans rfl, (blk_cell BK459.out 1).trans rfl, (blk_cell BK459.out 2).trans rfl⟩ (fun hHeld => ?_)
          clear hK K
          refine norm_ (a' := ?_) ?_ ?_
          rotate_left
          ·show Act.put _ (some 39) _ = _
           simp only [Act.put, List.setIfInBounds_toArray, List.set_cons_zero, List.set_cons_succ, i64_w, i32_w]
           rfl
          refine pure_ (i := 4) (N := some 40) (v := ?_) (a' := ?_) #[true, true, true, true, true] rfl rfl (by kernel_rfl) (fun _ _ _ h => h) (Or.inl ⟨by rfl, ?_⟩) ?_ ?_
          rotate_left
          ·intro w'
           go_simp
           with_reducible rfl
          rotate_left
          ·simp only [Act.put, List.setIfInBounds_toArray, List.set_cons_zero, List.set_cons_succ, i64_w, i32_w]
           rfl
          refine done_ (by kernel_rfl) ?_
          try go_wp2
          go_ret
          exact ⟨by first | rfl | (simp [errW_none, errW_some] <;> rfl) | (simp [*, errW_none, errW_some] <;> rfl), by repeat (first | (with_reducible first | exact HB.out | apply below_alloc | apply pw_below_drewN | apply below_drew1 | refine below_set ?_ GE459.out) | exact HB.out)⟩
         ·rw [if_neg c17] at H
          have c17b0 : (!((((rd_T48 t455 x26_1).f0).toList) == t460.toList) || (!(((rd_T48 t455 x26_1).f1) == t461) || (!(((rd_T48 t455 x26_1).f2) == t462)))) = false := by simpa using c17
          clear c17
          have H' := Aside0.mk H
          clear H
          have p458 : 0 ≤ (x26_1 : Int) := of_decide_eq_true (by first | (with_reducible assumption) | assumption)
          have q458 : x26_1 < (t455.length : Int) := of_decide_eq_true (by first | (with_reducible assumption) | assumption)
          obtain ⟨ad458, e458, hx458_0, hx458_1, hx458_2⟩ := at_T48 (Kd.R_reads' HO_24.out).2.2 x26_1 p458 q458
          cases e458
          replace p458 := eq_true p458
          replace q458 := eq_true q458
          try go_wp2_with (first | ((with_reducible refine gate_dst (N := 11) rfl ?_); refine box_event ?hg (N := 11) ?hd (cs := #[.string (⟨#[]⟩ : ByteArray), .int .i64 0, .int .i64 0]) (t := 48) ?hr ?_; (case hd => rfl); (case hg => rfl); (case hr => first | (go_simp; done) | (go_simp; rfl)); intro gb459 hg w23 hbox hb; have n0_ := Aside0.mk (Kd.R_below (Kd.R_elderB (by (with_reducible repeat (first | apply Kd.R_alloc | apply Kd.R_drewN | apply Kd.R_drew)); exact HO_7.out) gb459 (Nat.le_of_eq hg.symm)) hb); have n1_ := Aside0.mk (Kd.R_below (Kd.R_elderB (by (with_reducible repeat (first | apply Kd.R_alloc | apply Kd.R_drewN | apply Kd.R_drew)); exact HO_8.out) gb459 (Nat.le_of_eq hg.symm)) hb); have n2_ := Aside0.mk (Kd.R_below (Kd.R_elderB (by (with_reducible repeat (first | apply Kd.R_alloc | apply Kd.R_drewN | apply Kd.R_drew)); exact HO_24.out) gb459 (Nat.le_of_eq hg.symm)) hb); have n3_ := Aside0.mk (below_step (by repeat (first | (with_reducible first | exact HB.out | apply below_alloc | apply pw_below_drewN | apply below_drew1) | exact HB.out)) hb); have n4_ := Aside0.mk (hbox); have n5_ := Aside0.mk ((by rw [hg]; exact (below_size (by repeat (first | (with_reducible first | exact HB.out | apply below_alloc | apply pw_below_drewN | apply below_drew1) | exact HB.out))) : w.heap.size ≤ gb459)); have n6_ := Aside0.mk ((by rw [hg]; exact (below_size (by repeat (first | (with_reducible first | exact HB.out | apply below_alloc | apply pw_below_drewN | apply below_drew1) | exact HB.out))) : w.heap.size ≤ gb459)); clear HO_7; clear HO_8; clear HO_24; clear HB; have HO_7 := n0_; have HO_8 := n1_; have HO_24 := n2_; have HB := n3_; have BK459 := n4_; have GW459 := n5_; have GE459 := n6_; clear n0_ n1_ n2_ n3_ n4_ n5_ n6_; clear hb hbox hg; have hcz24_0 : w23.cell? ⟨gb459, 0, none⟩ = some (.string (⟨#[]⟩ : ByteArray)) := (blk_cell BK459.out 0).trans rfl; have hcz24_1 : w23.cell? ⟨gb459, 1, none⟩ = some (.int .i64 0) := (blk_cell BK459.out 1).trans rfl; have hcz24_2 : w23.cell? ⟨gb459, 2, none⟩ = some (.int .i64 0) := (blk_cell BK459.out 2).trans rfl; have hfz24_0 := blk_frozen BK459.out 0; have hfz24_1 := blk_frozen BK459.out 1; have hfz24_2 := blk_frozen BK459.out 2))
          have n0_ : Aside0 (Kd.R k48 48 (((w23.setCell ⟨gb459, 0, none⟩ (.string ((rd_T48 t455 x26_1).f0))).setCell ⟨gb459, 1, none⟩ (.int .i64 ((rd_T48 t455 x26_1).f1))).setCell ⟨gb459, 2, none⟩ (.int .i64 ((rd_T48 t455 x26_1).f2))) w.heap.size (fun k_ => some k_ ≠ (u8 : Value).ownBlock ∧ k_ ≠ gb459) (.slice (some ad458) t455.length co11) t455) := ⟨by (with_reducible repeat (first | apply Kd.R_alloc | apply Kd.R_drewN | apply Kd.R_drew)); exact Kd.R_mono (Kd.R_far (p := ⟨gb459, 2, none⟩) (Kd.R_far (p := ⟨gb459, 1, none⟩) (Kd.R_far (p := ⟨gb459, 0, none⟩) (Kd.R_mono HO_7.out (fun k_ hk => (⟨hk, hk.2⟩ : _ ∧ k_ ≠ gb459))) (fun _ hk => hk.2) (.string ((rd_T48 t455 x26_1).f0))) (fun _ hk => hk.2) (.int .i64 ((rd_T48 t455 x26_1).f1))) (fun _ hk => hk.2) (.int .i64 ((rd_T48 t455 x26_1).f2))) (fun _ hk => ⟨hk.1.1, hk.1.2⟩)⟩
          have n1_ : Aside0 (Kd.R k48 48 (((w23.setCell ⟨gb459, 0, none⟩ (.string ((rd_T48 t455 x26_1).f0))).setCell ⟨gb459, 1, none⟩ (.int .i64 ((rd_T48 t455 x26_1).f1))).setCell ⟨gb459, 2, none⟩ (.int .i64 ((rd_T48 t455 x26_1).f2))) w.heap.size (fun k_ => some k_ ≠ (.slice (some ad458) t455.length co11 : Value).ownBlock ∧ some k_ ≠ (.slice (some ad458) t455.length co11 : Value).ownBlock ∧ k_ ≠ gb459) u8 x8_1) := ⟨by (with_reducible repeat (first | apply Kd.R_alloc | apply Kd.R_drewN | apply Kd.R_drew)); exact Kd.R_mono (Kd.R_far (p := ⟨gb459, 2, none⟩) (Kd.R_far (p := ⟨gb459, 1, none⟩) (Kd.R_far (p := ⟨gb459, 0, none⟩) (Kd.R_mono HO_8.out (fun k_ hk => (⟨hk, hk.2⟩ : _ ∧ k_ ≠ gb459))) (fun _ hk => hk.2) (.string ((rd_T48 t455 x26_1).f0))) (fun _ hk => hk.2) (.int .i64 ((rd_T48 t455 x26_1).f1))) (fun _ hk => hk.2) (.int .i64 ((rd_T48 t455 x26_1).f2))) (fun _ hk => ⟨hk.1.1.1, ⟨hk.1.1.2, hk.1.2⟩⟩)⟩
          have n2_ : Aside0 (Kd.R k48 48 (((w23.setCell ⟨gb459, 0, none⟩ (.string ((rd_T48 t455 x26_1).f0))).setCell ⟨gb459, 1, none⟩ (.int .i64 ((rd_T48 t455 x26_1).f1))).setCell ⟨gb459, 2, none⟩ (.int .i64 ((rd_T48 t455 x26_1).f2))) w.heap.size (fun k_ => some k_ ≠ (u8 : Value).ownBlock ∧ k_ ≠ gb459) (.slice (some ad458) t455.length co11) t455) := ⟨by (with_reducible repeat (first | apply Kd.R_alloc | apply Kd.R_drewN | apply Kd.R_drew)); exact Kd.R_mono (Kd.R_far (p := ⟨gb459, 2, none⟩) (Kd.R_far (p := ⟨gb459, 1, none⟩) (Kd.R_far (p := ⟨gb459, 0, none⟩) (Kd.R_mono HO_24.out (fun k_ hk => (⟨hk, hk.2⟩ : _ ∧ k_ ≠ gb459))) (fun _ hk => hk.2) (.string ((rd_T48 t455 x26_1).f0))) (fun _ hk => hk.2) (.int .i64 ((rd_T48 t455 x26_1).f1))) (fun _ hk => hk.2) (.int .i64 ((rd_T48 t455 x26_1).f2))) (fun _ hk => ⟨hk.1.1, hk.1.2⟩)⟩
          have n3_ : Aside0 ((((w23.setCell ⟨gb459, 0, none⟩ (.string ((rd_T48 t455 x26_1).f0))).setCell ⟨gb459, 1, none⟩ (.int .i64 ((rd_T48 t455 x26_1).f1))).setCell ⟨gb459, 2, none⟩ (.int .i64 ((rd_T48 t455 x26_1).f2))).heap[gb459]? = some (.cells #[.string ((rd_T48 t455 x26_1).f0), .int .i64 ((rd_T48 t455 x26_1).f1), .int .i64 ((rd_T48 t455 x26_1).f2)] 48 (0, 0))) := ⟨by (with_reducible repeat (first | refine blk_drewN ?_ _ | refine blk_drew ?_ | refine blk_alloc ?_ _)); refine blk_put (cs := #[.string ((rd_T48 t455 x26_1).f0), .int .i64 ((rd_T48 t455 x26_1).f1), .int .i64 0]) ?_ 2 _ rfl; (with_reducible repeat (first | refine blk_drewN ?_ _ | refine blk_drew ?_ | refine blk_alloc ?_ _)); refine blk_put (cs := #[.string ((rd_T48 t455 x26_1).f0), .int .i64 0, .int .i64 0]) ?_ 1 _ rfl; (with_reducible repeat (first | refine blk_drewN ?_ _ | refine blk_drew ?_ | refine blk_alloc ?_ _)); refine blk_put (cs := #[.string (⟨#[]⟩ : ByteArray), .int .i64 0, .int .i64 0]) ?_ 0 _ rfl; (with_reducible repeat (first | refine blk_drewN ?_ _ | refine blk_drew ?_ | refine blk_alloc ?_ _)); exact BK459.out⟩
          have n4_ : Aside0 (Below w.heap.size w (((w23.setCell ⟨gb459, 0, none⟩ (.string ((rd_T48 t455 x26_1).f0))).setCell ⟨gb459, 1, none⟩ (.int .i64 ((rd_T48 t455 x26_1).f1))).setCell ⟨gb459, 2, none⟩ (.int .i64 ((rd_T48 t455 x26_1).f2)))) := ⟨by repeat (first | (with_reducible first | exact HB.out | apply below_alloc | apply pw_below_drewN | apply below_drew1 | refine below_set ?_ GE459.out) | exact HB.out)⟩
          (try clear HO_7)
          (try clear HO_8)
          (try clear HO_24)
          (try clear BK459)
          (try clear HB)
          generalize (((w23.setCell ⟨gb459, 0, none⟩ (.string ((rd_T48 t455 x26_1).f0))).setCell ⟨gb459, 1, none⟩ (.int .i64 ((rd_T48 t455 x26_1).f1))).setCell ⟨gb459, 2, none⟩ (.int .i64 ((rd_T48 t455 x26_1).f2))) = w25 at n0_ n1_ n2_ n3_ n4_ ⊢
          have HO_7 := n0_
          have HO_8 := n1_
          have HO_24 := n2_
          have BK459 := n3_
          have HB := n4_
          clear n0_ n1_ n2_ n3_ n4_
          have n0_ := Aside0.mk (Kd.R_drew HO_7.out)
          have n1_ := Aside0.mk (Kd.R_drew HO_8.out)
          have n2_ := Aside0.mk (Kd.R_drew HO_24.out)
          have n3_ := Aside0.mk (blk_drew BK459.out)
          have n4_ := Aside0.mk (below_drew1 HB.out)
          clear HO_7
          clear HO_8
          clear HO_24
          clear BK459
          clear HB
          have HO_7 := n0_
          have HO_8 := n1_
          have HO_24 := n2_
          have BK459 := n3_
          have HB := n4_
          clear n0_ n1_ n2_ n3_ n4_
          refine start_ (n := 5) (S := fun w' => w'.cell? ⟨gb459, 0, none⟩ = some (.string ((rd_T48 t455 x26_1).f0)) ∧ w'.cell? ⟨gb459, 1, none⟩ = some (.int .i64 ((rd_T48 t455 x26_1).f1)) ∧ w'.cell? ⟨gb459, 2, none⟩ = some (.int .i64 ((rd_T48 t455 x26_1).f2))) (ds := []) #[false, false, false, false, false] (by kernel_rfl) rfl rfl ⟨(blk_cell BK459.out 0).trans rfl, (blk_cell BK459.out 1).trans rfl, (blk_cell BK459.out 2).trans rfl⟩ (fun hHeld => ?_)
          generalize w25.drew = w26 at HO_7 HO_8 HO_24 BK459 HB hHeld ⊢
          refine pure_ (i := 1) (N := some 37) (v := ?_) (a' := ?_) #[false, true, false, false, false] rfl rfl (by kernel_rfl) (fun _ _ _ h => h) (Or.inl ⟨by rfl, ?_⟩) ?_ ?_
          rotate_left
          ·intro w'
           go_simp
           with_reducible rfl
          rotate_left
          ·simp only [Act.put, List.setIfInBounds_toArray, List.set_cons_zero, List.set_cons_succ, i64_w, i32_w]
           rfl
          refine pure_ (i := 2) (N := some 38) (v := ?_) (a' := ?_) #[false, true, true, false, false] rfl rfl (by kernel_rfl) (fun _ _ _ h => h) (Or.inl ⟨by rfl, ?_⟩) ?_ ?_
          rotate_left
          ·intro w'
           go_simp
           with_reducible rfl
          rotate_left
          ·simp only [Act.put, List.setIfInBounds_toArray, List.set_cons_zero, List.set_cons_succ, i64_w, i32_w]
           rfl
          refine take_ (i := 0) (N := some 36) (v := ?_) (a' := ?_) #[true, true, true, false, false] rfl rfl (by kernel_rfl) (fun _ _ _ h => h) (Or.inl ⟨by rfl, ?_⟩) hHeld ?_ ?_
          rotate_left
          ·rintro w' ⟨s0, s1, s2⟩
           go_simp
           with_reducible rfl
          rotate_left
          ·simp only [Act.put, List.setIfInBounds_toArray, List.set_cons_zero, List.set_cons_succ, i64_w, i32_w]
           rfl
          refine one_ (i := 3) (N := some 39) #[true, true, true, true, false] rfl rfl (by kernel_rfl) (by decide) (fun K hK => ?_)
          refine goes_ Tryd.func50 (by kernel_rfl) rfl #[.string a1, .int .i64 a2] (by rfl) rfl rfl (by (try simp only [List.map_toArray, List.map_cons, List.map_nil]); first | done | rfl | (simp only [List.length_drop, List.length_take]; rfl)) ?_
          with_reducible refine (element_Of.calls a1 a2 t460 t461 t462 _ A16.out).mono ?_
          rintro e w27 ⟨rfl, hb⟩
          refine ⟨_, rfl, ?_⟩
          have n0_ := Aside0.mk (Kd.R_below (by (with_reducible repeat (first | apply Kd.R_alloc | apply Kd.R_drewN | apply Kd.R_drew)); exact HO_7.out) hb)
          have n1_ := Aside0.mk (Kd.R_below (by (with_reducible repeat (first | apply Kd.R_alloc | apply Kd.R_drewN | apply Kd.R_drew)); exact HO_8.out) hb)
          have n2_ := Aside0.mk (Kd.R_below (by (with_reducible repeat (first | apply Kd.R_alloc | apply Kd.R_drewN | apply Kd.R_drew)); exact HO_24.out) hb)
          have n3_ := Aside0.mk (blk_below (g := gb459) (o := .cells #[.string ((rd_T48 t455 x26_1).f0), .int .i64 ((rd_T48 t455 x26_1).f1), .int .i64 ((rd_T48 t455 x26_1).f2)] 48 (0, 0)) (by (with_reducible repeat (first | refine blk_drewN ?_ _ | refine blk_drew ?_ | refine blk_alloc ?_ _)); exact BK459.out) hb)
          have n4_ := Aside0.mk (below_step (by repeat (first | (with_reducible first | exact HB.out | apply below_alloc | apply pw_below_drewN | apply below_drew1 | refine below_set ?_ GE459.out) | exact HB.out)) hb)
          clear HO_7
          clear HO_8
          clear HO_24
          clear BK459
          clear HB
          have HO_7 := n0_
          have HO_8 := n1_
          have HO_24 := n2_
          have BK459 := n3_
          have HB := n4_
          clear n0_ n1_ n2_ n3_ n4_
          (try clear hb)
          (try clear hb2)
          (try clear hk)
          (try clear hi)
          refine hK.out _ _ ⟨(blk_cell BK459.out 0).trans rfl, (blk_cell BK459.out 1).trans rfl, (blk_cell BK459.out 2).trans rfl⟩ (fun hHeld => ?_)
          clear hK K
          refine norm_ (a' := ?_) ?_ ?_
          rotate_left
          ·show Act.put _ (some 39) _ = _
           simp only [Act.put, List.setIfInBounds_toArray, List.set_cons_zero, List.set_cons_succ, i64_w, i32_w]
           rfl
          refine pure_ (i := 4) (N := some 40) (v := ?_) (a' := ?_) #[true, true, true, true, true] rfl rfl (by kernel_rfl) (fun _ _ _ h => h) (Or.inl ⟨by rfl, ?_⟩) ?_ ?_
          rotate_left
          ·intro w'
           go_simp
           with_reducible rfl
          rotate_left
          ·simp only [Act.put, List.setIfInBounds_toArray, List.set_cons_zero, List.set_cons_succ, i64_w, i32_w]
           rfl
          refine done_ (by kernel_rfl) ?_
          try go_wp2
          go_roundg k1
          case measure => have := HK1.out; omega
          case rel => exact ⟨(x8_1), (wrap64 (x9_1 + 1)), (wrap64 (x26_1 + 1)), (by first | rfl | (simp; done) | (simp [*]; done)), (by first | rfl | (simp; done) | (simp [*]; done)), H', ⟨by have := HK1.out; omega⟩, ⟨by (with_reducible repeat (first | apply Kd.R_alloc | apply Kd.R_drewN | apply Kd.R_drew)); exact Kd.R_mono HO_7.out (fun _ hk => hk.1)⟩, ⟨by (with_reducible repeat (first | apply Kd.R_alloc | apply Kd.R_drewN | apply Kd.R_drew)); exact Kd.R_mono HO_8.out (fun _ hk => ⟨hk.1, hk.2.1⟩)⟩, ⟨by (with_reducible repeat (first | apply Kd.R_alloc | apply Kd.R_drewN | apply Kd.R_drew)); exact Kd.R_mono HO_24.out (fun _ hk => hk.1)⟩, ⟨by repeat (first | (with_reducible first | exact HB.out | apply below_alloc | apply pw_below_drewN | apply below_drew1 | refine below_set ?_ GE459.out) | exact HB.out)⟩⟩
        ·rw [if_neg c15] at H
         have c15b0 : (((rd_T48 t455 x26_1).f0).toList == a1.toList) = false := beq_eq_false_iff_ne.mpr c15
         have c15b1 : (((rd_T48 t455 x26_1).f0).toList != a1.toList) = true := bne_iff_ne.mpr c15
         by_cases c28 : x8_1.length < 4398046511104
         ·rw [if_pos c28] at H
          have LMc28 := Aside0.mk c28
          clear c28
          obtain ⟨y463, hy463⟩ : ∃ y_ : List (S48), y_ = (x8_1 ++ [(⟨(rd_T48 t455 x26_1).f0, (rd_T48 t455 x26_1).f1, (rd_T48 t455 x26_1).f2⟩ : S48)]) := ⟨_, rfl⟩
          replace H : (stipendlaw11_ElementChange.l0 k1 l0 a1 a2 t455 y463 x9_1 t455 (t455.length : Int) (wrap64 (x26_1 + 1))) = some r := by first | (rw [hy463]; with_reducible exact H) | (have H2_ := (Option.bind_some _ _).symm.trans H; rw [hy463]; with_reducible exact H2_) | (have H2_ := (Option.bind_some _ _).symm.trans H; with_reducible exact H2_) | with_reducible exact H | (rw [hy463]; exact H) | exact H
          have Ny463 := Aside0.mk hy463
          clear hy463
          have H' := Aside0.mk H
          clear H
          have p458 : 0 ≤ (x26_1 : Int) := of_decide_eq_true (by first | (with_reducible assumption) | assumption)
          have q458 : x26_1 < (t455.length : Int) := of_decide_eq_true (by first | (with_reducible assumption) | assumption)
          obtain ⟨ad458, e458, hx458_0, hx458_1, hx458_2⟩ := at_T48 (Kd.R_reads' HO_24.out).2.2 x26_1 p458 q458
          cases e458
          replace p458 := eq_true p458
          replace q458 := eq_true q458
          go_wp2_with (first | ((with_reducible refine gate_dst (N := 11) rfl ?_); refine box_event ?hg (N := 11) ?hd (cs := #[.string (⟨#[]⟩ : ByteArray), .int .i64 0, .int .i64 0]) (t := 48) ?hr ?_; (case hd => rfl); (case hg => rfl); (case hr => first | (go_simp; done) | (go_simp; rfl)); intro gb459 hg w29 hbox hb; have n0_ := Aside0.mk (Kd.R_below (Kd.R_elderB (by (with_reducible repeat (first | apply Kd.R_alloc | apply Kd.R_drewN | apply Kd.R_drew)); exact HO_7.out) gb459 (Nat.le_of_eq hg.symm)) hb); have n1_ := Aside0.mk (Kd.R_below (Kd.R_elderB (by (with_reducible repeat (first | apply Kd.R_alloc | apply Kd.R_drewN | apply Kd.R_drew)); exact HO_8.out) gb459 (Nat.le_of_eq hg.symm)) hb); have n2_ := Aside0.mk (Kd.R_below (Kd.R_elderB (by (with_reducible repeat (first | apply Kd.R_alloc | apply Kd.R_drewN | apply Kd.R_drew)); exact HO_24.out) gb459 (Nat.le_of_eq hg.symm)) hb); have n3_ := Aside0.mk (below_step (by repeat (first | (with_reducible first | exact HB.out | apply below_alloc | apply pw_below_drewN | apply below_drew1) | exact HB.out)) hb); have n4_ := Aside0.mk (hbox); have n5_ := Aside0.mk ((by rw [hg]; exact (below_size (by repeat (first | (with_reducible first | exact HB.out | apply below_alloc | apply pw_below_drewN | apply below_drew1) | exact HB.out))) : w.heap.size ≤ gb459)); have n6_ := Aside0.mk ((by rw [hg]; exact (below_size (by repeat (first | (with_reducible first | exact HB.out | apply below_alloc | apply pw_below_drewN | apply below_drew1) | exact HB.out))) : w.heap.size ≤ gb459)); clear HO_7; clear HO_8; clear HO_24; clear HB; have HO_7 := n0_; have HO_8 := n1_; have HO_24 := n2_; have HB := n3_; have BK459 := n4_; have GW459 := n5_; have GE459 := n6_; clear n0_ n1_ n2_ n3_ n4_ n5_ n6_; clear hb hbox hg; have hcz30_0 : w29.cell? ⟨gb459, 0, none⟩ = some (.string (⟨#[]⟩ : ByteArray)) := (blk_cell BK459.out 0).trans rfl; have hcz30_1 : w29.cell? ⟨gb459, 1, none⟩ = some (.int .i64 0) := (blk_cell BK459.out 1).trans rfl; have hcz30_2 : w29.cell? ⟨gb459, 2, none⟩ = some (.int .i64 0) := (blk_cell BK459.out 2).trans rfl; have hfz30_0 := blk_frozen BK459.out 0; have hfz30_1 := blk_frozen BK459.out 1; have hfz30_2 := blk_frozen BK459.out 2) | ((with_reducible refine gate_builtin (b := .append) (xs := #[.tmp 41, .tmp 43]) rfl ?_); at_builtin; refine Kd.R_append k48 (w0 := w) w.heap.size rfl (.tmp 41) (.tmp 43) 71 48 (.agg #[(.string ⟨#[]⟩), (.int .i64 0), (.int .i64 0)]) 32 rfl Tryd.underlying71 info48 rfl (by decide) (by omega) u8 x8_1 (⟨(rd_T48 t455 x26_1).f0, (rd_T48 t455 x26_1).f1, (rd_T48 t455 x26_1).f2⟩ : S48) [.string ((rd_T48 t455 x26_1).f0), .int .i64 ((rd_T48 t455 x26_1).f1), .int .i64 ((rd_T48 t455 x26_1).f2)] (fun k_ => some k_ ≠ (.slice (some ad458) t455.length co11 : Value).ownBlock ∧ some k_ ≠ (.slice (some ad458) t455.length co11 : Value).ownBlock ∧ k_ ≠ gb459) (fun _ => False) rfl (by first | (go_simp; done) | (go_simp; rfl)) ?aP (fun _ hk => hk.elim) ?aF ?aO ?aB ?aS ?aL ?_; (case aP => exact k48_mkM _ _ _ (⟨(rd_T48 t455 x26_1).f0, (rd_T48 t455 x26_1).f1, (rd_T48 t455 x26_1).f2⟩ : S48)); (case aB => exact (by repeat (first | (with_reducible first | exact HB.out | apply below_alloc | apply pw_below_drewN | apply below_drew1 | refine below_set ?_ GE459.out) | exact HB.out))); (case aF => exact (fun k_ hk => ⟨Kd.fresh' (Kd.R_lt (by (with_reducible repeat (first | apply Kd.R_alloc | apply Kd.R_drewN | apply Kd.R_drew)); exact (Kd.R_mono (Kd.R_far (p := ⟨gb459, 2, none⟩) (Kd.R_far (p := ⟨gb459, 1, none⟩) (Kd.R_far (p := ⟨gb459, 0, none⟩) (Kd.R_mono HO_7.out (fun k_ hk => (⟨hk, hk.2⟩ : _ ∧ k_ ≠ gb459))) (fun _ hk => hk.2) (.string ((rd_T48 t455 x26_1).f0))) (fun _ hk => hk.2) (.int .i64 ((rd_T48 t455 x26_1).f1))) (fun _ hk => hk.2) (.int .i64 ((rd_T48 t455 x26_1).f2))) (fun _ h_ => h_.1)))) k_ hk, Kd.fresh' (Kd.R_lt (by (with_reducible repeat (first | apply Kd.R_alloc | apply Kd.R_drewN | apply Kd.R_drew)); exact (Kd.R_mono (Kd.R_far (p := ⟨gb459, 2, none⟩) (Kd.R_far (p := ⟨gb459, 1, none⟩) (Kd.R_far (p := ⟨gb459, 0, none⟩) (Kd.R_mono HO_24.out (fun k_ hk => (⟨hk, hk.2⟩ : _ ∧ k_ ≠ gb459))) (fun _ hk => hk.2) (.string ((rd_T48 t455 x26_1).f0))) (fun _ hk => hk.2) (.int .i64 ((rd_T48 t455 x26_1).f1))) (fun _ hk => hk.2) (.int .i64 ((rd_T48 t455 x26_1).f2))) (fun _ h_ => h_.1)))) k_ hk, Kd.freshB (g := gb459) (o := .cells #[.string ((rd_T48 t455 x26_1).f0), .int .i64 ((rd_T48 t455 x26_1).f1), .int .i64 ((rd_T48 t455 x26_1).f2)] 48 (0, 0)) (by (with_reducible repeat (first | refine blk_drewN ?_ _ | refine blk_drew ?_ | refine blk_alloc ?_ _)); refine blk_put (cs := #[.string ((rd_T48 t455 x26_1).f0), .int .i64 ((rd_T48 t455 x26_1).f1), .int .i64 0]) ?_ 2 _ rfl; (with_reducible repeat (first | refine blk_drewN ?_ _ | refine blk_drew ?_ | refine blk_alloc ?_ _)); refine blk_put (cs := #[.string ((rd_T48 t455 x26_1).f0), .int .i64 0, .int .i64 0]) ?_ 1 _ rfl; (with_reducible repeat (first | refine blk_drewN ?_ _ | refine blk_drew ?_ | refine blk_alloc ?_ _)); refine blk_put (cs := #[.string (⟨#[]⟩ : ByteArray), .int .i64 0, .int .i64 0]) ?_ 0 _ rfl; (with_reducible repeat (first | refine blk_drewN ?_ _ | refine blk_drew ?_ | refine blk_alloc ?_ _)); exact BK459.out) k_ hk⟩)); (case aO => exact (by (with_reducible repeat (first | apply Kd.R_alloc | apply Kd.R_drewN | apply Kd.R_drew)); exact Kd.R_mono (Kd.R_far (p := ⟨gb459, 2, none⟩) (Kd.R_far (p := ⟨gb459, 1, none⟩) (Kd.R_far (p := ⟨gb459, 0, none⟩) (Kd.R_mono HO_8.out (fun k_ hk => (⟨hk, hk.2⟩ : _ ∧ k_ ≠ gb459))) (fun _ hk => hk.2) (.string ((rd_T48 t455 x26_1).f0))) (fun _ hk => hk.2) (.int .i64 ((rd_T48 t455 x26_1).f1))) (fun _ hk => hk.2) (.int .i64 ((rd_T48 t455 x26_1).f2))) (fun _ hk => ⟨hk.1.1.1, ⟨hk.1.1.2, hk.1.2⟩⟩))); (case aS => exact (below_size (by repeat (first | (with_reducible first | exact HB.out | apply below_alloc | apply pw_below_drewN | apply below_drew1 | refine below_set ?_ GE459.out) | exact HB.out)))); (case aL => have := LMc28.out; omega); intro v464 w31 ho hb hg hat; rw [← Ny463.out] at ho; have n0_ := Aside0.mk (Kd.R_after (ok := (fun k_ => k_ ≠ gb459)) (by (with_reducible repeat (first | apply Kd.R_alloc | apply Kd.R_drewN | apply Kd.R_drew)); exact Kd.R_mono (Kd.R_far (p := ⟨gb459, 2, none⟩) (Kd.R_far (p := ⟨gb459, 1, none⟩) (Kd.R_far (p := ⟨gb459, 0, none⟩) (Kd.R_mono HO_7.out (fun k_ hk => (⟨hk, hk.2⟩ : _ ∧ k_ ≠ gb459))) (fun _ hk => hk.2) (.string ((rd_T48 t455 x26_1).f0))) (fun _ hk => hk.2) (.int .i64 ((rd_T48 t455 x26_1).f1))) (fun _ hk => hk.2) (.int .i64 ((rd_T48 t455 x26_1).f2))) (fun _ hk => ⟨hk.1.2, hk.1.1⟩)) hg hat); have n1_ := Aside0.mk (Kd.R_after (ok := (fun k_ => k_ ≠ gb459)) (by (with_reducible repeat (first | apply Kd.R_alloc | apply Kd.R_drewN | apply Kd.R_drew)); exact Kd.R_mono (Kd.R_far (p := ⟨gb459, 2, none⟩) (Kd.R_far (p := ⟨gb459, 1, none⟩) (Kd.R_far (p := ⟨gb459, 0, none⟩) (Kd.R_mono HO_24.out (fun k_ hk => (⟨hk, hk.2⟩ : _ ∧ k_ ≠ gb459))) (fun _ hk => hk.2) (.string ((rd_T48 t455 x26_1).f0))) (fun _ hk => hk.2) (.int .i64 ((rd_T48 t455 x26_1).f1))) (fun _ hk => hk.2) (.int .i64 ((rd_T48 t455 x26_1).f2))) (fun _ hk => ⟨hk.1.2, hk.1.1⟩)) hg hat); have n2_ := Aside0.mk (blk_grown (g := gb459) (o := .cells #[.string ((rd_T48 t455 x26_1).f0), .int .i64 ((rd_T48 t455 x26_1).f1), .int .i64 ((rd_T48 t455 x26_1).f2)] 48 (0, 0)) (by (with_reducible repeat (first | refine blk_drewN ?_ _ | refine blk_drew ?_ | refine blk_alloc ?_ _)); refine blk_put (cs := #[.string ((rd_T48 t455 x26_1).f0), .int .i64 ((rd_T48 t455 x26_1).f1), .int .i64 0]) ?_ 2 _ rfl; (with_reducible repeat (first | refine blk_drewN ?_ _ | refine blk_drew ?_ | refine blk_alloc ?_ _)); refine blk_put (cs := #[.string ((rd_T48 t455 x26_1).f0), .int .i64 0, .int .i64 0]) ?_ 1 _ rfl; (with_reducible repeat (first | refine blk_drewN ?_ _ | refine blk_drew ?_ | refine blk_alloc ?_ _)); refine blk_put (cs := #[.string (⟨#[]⟩ : ByteArray), .int .i64 0, .int .i64 0]) ?_ 0 _ rfl; (with_reducible repeat (first | refine blk_drewN ?_ _ | refine blk_drew ?_ | refine blk_alloc ?_ _)); exact BK459.out) hg (Kd.R_away HO_8.out (fun _ hk => hk.2))); have n3_ := Aside0.mk (hb); have n4_ := Aside0.mk (ho); clear HO_7; clear HO_24; clear BK459; clear HB; clear HO_8; have HO_7 := n0_; have HO_24 := n1_; have BK459 := n2_; have HB := n3_; have HO465 := n4_; clear n0_ n1_ n2_ n3_ n4_; clear ho hb hg hat))
          go_roundg k1
          case measure => have := HK1.out; omega
          case rel => exact ⟨(y463), (x9_1), (wrap64 (x26_1 + 1)), (by first | rfl | (simp; done) | (simp [*]; done)), (by first | rfl | (simp; done) | (simp [*]; done)), H', ⟨by have := HK1.out; omega⟩, ⟨by (with_reducible repeat (first | apply Kd.R_alloc | apply Kd.R_drewN | apply Kd.R_drew)); exact Kd.R_mono HO_7.out (fun _ hk => hk.2)⟩, ⟨by (with_reducible repeat (first | apply Kd.R_alloc | apply Kd.R_drewN | apply Kd.R_drew)); exact Kd.R_mono HO465.out (fun _ hk => ⟨hk.1, hk.2.1⟩)⟩, ⟨by (with_reducible repeat (first | apply Kd.R_alloc | apply Kd.R_drewN | apply Kd.R_drew)); exact Kd.R_mono HO_24.out (fun _ hk => hk.2)⟩, ⟨by repeat (first | (with_reducible first | exact HB.out | apply below_alloc | apply pw_below_drewN | apply below_drew1 | refine below_set ?_ GE459.out) | exact HB.out)⟩⟩
         ·rw [if_neg c28] at H
          exact absurd H (by simp)
       ·rw [if_neg c14] at H
        exact absurd H (by simp)
      ·rw [if_neg c13] at H
       exact absurd H (by simp)
     ·rw [if_neg c12] at H
      have c12b0 : decide (x26_1 < (t455.length : Int)) = false := decide_eq_false c12
      clear c12
      have H' := Aside0.mk H
      clear H
      go_wp2
      go_loopg [12, 48] k1 (fun kq v12 v48 w' => ∃ (x12_2 : Int) (x48_2 : Int), v12 = .int .i64 x12_2 ∧ v48 = .int .i64 x48_2 ∧ Aside0 (stipendlaw11_ElementChange.l1 kq a1 a2 t455 x8_1 x9_1 x12_2 l0 (l0.length : Int) x48_2 = some r) ∧ Aside0 (kq ≤ k1) ∧ Aside0 (Kd.R k48 48 w' w.heap.size (fun k_ => some k_ ≠ (u8 : Value).ownBlock) (.slice Ao11 t455.length co11) t455) ∧ Aside0 (Kd.R k48 48 w' w.heap.size (fun k_ => some k_ ≠ ((.slice Ao11 t455.length co11) : Value).ownBlock) u8 x8_1) ∧ Aside0 (Below w.heap.size w w'))
      case atStart => exact ⟨(0), (0), (by first | rfl | (simp; done) | (simp [*]; done)), (by first | rfl | (simp; done) | (simp [*]; done)), H', ⟨Nat.le_refl _⟩, ⟨by (with_reducible repeat (first | apply Kd.R_alloc | apply Kd.R_drewN | apply Kd.R_drew)); exact HO_7.out⟩, ⟨by (with_reducible repeat (first | apply Kd.R_alloc | apply Kd.R_drewN | apply Kd.R_drew)); exact Kd.R_mono HO_8.out (fun _ hk => hk.1)⟩, ⟨by repeat (first | (with_reducible first | exact HB.out | apply below_alloc | apply pw_below_drewN | apply below_drew1) | exact HB.out)⟩⟩
      case round =>
       clear H'
       try clear c1
       try clear c2
       try clear p2
       try clear c3
       try clear c4
       try clear p4
       try clear q4
       try clear hx4
       try clear c5
       try clear c6
       try clear c6b0
       try clear c6b1
       try clear p6
       try clear c10
       try clear c12
       try clear c12b0
       try clear c13
       try clear c13b0
       try clear c14
       try clear c14b0
       try clear c15
       try clear c15b0
       try clear c15b1
       try clear c17
       try clear c17b0
       try clear c28
       try clear hcz19_0
       try clear hcz19_1
       try clear hcz19_2
       try clear hcz24_0
       try clear hcz24_1
       try clear hcz24_2
       try clear hcz30_0
       try clear hcz30_1
       try clear hcz30_2
       try clear hfz19_0
       try clear hfz19_1
       try clear hfz19_2
       try clear hfz24_0
       try clear hfz24_1
       try clear hfz24_2
       try clear hfz30_0
       try clear hfz30_1
       try clear hfz30_2
       try clear hx458_0
       try clear hx458_1
       try clear hx458_2
       try clear p2
       try clear p458
       try clear q458
       obtain ⟨x12_2, x48_2, rfl, rfl, HA, HK2, HO_7, HO_8, HB⟩ := hrel
       cases gk with
       | zero => exact absurd HA.out (by simp [stipendlaw11_ElementChange.l1])
       | succ k2 =>
        have H := HA.out
        clear HA
        simp only [stipendlaw11_ElementChange.l1] at H
        by_cases c32 : x48_2 < (l0.length : Int)
        ·rw [if_pos c32] at H
         have c32b0 : decide (x48_2 < (l0.length : Int)) = true := decide_eq_true c32
         clear c32
         by_cases c33 : 0 ≤ x48_2
         ·rw [if_pos c33] at H
          have c33b0 : decide (0 ≤ x48_2) = true := decide_eq_true c33
          clear c33
          by_cases c34 : x48_2 < (l0.length : Int)
          ·rw [if_pos c34] at H
           have c34b0 : decide (x48_2 < (l0.length : Int)) = true := decide_eq_true c34
           clear c34
           by_cases c35 : ((rd_T48 l0 x48_2).f0).toList = a1.toList
           ·rw [if_pos c35] at H
            have c35b0 : (((rd_T48 l0 x48_2).f0).toList == a1.toList) = true := beq_iff_eq.mpr c35
            have c35b1 : (((rd_T48 l0 x48_2).f0).toList != a1.toList) = false := bne_eq_false_iff_eq.mpr c35
            clear c35
            have H' := Aside0.mk H
            clear H
            have p466 : 0 ≤ (x48_2 : Int) := of_decide_eq_true (by first | (with_reducible assumption) | assumption)
            have q466 : x48_2 < (l0.length : Int) := of_decide_eq_true (by first | (with_reducible assumption) | assumption)
            obtain ⟨ad466, e466, hx466_0, hx466_1, hx466_2⟩ := at_T48 HR0.out x48_2 p466 q466
            cases e466
            replace hx466_0 := (HB.out.cell (World.block_lt_of_cell? w _ hx466_0)).trans hx466_0
            replace hx466_1 := (HB.out.cell (World.block_lt_of_cell? w _ hx466_1)).trans hx466_1
            replace hx466_2 := (HB.out.cell (World.block_lt_of_cell? w _ hx466_2)).trans hx466_2
            replace p466 := eq_true p466
            replace q466 := eq_true q466
            go_wp2_with (first | ((with_reducible refine gate_dst (N := 14) rfl ?_); refine box_event ?hg (N := 14) ?hd (cs := #[.string (⟨#[]⟩ : ByteArray), .int .i64 0, .int .i64 0]) (t := 48) ?hr ?_; (case hd => rfl); (case hg => rfl); (case hr => first | (go_simp; done) | (go_simp; rfl)); intro gb467 hg w36 hbox hb; have n0_ := Aside0.mk (Kd.R_below (Kd.R_elderB (by (with_reducible repeat (first | apply Kd.R_alloc | apply Kd.R_drewN | apply Kd.R_drew)); exact HO_7.out) gb467 (Nat.le_of_eq hg.symm)) hb); have n1_ := Aside0.mk (Kd.R_below (Kd.R_elderB (by (with_reducible repeat (first | apply Kd.R_alloc | apply Kd.R_drewN | apply Kd.R_drew)); exact HO_8.out) gb467 (Nat.le_of_eq hg.symm)) hb); have n2_ := Aside0.mk (below_step (by repeat (first | (with_reducible first | exact HB.out | apply below_alloc | apply pw_below_drewN | apply below_drew1) | exact HB.out)) hb); have n3_ := Aside0.mk (hbox); have n4_ := Aside0.mk ((by rw [hg]; exact (below_size (by repeat (first | (with_reducible first | exact HB.out | apply below_alloc | apply pw_below_drewN | apply below_drew1) | exact HB.out))) : w.heap.size ≤ gb467)); have n5_ := Aside0.mk ((by rw [hg]; exact (below_size (by repeat (first | (with_reducible first | exact HB.out | apply below_alloc | apply pw_below_drewN | apply below_drew1) | exact HB.out))) : w.heap.size ≤ gb467)); clear HO_7; clear HO_8; clear HB; have HO_7 := n0_; have HO_8 := n1_; have HB := n2_; have BK467 := n3_; have GW467 := n4_; have GE467 := n5_; clear n0_ n1_ n2_ n3_ n4_ n5_; clear hb hbox hg; have hcz37_0 : w36.cell? ⟨gb467, 0, none⟩ = some (.string (⟨#[]⟩ : ByteArray)) := (blk_cell BK467.out 0).trans rfl; have hcz37_1 : w36.cell? ⟨gb467, 1, none⟩ = some (.int .i64 0) := (blk_cell BK467.out 1).trans rfl; have hcz37_2 : w36.cell? ⟨gb467, 2, none⟩ = some (.int .i64 0) := (blk_cell BK467.out 2).trans rfl; have hfz37_0 := blk_frozen BK467.out 0; have hfz37_1 := blk_frozen BK467.out 1; have hfz37_2 := blk_frozen BK467.out 2))
            go_roundg k2
            case measure => have := HK1.out; have := HK2.out; omega
            case rel => exact ⟨(x12_2), (wrap64 (x48_2 + 1)), (by first | rfl | (simp; done) | (simp [*]; done)), (by first | rfl | (simp; done) | (simp [*]; done)), H', ⟨by have := HK1.out; have := HK2.out; omega⟩, ⟨by (with_reducible repeat (first | apply Kd.R_alloc | apply Kd.R_drewN | apply Kd.R_drew)); exact Kd.R_mono (Kd.R_far (p := ⟨gb467, 2, none⟩) (Kd.R_far (p := ⟨gb467, 1, none⟩) (Kd.R_far (p := ⟨gb467, 0, none⟩) (Kd.R_mono HO_7.out (fun k_ hk => (⟨hk, hk.2⟩ : _ ∧ k_ ≠ gb467))) (fun _ hk => hk.2) (.string ((rd_T48 l0 x48_2).f0))) (fun _ hk => hk.2) (.int .i64 ((rd_T48 l0 x48_2).f1))) (fun _ hk => hk.2) (.int .i64 ((rd_T48 l0 x48_2).f2))) (fun _ hk => hk.1.1)⟩, ⟨by (with_reducible repeat (first | apply Kd.R_alloc | apply Kd.R_drewN | apply Kd.R_drew)); exact Kd.R_mono (Kd.R_far (p := ⟨gb467, 2, none⟩) (Kd.R_far (p := ⟨gb467, 1, none⟩) (Kd.R_far (p := ⟨gb467, 0, none⟩) (Kd.R_mono HO_8.out (fun k_ hk => (⟨hk, hk.2⟩ : _ ∧ k_ ≠ gb467))) (fun _ hk => hk.2) (.string ((rd_T48 l0 x48_2).f0))) (fun _ hk => hk.2) (.int .i64 ((rd_T48 l0 x48_2).f1))) (fun _ hk => hk.2) (.int .i64 ((rd_T48 l0 x48_2).f2))) (fun _ hk => hk.1.1)⟩, ⟨by repeat (first | (with_reducible first | exact HB.out | apply below_alloc | apply pw_below_drewN | apply below_drew1 | refine below_set ?_ GE467.out) | exact HB.out)⟩⟩
           ·rw [if_neg c35] at H
            have c35b0 : (((rd_T48 l0 x48_2).f0).toList == a1.toList) = false := beq_eq_false_iff_ne.mpr c35
            have c35b1 : (((rd_T48 l0 x48_2).f0).toList != a1.toList) = true := bne_iff_ne.mpr c35
            by_cases c38 : x12_2 ≥ (x8_1.length : Int)
            ·rw [if_pos c38] at H
             have c38b0 : decide ((x8_1.length : Int) ≤ x12_2) = true := decide_eq_true c38
             clear c38
             obtain rfl := Option.some.inj H
             have p466 : 0 ≤ (x48_2 : Int) := of_decide_eq_true (by first | (with_reducible assumption) | assumption)
             have q466 : x48_2 < (l0.length : Int) := of_decide_eq_true (by first | (with_reducible assumption) | assumption)
             obtain ⟨ad466, e466, hx466_0, hx466_1, hx466_2⟩ := at_T48 HR0.out x48_2 p466 q466
             cases e466
             replace hx466_0 := (HB.out.cell (World.block_lt_of_cell? w _ hx466_0)).trans hx466_0
             replace hx466_1 := (HB.out.cell (World.block_lt_of_cell? w _ hx466_1)).trans hx466_1
             replace hx466_2 := (HB.out.cell (World.block_lt_of_cell? w _ hx466_2)).trans hx466_2
             replace p466 := eq_true p466
             replace q466 := eq_true q466
             try go_wp2_with (first | ((with_reducible refine gate_dst (N := 14) rfl ?_); refine box_event ?hg (N := 14) ?hd (cs := #[.string (⟨#[]⟩ : ByteArray), .int .i64 0, .int .i64 0]) (t := 48) ?hr ?_; (case hd => rfl); (case hg => rfl); (case hr => first | (go_simp; done) | (go_simp; rfl)); intro gb467 hg w39 hbox hb; have n0_ := Aside0.mk (Kd.R_below (Kd.R_elderB (by (with_reducible repeat (first | apply Kd.R_alloc | apply Kd.R_drewN | apply Kd.R_drew)); exact HO_7.out) gb467 (Nat.le_of_eq hg.symm)) hb); have n1_ := Aside0.mk (Kd.R_below (Kd.R_elderB (by (with_reducible repeat (first | apply Kd.R_alloc | apply Kd.R_drewN | apply Kd.R_drew)); exact HO_8.out) gb467 (Nat.le_of_eq hg.symm)) hb); have n2_ := Aside0.mk (below_step (by repeat (first | (with_reducible first | exact HB.out | apply below_alloc | apply pw_below_drewN | apply below_drew1) | exact HB.out)) hb); have n3_ := Aside0.mk (hbox); have n4_ := Aside0.mk ((by rw [hg]; exact (below_size (by repeat (first | (with_reducible first | exact HB.out | apply below_alloc | apply pw_below_drewN | apply below_drew1) | exact HB.out))) : w.heap.size ≤ gb467)); have n5_ := Aside0.mk ((by rw [hg]; exact (below_size (by repeat (first | (with_reducible first | exact HB.out | apply below_alloc | apply pw_below_drewN | apply below_drew1) | exact HB.out))) : w.heap.size ≤ gb467)); clear HO_7; clear HO_8; clear HB; have HO_7 := n0_; have HO_8 := n1_; have HB := n2_; have BK467 := n3_; have GW467 := n4_; have GE467 := n5_; clear n0_ n1_ n2_ n3_ n4_ n5_; clear hb hbox hg; have hcz40_0 : w39.cell? ⟨gb467, 0, none⟩ = some (.string (⟨#[]⟩ : ByteArray)) := (blk_cell BK467.out 0).trans rfl; have hcz40_1 : w39.cell? ⟨gb467, 1, none⟩ = some (.int .i64 0) := (blk_cell BK467.out 1).trans rfl; have hcz40_2 : w39.cell? ⟨gb467, 2, none⟩ = some (.int .i64 0) := (blk_cell BK467.out 2).trans rfl; have hfz40_0 := blk_frozen BK467.out 0; have hfz40_1 := blk_frozen BK467.out 1; have hfz40_2 := blk_frozen BK467.out 2))
             have n0_ : Aside0 (Kd.R k48 48 (((w39.setCell ⟨gb467, 0, none⟩ (.string ((rd_T48 l0 x48_2).f0))).setCell ⟨gb467, 1, none⟩ (.int .i64 ((rd_T48 l0 x48_2).f1))).setCell ⟨gb467, 2, none⟩ (.int .i64 ((rd_T48 l0 x48_2).f2))) w.heap.size (fun k_ => some k_ ≠ (u8 : Value).ownBlock ∧ k_ ≠ gb467) (.slice Ao11 t455.length co11) t455) := ⟨by (with_reducible repeat (first | apply Kd.R_alloc | apply Kd.R_drewN | apply Kd.R_drew)); exact Kd.R_mono (Kd.R_far (p := ⟨gb467, 2, none⟩) (Kd.R_far (p := ⟨gb467, 1, none⟩) (Kd.R_far (p := ⟨gb467, 0, none⟩) (Kd.R_mono HO_7.out (fun k_ hk => (⟨hk, hk.2⟩ : _ ∧ k_ ≠ gb467))) (fun _ hk => hk.2) (.string ((rd_T48 l0 x48_2).f0))) (fun _ hk => hk.2) (.int .i64 ((rd_T48 l0 x48_2).f1))) (fun _ hk => hk.2) (.int .i64 ((rd_T48 l0 x48_2).f2))) (fun _ hk => ⟨hk.1.1, hk.1.2⟩)⟩
             have n1_ : Aside0 (Kd.R k48 48 (((w39.setCell ⟨gb467, 0, none⟩ (.string ((rd_T48 l0 x48_2).f0))).setCell ⟨gb467, 1, none⟩ (.int .i64 ((rd_T48 l0 x48_2).f1))).setCell ⟨gb467, 2, none⟩ (.int .i64 ((rd_T48 l0 x48_2).f2))) w.heap.size (fun k_ => some k_ ≠ (.slice Ao11 t455.length co11 : Value).ownBlock ∧ k_ ≠ gb467) u8 x8_1) := ⟨by (with_reducible repeat (first | apply Kd.R_alloc | apply Kd.R_drewN | apply Kd.R_drew)); exact Kd.R_mono (Kd.R_far (p := ⟨gb467, 2, none⟩) (Kd.R_far (p := ⟨gb467, 1, none⟩) (Kd.R_far (p := ⟨gb467, 0, none⟩) (Kd.R_mono HO_8.out (fun k_ hk => (⟨hk, hk.2⟩ : _ ∧ k_ ≠ gb467))) (fun _ hk => hk.2) (.string ((rd_T48 l0 x48_2).f0))) (fun _ hk => hk.2) (.int .i64 ((rd_T48 l0 x48_2).f1))) (fun _ hk => hk.2) (.int .i64 ((rd_T48 l0 x48_2).f2))) (fun _ hk => ⟨hk.1.1, hk.1.2⟩)⟩
             have n2_ : Aside0 ((((w39.setCell ⟨gb467, 0, none⟩ (.string ((rd_T48 l0 x48_2).f0))).setCell ⟨gb467, 1, none⟩ (.int .i64 ((rd_T48 l0 x48_2).f1))).setCell ⟨gb467, 2, none⟩ (.int .i64 ((rd_T48 l0 x48_2).f2))).heap[gb467]? = some (.cells #[.string ((rd_T48 l0 x48_2).f0), .int .i64 ((rd_T48 l0 x48_2).f1), .int .i64 ((rd_T48 l0 x48_2).f2)] 48 (0, 0))) := ⟨by (with_reducible repeat (first | refine blk_drewN ?_ _ | refine blk_drew ?_ | refine blk_alloc ?_ _)); refine blk_put (cs := #[.string ((rd_T48 l0 x48_2).f0), .int .i64 ((rd_T48 l0 x48_2).f1), .int .i64 0]) ?_ 2 _ rfl; (with_reducible repeat (first | refine blk_drewN ?_ _ | refine blk_drew ?_ | refine blk_alloc ?_ _)); refine blk_put (cs := #[.string ((rd_T48 l0 x48_2).f0), .int .i64 0, .int .i64 0]) ?_ 1 _ rfl; (with_reducible repeat (first | refine blk_drewN ?_ _ | refine blk_drew ?_ | refine blk_alloc ?_ _)); refine blk_put (cs := #[.string (⟨#[]⟩ : ByteArray), .int .i64 0, .int .i64 0]) ?_ 0 _ rfl; (with_reducible repeat (first | refine blk_drewN ?_ _ | refine blk_drew ?_ | refine blk_alloc ?_ _)); exact BK467.out⟩
             have n3_ : Aside0 (Below w.heap.size w (((w39.setCell ⟨gb467, 0, none⟩ (.string ((rd_T48 l0 x48_2).f0))).setCell ⟨gb467, 1, none⟩ (.int .i64 ((rd_T48 l0 x48_2).f1))).setCell ⟨gb467, 2, none⟩ (.int .i64 ((rd_T48 l0 x48_2).f2)))) := ⟨by repeat (first | (with_reducible first | exact HB.out | apply below_alloc | apply pw_below_drewN | apply below_drew1 | refine below_set ?_ GE467.out) | exact HB.out)⟩
             (try clear HO_7)
             (try clear HO_8)
             (try clear BK467)
             (try clear HB)
             generalize (((w39.setCell ⟨gb467, 0, none⟩ (.string ((rd_T48 l0 x48_2).f0))).setCell ⟨gb467, 1, none⟩ (.int .i64 ((rd_T48 l0 x48_2).f1))).setCell ⟨gb467, 2, none⟩ (.int .i64 ((rd_T48 l0 x48_2).f2))) = w41 at n0_ n1_ n2_ n3_ ⊢
             have HO_7 := n0_
             have HO_8 := n1_
             have BK467 := n2_
             have HB := n3_
             clear n0_ n1_ n2_ n3_
             have n0_ := Aside0.mk (Kd.R_drew HO_7.out)
             have n1_ := Aside0.mk (Kd.R_drew HO_8.out)
             have n2_ := Aside0.mk (blk_drew BK467.out)
             have n3_ := Aside0.mk (below_drew1 HB.out)
             clear HO_7
             clear HO_8
             clear BK467
             clear HB
             have HO_7 := n0_
             have HO_8 := n1_
             have BK467 := n2_
             have HB := n3_
             clear n0_ n1_ n2_ n3_
             obtain ⟨Ao43, co43, eo43⟩ := Kd.R_slice HO_8.out
             (first | subst eo43 | (injection eo43 with f1_ f2_ f3_; have f4_ := f1_.symm; have f5_ := f3_.symm; clear f1_ f2_ f3_; subst f4_; subst f5_))
             refine start_ (n := 12) (S := fun w' => True) (ds := []) #[false, false, false, false, false, false, false, false, false, false, false, false] (by kernel_rfl) rfl rfl trivial (fun hHeld => ?_); refine with_tabW stipendlaw11_ElementChange.tab22 stipendlaw11_ElementChange.bits22 (fun HT_ HW_ => ?_)
             generalize w41.drew = w42 at HO_7 HO_8 BK467 HB hHeld ⊢
             refine pure_ (i := 0) (N := some 56) (v := ?_) (a' := ?_) #[true, false, false, false, false, false, false, false, false, false, false, false] rfl rfl (any_of HT_.out (by kernel_rfl)) (fun _ _ _ h => h) (Or.inl ⟨by rfl, ?_⟩) ?_ ?_
             rotate_left
             ·intro w'
              go_simp
              with_reducible rfl
             rotate_left
             ·simp only [Act.put, List.setIfInBounds_toArray, List.set_cons_zero, List.set_cons_succ, i64_w, i32_w]
              rfl
             refine pure_ (i := 1) (N := some 57) (v := ?_) (a' := ?_) #[true, true, false, false, false, false, false, false, false, false, false, false] rfl rfl (any_of HT_.out (by kernel_rfl)) (fun _ _ _ h => h) (Or.inl ⟨by rfl, ?_⟩) ?_ ?_
             rotate_left
             ·intro w'
              go_simp
              with_reducible rfl
             rotate_left
             ·simp only [Act.put, List.setIfInBounds_toArray, List.set_cons_zero, List.set_cons_succ, i64_w, i32_w]
              rfl
             refine pure_ (i := 2) (N := some 58) (v := ?_) (a' := ?_) #[true, true, true, false, false, false, false, false, false, false, false, false] rfl rfl (any_of HT_.out (by kernel_rfl)) (fun _ _ _ h => h) (Or.inl ⟨by rfl, ?_⟩) ?_ ?_
             rotate_left
             ·intro w'
              go_simp
              with_reducible rfl
             rotate_left
             ·simp only [Act.put, List.setIfInBounds_toArray, List.set_cons_zero, List.set_cons_succ, i64_w, i32_w]
              rfl
             refine pure_ (i := 3) (N := some 59) (v := ?_) (a' := ?_) #[true, true, true, true, false, false, false, false, false, false, false, false] rfl rfl (any_of HT_.out (by kernel_rfl)) (fun _ _ _ h => h) (Or.inl ⟨by rfl, ?_⟩) ?_ ?_
             rotate_left
             ·intro w'
              go_simp
              with_reducible rfl
             rotate_left
             ·simp only [Act.put, List.setIfInBounds_toArray, List.set_cons_zero, List.set_cons_succ, i64_w, i32_w]
              rfl
             refine pure_ (i := 4) (N := some 60) (v := ?_) (a' := ?_) #[true, true, true, true, true, false, false, false, false, false, false, false] rfl rfl (any_of HT_.out (by kernel_rfl)) (fun _ _ _ h => h) (Or.inl ⟨by rfl, ?_⟩) ?_ ?_
             rotate_left
             ·intro w'
              go_simp
              with_reducible rfl
             rotate_left
             ·simp only [Act.put, List.setIfInBounds_toArray, List.set_cons_zero, List.set_cons_succ, i64_w, i32_w]
              rfl
             refine pure_ (i := 5) (N := some 61) (v := undef) (a' := ?_) #[true, true, true, true, true, true, false, false, false, false, false, false] rfl rfl (any_of HT_.out (by kernel_rfl)) (fun _ _ _ h => h) (Or.inr ⟨by rfl, rfl⟩) ?_ ?_
             rotate_left
             ·simp only [Act.put, List.setIfInBounds_toArray, List.set_cons_zero, List.set_cons_succ, i64_w, i32_w]
              rfl
             refine pure_ (i := 6) (N := some 62) (v := undef) (a' := ?_) #[true, true, true, true, true, true, true, false, false, false, false, false] rfl rfl (any_of HT_.out (by kernel_rfl)) (fun _ _ _ h => h) (Or.inr ⟨by rfl, rfl⟩) ?_ ?_
             rotate_left
             ·simp only [Act.put, List.setIfInBounds_toArray, List.set_cons_zero, List.set_cons_succ, i64_w, i32_w]
              rfl
             refine pure_ (i := 7) (N := some 63) (v := undef) (a' := ?_) #[true, true, true, true, true, true, true, true, false, false, false, false] rfl rfl (any_of HT_.out (by kernel_rfl)) (fun _ _ _ h => h) (Or.inr ⟨by rfl, rfl⟩) ?_ ?_
             rotate_left
             ·simp only [Act.put, List.setIfInBounds_toArray, List.set_cons_zero, List.set_cons_succ, i64_w, i32_w]
              rfl
             refine pure_ (i := 8) (N := some 64) (v := undef) (a' := ?_) #[true, true, true, true, true, true, true, true, true, false, false, false] rfl rfl (any_of HT_.out (by kernel_rfl)) (fun _ _ _ h => h) (Or.inr ⟨by rfl, rfl⟩) ?_ ?_
             rotate_left
             ·simp only [Act.put, List.setIfInBounds_toArray, List.set_cons_zero, List.set_cons_succ, i64_w, i32_w]
              rfl
             refine pure_ (i := 9) (N := some 65) (v := undef) (a' := ?_) #[true, true, true, true, true, true, true, true, true, true, false, false] rfl rfl (any_of HT_.out (by kernel_rfl)) (fun _ _ _ h => h) (Or.inr ⟨by rfl, rfl⟩) ?_ ?_
             rotate_left
             ·simp only [Act.put, List.setIfInBounds_toArray, List.set_cons_zero, List.set_cons_succ, i64_w, i32_w]
              rfl
             refine pure_ (i := 10) (N := some 66) (v := undef) (a' := ?_) #[true, true, true, true, true, true, true, true, true, true, true, false] rfl rfl (any_of HT_.out (by kernel_rfl)) (fun _ _ _ h => h) (Or.inr ⟨by rfl, rfl⟩) ?_ ?_
             rotate_left
             ·simp only [Act.put, List.setIfInBounds_toArray, List.set_cons_zero, List.set_cons_succ, i64_w, i32_w]
              rfl
             refine pure_ (i := 11) (N := some 67) (v := ?_) (a' := ?_) #[true, true, true, true, true, true, true, true, true, true, true, true] rfl rfl (any_of HT_.out (by kernel_rfl)) (fun _ _ _ h => h) (Or.inl ⟨by rfl, ?_⟩) ?_ ?_
             rotate_left
             ·intro w'
              go_simp
              with_reducible rfl
             rotate_left
             ·simp only [Act.put, List.setIfInBounds_toArray, List.set_cons_zero, List.set_cons_succ, i64_w, i32_w]
              rfl
             refine done_ (done_of HT_.out (by kernel_rfl)) ?_
             try go_wp2
             go_ret
             exact ⟨by first | rfl | (simp [errW_none, errW_some] <;> rfl) | (simp [*, errW_none, errW_some] <;> rfl), by repeat (first | (with_reducible first | exact HB.out | apply below_alloc | apply pw_below_drewN | apply below_drew1 | refine below_set ?_ GE467.out) | exact HB.out)⟩
            ·rw [if_neg c38] at H
             have c38b0 : decide ((x8_1.length : Int) ≤ x12_2) = false := decide_eq_false c38
             clear c38
             by_cases c44 : 0 ≤ x12_2
             ·rw [if_pos c44] at H
              have c44b0 : decide (0 ≤ x12_2) = true := decide_eq_true c44
              clear c44
              by_cases c45 : x12_2 < (x8_1.length : Int)
              ·rw [if_pos c45] at H
               have c45b0 : decide (x12_2 < (x8_1.length : Int)) = true := decide_eq_true c45
               clear c45
               by_cases c46 : (!((((rd_T48 x8_1 x12_2).f0).toList) == (((rd_T48 l0 x48_2).f0).toList)) || (!(((rd_T48 x8_1 x12_2).f1) == ((rd_T48 l0 x48_2).f1)) || (!(((rd_T48 x8_1 x12_2).f2) == ((rd_T48 l0 x48_2).f2))))) = true
               ·rw [if_pos c46] at H
                have c46b0 : (!((((rd_T48 x8_1 x12_2).f0).toList) == (((rd_T48 l0 x48_2).f0).toList)) || (!(((rd_T48 x8_1 x12_2).f1) == ((rd_T48 l0 x48_2).f1)) || (!(((rd_T48 x8_1 x12_2).f2) == ((rd_T48 l0 x48_2).f2))))) = true := c46
                clear c46
                obtain rfl := Option.some.inj H
                have p466 : 0 ≤ (x48_2 : Int) := of_decide_eq_true (by first | (with_reducible assumption) | assumption)
                have q466 : x48_2 < (l0.length : Int) := of_decide_eq_true (by first | (with_reducible assumption) | assumption)
                obtain ⟨ad466, e466, hx466_0, hx466_1, hx466_2⟩ := at_T48 HR0.out x48_2 p466 q466
                cases e466
                replace hx466_0 := (HB.out.cell (World.block_lt_of_cell? w _ hx466_0)).trans hx466_0
                replace hx466_1 := (HB.out.cell (World.block_lt_of_cell? w _ hx466_1)).trans hx466_1
                replace hx466_2 := (HB.out.cell (World.block_lt_of_cell? w _ hx466_2)).trans hx466_2
                replace p466 := eq_true p466
                replace q466 := eq_true q466
                try go_wp2_with (first | ((with_reducible refine gate_dst (N := 14) rfl ?_); refine box_event ?hg (N := 14) ?hd (cs := #[.string (⟨#[]⟩ : ByteArray), .int .i64 0, .int .i64 0]) (t := 48) ?hr ?_; (case hd => rfl); (case hg => rfl); (case hr => first | (go_simp; done) | (go_simp; rfl)); intro gb467 hg w47 hbox hb; have n0_ := Aside0.mk (Kd.R_below (Kd.R_elderB (by (with_reducible repeat (first | apply Kd.R_alloc | apply Kd.R_drewN | apply Kd.R_drew)); exact HO_7.out) gb467 (Nat.le_of_eq hg.symm)) hb); have n1_ := Aside0.mk (Kd.R_below (Kd.R_elderB (by (with_reducible repeat (first | apply Kd.R_alloc | apply Kd.R_drewN | apply Kd.R_drew)); exact HO_8.out) gb467 (Nat.le_of_eq hg.symm)) hb); have n2_ := Aside0.mk (below_step (by repeat (first | (with_reducible first | exact HB.out | apply below_alloc | apply pw_below_drewN | apply below_drew1) | exact HB.out)) hb); have n3_ := Aside0.mk (hbox); have n4_ := Aside0.mk ((by rw [hg]; exact (below_size (by repeat (first | (with_reducible first | exact HB.out | apply below_alloc | apply pw_below_drewN | apply below_drew1) | exact HB.out))) : w.heap.size ≤ gb467)); have n5_ := Aside0.mk ((by rw [hg]; exact (below_size (by repeat (first | (with_reducible first | exact HB.out | apply below_alloc | apply pw_below_drewN | apply below_drew1) | exact HB.out))) : w.heap.size ≤ gb467)); clear HO_7; clear HO_8; clear HB; have HO_7 := n0_; have HO_8 := n1_; have HB := n2_; have BK467 := n3_; have GW467 := n4_; have GE467 := n5_; clear n0_ n1_ n2_ n3_ n4_ n5_; clear hb hbox hg; have hcz48_0 : w47.cell? ⟨gb467, 0, none⟩ = some (.string (⟨#[]⟩ : ByteArray)) := (blk_cell BK467.out 0).trans rfl; have hcz48_1 : w47.cell? ⟨gb467, 1, none⟩ = some (.int .i64 0) := (blk_cell BK467.out 1).trans rfl; have hcz48_2 : w47.cell? ⟨gb467, 2, none⟩ = some (.int .i64 0) := (blk_cell BK467.out 2).trans rfl; have hfz48_0 := blk_frozen BK467.out 0; have hfz48_1 := blk_frozen BK467.out 1; have hfz48_2 := blk_frozen BK467.out 2))
                have n0_ : Aside0 (Kd.R k48 48 (((w47.setCell ⟨gb467, 0, none⟩ (.string ((rd_T48 l0 x48_2).f0))).setCell ⟨gb467, 1, none⟩ (.int .i64 ((rd_T48 l0 x48_2).f1))).setCell ⟨gb467, 2, none⟩ (.int .i64 ((rd_T48 l0 x48_2).f2))) w.heap.size (fun k_ => some k_ ≠ (u8 : Value).ownBlock ∧ k_ ≠ gb467) (.slice Ao11 t455.length co11) t455) := ⟨by (with_reducible repeat (first | apply Kd.R_alloc | apply Kd.R_drewN | apply Kd.R_drew)); exact Kd.R_mono (Kd.R_far (p := ⟨gb467, 2, none⟩) (Kd.R_far (p := ⟨gb467, 1, none⟩) (Kd.R_far (p := ⟨gb467, 0, none⟩) (Kd.R_mono HO_7.out (fun k_ hk => (⟨hk, hk.2⟩ : _ ∧ k_ ≠ gb467))) (fun _ hk => hk.2) (.string ((rd_T48 l0 x48_2).f0))) (fun _ hk => hk.2) (.int .i64 ((rd_T48 l0 x48_2).f1))) (fun _ hk => hk.2) (.int .i64 ((rd_T48 l0 x48_2).f2))) (fun _ hk => ⟨hk.1.1, hk.1.2⟩)⟩
                have n1_ : Aside0 (Kd.R k48 48 (((w47.setCell ⟨gb467, 0, none⟩ (.string ((rd_T48 l0 x48_2).f0))).setCell ⟨gb467, 1, none⟩ (.int .i64 ((rd_T48 l0 x48_2).f1))).setCell ⟨gb467, 2, none⟩ (.int .i64 ((rd_T48 l0 x48_2).f2))) w.heap.size (fun k_ => some k_ ≠ (.slice Ao11 t455.length co11 : Value).ownBlock ∧ k_ ≠ gb467) u8 x8_1) := ⟨by (with_reducible repeat (first | apply Kd.R_alloc | apply Kd.R_drewN | apply Kd.R_drew)); exact Kd.R_mono (Kd.R_far (p := ⟨gb467, 2, none⟩) (Kd.R_far (p := ⟨gb467, 1, none⟩) (Kd.R_far (p := ⟨gb467, 0, none⟩) (Kd.R_mono HO_8.out (fun k_ hk => (⟨hk, hk.2⟩ : _ ∧ k_ ≠ gb467))) (fun _ hk => hk.2) (.string ((rd_T48 l0 x48_2).f0))) (fun _ hk => hk.2) (.int .i64 ((rd_T48 l0 x48_2).f1))) (fun _ hk => hk.2) (.int .i64 ((rd_T48 l0 x48_2).f2))) (fun _ hk => ⟨hk.1.1, hk.1.2⟩)⟩
                have n2_ : Aside0 ((((w47.setCell ⟨gb467, 0, none⟩ (.string ((rd_T48 l0 x48_2).f0))).setCell ⟨gb467, 1, none⟩ (.int .i64 ((rd_T48 l0 x48_2).f1))).setCell ⟨gb467, 2, none⟩ (.int .i64 ((rd_T48 l0 x48_2).f2))).heap[gb467]? = some (.cells #[.string ((rd_T48 l0 x48_2).f0), .int .i64 ((rd_T48 l0 x48_2).f1), .int .i64 ((rd_T48 l0 x48_2).f2)] 48 (0, 0))) := ⟨by (with_reducible repeat (first | refine blk_drewN ?_ _ | refine blk_drew ?_ | refine blk_alloc ?_ _)); refine blk_put (cs := #[.string ((rd_T48 l0 x48_2).f0), .int .i64 ((rd_T48 l0 x48_2).f1), .int .i64 0]) ?_ 2 _ rfl; (with_reducible repeat (first | refine blk_drewN ?_ _ | refine blk_drew ?_ | refine blk_alloc ?_ _)); refine blk_put (cs := #[.string ((rd_T48 l0 x48_2).f0), .int .i64 0, .int .i64 0]) ?_ 1 _ rfl; (with_reducible repeat (first | refine blk_drewN ?_ _ | refine blk_drew ?_ | refine blk_alloc ?_ _)); refine blk_put (cs := #[.string (⟨#[]⟩ : ByteArray), .int .i64 0, .int .i64 0]) ?_ 0 _ rfl; (with_reducible repeat (first | refine blk_drewN ?_ _ | refine blk_drew ?_ | refine blk_alloc ?_ _)); exact BK467.out⟩
                have n3_ : Aside0 (Below w.heap.size w (((w47.setCell ⟨gb467, 0, none⟩ (.string ((rd_T48 l0 x48_2).f0))).setCell ⟨gb467, 1, none⟩ (.int .i64 ((rd_T48 l0 x48_2).f1))).setCell ⟨gb467, 2, none⟩ (.int .i64 ((rd_T48 l0 x48_2).f2)))) := ⟨by repeat (first | (with_reducible first | exact HB.out | apply below_alloc | apply pw_below_drewN | apply below_drew1 | refine below_set ?_ GE467.out) | exact HB.out)⟩
                (try clear HO_7)
                (try clear HO_8)
                (try clear BK467)
                (try clear HB)
                generalize (((w47.setCell ⟨gb467, 0, none⟩ (.string ((rd_T48 l0 x48_2).f0))).setCell ⟨gb467, 1, none⟩ (.int .i64 ((rd_T48 l0 x48_2).f1))).setCell ⟨gb467, 2, none⟩ (.int .i64 ((rd_T48 l0 x48_2).f2))) = w49 at n0_ n1_ n2_ n3_ ⊢
                have HO_7 := n0_
                have HO_8 := n1_
                have BK467 := n2_
                have HB := n3_
                clear n0_ n1_ n2_ n3_
                have n0_ := Aside0.mk (Kd.R_drew HO_7.out)
                have n1_ := Aside0.mk (Kd.R_drew HO_8.out)
                have n2_ := Aside0.mk (blk_drew BK467.out)
                have n3_ := Aside0.mk (below_drew1 HB.out)
                clear HO_7
                clear HO_8
                clear BK467
                clear HB
                have HO_7 := n0_
                have HO_8 := n1_
                have BK467 := n2_
                have HB := n3_
                clear n0_ n1_ n2_ n3_
                obtain ⟨Ao51, co51, eo51⟩ := Kd.R_slice HO_8.out
                (first | subst eo51 | (injection eo51 with f1_ f2_ f3_; have f4_ := f1_.symm; have f5_ := f3_.symm; clear f1_ f2_ f3_; subst f4_; subst f5_))
                have p468 : 0 ≤ (x12_2 : Int) := of_decide_eq_true (by first | (with_reducible assumption) | assumption)
                have q468 : x12_2 < (x8_1.length : Int) := of_decide_eq_true (by first | (with_reducible assumption) | assumption)
                obtain ⟨ad468, e468, hx468_0, hx468_1, hx468_2⟩ := at_T48 (Kd.R_reads' HO_8.out).2.2 x12_2 p468 q468
                cases e468
                replace p468 := eq_true p468
                replace q468 := eq_true q468
                refine start_ (n := 12) (S := fun w' => w'.cell? ⟨gb467, 0, none⟩ = some (.string ((rd_T48 l0 x48_2).f0)) ∧ w'.cell? ⟨gb467, 1, none⟩ = some (.int .i64 ((rd_T48 l0 x48_2).f1)) ∧ w'.cell? ⟨gb467, 2, none⟩ = some (.int .i64 ((rd_T48 l0 x48_2).f2)) ∧ w'.cell? (ad468.add ((x12_2).toNat * 3)) = some (.string ((rd_T48 x8_1 x12_2).f0)) ∧ w'.cell? ⟨(ad468.add ((x12_2).toNat * 3)).block, (ad468.add ((x12_2).toNat * 3)).off + 1, none⟩ = some (.int .i64 ((rd_T48 x8_1 x12_2).f1)) ∧ w'.cell? ⟨(ad468.add ((x12_2).toNat * 3)).block, (ad468.add ((x12_2).toNat * 3)).off + 2, none⟩ = some (.int .i64 ((rd_T48 x8_1 x12_2).f2))) (ds := []) #[false, false, false, false, false, false, false, false, false, false, false, false] (by kernel_rfl) rfl rfl ⟨(blk_cell BK467.out 0).trans rfl, (blk_cell BK467.out 1).trans rfl, (blk_cell BK467.out 2).trans rfl, hx468_0, hx468_1, hx468_2⟩ (fun hHeld => ?_); refine with_tabW stipendlaw11_ElementChange.tab22 stipendlaw11_ElementChange.bits22 (fun HT_ HW_ => ?_)
                generalize w49.drew = w50 at HO_7 HO_8 BK467 HB hx468_0 hx468_1 hx468_2 hHeld ⊢
                refine pure_ (i := 0) (N := some 56) (v := ?_) (a' := ?_) #[true, false, false, false, false, false, false, false, false, false, false, false] rfl rfl (any_of HT_.out (by kernel_rfl)) (fun _ _ _ h => h) (Or.inl ⟨by rfl, ?_⟩) ?_ ?_
                rotate_left
                ·intro w'
                 go_simp
                 with_reducible rfl
                rotate_left
                ·simp only [Act.put, List.setIfInBounds_toArray, List.set_cons_zero, List.set_cons_succ, i64_w, i32_w]
                 rfl
                refine pure_ (i := 1) (N := some 57) (v := ?_) (a' := ?_) #[true, true, false, false, false, false, false, false, false, false, false, false] rfl rfl (any_of HT_.out (by kernel_rfl)) (fun _ _ _ h => h) (Or.inl ⟨by rfl, ?_⟩) ?_ ?_
                rotate_left
                ·intro w'
                 go_simp
                 with_reducible rfl
                rotate_left
                ·simp only [Act.put, List.setIfInBounds_toArray, List.set_cons_zero, List.set_cons_succ, i64_w, i32_w]
                 rfl
                refine pure_ (i := 2) (N := some 58) (v := ?_) (a' := ?_) #[true, true, true, false, false, false, false, false, false, false, false, false] rfl rfl (any_of HT_.out (by kernel_rfl)) (fun _ _ _ h => h) (Or.inl ⟨by rfl, ?_⟩) ?_ ?_
                rotate_left
                ·intro w'
                 go_simp
                 with_reducible rfl
                rotate_left
                ·simp only [Act.put, List.setIfInBounds_toArray, List.set_cons_zero, List.set_cons_succ, i64_w, i32_w]
                 rfl
                refine pure_ (i := 3) (N := some 59) (v := ?_) (a' := ?_) #[true, true, true, true, false, false, false, false, false, false, false, false] rfl rfl (any_of HT_.out (by kernel_rfl)) (fun _ _ _ h => h) (Or.inl ⟨by rfl, ?_⟩) ?_ ?_
                rotate_left
                ·intro w'
                 go_simp
                 with_reducible rfl
                rotate_left
                ·simp only [Act.put, List.setIfInBounds_toArray, List.set_cons_zero, List.set_cons_succ, i64_w, i32_w]
                 rfl
                refine pure_ (i := 4) (N := some 60) (v := ?_) (a' := ?_) #[true, true, true, true, true, false, false, false, false, false, false, false] rfl rfl (any_of HT_.out (by kernel_rfl)) (fun _ _ _ h => h) (Or.inl ⟨by rfl, ?_⟩) ?_ ?_
                rotate_left
                ·intro w'
                 go_simp
                 with_reducible rfl
                rotate_left
                ·simp only [Act.put, List.setIfInBounds_toArray, List.set_cons_zero, List.set_cons_succ, i64_w, i32_w]
                 rfl
                refine pure_ (i := 5) (N := some 61) (v := ?_) (a' := ?_) #[true, true, true, true, true, true, false, false, false, false, false, false] rfl rfl (any_of HT_.out (by kernel_rfl)) (fun _ _ _ h => h) (Or.inl ⟨by rfl, ?_⟩) ?_ ?_
                rotate_left
                ·intro w'
                 go_simp
                 with_reducible rfl
                rotate_left
                ·simp only [Act.put, List.setIfInBounds_toArray, List.set_cons_zero, List.set_cons_succ, i64_w, i32_w]
                 rfl
                refine pure_ (i := 6) (N := some 62) (v := ?_) (a' := ?_) #[true, true, true, true, true, true, true, false, false, false, false, false] rfl rfl (any_of HT_.out (by kernel_rfl)) (fun _ _ _ h => h) (Or.inl ⟨by rfl, ?_⟩) ?_ ?_
                rotate_left
                ·intro w'
                 go_simp
                 with_reducible rfl
                rotate_left
                ·simp only [Act.put, List.setIfInBounds_toArray, List.set_cons_zero, List.set_cons_succ, i64_w, i32_w]
                 rfl
                refine pure_ (i := 7) (N := some 63) (v := ?_) (a' := ?_) #[true, true, true, true, true, true, true, true, false, false, false, false] rfl rfl (any_of HT_.out (by kernel_rfl)) (fun _ _ _ h => h) (Or.inl ⟨by rfl, ?_⟩) ?_ ?_
                rotate_left
                ·intro w'
                 go_simp
                 with_reducible rfl
                rotate_left
                ·simp only [Act.put, List.setIfInBounds_toArray, List.set_cons_zero, List.set_cons_succ, i64_w, i32_w]
                 rfl
                refine take_ (i := 8) (N := some 64) (v := ?_) (a' := ?_) #[true, true, true, true, true, true, true, true, true, false, false, false] rfl rfl (take_ofW HT_.out HW_.out (by kernel_rfl)) (fun _ _ _ h => h) (Or.inl ⟨by rfl, ?_⟩) hHeld ?_ ?_
                rotate_left
                ·rintro w' ⟨s0, s1, s2, s3, s4, s5⟩
                 go_simp
                 with_reducible rfl
                rotate_left
                ·simp only [Act.put, List.setIfInBounds_toArray, List.set_cons_zero, List.set_cons_succ, i64_w, i32_w]
                 rfl
                refine take_ (i := 9) (N := some 65) (v := ?_) (a' := ?_) #[true, true, true, true, true, true, true, true, true, true, false, false] rfl rfl (take_ofW HT_.out HW_.out (by kernel_rfl)) (fun _ _ _ h => h) (Or.inl ⟨by rfl, ?_⟩) hHeld ?_ ?_
                rotate_left
                ·rintro w' ⟨s0, s1, s2, s3, s4, s5⟩
                 go_simp
                 with_reducible rfl
                rotate_left
                ·simp only [Act.put, List.setIfInBounds_toArray, List.set_cons_zero, List.set_cons_succ, i64_w, i32_w]
                 rfl
                refine pure_ (i := 10) (N := some 66) (v := ?_) (a' := ?_) #[true, true, true, true, true, true, true, true, true, true, true, false] rfl rfl (any_of HT_.out (by kernel_rfl)) (fun _ _ _ h => h) (Or.inl ⟨by rfl, ?_⟩) ?_ ?_
                rotate_left
                ·intro w'
                 go_simp
                 with_reducible rfl
                rotate_left
                ·simp only [Act.put, List.setIfInBounds_toArray, List.set_cons_zero, List.set_cons_succ, i64_w, i32_w]
                 rfl
                refine pure_ (i := 11) (N := some 67) (v := ?_) (a' := ?_) #[true, true, true, true, true, true, true, true, true, true, true, true] rfl rfl (any_of HT_.out (by kernel_rfl)) (fun _ _ _ h => h) (Or.inl ⟨by rfl, ?_⟩) ?_ ?_
                rotate_left
                ·intro w'
                 go_simp
                 with_reducible rfl
                rotate_left
                ·simp only [Act.put, List.setIfInBounds_toArray, List.set_cons_zero, List.set_cons_succ, i64_w, i32_w]
                 rfl
                refine done_ (done_of HT_.out (by kernel_rfl)) ?_
                try go_wp2
                go_ret
                exact ⟨by first | rfl | (simp [errW_none, errW_some] <;> rfl) | (simp [*, errW_none, errW_some] <;> rfl), by repeat (first | (with_reducible first | exact HB.out | apply below_alloc | apply pw_below_drewN | apply below_drew1 | refine below_set ?_ GE467.out) | exact HB.out)⟩
               ·rw [if_neg c46] at H
                have c46b0 : (!((((rd_T48 x8_1 x12_2).f0).toList) == (((rd_T48 l0 x48_2).f0).toList)) || (!(((rd_T48 x8_1 x12_2).f1) == ((rd_T48 l0 x48_2).f1)) || (!(((rd_T48 x8_1 x12_2).f2) == ((rd_T48 l0 x48_2).f2))))) = false := by simpa using c46
                clear c46
                have H' := Aside0.mk H
                clear H
                have p466 : 0 ≤ (x48_2 : Int) := of_decide_eq_true (by first | (with_reducible assumption) | assumption)
                have q466 : x48_2 < (l0.length : Int) := of_decide_eq_true (by first | (with_reducible assumption) | assumption)
                obtain ⟨ad466, e466, hx466_0, hx466_1, hx466_2⟩ := at_T48 HR0.out x48_2 p466 q466
                cases e466
                replace hx466_0 := (HB.out.cell (World.block_lt_of_cell? w _ hx466_0)).trans hx466_0
                replace hx466_1 := (HB.out.cell (World.block_lt_of_cell? w _ hx466_1)).trans hx466_1
                replace hx466_2 := (HB.out.cell (World.block_lt_of_cell? w _ hx466_2)).trans hx466_2
                replace p466 := eq_true p466
                replace q466 := eq_true q466
                try go_wp2_with (first | ((with_reducible refine gate_dst (N := 14) rfl ?_); refine box_event ?hg (N := 14) ?hd (cs := #[.string (⟨#[]⟩ : ByteArray), .int .i64 0, .int .i64 0]) (t := 48) ?hr ?_; (case hd => rfl); (case hg => rfl); (case hr => first | (go_simp; done) | (go_simp; rfl)); intro gb467 hg w52 hbox hb; have n0_ := Aside0.mk (Kd.R_below (Kd.R_elderB (by (with_reducible repeat (first | apply Kd.R_alloc | apply Kd.R_drewN | apply Kd.R_drew)); exact HO_7.out) gb467 (Nat.le_of_eq hg.symm)) hb); have n1_ := Aside0.mk (Kd.R_below (Kd.R_elderB (by (with_reducible repeat (first | apply Kd.R_alloc | apply Kd.R_drewN | apply Kd.R_drew)); exact HO_8.out) gb467 (Nat.le_of_eq hg.symm)) hb); have n2_ := Aside0.mk (below_step (by repeat (first | (with_reducible first | exact HB.out | apply below_alloc | apply pw_below_drewN | apply below_drew1) | exact HB.out)) hb); have n3_ := Aside0.mk (hbox); have n4_ := Aside0.mk ((by rw [hg]; exact (below_size (by repeat (first | (with_reducible first | exact HB.out | apply below_alloc | apply pw_below_drewN | apply below_drew1) | exact HB.out))) : w.heap.size ≤ gb467)); have n5_ := Aside0.mk ((by rw [hg]; exact (below_size (by repeat (first | (with_reducible first | exact HB.out | apply below_alloc | apply pw_below_drewN | apply below_drew1) | exact HB.out))) : w.heap.size ≤ gb467)); clear HO_7; clear HO_8; clear HB; have HO_7 := n0_; have HO_8 := n1_; have HB := n2_; have BK467 := n3_; have GW467 := n4_; have GE467 := n5_; clear n0_ n1_ n2_ n3_ n4_ n5_; clear hb hbox hg; have hcz53_0 : w52.cell? ⟨gb467, 0, none⟩ = some (.string (⟨#[]⟩ : ByteArray)) := (blk_cell BK467.out 0).trans rfl; have hcz53_1 : w52.cell? ⟨gb467, 1, none⟩ = some (.int .i64 0) := (blk_cell BK467.out 1).trans rfl; have hcz53_2 : w52.cell? ⟨gb467, 2, none⟩ = some (.int .i64 0) := (blk_cell BK467.out 2).trans rfl; have hfz53_0 := blk_frozen BK467.out 0; have hfz53_1 := blk_frozen BK467.out 1; have hfz53_2 := blk_frozen BK467.out 2))
                have n0_ : Aside0 (Kd.R k48 48 (((w52.setCell ⟨gb467, 0, none⟩ (.string ((rd_T48 l0 x48_2).f0))).setCell ⟨gb467, 1, none⟩ (.int .i64 ((rd_T48 l0 x48_2).f1))).setCell ⟨gb467, 2, none⟩ (.int .i64 ((rd_T48 l0 x48_2).f2))) w.heap.size (fun k_ => some k_ ≠ (u8 : Value).ownBlock ∧ k_ ≠ gb467) (.slice Ao11 t455.length co11) t455) := ⟨by (with_reducible repeat (first | apply Kd.R_alloc | apply Kd.R_drewN | apply Kd.R_drew)); exact Kd.R_mono (Kd.R_far (p := ⟨gb467, 2, none⟩) (Kd.R_far (p := ⟨gb467, 1, none⟩) (Kd.R_far (p := ⟨gb467, 0, none⟩) (Kd.R_mono HO_7.out (fun k_ hk => (⟨hk, hk.2⟩ : _ ∧ k_ ≠ gb467))) (fun _ hk => hk.2) (.string ((rd_T48 l0 x48_2).f0))) (fun _ hk => hk.2) (.int .i64 ((rd_T48 l0 x48_2).f1))) (fun _ hk => hk.2) (.int .i64 ((rd_T48 l0 x48_2).f2))) (fun _ hk => ⟨hk.1.1, hk.1.2⟩)⟩
                have n1_ : Aside0 (Kd.R k48 48 (((w52.setCell ⟨gb467, 0, none⟩ (.string ((rd_T48 l0 x48_2).f0))).setCell ⟨gb467, 1, none⟩ (.int .i64 ((rd_T48 l0 x48_2).f1))).setCell ⟨gb467, 2, none⟩ (.int .i64 ((rd_T48 l0 x48_2).f2))) w.heap.size (fun k_ => some k_ ≠ (.slice Ao11 t455.length co11 : Value).ownBlock ∧ k_ ≠ gb467) u8 x8_1) := ⟨by (with_reducible repeat (first | apply Kd.R_alloc | apply Kd.R_drewN | apply Kd.R_drew)); exact Kd.R_mono (Kd.R_far (p := ⟨gb467, 2, none⟩) (Kd.R_far (p := ⟨gb467, 1, none⟩) (Kd.R_far (p := ⟨gb467, 0, none⟩) (Kd.R_mono HO_8.out (fun k_ hk => (⟨hk, hk.2⟩ : _ ∧ k_ ≠ gb467))) (fun _ hk => hk.2) (.string ((rd_T48 l0 x48_2).f0))) (fun _ hk => hk.2) (.int .i64 ((rd_T48 l0 x48_2).f1))) (fun _ hk => hk.2) (.int .i64 ((rd_T48 l0 x48_2).f2))) (fun _ hk => ⟨hk.1.1, hk.1.2⟩)⟩
                have n2_ : Aside0 ((((w52.setCell ⟨gb467, 0, none⟩ (.string ((rd_T48 l0 x48_2).f0))).setCell ⟨gb467, 1, none⟩ (.int .i64 ((rd_T48 l0 x48_2).f1))).setCell ⟨gb467, 2, none⟩ (.int .i64 ((rd_T48 l0 x48_2).f2))).heap[gb467]? = some (.cells #[.string ((rd_T48 l0 x48_2).f0), .int .i64 ((rd_T48 l0 x48_2).f1), .int .i64 ((rd_T48 l0 x48_2).f2)] 48 (0, 0))) := ⟨by (with_reducible repeat (first | refine blk_drewN ?_ _ | refine blk_drew ?_ | refine blk_alloc ?_ _)); refine blk_put (cs := #[.string ((rd_T48 l0 x48_2).f0), .int .i64 ((rd_T48 l0 x48_2).f1), .int .i64 0]) ?_ 2 _ rfl; (with_reducible repeat (first | refine blk_drewN ?_ _ | refine blk_drew ?_ | refine blk_alloc ?_ _)); refine blk_put (cs := #[.string ((rd_T48 l0 x48_2).f0), .int .i64 0, .int .i64 0]) ?_ 1 _ rfl; (with_reducible repeat (first | refine blk_drewN ?_ _ | refine blk_drew ?_ | refine blk_alloc ?_ _)); refine blk_put (cs := #[.string (⟨#[]⟩ : ByteArray), .int .i64 0, .int .i64 0]) ?_ 0 _ rfl; (with_reducible repeat (first | refine blk_drewN ?_ _ | refine blk_drew ?_ | refine blk_alloc ?_ _)); exact BK467.out⟩
                have n3_ : Aside0 (Below w.heap.size w (((w52.setCell ⟨gb467, 0, none⟩ (.string ((rd_T48 l0 x48_2).f0))).setCell ⟨gb467, 1, none⟩ (.int .i64 ((rd_T48 l0 x48_2).f1))).setCell ⟨gb467, 2, none⟩ (.int .i64 ((rd_T48 l0 x48_2).f2)))) := ⟨by repeat (first | (with_reducible first | exact HB.out | apply below_alloc | apply pw_below_drewN | apply below_drew1 | refine below_set ?_ GE467.out) | exact HB.out)⟩
                (try clear HO_7)
                (try clear HO_8)
                (try clear BK467)
                (try clear HB)
                generalize (((w52.setCell ⟨gb467, 0, none⟩ (.string ((rd_T48 l0 x48_2).f0))).setCell ⟨gb467, 1, none⟩ (.int .i64 ((rd_T48 l0 x48_2).f1))).setCell ⟨gb467, 2, none⟩ (.int .i64 ((rd_T48 l0 x48_2).f2))) = w54 at n0_ n1_ n2_ n3_ ⊢
                have HO_7 := n0_
                have HO_8 := n1_
                have BK467 := n2_
                have HB := n3_
                clear n0_ n1_ n2_ n3_
                have n0_ := Aside0.mk (Kd.R_drew HO_7.out)
                have n1_ := Aside0.mk (Kd.R_drew HO_8.out)
                have n2_ := Aside0.mk (blk_drew BK467.out)
                have n3_ := Aside0.mk (below_drew1 HB.out)
                clear HO_7
                clear HO_8
                clear BK467
                clear HB
                have HO_7 := n0_
                have HO_8 := n1_
                have BK467 := n2_
                have HB := n3_
                clear n0_ n1_ n2_ n3_
                obtain ⟨Ao56, co56, eo56⟩ := Kd.R_slice HO_8.out
                (first | subst eo56 | (injection eo56 with f1_ f2_ f3_; have f4_ := f1_.symm; have f5_ := f3_.symm; clear f1_ f2_ f3_; subst f4_; subst f5_))
                have p468 : 0 ≤ (x12_2 : Int) := of_decide_eq_true (by first | (with_reducible assumption) | assumption)
                have q468 : x12_2 < (x8_1.length : Int) := of_decide_eq_true (by first | (with_reducible assumption) | assumption)
                obtain ⟨ad468, e468, hx468_0, hx468_1, hx468_2⟩ := at_T48 (Kd.R_reads' HO_8.out).2.2 x12_2 p468 q468
                cases e468
                replace p468 := eq_true p468
                replace q468 := eq_true q468
                refine start_ (n := 12) (S := fun w' => w'.cell? ⟨gb467, 0, none⟩ = some (.string ((rd_T48 l0 x48_2).f0)) ∧ w'.cell? ⟨gb467, 1, none⟩ = some (.int .i64 ((rd_T48 l0 x48_2).f1)) ∧ w'.cell? ⟨gb467, 2, none⟩ = some (.int .i64 ((rd_T48 l0 x48_2).f2)) ∧ w'.cell? (ad468.add ((x12_2).toNat * 3)) = some (.string ((rd_T48 x8_1 x12_2).f0)) ∧ w'.cell? ⟨(ad468.add ((x12_2).toNat * 3)).block, (ad468.add ((x12_2).toNat * 3)).off + 1, none⟩ = some (.int .i64 ((rd_T48 x8_1 x12_2).f1)) ∧ w'.cell? ⟨(ad468.add ((x12_2).toNat * 3)).block, (ad468.add ((x12_2).toNat * 3)).off + 2, none⟩ = some (.int .i64 ((rd_T48 x8_1 x12_2).f2))) (ds := []) #[false, false, false, false, false, false, false, false, false, false, false, false] (by kernel_rfl) rfl rfl ⟨(blk_cell BK467.out 0).trans rfl, (blk_cell BK467.out 1).trans rfl, (blk_cell BK467.out 2).trans rfl, hx468_0, hx468_1, hx468_2⟩ (fun hHeld => ?_); refine with_tabW stipendlaw11_ElementChange.tab22 stipendlaw11_ElementChange.bits22 (fun HT_ HW_ => ?_)
                generalize w54.drew = w55 at HO_7 HO_8 BK467 HB hx468_0 hx468_1 hx468_2 hHeld ⊢
                refine pure_ (i := 0) (N := some 56) (v := ?_) (a' := ?_) #[true, false, false, false, false, false, false, false, false, false, false, false] rfl rfl (any_of HT_.out (by kernel_rfl)) (fun _ _ _ h => h) (Or.inl ⟨by rfl, ?_⟩) ?_ ?_
                rotate_left
                ·intro w'
                 go_simp
                 with_reducible rfl
                rotate_left
                ·simp only [Act.put, List.setIfInBounds_toArray, List.set_cons_zero, List.set_cons_succ, i64_w, i32_w]
                 rfl
                refine pure_ (i := 1) (N := some 57) (v := ?_) (a' := ?_) #[true, true, false, false, false, false, false, false, false, false, false, false] rfl rfl (any_of HT_.out (by kernel_rfl)) (fun _ _ _ h => h) (Or.inl ⟨by rfl, ?_⟩) ?_ ?_
                rotate_left
                ·intro w'
                 go_simp
                 with_reducible rfl
                rotate_left
                ·simp only [Act.put, List.setIfInBounds_toArray, List.set_cons_zero, List.set_cons_succ, i64_w, i32_w]
                 rfl
                refine pure_ (i := 2) (N := some 58) (v := ?_) (a' := ?_) #[true, true, true, false, false, false, false, false, false, false, false, false] rfl rfl (any_of HT_.out (by kernel_rfl)) (fun _ _ _ h => h) (Or.inl ⟨by rfl, ?_⟩) ?_ ?_
                rotate_left
                ·intro w'
                 go_simp
                 with_reducible rfl
                rotate_left
                ·simp only [Act.put, List.setIfInBounds_toArray, List.set_cons_zero, List.set_cons_succ, i64_w, i32_w]
                 rfl
                refine pure_ (i := 3) (N := some 59) (v := ?_) (a' := ?_) #[true, true, true, true, false, false, false, false, false, false, false, false] rfl rfl (any_of HT_.out (by kernel_rfl)) (fun _ _ _ h => h) (Or.inl ⟨by rfl, ?_⟩) ?_ ?_
                rotate_left
                ·intro w'
                 go_simp
                 with_reducible rfl
                rotate_left
                ·simp only [Act.put, List.setIfInBounds_toArray, List.set_cons_zero, List.set_cons_succ, i64_w, i32_w]
                 rfl
                refine pure_ (i := 4) (N := some 60) (v := ?_) (a' := ?_) #[true, true, true, true, true, false, false, false, false, false, false, false] rfl rfl (any_of HT_.out (by kernel_rfl)) (fun _ _ _ h => h) (Or.inl ⟨by rfl, ?_⟩) ?_ ?_
                rotate_left
                ·intro w'
                 go_simp
                 with_reducible rfl
                rotate_left
                ·simp only [Act.put, List.setIfInBounds_toArray, List.set_cons_zero, List.set_cons_succ, i64_w, i32_w]
                 rfl
                refine pure_ (i := 5) (N := some 61) (v := ?_) (a' := ?_) #[true, true, true, true, true, true, false, false, false, false, false, false] rfl rfl (any_of HT_.out (by kernel_rfl)) (fun _ _ _ h => h) (Or.inl ⟨by rfl, ?_⟩) ?_ ?_
                rotate_left
                ·intro w'
                 go_simp
                 with_reducible rfl
                rotate_left
                ·simp only [Act.put, List.setIfInBounds_toArray, List.set_cons_zero, List.set_cons_succ, i64_w, i32_w]
                 rfl
                refine pure_ (i := 6) (N := some 62) (v := ?_) (a' := ?_) #[true, true, true, true, true, true, true, false, false, false, false, false] rfl rfl (any_of HT_.out (by kernel_rfl)) (fun _ _ _ h => h) (Or.inl ⟨by rfl, ?_⟩) ?_ ?_
                rotate_left
                ·intro w'
                 go_simp
                 with_reducible rfl
                rotate_left
                ·simp only [Act.put, List.setIfInBounds_toArray, List.set_cons_zero, List.set_cons_succ, i64_w, i32_w]
                 rfl
                refine pure_ (i := 7) (N := some 63) (v := ?_) (a' := ?_) #[true, true, true, true, true, true, true, true, false, false, false, false] rfl rfl (any_of HT_.out (by kernel_rfl)) (fun _ _ _ h => h) (Or.inl ⟨by rfl, ?_⟩) ?_ ?_
                rotate_left
                ·intro w'
                 go_simp
                 with_reducible rfl
                rotate_left
                ·simp only [Act.put, List.setIfInBounds_toArray, List.set_cons_zero, List.set_cons_succ, i64_w, i32_w]
                 rfl
                refine take_ (i := 8) (N := some 64) (v := ?_) (a' := ?_) #[true, true, true, true, true, true, true, true, true, false, false, false] rfl rfl (take_ofW HT_.out HW_.out (by kernel_rfl)) (fun _ _ _ h => h) (Or.inl ⟨by rfl, ?_⟩) hHeld ?_ ?_
                rotate_left
                ·rintro w' ⟨s0, s1, s2, s3, s4, s5⟩
                 go_simp
                 with_reducible rfl
                rotate_left
                ·simp only [Act.put, List.setIfInBounds_toArray, List.set_cons_zero, List.set_cons_succ, i64_w, i32_w]
                 rfl
                refine take_ (i := 9) (N := some 65) (v := ?_) (a' := ?_) #[true, true, true, true, true, true, true, true, true, true, false, false] rfl rfl (take_ofW HT_.out HW_.out (by kernel_rfl)) (fun _ _ _ h => h) (Or.inl ⟨by rfl, ?_⟩) hHeld ?_ ?_
                rotate_left
                ·rintro w' ⟨s0, s1, s2, s3, s4, s5⟩
                 go_simp
                 with_reducible rfl
                rotate_left
                ·simp only [Act.put, List.setIfInBounds_toArray, List.set_cons_zero, List.set_cons_succ, i64_w, i32_w]
                 rfl
                refine pure_ (i := 10) (N := some 66) (v := ?_) (a' := ?_) #[true, true, true, true, true, true, true, true, true, true, true, false] rfl rfl (any_of HT_.out (by kernel_rfl)) (fun _ _ _ h => h) (Or.inl ⟨by rfl, ?_⟩) ?_ ?_
                rotate_left
                ·intro w'
                 go_simp
                 with_reducible rfl
                rotate_left
                ·simp only [Act.put, List.setIfInBounds_toArray, List.set_cons_zero, List.set_cons_succ, i64_w, i32_w]
                 rfl
                refine pure_ (i := 11) (N := some 67) (v := ?_) (a' := ?_) #[true, true, true, true, true, true, true, true, true, true, true, true] rfl rfl (any_of HT_.out (by kernel_rfl)) (fun _ _ _ h => h) (Or.inl ⟨by rfl, ?_⟩) ?_ ?_
                rotate_left
                ·intro w'
                 go_simp
                 with_reducible rfl
                rotate_left
                ·simp only [Act.put, List.setIfInBounds_toArray, List.set_cons_zero, List.set_cons_succ, i64_w, i32_w]
                 rfl
                refine done_ (done_of HT_.out (by kernel_rfl)) ?_
                try go_wp2
                go_roundg k2
                case measure => have := HK1.out; have := HK2.out; omega
                case rel => exact ⟨(wrap64 (x12_2 + 1)), (wrap64 (x48_2 + 1)), (by first | rfl | (simp; done) | (simp [*]; done)), (by first | rfl | (simp; done) | (simp [*]; done)), H', ⟨by have := HK1.out; have := HK2.out; omega⟩, ⟨by (with_reducible repeat (first | apply Kd.R_alloc | apply Kd.R_drewN | apply Kd.R_drew)); exact Kd.R_mono HO_7.out (fun _ hk => hk.1)⟩, ⟨by (with_reducible repeat (first | apply Kd.R_alloc | apply Kd.R_drewN | apply Kd.R_drew)); exact Kd.R_mono HO_8.out (fun _ hk => hk.1)⟩, ⟨by repeat (first | (with_reducible first | exact HB.out | apply below_alloc | apply pw_below_drewN | apply below_drew1 | refine below_set ?_ GE467.out) | exact HB.out)⟩⟩
              ·rw [if_neg c45] at H
               exact absurd H (by simp)
             ·rw [if_neg c44] at H
              exact absurd H (by simp)
          ·rw [if_neg c34] at H
           exact absurd H (by simp)
         ·rw [if_neg c33] at H
          exact absurd H (by simp)
        ·rw [if_neg c32] at H
         have c32b0 : decide (x48_2 < (l0.length : Int)) = false := decide_eq_false c32
         clear c32
         have HC57 := Aside0.mk H
         clear H
         go_upto_region 26 with (fail)
         go_cut [90] (fun v90 wc => ∃ (kq : Nat) (x90_56 : Bool), v90 = .bool x90_56 ∧ Aside0 (stipendlaw11_ElementChange.j2 kq a1 a2 t455 x90_56 = some r) ∧ Aside0 (kq ≤ k2) ∧ Aside0 (Kd.R k48 48 wc w.heap.size (fun _ => True) (.slice Ao11 t455.length co11) t455) ∧ Aside0 (Below w.heap.size w wc))
         case first =>
          have H := HC57.out
          clear HC57
          by_cases c58 : x12_2 = (x8_1.length : Int)
          ·rw [if_pos c58] at H
           have c58b0 : (x12_2 == (x8_1.length : Int)) = true := beq_iff_eq.mpr c58
           have c58b1 : (x12_2 != (x8_1.length : Int)) = false := bne_eq_false_iff_eq.mpr c58
           clear c58
           (first | rw [c58b0] | (simp only [i64_w, i32_w]; rw [c58b0]) | skip)
           by_cases c59 : a2 = 0
           ·rw [if_pos c59] at H
            have c59b0 : (a2 == 0) = true := beq_iff_eq.mpr c59
            have c59b1 : (a2 != 0) = false := bne_eq_false_iff_eq.mpr c59
            clear c59
            by_cases c60 : x9_1 = 0
            ·rw [if_pos c60] at H
             have c60b0 : (x9_1 == 0) = true := beq_iff_eq.mpr c60
             have c60b1 : (x9_1 != 0) = false := bne_eq_false_iff_eq.mpr c60
             clear c60
             have H' := Aside0.mk H
             clear H
             obtain ⟨Ao61, co61, eo61⟩ := Kd.R_slice HO_8.out
             subst eo61
             go_wp2
             go_meet
             case rel => exact ⟨_, (false), (by first | rfl | (simp; done) | (simp [*]; done)), H', ⟨by have := HK1.out; have := HK2.out; first | omega | exact Nat.le_refl _⟩, ⟨by (with_reducible repeat (first | apply Kd.R_alloc | apply Kd.R_drewN | apply Kd.R_drew)); exact Kd.R_mono HO_7.out (fun _ hk => trivial)⟩, ⟨by repeat (first | (with_reducible first | exact HB.out | apply below_alloc | apply pw_below_drewN | apply below_drew1) | exact HB.out)⟩⟩
            ·rw [if_neg c60] at H
             have c60b0 : (x9_1 == 0) = false := beq_eq_false_iff_ne.mpr c60
             have c60b1 : (x9_1 != 0) = true := bne_iff_ne.mpr c60
             have H' := Aside0.mk H
             clear H
             obtain ⟨Ao62, co62, eo62⟩ := Kd.R_slice HO_8.out
             subst eo62
             go_wp2
             go_meet
             case rel => exact ⟨_, (true), (by first | rfl | (simp; done) | (simp [*]; done)), H', ⟨by have := HK1.out; have := HK2.out; first | omega | exact Nat.le_refl _⟩, ⟨by (with_reducible repeat (first | apply Kd.R_alloc | apply Kd.R_drewN | apply Kd.R_drew)); exact Kd.R_mono HO_7.out (fun _ hk => trivial)⟩, ⟨by repeat (first | (with_reducible first | exact HB.out | apply below_alloc | apply pw_below_drewN | apply below_drew1) | exact HB.out)⟩⟩
           ·rw [if_neg c59] at H
            have c59b0 : (a2 == 0) = false := beq_eq_false_iff_ne.mpr c59
            have c59b1 : (a2 != 0) = true := bne_iff_ne.mpr c59
            have H' := Aside0.mk H
            clear H
            obtain ⟨Ao63, co63, eo63⟩ := Kd.R_slice HO_8.out
            subst eo63
            go_wp2
            go_meet
            case rel => exact ⟨_, ((x9_1 != 1)), (by first | rfl | (simp; done) | (simp [*]; done)), H', ⟨by have := HK1.out; have := HK2.out; first | omega | exact Nat.le_refl _⟩, ⟨by (with_reducible repeat (first | apply Kd.R_alloc | apply Kd.R_drewN | apply Kd.R_drew)); exact Kd.R_mono HO_7.out (fun _ hk => trivial)⟩, ⟨by repeat (first | (with_reducible first | exact HB.out | apply below_alloc | apply pw_below_drewN | apply below_drew1) | exact HB.out)⟩⟩
          ·rw [if_neg c58] at H
           have c58b0 : (x12_2 == (x8_1.length : Int)) = false := beq_eq_false_iff_ne.mpr c58
           have c58b1 : (x12_2 != (x8_1.length : Int)) = true := bne_iff_ne.mpr c58
           (first | rw [c58b0] | (simp only [i64_w, i32_w]; rw [c58b0]) | skip)
           have H' := Aside0.mk H
           clear H
           obtain ⟨Ao64, co64, eo64⟩ := Kd.R_slice HO_8.out
           subst eo64
           go_wp2
           go_meet
           case rel => exact ⟨_, (true), (by first | rfl | (simp; done) | (simp [*]; done)), H', ⟨by have := HK1.out; have := HK2.out; first | omega | exact Nat.le_refl _⟩, ⟨by (with_reducible repeat (first | apply Kd.R_alloc | apply Kd.R_drewN | apply Kd.R_drew)); exact Kd.R_mono HO_7.out (fun _ hk => trivial)⟩, ⟨by repeat (first | (with_reducible first | exact HB.out | apply below_alloc | apply pw_below_drewN | apply below_drew1) | exact HB.out)⟩⟩
         case rest =>
          clear HC57
          try clear c1
          try clear c2
          try clear p2
          try clear c3
          try clear c4
          try clear p4
          try clear q4
          try clear hx4
          try clear c5
          try clear c6
          try clear c6b0
          try clear c6b1
          try clear p6
          try clear c10
          try clear c12
          try clear c12b0
          try clear c13
          try clear c13b0
          try clear c14
          try clear c14b0
          try clear c15
          try clear c15b0
          try clear c15b1
          try clear c17
          try clear c17b0
          try clear c28
          try clear c32
          try clear c32b0
          try clear c33
          try clear c33b0
          try clear c34
          try clear c34b0
          try clear c35
          try clear c35b0
          try clear c35b1
          try clear c38
          try clear c38b0
          try clear c44
          try clear c44b0
          try clear c45
          try clear c45b0
          try clear p45
          try clear q45
          try clear hx45
          try clear c46
          try clear c46b0
          try clear p46
          try clear q46
          try clear hx46
          try clear c58
          try clear c58b0
          try clear c58b1
          try clear c59
          try clear c59b0
          try clear c59b1
          try clear c60
          try clear c60b0
          try clear c60b1
          try clear p64
          try clear hcz19_0
          try clear hcz19_1
          try clear hcz19_2
          try clear hcz24_0
          try clear hcz24_1
          try clear hcz24_2
          try clear hcz30_0
          try clear hcz30_1
          try clear hcz30_2
          try clear hcz37_0
          try clear hcz37_1
          try clear hcz37_2
          try clear hcz40_0
          try clear hcz40_1
          try clear hcz40_2
          try clear hcz48_0
          try clear hcz48_1
          try clear hcz48_2
          try clear hcz53_0
          try clear hcz53_1
          try clear hcz53_2
          try clear hfz19_0
          try clear hfz19_1
          try clear hfz19_2
          try clear hfz24_0
          try clear hfz24_1
          try clear hfz24_2
          try clear hfz30_0
          try clear hfz30_1
          try clear hfz30_2
          try clear hfz37_0
          try clear hfz37_1
          try clear hfz37_2
          try clear hfz40_0
          try clear hfz40_1
          try clear hfz40_2
          try clear hfz48_0
          try clear hfz48_1
          try clear hfz48_2
          try clear hfz53_0
          try clear hfz53_1
          try clear hfz53_2
          try clear hx458_0
          try clear hx458_1
          try clear hx458_2
          try clear hx466_0
          try clear hx466_1
          try clear hx466_2
          try clear hx468_0
          try clear hx468_1
          try clear hx468_2
          try clear p2
          try clear p4
          try clear p458
          try clear p466
          try clear p468
          try clear p6
          try clear q4
          try clear q458
          try clear q466
          try clear q468
          obtain ⟨kq, x90_56, rfl, HA, HJ56, HO_7, HB⟩ := hcut
          cases kq with
          | zero => exact absurd HA.out (by simp [stipendlaw11_ElementChange.j2])
          | succ kj56 =>
           have H := HA.out
           clear HA
           simp only [stipendlaw11_ElementChange.j2] at H
           by_cases c65 : x90_56 = true
           ·subst c65
            have H1 : (some false) = some r := by rw [if_pos rfl] at H; exact H
            clear H
            have H := H1
            clear H1
            obtain rfl := Option.some.inj H
            go_wp2
            go_ret
            exact ⟨by first | rfl | (simp [errW_none, errW_some] <;> rfl) | (simp [*, errW_none, errW_some] <;> rfl), by repeat (first | (with_reducible first | exact HB.out | apply below_alloc | apply pw_below_drewN | apply below_drew1) | exact HB.out)⟩
           ·replace c65 := Bool.eq_false_iff.mpr c65
            subst c65
            have H1 : ((element_Change.f kj56 a1 a2 t455).bind fun t469 => ((element_Same.f kj56 t455 t469).bind fun t472 => (some t472))) = some r := by rw [if_neg (show ¬ (false = true) by decide)] at H; exact H
            clear H
            have H := H1
            clear H1
            replace H := Option.bind_eq_some_iff.mp H
            obtain ⟨t469, A660, H⟩ := H
            replace H : ((element_Same.f kj56 t455 t469).bind fun t472 => (some t472)) = some r := H
            have A66 := Aside0.mk A660
            clear A660
            replace H := Option.bind_eq_some_iff.mp H
            obtain ⟨t472, A670, H⟩ := H
            replace H : (some t472) = some r := H
            have A67 := Aside0.mk A670
            clear A670
            obtain rfl := Option.some.inj H
            go_wp2_with (first | ((with_reducible refine gate_callee (f := 49) rfl ?_); refine goesL_ (some 95) rfl rfl Tryd.func49 (by kernel_rfl) rfl #[.string a1, .int .i64 a2, .slice Ao11 t455.length co11] rfl (by (try simp only [List.map_toArray, List.map_cons, List.map_nil]); first | done | rfl | (simp only [List.length_drop, List.length_take]; rfl)) ?_; (with_reducible refine (element_Change.calls kj56 a1 a2 _ _ t455 t469 _ ?side1 ?side2 A66.out).mono ?_); (case side1 => repeat (first | exact (Kd.R_reads' HO_7.out).2.2 | (with_reducible refine Kd.C_alloc ?_ _) | (with_reducible refine Kd.C_drewN ?_ _) | (with_reducible refine Kd.C_drew ?_))); (case side2 => exact (Kd.R_reads' HO_7.out).2.1); rintro e w68 ⟨v470, rfl, ho0, hb⟩; refine ⟨_, rfl, ?_⟩; have n0_ := Aside0.mk (Kd.R_elder' (by (with_reducible repeat (first | apply Kd.R_alloc | apply Kd.R_drewN | apply Kd.R_drew)); exact HO_7.out) (Kd.R_base ho0) hb); have n1_ := Aside0.mk (Kd.R_lower (Kd.R_new' ho0 (Kd.R_lt (by (with_reducible repeat (first | apply Kd.R_alloc | apply Kd.R_drewN | apply Kd.R_drew)); exact HO_7.out))) (below_size (by repeat (first | (with_reducible first | exact HB.out | apply below_alloc | apply pw_below_drewN | apply below_drew1) | exact HB.out)))); have n2_ := Aside0.mk (below_step (by repeat (first | (with_reducible first | exact HB.out | apply below_alloc | apply pw_below_drewN | apply below_drew1) | exact HB.out)) hb); clear HO_7; clear HB; have HO_7 := n0_; have HO471 := n1_; have HB := n2_; clear n0_ n1_ n2_; (try clear hb); (try clear hb2); (try clear hk); (try clear hi); (try clear ho0); obtain ⟨Ao69, co69, eo69⟩ := Kd.R_slice HO471.out; subst eo69) | ((with_reducible refine gate_callee (f := 51) rfl ?_); refine goesL_ (some 96) rfl rfl Tryd.func51 (by kernel_rfl) rfl #[.slice Ao11 t455.length co11, .slice Ao69 t469.length co69] rfl (by (try simp only [List.map_toArray, List.map_cons, List.map_nil]); first | done | rfl | (simp only [List.length_drop, List.length_take]; rfl)) ?_; (with_reducible refine (element_Same.calls kj56 _ _ t455 _ _ t469 t472 _ ?side1 ?side2 ?side3 ?side4 A67.out).mono ?_); (case side1 => repeat (first | exact (Kd.R_reads' HO_7.out).2.2 | (with_reducible refine Kd.C_alloc ?_ _) | (with_reducible refine Kd.C_drewN ?_ _) | (with_reducible refine Kd.C_drew ?_))); (case side2 => exact (Kd.R_reads' HO_7.out).2.1); (case side3 => repeat (first | exact (Kd.R_reads' HO471.out).2.2 | (with_reducible refine Kd.C_alloc ?_ _) | (with_reducible refine Kd.C_drewN ?_ _) | (with_reducible refine Kd.C_drew ?_))); (case side4 => exact (Kd.R_reads' HO471.out).2.1); rintro e w' ⟨rfl, ⟨nd, rfl⟩⟩; refine ⟨_, rfl, ?_⟩))
            go_ret
            exact ⟨by first | rfl | (simp [errW_none, errW_some] <;> rfl) | (simp [*, errW_none, errW_some] <;> rfl), by repeat (first | (with_reducible first | exact HB.out | apply below_alloc | apply pw_below_drewN | apply below_drew1) | exact HB.out)⟩
 ·replace c5 := Bool.eq_false_iff.mpr c5
  subst c5
  have H1 : (some false) = some r := by rw [if_neg (show ¬ (false = true) by decide)] at H; exact H
  clear H
  have H := H1
  clear H1
  obtain rfl := Option.some.inj H
  go_enter Tryd.func10, Tryd.ntmps10
  go_wp2_with (first | ((with_reducible refine gate_callee (f := 35) rfl ?_); refine goesL_ (some 15) rfl rfl Tryd.func35 (by kernel_rfl) rfl #[] rfl (by (try simp only [List.map_toArray, List.map_cons, List.map_nil]); first | done | rfl | (simp only [List.length_drop, List.length_take]; rfl)) ?_; (with_reducible refine (stipendlaw11_worths.calls  false _ A4.out).mono ?_); rintro e w70 ⟨rfl, hb⟩; refine ⟨_, rfl, ?_⟩; have n0_ := Aside0.mk (below_step (by repeat (first | (with_reducible first | exact HB.out | apply below_alloc | apply pw_below_drewN | apply below_drew1) | exact HB.out)) hb); clear HB; have HB := n0_; clear n0_; (try clear hb); (try clear hb2); (try clear hk); (try clear hi)))
  go_ret
  exact ⟨by first | rfl | (simp [errW_none, errW_some] <;> rfl) | (simp [*, errW_none, errW_some] <;> rfl), by repeat (first | (with_reducible first | exact HB.out | apply below_alloc | apply pw_below_drewN | apply below_drew1) | exact HB.out)⟩

end Go.Proofs.YtmocphafkimdpaaDoor.P
