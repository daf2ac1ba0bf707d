/- A part of the proof of ShareLines's card: 'ShareLines' answers true for every input (the conditions: those of the given statement alone). Merged by a program (wip/merge.py) out of: Pf47. -/
import Derived.Test.YtmocphafkimdpaaDoorMShareLinesa
import Derived.Test.YtmocphafkimdpaaDoorMShareLinesb

-- written by a program (a patched copy of the kit's print: wip/mkprint.py); Lean checks it
namespace Go.Proofs.YtmocphafkimdpaaDoor.P
open Go.RowKit Go.Proofs.YtmocphafkimdpaaDoorW.PrintWords Go.Proofs.YtmocphafkimdpaaDoorW.PrintLast Go.Proofs.YtmocphafkimdpaaDoorW.PrintMore
attribute [local go_sem] max2_int min2_int max_two min_two max_three min_three max_four min_four   -- for this text's walks alone
set_option linter.unusedVariables false
set_option linter.unusedSimpArgs false

/-! ### money_Parse: function 47 -/
mutual
def money_Parse.j0 : Nat → ByteArray → Int → Bool → Option (Int × Int)
 | 0, _, _, _ => none
 | k + 1, x0, x4, x18 => if x18 = true then (if 1 ≤ (x0.size : Int) then (money_Parse.j1 k (x0.extract 1 x0.size) (-1)) else (none)) else (money_Parse.j1 k x0 x4)
def money_Parse.j1 : Nat → ByteArray → Int → Option (Int × Int)
 | 0, _, _ => none
 | k + 1, x0, x4 => if (x0.size : Int) > 20 then (some (0, 5)) else (if (wrap64 ((x0.size : Int) - 3)) > 0 then (if 0 ≤ (wrap64 ((x0.size : Int) - 3)) then (if (wrap64 ((x0.size : Int) - 3)) < (x0.size : Int) then (money_Parse.j2 k x0 x4 0 (wrap64 ((x0.size : Int) - 3)) ((bt x0 (wrap64 ((x0.size : Int) - 3))) == 46)) else (none)) else (none)) else (money_Parse.j2 k x0 x4 0 (wrap64 ((x0.size : Int) - 3)) false))
def money_Parse.j2 : Nat → ByteArray → Int → Int → Int → Bool → Option (Int × Int)
 | 0, _, _, _, _, _ => none
 | k + 1, x0, x4, x5, x6, x34 => if x34 = true then (if 0 ≤ (wrap64 (x6 + 1)) then (if (wrap64 (x6 + 1)) < (x0.size : Int) then ((money_digit.f (bt x0 (wrap64 (x6 + 1)))).bind fun t281 => (if t281 = true then (if 0 ≤ (wrap64 (x6 + 2)) then (if (wrap64 (x6 + 2)) < (x0.size : Int) then ((money_digit.f (bt x0 (wrap64 (x6 + 2)))).bind fun t282 => (if t282 = true then (if 0 ≤ x6 then (if x6 ≤ (x0.size : Int) then (money_Parse.j3 k (x0.extract 0 (x6 : Int).toNat) x4 (((((bt x0 (wrap64 (x6 + 1))) - 48) % 256) * 10) + (((bt x0 (wrap64 (x6 + 2))) - 48) % 256))) else (none)) else (none)) else (some (0, 5)))) else (none)) else (none)) else (some (0, 5)))) else (none)) else (none)) else (money_Parse.j3 k x0 x4 x5)
def money_Parse.j3 : Nat → ByteArray → Int → Int → Option (Int × Int)
 | 0, _, _, _ => none
 | k + 1, x0, x4, x5 => if (x0.size : Int) > 12 then (if 0 ≤ 12 then (if 12 ≤ (x0.size : Int) then ((money_whole.f k (x0.extract 0 12)).bind fun bt283 => (if bt283.2 = true then ((money_digits.f k x0).bind fun t285 => (if t285 = true then (some (0, 10)) else (some (0, 5)))) else (some (0, 5)))) else (none)) else (none)) else ((money_whole.f k x0).bind fun bt286 => (if bt286.2 = true then (if x4 < 0 then (if bt286.1 = 0 then (if x5 = 0 then (some (0, 5)) else ((money_check.f k (wrap64 (x4 * (wrap64 ((wrap64 (bt286.1 * 100)) + x5))))).bind fun bt288 => (some (bt288.1, bt288.2)))) else ((money_check.f k (wrap64 (x4 * (wrap64 ((wrap64 (bt286.1 * 100)) + x5))))).bind fun bt290 => (some (bt290.1, bt290.2)))) else ((money_check.f k (wrap64 (x4 * (wrap64 ((wrap64 (bt286.1 * 100)) + x5))))).bind fun bt292 => (some (bt292.1, bt292.2)))) else (some (0, 5))))
end
def money_Parse.f (k : Nat) (a0 : ByteArray) : Option (Int × Int) := if (a0.size : Int) > 0 then (if 0 < (a0.size : Int) then (money_Parse.j0 k a0 1 ((bt a0 0) == 45)) else (none)) else (money_Parse.j0 k a0 1 false)
theorem money_Parse.mono_l : ∀ k, (∀ y0 y1 y2, LeO (money_Parse.j0 k y0 y1 y2) (money_Parse.j0 (k + 1) y0 y1 y2)) ∧ (∀ y0 y1, LeO (money_Parse.j1 k y0 y1) (money_Parse.j1 (k + 1) y0 y1)) ∧ (∀ y0 y1 y2 y3 y4, LeO (money_Parse.j2 k y0 y1 y2 y3 y4) (money_Parse.j2 (k + 1) y0 y1 y2 y3 y4)) ∧ (∀ y0 y1 y2, LeO (money_Parse.j3 k y0 y1 y2) (money_Parse.j3 (k + 1) y0 y1 y2))
 | 0 => ⟨fun _ _ _ r h => by simp [money_Parse.j0] at h, fun _ _ r h => by simp [money_Parse.j1] at h, fun _ _ _ _ _ r h => by simp [money_Parse.j2] at h, fun _ _ _ r h => by simp [money_Parse.j3] at h⟩
 | k + 1 => by
  obtain ⟨ih0, ih1, ih2, ih3⟩ := money_Parse.mono_l k
  refine ⟨?_, ?_, ?_, ?_⟩
  ·intro y0 y1 y2
   unfold money_Parse.j0
   repeat' first
   | (with_reducible exact ih0 _ _ _)
   | (with_reducible exact ih1 _ _)
   | (with_reducible exact ih2 _ _ _ _ _)
   | (with_reducible exact ih3 _ _ _)
   | (with_reducible exact money_check.mono _ _)
   | (with_reducible exact money_digits.mono _ _)
   | (with_reducible exact money_whole.mono _ _)
   | (with_reducible exact LeO.refl _)
   | (with_reducible exact LeO.none _)
   | (with_reducible refine LeO.ite ?_ ?_)
   | (with_reducible refine LeO.bind ?_ (fun _ => ?_))
   | exact ih0 _ _ _
   | exact ih1 _ _
   | exact ih2 _ _ _ _ _
   | exact ih3 _ _ _
   | exact money_check.mono _ _
   | exact money_digits.mono _ _
   | exact money_whole.mono _ _
   | exact LeO.none _
   | refine LeO.ite ?_ ?_
   | refine LeO.bind ?_ (fun _ => ?_)
  ·intro y0 y1
   unfold money_Parse.j1
   repeat' first
   | (with_reducible exact ih0 _ _ _)
   | (with_reducible exact ih1 _ _)
   | (with_reducible exact ih2 _ _ _ _ _)
   | (with_reducible exact ih3 _ _ _)
   | (with_reducible exact money_check.mono _ _)
   | (with_reducible exact money_digits.mono _ _)
   | (with_reducible exact money_whole.mono _ _)
   | (with_reducible exact LeO.refl _)
   | (with_reducible exact LeO.none _)
   | (with_reducible refine LeO.ite ?_ ?_)
   | (with_reducible refine LeO.bind ?_ (fun _ => ?_))
   | exact ih0 _ _ _
   | exact ih1 _ _
   | exact ih2 _ _ _ _ _
   | exact ih3 _ _ _
   | exact money_check.mono _ _
   | exact money_digits.mono _ _
   | exact money_whole.mono _ _
   | exact LeO.none _
   | refine LeO.ite ?_ ?_
   | refine LeO.bind ?_ (fun _ => ?_)
  ·intro y0 y1 y2 y3 y4
   unfold money_Parse.j2
   repeat' first
   | (with_reducible exact ih0 _ _ _)
   | (with_reducible exact ih1 _ _)
   | (with_reducible exact ih2 _ _ _ _ _)
   | (with_reducible exact ih3 _ _ _)
   | (with_reducible exact money_check.mono _ _)
   | (with_reducible exact money_digits.mono _ _)
   | (with_reducible exact money_whole.mono _ _)
   | (with_reducible exact LeO.refl _)
   | (with_reducible exact LeO.none _)
   | (with_reducible refine LeO.ite ?_ ?_)
   | (with_reducible refine LeO.bind ?_ (fun _ => ?_))
   | exact ih0 _ _ _
   | exact ih1 _ _
   | exact ih2 _ _ _ _ _
   | exact ih3 _ _ _
   | exact money_check.mono _ _
   | exact money_digits.mono _ _
   | exact money_whole.mono _ _
   | exact LeO.none _
   | refine LeO.ite ?_ ?_
   | refine LeO.bind ?_ (fun _ => ?_)
  ·intro y0 y1 y2
   unfold money_Parse.j3
   repeat' first
   | (with_reducible exact ih0 _ _ _)
   | (with_reducible exact ih1 _ _)
   | (with_reducible exact ih2 _ _ _ _ _)
   | (with_reducible exact ih3 _ _ _)
   | (with_reducible exact money_check.mono _ _)
   | (with_reducible exact money_digits.mono _ _)
   | (with_reducible exact money_whole.mono _ _)
   | (with_reducible exact LeO.refl _)
   | (with_reducible exact LeO.none _)
   | (with_reducible refine LeO.ite ?_ ?_)
   | (with_reducible refine LeO.bind ?_ (fun _ => ?_))
   | exact ih0 _ _ _
   | exact ih1 _ _
   | exact ih2 _ _ _ _ _
   | exact ih3 _ _ _
   | exact money_check.mono _ _
   | exact money_digits.mono _ _
   | exact money_whole.mono _ _
   | exact LeO.none _
   | refine LeO.ite ?_ ?_
   | refine LeO.bind ?_ (fun _ => ?_)
theorem money_Parse.mono : ∀ a0 k, LeO (money_Parse.f k a0) (money_Parse.f (k + 1) a0) := by
 intro a0 k
 obtain ⟨ih0, ih1, ih2, ih3⟩ := money_Parse.mono_l k
 unfold money_Parse.f
 repeat' first
   | (with_reducible exact ih0 _ _ _)
   | (with_reducible exact ih1 _ _)
   | (with_reducible exact ih2 _ _ _ _ _)
   | (with_reducible exact ih3 _ _ _)
   | (with_reducible exact money_check.mono _ _)
   | (with_reducible exact money_digits.mono _ _)
   | (with_reducible exact money_whole.mono _ _)
   | (with_reducible exact LeO.refl _)
   | (with_reducible exact LeO.none _)
   | (with_reducible refine LeO.ite ?_ ?_)
   | (with_reducible refine LeO.bind ?_ (fun _ => ?_))
   | exact ih0 _ _ _
   | exact ih1 _ _
   | exact ih2 _ _ _ _ _
   | exact ih3 _ _ _
   | exact money_check.mono _ _
   | exact money_digits.mono _ _
   | exact money_whole.mono _ _
   | exact LeO.none _
   | refine LeO.ite ?_ ?_
   | refine LeO.bind ?_ (fun _ => ?_)
set_option maxHeartbeats 8000000 in
set_option maxRecDepth 100000 in
theorem money_Parse.calls (k : Nat) (a0 : ByteArray) (r1 : Int) (r2 : Int) (w : World) (h : money_Parse.f k a0 = some (r1, r2)) :
  Calls Tryd.prog 47 #[.string a0] w fun e w' => e = .returned (.tuple #[.int .i64 r1, .int .i64 r2]) ∧ Below w.heap.size w w' := by
 have HB := Aside0.mk (Below.refl w.heap.size w)
 have H : (if (a0.size : Int) > 0 then (if 0 < (a0.size : Int) then (money_Parse.j0 k a0 1 ((bt a0 0) == 45)) else (none)) else (money_Parse.j0 k a0 1 false)) = some (r1, r2) := h
 clear h
 have HC2 := Aside0.mk H
 clear H
 go_enter Tryd.func47, Tryd.ntmps47
 go_upto_region 2 with (fail)
 repeat (go_quiet (fail); go_upto_region 2 with (fail))
 go_cut [18] (fun v18 wc => ∃ (kq : Nat) (x18_1 : Bool), v18 = .bool x18_1 ∧ Aside0 (money_Parse.j0 kq a0 1 x18_1 = some (r1, r2)) ∧ Aside0 (kq ≤ k) ∧ Aside0 (Below w.heap.size w wc))
 case first =>
  have H := HC2.out
  clear HC2
  by_cases c3 : (a0.size : Int) > 0
  ·rw [if_pos c3] at H
   have c3b0 : decide (0 < (a0.size : Int)) = true := decide_eq_true c3
   have c3b1 : decide (0 < a0.size) = true := decide_eq_true (by omega)
   clear c3
   (first | rw [c3b0] | (simp only [i64_w, i32_w]; rw [c3b0]) | skip)
   by_cases c4 : 0 < (a0.size : Int)
   ·rw [if_pos c4] at H
    have c4b0 : decide (0 < (a0.size : Int)) = true := decide_eq_true c4
    have c4b1 : decide (0 < a0.size) = true := decide_eq_true (by omega)
    clear c4
    have H' := Aside0.mk H
    clear H
    have p5 : 0 ≤ (0 : Int) := (by omega)
    have q5 : 0 < a0.size := (by have : (0 : Int) < (a0.size : Int) := of_decide_eq_true (by first | (with_reducible assumption) | assumption); omega)
    have hx5 : ∀ h : 0 < a0.size, ((a0[0]'h).toNat : Int) = bt a0 0 := bt_at a0 0
    clear p5
    have qi5 : (0 < (a0.size : Int)) = True := eq_true (of_decide_eq_true (by first | (with_reducible assumption) | assumption))
    replace q5 := eq_true q5
    go_wp2
    repeat (go_quiet (fail); try go_wp2)
    go_meet
    case rel => exact ⟨_, (((bt a0 0) == 45)), (by first | rfl | (simp; done) | (simp [*]; done)), H', ⟨by first | omega | exact Nat.le_refl _⟩, ⟨by repeat (first | (with_reducible first | exact HB.out | apply below_alloc | apply pw_below_drewN | apply below_drew1) | exact HB.out)⟩⟩
   ·rw [if_neg c4] at H
    exact absurd H (by simp)
  ·rw [if_neg c3] at H
   have c3b0 : decide (0 < (a0.size : Int)) = false := decide_eq_false c3
   have c3b1 : decide (0 < a0.size) = false := decide_eq_false (by omega)
   clear c3
   (first | rw [c3b0] | (simp only [i64_w, i32_w]; rw [c3b0]) | skip)
   have H' := Aside0.mk H
   clear H
   go_wp2
   repeat (go_quiet (fail); try go_wp2)
   go_meet
   case rel => exact ⟨_, (false), (by first | rfl | (simp; done) | (simp [*]; done)), H', ⟨by first | omega | exact Nat.le_refl _⟩, ⟨by repeat (first | (with_reducible first | exact HB.out | apply below_alloc | apply pw_below_drewN | apply below_drew1) | exact HB.out)⟩⟩
 case rest =>
  clear HC2
  try clear p2; try clear c3; try clear c3b0; try clear c3b1; try clear c4; try clear c4b0; try clear c4b1; try clear p5; try clear q5; try clear hx5; try clear qi5; try clear p5; try clear q5
  obtain ⟨kq, x18_1, rfl, HA, HJ1, HB⟩ := hcut
  cases kq with
  | zero => exact absurd HA.out (by simp [money_Parse.j0])
  | succ kj1 =>
   have H := HA.out
   clear HA
   simp only [money_Parse.j0] at H
   have HC6 := Aside0.mk H
   clear H
   go_upto_if 18 with (fail)
   repeat (go_quiet (fail); go_upto_if 18 with (fail))
   go_cut [0, 4] (fun v0 v4 wc => ∃ (kq : Nat) (x0_5 : ByteArray) (x4_5 : Int), v0 = .string x0_5 ∧ v4 = .int .i64 x4_5 ∧ Aside0 (money_Parse.j1 kq x0_5 x4_5 = some (r1, r2)) ∧ Aside0 (kq ≤ kj1) ∧ Aside0 (Below w.heap.size w wc))
   case first =>
    have H := HC6.out
    clear HC6
    by_cases c7 : x18_1 = true
    ·subst c7
     have H1 : (if 1 ≤ (a0.size : Int) then (money_Parse.j1 kj1 (a0.extract 1 a0.size) (-1)) else (none)) = some (r1, r2) := by rw [if_pos rfl] at H; exact H
     clear H
     have H := H1
     clear H1
     by_cases c8 : 1 ≤ (a0.size : Int)
     ·rw [if_pos c8] at H
      have c8b0 := eq_true c8
      have c8b1 : decide (1 ≤ (a0.size : Int)) = true := decide_eq_true c8
      clear c8
      have H' := Aside0.mk H
      clear H
      go_wp2
      repeat (go_quiet (fail); try go_wp2)
      go_meet
      case rel => exact ⟨_, (a0.extract 1 a0.size), ((-1)), (by first | rfl | (simp; done) | (simp [*]; done)), (by first | rfl | (simp; done) | (simp [*]; done)), H', ⟨by have := HJ1.out; first | omega | exact Nat.le_refl _⟩, ⟨by repeat (first | (with_reducible first | exact HB.out | apply below_alloc | apply pw_below_drewN | apply below_drew1) | exact HB.out)⟩⟩
     ·rw [if_neg c8] at H
      exact absurd H (by simp)
    ·replace c7 := Bool.eq_false_iff.mpr c7
     subst c7
     have H1 : (money_Parse.j1 kj1 a0 1) = some (r1, r2) := by rw [if_neg (show ¬ (false = true) by decide)] at H; exact H
     clear H
     have H := H1
     clear H1
     have H' := Aside0.mk H
     clear H
     go_wp2
     repeat (go_quiet (fail); try go_wp2)
     go_meet
     case rel => exact ⟨_, (a0), (1), (by first | rfl | (simp; done) | (simp [*]; done)), (by first | rfl | (simp; done) | (simp [*]; done)), H', ⟨by have := HJ1.out; first | omega | exact Nat.le_refl _⟩, ⟨by repeat (first | (with_reducible first | exact HB.out | apply below_alloc | apply pw_below_drewN | apply below_drew1) | exact HB.out)⟩⟩
   case rest =>
    clear HC6
    try clear p2; try clear c3; try clear c3b0; try clear c3b1; try clear c4; try clear c4b0; try clear c4b1; try clear p5; try clear q5; try clear hx5; try clear qi5; try clear c7; try clear c8; try clear c8b0; try clear c8b1; try clear p2; try clear p5; try clear q5
    obtain ⟨kq, x0_5, x4_5, rfl, rfl, HA, HJ5, HB⟩ := hcut
    cases kq with
    | zero => exact absurd HA.out (by simp [money_Parse.j1])
    | succ kj5 =>
     have H := HA.out
     clear HA
     simp only [money_Parse.j1] at H
     by_cases c9 : (x0_5.size : Int) > 20
     ·rw [if_pos c9] at H
      have c9b0 : decide (20 < (x0_5.size : Int)) = true := decide_eq_true c9
      have c9b1 : decide (20 < x0_5.size) = true := decide_eq_true (by omega)
      clear c9
      simp only [Option.some.injEq, Prod.mk.injEq] at H
      obtain ⟨rfl, rfl⟩ := H
      go_wp2
      repeat (go_quiet (fail); try go_wp2)
      go_ret2
      exact ⟨by first | rfl | (simp [errW_none, errW_some] <;> rfl) | (simp [*, errW_none, errW_some] <;> rfl), by repeat (first | (with_reducible first | exact HB.out | apply below_alloc | apply pw_below_drewN | apply below_drew1) | exact HB.out)⟩
     ·rw [if_neg c9] at H
      have c9b0 : decide (20 < (x0_5.size : Int)) = false := decide_eq_false c9
      have c9b1 : decide (20 < x0_5.size) = false := decide_eq_false (by omega)
      clear c9
      have HC10 := Aside0.mk H
      clear H
      go_upto_region 8 with (fail)
      repeat (go_quiet (fail); go_upto_region 8 with (fail))
      go_cut [34] (fun v34 wc => ∃ (kq : Nat) (x34_9 : Bool), v34 = .bool x34_9 ∧ Aside0 (money_Parse.j2 kq x0_5 x4_5 0 (wrap64 ((x0_5.size : Int) - 3)) x34_9 = some (r1, r2)) ∧ Aside0 (kq ≤ kj5) ∧ Aside0 (Below w.heap.size w wc))
      case first =>
       have H := HC10.out
       clear HC10
       by_cases c11 : (wrap64 ((x0_5.size : Int) - 3)) > 0
       ·rw [if_pos c11] at H
        have c11b0 : decide (0 < (wrap64 ((x0_5.size : Int) - 3))) = true := decide_eq_true c11
        clear c11
        (first | rw [c11b0] | (simp only [i64_w, i32_w]; rw [c11b0]) | skip)
        obtain ⟨ji12, hji12⟩ : ∃ j_ : Int, (wrap64 ((x0_5.size : Int) - 3)) = j_ := ⟨_, rfl⟩
        replace H : (if 0 ≤ (ji12) then (if (ji12) < (x0_5.size : Int) then (money_Parse.j2 kj5 x0_5 x4_5 0 ji12 ((bt x0_5 (ji12)) == 46)) else (none)) else (none)) = some (r1, r2) := by first | (rw [hji12] at H; exact H) | (simp only [hji12] at H ⊢; exact H)
        (try rw [hji12] at c11b0)
        have hji12w : (IntKind.i64.wrap ((x0_5.size : Int) - 3)) = ji12 := (i64_w _).trans hji12
        by_cases c13 : 0 ≤ (ji12)
        ·rw [if_pos c13] at H
         have c13b0 : decide (0 ≤ (ji12)) = true := decide_eq_true c13
         clear c13
         by_cases c14 : (ji12) < (x0_5.size : Int)
         ·rw [if_pos c14] at H
          have c14b0 : decide ((ji12) < (x0_5.size : Int)) = true := decide_eq_true c14
          clear c14
          have H' := Aside0.mk H
          clear H
          have p15 : 0 ≤ ((ji12) : Int) := of_decide_eq_true (by first | (with_reducible assumption) | assumption)
          have q15 : (ji12) < (x0_5.size : Int) := of_decide_eq_true (by first | (with_reducible assumption) | assumption)
          have hx15 := bt_at x0_5 (ji12)
          replace p15 := eq_true p15
          replace q15 := eq_true q15
          go_wp2
          repeat (go_quiet (fail); try go_wp2)
          go_meet
          case rel => exact ⟨_, (((bt x0_5 (ji12)) == 46)), (by first | rfl | (simp; done) | (simp only [← hji12] <;> (first | rfl | simp)) | (simp [*]; done)), (by first | exact H' | (rw [hji12]; exact H')), ⟨by have := HJ1.out; have := HJ5.out; first | omega | exact Nat.le_refl _⟩, ⟨by repeat (first | (with_reducible first | exact HB.out | apply below_alloc | apply pw_below_drewN | apply below_drew1) | exact HB.out)⟩⟩
         ·rw [if_neg c14] at H
          exact absurd H (by simp)
        ·rw [if_neg c13] at H
         exact absurd H (by simp)
       ·rw [if_neg c11] at H
        have c11b0 : decide (0 < (wrap64 ((x0_5.size : Int) - 3))) = false := decide_eq_false c11
        clear c11
        (first | rw [c11b0] | (simp only [i64_w, i32_w]; rw [c11b0]) | skip)
        have H' := Aside0.mk H
        clear H
        go_wp2
        repeat (go_quiet (fail); try go_wp2)
        go_meet
        case rel => exact ⟨_, (false), (by first | rfl | (simp; done) | (simp [*]; done)), H', ⟨by have := HJ1.out; have := HJ5.out; first | omega | exact Nat.le_refl _⟩, ⟨by repeat (first | (with_reducible first | exact HB.out | apply below_alloc | apply pw_below_drewN | apply below_drew1) | exact HB.out)⟩⟩
      case rest =>
       clear HC10
       try clear c1; try clear p1; try clear q1; try clear hx1; try clear p2; try clear c3; try clear c3b0; try clear c3b1; try clear c4; try clear c4b0; try clear c4b1; try clear p5; try clear q5; try clear hx5; try clear qi5; try clear p6; try clear c7; try clear c8; try clear c8b0; try clear c8b1; try clear c9; try clear c9b0; try clear c9b1; try clear c11; try clear c11b0; try clear c13; try clear c13b0; try clear c14; try clear c14b0; try clear p15; try clear q15; try clear hx15; try clear p15; try clear p2; try clear p5; try clear q15; try clear q5
       obtain ⟨kq, x34_9, rfl, HA, HJ9, HB⟩ := hcut
       cases kq with
       | zero => exact absurd HA.out (by simp [money_Parse.j2])
       | succ kj9 =>
        have H := HA.out
        clear HA
        simp only [money_Parse.j2] at H
        have HC16 := Aside0.mk H
        clear H
        go_upto_if 34 with (fail)
        repeat (go_quiet (fail); go_upto_if 34 with (fail))
        go_cut [0, 5] (fun v0 v5 wc => ∃ (kq : Nat) (x0_15 : ByteArray) (x5_15 : Int), v0 = .string x0_15 ∧ v5 = .int .i64 x5_15 ∧ Aside0 (money_Parse.j3 kq x0_15 x4_5 x5_15 = some (r1, r2)) ∧ Aside0 (kq ≤ kj9) ∧ Aside0 (Below w.heap.size w wc))
        case first =>
         have H := HC16.out
         clear HC16
         by_cases c17 : x34_9 = true
         ·subst c17
          have H1 : (if 0 ≤ (wrap64 ((wrap64 ((x0_5.size : Int) - 3)) + 1)) then (if (wrap64 ((wrap64 ((x0_5.size : Int) - 3)) + 1)) < (x0_5.size : Int) then ((money_digit.f (bt x0_5 (wrap64 ((wrap64 ((x0_5.size : Int) - 3)) + 1)))).bind fun t281 => (if t281 = true then (if 0 ≤ (wrap64 ((wrap64 ((x0_5.size : Int) - 3)) + 2)) then (if (wrap64 ((wrap64 ((x0_5.size : Int) - 3)) + 2)) < (x0_5.size : Int) then ((money_digit.f (bt x0_5 (wrap64 ((wrap64 ((x0_5.size : Int) - 3)) + 2)))).bind fun t282 => (if t282 = true then (if 0 ≤ (wrap64 ((x0_5.size : Int) - 3)) then (if (wrap64 ((x0_5.size : Int) - 3)) ≤ (x0_5.size : Int) then (money_Parse.j3 kj9 (x0_5.extract 0 ((wrap64 ((x0_5.size : Int) - 3)) : Int).toNat) x4_5 (((((bt x0_5 (wrap64 ((wrap64 ((x0_5.size : Int) - 3)) + 1))) - 48) % 256) * 10) + (((bt x0_5 (wrap64 ((wrap64 ((x0_5.size : Int) - 3)) + 2))) - 48) % 256))) else (none)) else (none)) else (some (0, 5)))) else (none)) else (none)) else (some (0, 5)))) else (none)) else (none)) = some (r1, r2) := by rw [if_pos rfl] at H; exact H
          clear H
          have H := H1
          clear H1
          obtain ⟨ji18, hji18⟩ : ∃ j_ : Int, (wrap64 ((wrap64 ((x0_5.size : Int) - 3)) + 1)) = j_ := ⟨_, rfl⟩
          replace H : (if 0 ≤ (ji18) then (if (ji18) < (x0_5.size : Int) then ((money_digit.f (bt x0_5 (ji18))).bind fun t281 => (if t281 = true then (if 0 ≤ (wrap64 ((wrap64 ((x0_5.size : Int) - 3)) + 2)) then (if (wrap64 ((wrap64 ((x0_5.size : Int) - 3)) + 2)) < (x0_5.size : Int) then ((money_digit.f (bt x0_5 (wrap64 ((wrap64 ((x0_5.size : Int) - 3)) + 2)))).bind fun t282 => (if t282 = true then (if 0 ≤ (wrap64 ((x0_5.size : Int) - 3)) then (if (wrap64 ((x0_5.size : Int) - 3)) ≤ (x0_5.size : Int) then (money_Parse.j3 kj9 (x0_5.extract 0 ((wrap64 ((x0_5.size : Int) - 3)) : Int).toNat) x4_5 (((((bt x0_5 (ji18)) - 48) % 256) * 10) + (((bt x0_5 (wrap64 ((wrap64 ((x0_5.size : Int) - 3)) + 2))) - 48) % 256))) else (none)) else (none)) else (some (0, 5)))) else (none)) else (none)) else (some (0, 5)))) else (none)) else (none)) = some (r1, r2) := by first | (rw [hji18] at H; exact H) | (simp only [hji18] at H ⊢; exact H)
          have hji18w : (IntKind.i64.wrap ((wrap64 ((x0_5.size : Int) - 3)) + 1)) = ji18 := (i64_w _).trans hji18
          by_cases c19 : 0 ≤ (ji18)
          ·rw [if_pos c19] at H
           have c19b0 : decide (0 ≤ (ji18)) = true := decide_eq_true c19
           clear c19
           (first | rw [c19b0] | (simp only [i64_w, i32_w]; rw [c19b0]) | skip)
           by_cases c20 : (ji18) < (x0_5.size : Int)
           ·rw [if_pos c20] at H
            have c20b0 : decide ((ji18) < (x0_5.size : Int)) = true := decide_eq_true c20
            clear c20
            replace H := Option.bind_eq_some_iff.mp H
            obtain ⟨t281, A220, H⟩ := H
            replace H : (if t281 = true then (if 0 ≤ (wrap64 ((wrap64 ((x0_5.size : Int) - 3)) + 2)) then (if (wrap64 ((wrap64 ((x0_5.size : Int) - 3)) + 2)) < (x0_5.size : Int) then ((money_digit.f (bt x0_5 (wrap64 ((wrap64 ((x0_5.size : Int) - 3)) + 2)))).bind fun t282 => (if t282 = true then (if 0 ≤ (wrap64 ((x0_5.size : Int) - 3)) then (if (wrap64 ((x0_5.size : Int) - 3)) ≤ (x0_5.size : Int) then (money_Parse.j3 kj9 (x0_5.extract 0 ((wrap64 ((x0_5.size : Int) - 3)) : Int).toNat) x4_5 (((((bt x0_5 (ji18)) - 48) % 256) * 10) + (((bt x0_5 (wrap64 ((wrap64 ((x0_5.size : Int) - 3)) + 2))) - 48) % 256))) else (none)) else (none)) else (some (0, 5)))) else (none)) else (none)) else (some (0, 5))) = some (r1, r2) := H
            have A22 := Aside0.mk A220
            clear A220
            by_cases c23 : t281 = true
            ·subst c23
             have H1 : (if 0 ≤ (wrap64 ((wrap64 ((x0_5.size : Int) - 3)) + 2)) then (if (wrap64 ((wrap64 ((x0_5.size : Int) - 3)) + 2)) < (x0_5.size : Int) then ((money_digit.f (bt x0_5 (wrap64 ((wrap64 ((x0_5.size : Int) - 3)) + 2)))).bind fun t282 => (if t282 = true then (if 0 ≤ (wrap64 ((x0_5.size : Int) - 3)) then (if (wrap64 ((x0_5.size : Int) - 3)) ≤ (x0_5.size : Int) then (money_Parse.j3 kj9 (x0_5.extract 0 ((wrap64 ((x0_5.size : Int) - 3)) : Int).toNat) x4_5 (((((bt x0_5 (ji18)) - 48) % 256) * 10) + (((bt x0_5 (wrap64 ((wrap64 ((x0_5.size : Int) - 3)) + 2))) - 48) % 256))) else (none)) else (none)) else (some (0, 5)))) else (none)) else (none)) = some (r1, r2) := by rw [if_pos rfl] at H; exact H
             clear H
             have H := H1
             clear H1
             obtain ⟨ji24, hji24⟩ : ∃ j_ : Int, (wrap64 ((wrap64 ((x0_5.size : Int) - 3)) + 2)) = j_ := ⟨_, rfl⟩
             replace H : (if 0 ≤ (ji24) then (if (ji24) < (x0_5.size : Int) then ((money_digit.f (bt x0_5 (ji24))).bind fun t282 => (if t282 = true then (if 0 ≤ (wrap64 ((x0_5.size : Int) - 3)) then (if (wrap64 ((x0_5.size : Int) - 3)) ≤ (x0_5.size : Int) then (money_Parse.j3 kj9 (x0_5.extract 0 ((wrap64 ((x0_5.size : Int) - 3)) : Int).toNat) x4_5 (((((bt x0_5 (ji18)) - 48) % 256) * 10) + (((bt x0_5 (ji24)) - 48) % 256))) else (none)) else (none)) else (some (0, 5)))) else (none)) else (none)) = some (r1, r2) := by first | (rw [hji24] at H; exact H) | (simp only [hji24] at H ⊢; exact H)
             (try rw [hji24] at A22)
             have hji24w : (IntKind.i64.wrap ((wrap64 ((x0_5.size : Int) - 3)) + 2)) = ji24 := (i64_w _).trans hji24
             by_cases c25 : 0 ≤ (ji24)
             ·rw [if_pos c25] at H
              have c25b0 : decide (0 ≤ (ji24)) = true := decide_eq_true c25
              clear c25
              by_cases c26 : (ji24) < (x0_5.size : Int)
              ·rw [if_pos c26] at H
               have c26b0 : decide ((ji24) < (x0_5.size : Int)) = true := decide_eq_true c26
               clear c26
               replace H := Option.bind_eq_some_iff.mp H
               obtain ⟨t282, A280, H⟩ := H
               replace H : (if t282 = true then (if 0 ≤ (wrap64 ((x0_5.size : Int) - 3)) then (if (wrap64 ((x0_5.size : Int) - 3)) ≤ (x0_5.size : Int) then (money_Parse.j3 kj9 (x0_5.extract 0 ((wrap64 ((x0_5.size : Int) - 3)) : Int).toNat) x4_5 (((((bt x0_5 (ji18)) - 48) % 256) * 10) + (((bt x0_5 (ji24)) - 48) % 256))) else (none)) else (none)) else (some (0, 5))) = some (r1, r2) := H
               have A28 := Aside0.mk A280
               clear A280
               by_cases c29 : t282 = true
               ·subst c29
                have H1 : (if 0 ≤ (wrap64 ((x0_5.size : Int) - 3)) then (if (wrap64 ((x0_5.size : Int) - 3)) ≤ (x0_5.size : Int) then (money_Parse.j3 kj9 (x0_5.extract 0 ((wrap64 ((x0_5.size : Int) - 3)) : Int).toNat) x4_5 (((((bt x0_5 (ji18)) - 48) % 256) * 10) + (((bt x0_5 (ji24)) - 48) % 256))) else (none)) else (none)) = some (r1, r2) := by rw [if_pos rfl] at H; exact H
                clear H
                have H := H1
                clear H1
                by_cases c33 : 0 ≤ ((wrap64 ((x0_5.size : Int) - 3)))
                ·rw [if_pos c33] at H
                 have c33b0 := eq_true c33
                 have c33b1 : decide (0 ≤ ((wrap64 ((x0_5.size : Int) - 3)))) = true := decide_eq_true c33
                 clear c33
                 by_cases c34 : ((wrap64 ((x0_5.size : Int) - 3))) ≤ (x0_5.size : Int)
                 ·rw [if_pos c34] at H
                  have c34b0 := eq_true c34
                  have c34b1 : decide (((wrap64 ((x0_5.size : Int) - 3))) ≤ (x0_5.size : Int)) = true := decide_eq_true c34
                  clear c34
                  have H' := Aside0.mk H
                  clear H
                  have p21 : 0 ≤ ((ji18) : Int) := of_decide_eq_true (by first | (with_reducible assumption) | assumption)
                  have q21 : (ji18) < (x0_5.size : Int) := of_decide_eq_true (by first | (with_reducible assumption) | assumption)
                  have hx21 := bt_at x0_5 (ji18)
                  replace p21 := eq_true p21
                  replace q21 := eq_true q21
                  go_wp2_with (first | (go_at_call 88; (with_reducible refine (money_digit.calls (bt x0_5 (ji18)) true _ A22.out).mono ?_); rintro e w' ⟨rfl, ⟨nd, rfl⟩⟩; (try first | exact ⟨rfl, _, World.drewN_drewN _ _ _⟩ | exact ⟨rfl, _, Eq.trans (World.drewN_drewN _ _ _) (congrArg (World.drewN _) (Nat.add_assoc _ _ _))⟩); have p27 : 0 ≤ ((ji24) : Int) := of_decide_eq_true (by first | (with_reducible assumption) | assumption); have q27 : (ji24) < (x0_5.size : Int) := of_decide_eq_true (by first | (with_reducible assumption) | assumption); have hx27 := bt_at x0_5 (ji24); replace p27 := eq_true p27; replace q27 := eq_true q27) | (go_at_call 88; (with_reducible refine (money_digit.calls (bt x0_5 (ji24)) true _ A28.out).mono ?_); rintro e w' ⟨rfl, ⟨nd, rfl⟩⟩; (try first | exact ⟨rfl, _, World.drewN_drewN _ _ _⟩ | exact ⟨rfl, _, Eq.trans (World.drewN_drewN _ _ _) (congrArg (World.drewN _) (Nat.add_assoc _ _ _))⟩); have p30 : 0 ≤ ((ji18) : Int) := of_decide_eq_true (by first | (with_reducible assumption) | assumption); have q30 : (ji18) < (x0_5.size : Int) := of_decide_eq_true (by first | (with_reducible assumption) | assumption); have hx30 := bt_at x0_5 (ji18); replace p30 := eq_true p30; replace q30 := eq_true q30; have p31 : 0 ≤ ((ji24) : Int) := of_decide_eq_true (by first | (with_reducible assumption) | assumption); have q31 : (ji24) < (x0_5.size : Int) := of_decide_eq_true (by first | (with_reducible assumption) | assumption); have hx31 := bt_at x0_5 (ji24); replace p31 := eq_true p31; replace q31 := eq_true q31))
                  repeat (go_quiet (first | (go_at_call 88; (with_reducible refine (money_digit.calls (bt x0_5 (ji18)) true _ A22.out).mono ?_); rintro e w' ⟨rfl, ⟨nd, rfl⟩⟩; (try first | exact ⟨rfl, _, World.drewN_drewN _ _ _⟩ | exact ⟨rfl, _, Eq.trans (World.drewN_drewN _ _ _) (congrArg (World.drewN _) (Nat.add_assoc _ _ _))⟩); have p27 : 0 ≤ ((ji24) : Int) := of_decide_eq_true (by first | (with_reducible assumption) | assumption); have q27 : (ji24) < (x0_5.size : Int) := of_decide_eq_true (by first | (with_reducible assumption) | assumption); have hx27 := bt_at x0_5 (ji24); replace p27 := eq_true p27; replace q27 := eq_true q27) | (go_at_call 88; (with_reducible refine (money_digit.calls (bt x0_5 (ji24)) true _ A28.out).mono ?_); rintro e w' ⟨rfl, ⟨nd, rfl⟩⟩; (try first | exact ⟨rfl, _, World.drewN_drewN _ _ _⟩ | exact ⟨rfl, _, Eq.trans (World.drewN_drewN _ _ _) (congrArg (World.drewN _) (Nat.add_assoc _ _ _))⟩); have p30 : 0 ≤ ((ji18) : Int) := of_decide_eq_true (by first | (with_reducible assumption) | assumption); have q30 : (ji18) < (x0_5.size : Int) := of_decide_eq_true (by first | (with_reducible assumption) | assumption); have hx30 := bt_at x0_5 (ji18); replace p30 := eq_true p30; replace q30 := eq_true q30; have p31 : 0 ≤ ((ji24) : Int) := of_decide_eq_true (by first | (with_reducible assumption) | assumption); have q31 : (ji24) < (x0_5.size : Int) := of_decide_eq_true (by first | (with_reducible assumption) | assumption); have hx31 := bt_at x0_5 (ji24); replace p31 := eq_true p31; replace q31 := eq_true q31)); try go_wp2_with (first | (go_at_call 88; (with_reducible refine (money_digit.calls (bt x0_5 (ji18)) true _ A22.out).mono ?_); rintro e w' ⟨rfl, ⟨nd, rfl⟩⟩; (try first | exact ⟨rfl, _, World.drewN_drewN _ _ _⟩ | exact ⟨rfl, _, Eq.trans (World.drewN_drewN _ _ _) (congrArg (World.drewN _) (Nat.add_assoc _ _ _))⟩); have p27 : 0 ≤ ((ji24) : Int) := of_decide_eq_true (by first | (with_reducible assumption) | assumption); have q27 : (ji24) < (x0_5.size : Int) := of_decide_eq_true (by first | (with_reducible assumption) | assumption); have hx27 := bt_at x0_5 (ji24); replace p27 := eq_true p27; replace q27 := eq_true q27) | (go_at_call 88; (with_reducible refine (money_digit.calls (bt x0_5 (ji24)) true _ A28.out).mono ?_); rintro e w' ⟨rfl, ⟨nd, rfl⟩⟩; (try first | exact ⟨rfl, _, World.drewN_drewN _ _ _⟩ | exact ⟨rfl, _, Eq.trans (World.drewN_drewN _ _ _) (congrArg (World.drewN _) (Nat.add_assoc _ _ _))⟩); have p30 : 0 ≤ ((ji18) : Int) := of_decide_eq_true (by first | (with_reducible assumption) | assumption); have q30 : (ji18) < (x0_5.size : Int) := of_decide_eq_true (by first | (with_reducible assumption) | assumption); have hx30 := bt_at x0_5 (ji18); replace p30 := eq_true p30; replace q30 := eq_true q30; have p31 : 0 ≤ ((ji24) : Int) := of_decide_eq_true (by first | (with_reducible assumption) | assumption); have q31 : (ji24) < (x0_5.size : Int) := of_decide_eq_true (by first | (with_reducible assumption) | assumption); have hx31 := bt_at x0_5 (ji24); replace p31 := eq_true p31; replace q31 := eq_true q31)))
                  go_meet
                  case rel => exact ⟨_, (x0_5.extract 0 (((wrap64 ((x0_5.size : Int) - 3))) : Int).toNat), (((((bt x0_5 (ji18)) - 48) % 256) * 10) + (((bt x0_5 (ji24)) - 48) % 256)), (by first | rfl | (simp; done) | (simp [*]; done)), (by first | rfl | (simp; done) | (simp only [← hji18, ← hji24] <;> (first | rfl | simp)) | (simp [*]; done)), H', ⟨by have := HJ1.out; have := HJ5.out; have := HJ9.out; first | omega | exact Nat.le_refl _⟩, ⟨by repeat (first | (with_reducible first | exact HB.out | apply below_alloc | apply pw_below_drewN | apply below_drew1) | exact HB.out)⟩⟩
                 ·rw [if_neg c34] at H
                  exact absurd H (by simp)
                ·rw [if_neg c33] at H
                 exact absurd H (by simp)
               ·replace c29 := Bool.eq_false_iff.mpr c29
                subst c29
                have H1 : (some (0, 5)) = some (r1, r2) := by rw [if_neg (show ¬ (false = true) by decide)] at H; exact H
                clear H
                have H := H1
                clear H1
                simp only [Option.some.injEq, Prod.mk.injEq] at H
                obtain ⟨rfl, rfl⟩ := H
                have p21 : 0 ≤ ((ji18) : Int) := of_decide_eq_true (by first | (with_reducible assumption) | assumption)
                have q21 : (ji18) < (x0_5.size : Int) := of_decide_eq_true (by first | (with_reducible assumption) | assumption)
                have hx21 := bt_at x0_5 (ji18)
                replace p21 := eq_true p21
                replace q21 := eq_true q21
                go_wp2_with (first | (go_at_call 88; (with_reducible refine (money_digit.calls (bt x0_5 (ji18)) true _ A22.out).mono ?_); rintro e w' ⟨rfl, ⟨nd, rfl⟩⟩; (try first | exact ⟨rfl, _, World.drewN_drewN _ _ _⟩ | exact ⟨rfl, _, Eq.trans (World.drewN_drewN _ _ _) (congrArg (World.drewN _) (Nat.add_assoc _ _ _))⟩); have p27 : 0 ≤ ((ji24) : Int) := of_decide_eq_true (by first | (with_reducible assumption) | assumption); have q27 : (ji24) < (x0_5.size : Int) := of_decide_eq_true (by first | (with_reducible assumption) | assumption); have hx27 := bt_at x0_5 (ji24); replace p27 := eq_true p27; replace q27 := eq_true q27) | (go_at_call 88; (with_reducible refine (money_digit.calls (bt x0_5 (ji24)) false _ A28.out).mono ?_); rintro e w' ⟨rfl, ⟨nd, rfl⟩⟩; (try first | exact ⟨rfl, _, World.drewN_drewN _ _ _⟩ | exact ⟨rfl, _, Eq.trans (World.drewN_drewN _ _ _) (congrArg (World.drewN _) (Nat.add_assoc _ _ _))⟩)))
                repeat (go_quiet (first | (go_at_call 88; (with_reducible refine (money_digit.calls (bt x0_5 (ji18)) true _ A22.out).mono ?_); rintro e w' ⟨rfl, ⟨nd, rfl⟩⟩; (try first | exact ⟨rfl, _, World.drewN_drewN _ _ _⟩ | exact ⟨rfl, _, Eq.trans (World.drewN_drewN _ _ _) (congrArg (World.drewN _) (Nat.add_assoc _ _ _))⟩); have p27 : 0 ≤ ((ji24) : Int) := of_decide_eq_true (by first | (with_reducible assumption) | assumption); have q27 : (ji24) < (x0_5.size : Int) := of_decide_eq_true (by first | (with_reducible assumption) | assumption); have hx27 := bt_at x0_5 (ji24); replace p27 := eq_true p27; replace q27 := eq_true q27) | (go_at_call 88; (with_reducible refine (money_digit.calls (bt x0_5 (ji24)) false _ A28.out).mono ?_); rintro e w' ⟨rfl, ⟨nd, rfl⟩⟩; (try first | exact ⟨rfl, _, World.drewN_drewN _ _ _⟩ | exact ⟨rfl, _, Eq.trans (World.drewN_drewN _ _ _) (congrArg (World.drewN _) (Nat.add_assoc _ _ _))⟩))); try go_wp2_with (first | (go_at_call 88; (with_reducible refine (money_digit.calls (bt x0_5 (ji18)) true _ A22.out).mono ?_); rintro e w' ⟨rfl, ⟨nd, rfl⟩⟩; (try first | exact ⟨rfl, _, World.drewN_drewN _ _ _⟩ | exact ⟨rfl, _, Eq.trans (World.drewN_drewN _ _ _) (congrArg (World.drewN _) (Nat.add_assoc _ _ _))⟩); have p27 : 0 ≤ ((ji24) : Int) := of_decide_eq_true (by first | (with_reducible assumption) | assumption); have q27 : (ji24) < (x0_5.size : Int) := of_decide_eq_true (by first | (with_reducible assumption) | assumption); have hx27 := bt_at x0_5 (ji24); replace p27 := eq_true p27; replace q27 := eq_true q27) | (go_at_call 88; (with_reducible refine (money_digit.calls (bt x0_5 (ji24)) false _ A28.out).mono ?_); rintro e w' ⟨rfl, ⟨nd, rfl⟩⟩; (try first | exact ⟨rfl, _, World.drewN_drewN _ _ _⟩ | exact ⟨rfl, _, Eq.trans (World.drewN_drewN _ _ _) (congrArg (World.drewN _) (Nat.add_assoc _ _ _))⟩))))
                go_ret2
                exact ⟨by first | rfl | (simp [errW_none, errW_some] <;> rfl) | (simp only [← hji18, ← hji24]; first | rfl | (simp [errW_none, errW_some] <;> rfl)) | (simp [*, errW_none, errW_some] <;> rfl), by repeat (first | (with_reducible first | exact HB.out | apply below_alloc | apply pw_below_drewN | apply below_drew1) | exact HB.out)⟩
              ·rw [if_neg c26] at H
               exact absurd H (by simp)
             ·rw [if_neg c25] at H
              exact absurd H (by simp)
            ·replace c23 := Bool.eq_false_iff.mpr c23
             subst c23
             have H1 : (some (0, 5)) = some (r1, r2) := by rw [if_neg (show ¬ (false = true) by decide)] at H; exact H
             clear H
             have H := H1
             clear H1
             simp only [Option.some.injEq, Prod.mk.injEq] at H
             obtain ⟨rfl, rfl⟩ := H
             have p21 : 0 ≤ ((ji18) : Int) := of_decide_eq_true (by first | (with_reducible assumption) | assumption)
             have q21 : (ji18) < (x0_5.size : Int) := of_decide_eq_true (by first | (with_reducible assumption) | assumption)
             have hx21 := bt_at x0_5 (ji18)
             replace p21 := eq_true p21
             replace q21 := eq_true q21
             go_wp2_with (first | (go_at_call 88; (with_reducible refine (money_digit.calls (bt x0_5 (ji18)) false _ A22.out).mono ?_); rintro e w' ⟨rfl, ⟨nd, rfl⟩⟩; (try first | exact ⟨rfl, _, World.drewN_drewN _ _ _⟩ | exact ⟨rfl, _, Eq.trans (World.drewN_drewN _ _ _) (congrArg (World.drewN _) (Nat.add_assoc _ _ _))⟩)))
             repeat (go_quiet (first | (go_at_call 88; (with_reducible refine (money_digit.calls (bt x0_5 (ji18)) false _ A22.out).mono ?_); rintro e w' ⟨rfl, ⟨nd, rfl⟩⟩; (try first | exact ⟨rfl, _, World.drewN_drewN _ _ _⟩ | exact ⟨rfl, _, Eq.trans (World.drewN_drewN _ _ _) (congrArg (World.drewN _) (Nat.add_assoc _ _ _))⟩))); try go_wp2_with (first | (go_at_call 88; (with_reducible refine (money_digit.calls (bt x0_5 (ji18)) false _ A22.out).mono ?_); rintro e w' ⟨rfl, ⟨nd, rfl⟩⟩; (try first | exact ⟨rfl, _, World.drewN_drewN _ _ _⟩ | exact ⟨rfl, _, Eq.trans (World.drewN_drewN _ _ _) (congrArg (World.drewN _) (Nat.add_assoc _ _ _))⟩))))
             go_ret2
             exact ⟨by first | rfl | (simp [errW_none, errW_some] <;> rfl) | (simp only [← hji18]; first | rfl | (simp [errW_none, errW_some] <;> rfl)) | (simp [*, errW_none, errW_some] <;> rfl), by repeat (first | (with_reducible first | exact HB.out | apply below_alloc | apply pw_below_drewN | apply below_drew1) | exact HB.out)⟩
           ·rw [if_neg c20] at H
            exact absurd H (by simp)
          ·rw [if_neg c19] at H
           exact absurd H (by simp)
         ·replace c17 := Bool.eq_false_iff.mpr c17
          subst c17
          have H1 : (money_Parse.j3 kj9 x0_5 x4_5 0) = some (r1, r2) := by rw [if_neg (show ¬ (false = true) by decide)] at H; exact H
          clear H
          have H := H1
          clear H1
          have H' := Aside0.mk H
          clear H
          go_wp2
          repeat (go_quiet (fail); try go_wp2)
          go_meet
          case rel => exact ⟨_, (x0_5), (0), (by first | rfl | (simp; done) | (simp [*]; done)), (by first | rfl | (simp; done) | (simp [*]; done)), H', ⟨by have := HJ1.out; have := HJ5.out; have := HJ9.out; first | omega | exact Nat.le_refl _⟩, ⟨by repeat (first | (with_reducible first | exact HB.out | apply below_alloc | apply pw_below_drewN | apply below_drew1) | exact HB.out)⟩⟩
        case rest =>
         clear HC16
         try clear c1; try clear p1; try clear q1; try clear hx1; try clear c2; try clear p2; try clear q2; try clear hx2; try clear c3; try clear c3b0; try clear c3b1; try clear p3; try clear q3; try clear hx3; try clear c4; try clear c4b0; try clear c4b1; try clear p5; try clear q5; try clear hx5; try clear qi5; try clear p6; try clear c7; try clear c8; try clear c8b0; try clear c8b1; try clear c9; try clear c9b0; try clear c9b1; try clear c11; try clear c11b0; try clear c13; try clear c13b0; try clear c14; try clear c14b0; try clear p15; try clear q15; try clear hx15; try clear c17; try clear c19; try clear c19b0; try clear c20; try clear c20b0; try clear p21; try clear q21; try clear hx21; try clear c23; try clear c25; try clear c25b0; try clear c26; try clear c26b0; try clear p27; try clear q27; try clear hx27; try clear c29; try clear p30; try clear q30; try clear hx30; try clear p31; try clear q31; try clear hx31; try clear c33; try clear c33b0; try clear c33b1; try clear c34; try clear c34b0; try clear c34b1; try clear p1; try clear p15; try clear p2; try clear p21; try clear p27; try clear p30; try clear p31; try clear p5; try clear p6; try clear q1; try clear q15; try clear q21; try clear q27; try clear q30; try clear q31; try clear q5
         obtain ⟨kq, x0_15, x5_15, rfl, rfl, HA, HJ15, HB⟩ := hcut
         cases kq with
         | zero => exact absurd HA.out (by simp [money_Parse.j3])
         | succ kj15 =>
          have H := HA.out
          clear HA
          simp only [money_Parse.j3] at H
          by_cases c35 : (x0_15.size : Int) > 12
          ·rw [if_pos c35] at H
           have c35b0 : decide (12 < (x0_15.size : Int)) = true := decide_eq_true c35
           have c35b1 : decide (12 < x0_15.size) = true := decide_eq_true (by omega)
           clear c35
           by_cases c36 : 0 ≤ 12
           ·rw [if_pos c36] at H
            have c36b0 := eq_true c36
            have c36b1 : decide (0 ≤ 12) = true := decide_eq_true c36
            clear c36
            by_cases c37 : 12 ≤ (x0_15.size : Int)
            ·rw [if_pos c37] at H
             have c37b0 := eq_true c37
             have c37b1 : decide (12 ≤ (x0_15.size : Int)) = true := decide_eq_true c37
             clear c37
             replace H := Option.bind_eq_some_iff.mp H
             obtain ⟨⟨t283, t284⟩, A380, H⟩ := H
             replace H : (if t284 = true then ((money_digits.f kj15 x0_15).bind fun t285 => (if t285 = true then (some (0, 10)) else (some (0, 5)))) else (some (0, 5))) = some (r1, r2) := H
             have A38 := Aside0.mk A380
             clear A380
             by_cases c39 : t284 = true
             ·subst c39
              have H1 : ((money_digits.f kj15 x0_15).bind fun t285 => (if t285 = true then (some (0, 10)) else (some (0, 5)))) = some (r1, r2) := by rw [if_pos rfl] at H; exact H
              clear H
              have H := H1
              clear H1
              replace H := Option.bind_eq_some_iff.mp H
              obtain ⟨t285, A400, H⟩ := H
              replace H : (if t285 = true then (some (0, 10)) else (some (0, 5))) = some (r1, r2) := H
              have A40 := Aside0.mk A400
              clear A400
              by_cases c41 : t285 = true
              ·subst c41
               have H1 : (some (0, 10)) = some (r1, r2) := by rw [if_pos rfl] at H; exact H
               clear H
               have H := H1
               clear H1
               simp only [Option.some.injEq, Prod.mk.injEq] at H
               obtain ⟨rfl, rfl⟩ := H
               go_wp2_with (first | (go_at_call 89; (with_reducible refine (money_whole.calls kj15 (x0_15.extract 0 12) t283 true _ A38.out).mono ?_); rintro e w' ⟨rfl, ⟨nd, rfl⟩⟩; (try first | exact ⟨rfl, _, World.drewN_drewN _ _ _⟩ | exact ⟨rfl, _, Eq.trans (World.drewN_drewN _ _ _) (congrArg (World.drewN _) (Nat.add_assoc _ _ _))⟩)) | (go_at_call 90; (with_reducible refine (money_digits.calls kj15 x0_15 true _ A40.out).mono ?_); rintro e w' ⟨rfl, ⟨nd, rfl⟩⟩; (try first | exact ⟨rfl, _, World.drewN_drewN _ _ _⟩ | exact ⟨rfl, _, Eq.trans (World.drewN_drewN _ _ _) (congrArg (World.drewN _) (Nat.add_assoc _ _ _))⟩)))
               repeat (go_quiet (first | (go_at_call 89; (with_reducible refine (money_whole.calls kj15 (x0_15.extract 0 12) t283 true _ A38.out).mono ?_); rintro e w' ⟨rfl, ⟨nd, rfl⟩⟩; (try first | exact ⟨rfl, _, World.drewN_drewN _ _ _⟩ | exact ⟨rfl, _, Eq.trans (World.drewN_drewN _ _ _) (congrArg (World.drewN _) (Nat.add_assoc _ _ _))⟩)) | (go_at_call 90; (with_reducible refine (money_digits.calls kj15 x0_15 true _ A40.out).mono ?_); rintro e w' ⟨rfl, ⟨nd, rfl⟩⟩; (try first | exact ⟨rfl, _, World.drewN_drewN _ _ _⟩ | exact ⟨rfl, _, Eq.trans (World.drewN_drewN _ _ _) (congrArg (World.drewN _) (Nat.add_assoc _ _ _))⟩))); try go_wp2_with (first | (go_at_call 89; (with_reducible refine (money_whole.calls kj15 (x0_15.extract 0 12) t283 true _ A38.out).mono ?_); rintro e w' ⟨rfl, ⟨nd, rfl⟩⟩; (try first | exact ⟨rfl, _, World.drewN_drewN _ _ _⟩ | exact ⟨rfl, _, Eq.trans (World.drewN_drewN _ _ _) (congrArg (World.drewN _) (Nat.add_assoc _ _ _))⟩)) | (go_at_call 90; (with_reducible refine (money_digits.calls kj15 x0_15 true _ A40.out).mono ?_); rintro e w' ⟨rfl, ⟨nd, rfl⟩⟩; (try first | exact ⟨rfl, _, World.drewN_drewN _ _ _⟩ | exact ⟨rfl, _, Eq.trans (World.drewN_drewN _ _ _) (congrArg (World.drewN _) (Nat.add_assoc _ _ _))⟩))))
               go_ret2
               exact ⟨by first | rfl | (simp [errW_none, errW_some] <;> rfl) | (simp [*, errW_none, errW_some] <;> rfl), by repeat (first | (with_reducible first | exact HB.out | apply below_alloc | apply pw_below_drewN | apply below_drew1) | exact HB.out)⟩
              ·replace c41 := Bool.eq_false_iff.mpr c41
               subst c41
               have H1 : (some (0, 5)) = some (r1, r2) := by rw [if_neg (show ¬ (false = true) by decide)] at H; exact H
               clear H
               have H := H1
               clear H1
               simp only [Option.some.injEq, Prod.mk.injEq] at H
               obtain ⟨rfl, rfl⟩ := H
               go_wp2_with (first | (go_at_call 89; (with_reducible refine (money_whole.calls kj15 (x0_15.extract 0 12) t283 true _ A38.out).mono ?_); rintro e w' ⟨rfl, ⟨nd, rfl⟩⟩; (try first | exact ⟨rfl, _, World.drewN_drewN _ _ _⟩ | exact ⟨rfl, _, Eq.trans (World.drewN_drewN _ _ _) (congrArg (World.drewN _) (Nat.add_assoc _ _ _))⟩)) | (go_at_call 90; (with_reducible refine (money_digits.calls kj15 x0_15 false _ A40.out).mono ?_); rintro e w' ⟨rfl, ⟨nd, rfl⟩⟩; (try first | exact ⟨rfl, _, World.drewN_drewN _ _ _⟩ | exact ⟨rfl, _, Eq.trans (World.drewN_drewN _ _ _) (congrArg (World.drewN _) (Nat.add_assoc _ _ _))⟩)))
               repeat (go_quiet (first | (go_at_call 89; (with_reducible refine (money_whole.calls kj15 (x0_15.extract 0 12) t283 true _ A38.out).mono ?_); rintro e w' ⟨rfl, ⟨nd, rfl⟩⟩; (try first | exact ⟨rfl, _, World.drewN_drewN _ _ _⟩ | exact ⟨rfl, _, Eq.trans (World.drewN_drewN _ _ _) (congrArg (World.drewN _) (Nat.add_assoc _ _ _))⟩)) | (go_at_call 90; (with_reducible refine (money_digits.calls kj15 x0_15 false _ A40.out).mono ?_); rintro e w' ⟨rfl, ⟨nd, rfl⟩⟩; (try first | exact ⟨rfl, _, World.drewN_drewN _ _ _⟩ | exact ⟨rfl, _, Eq.trans (World.drewN_drewN _ _ _) (congrArg (World.drewN _) (Nat.add_assoc _ _ _))⟩))); try go_wp2_with (first | (go_at_call 89; (with_reducible refine (money_whole.calls kj15 (x0_15.extract 0 12) t283 true _ A38.out).mono ?_); rintro e w' ⟨rfl, ⟨nd, rfl⟩⟩; (try first | exact ⟨rfl, _, World.drewN_drewN _ _ _⟩ | exact ⟨rfl, _, Eq.trans (World.drewN_drewN _ _ _) (congrArg (World.drewN _) (Nat.add_assoc _ _ _))⟩)) | (go_at_call 90; (with_reducible refine (money_digits.calls kj15 x0_15 false _ A40.out).mono ?_); rintro e w' ⟨rfl, ⟨nd, rfl⟩⟩; (try first | exact ⟨rfl, _, World.drewN_drewN _ _ _⟩ | exact ⟨rfl, _, Eq.trans (World.drewN_drewN _ _ _) (congrArg (World.drewN _) (Nat.add_assoc _ _ _))⟩))))
               go_ret2
               exact ⟨by first | rfl | (simp [errW_none, errW_some] <;> rfl) | (simp [*, errW_none, errW_some] <;> rfl), by repeat (first | (with_reducible first | exact HB.out | apply below_alloc | apply pw_below_drewN | apply below_drew1) | exact HB.out)⟩
             ·replace c39 := Bool.eq_false_iff.mpr c39
              subst c39
              have H1 : (some (0, 5)) = some (r1, r2) := by rw [if_neg (show ¬ (false = true) by decide)] at H; exact H
              clear H
              have H := H1
              clear H1
              simp only [Option.some.injEq, Prod.mk.injEq] at H
              obtain ⟨rfl, rfl⟩ := H
              go_wp2_with (first | (go_at_call 89; (with_reducible refine (money_whole.calls kj15 (x0_15.extract 0 12) t283 false _ A38.out).mono ?_); rintro e w' ⟨rfl, ⟨nd, rfl⟩⟩; (try first | exact ⟨rfl, _, World.drewN_drewN _ _ _⟩ | exact ⟨rfl, _, Eq.trans (World.drewN_drewN _ _ _) (congrArg (World.drewN _) (Nat.add_assoc _ _ _))⟩)))
              repeat (go_quiet (first | (go_at_call 89; (with_reducible refine (money_whole.calls kj15 (x0_15.extract 0 12) t283 false _ A38.out).mono ?_); rintro e w' ⟨rfl, ⟨nd, rfl⟩⟩; (try first | exact ⟨rfl, _, World.drewN_drewN _ _ _⟩ | exact ⟨rfl, _, Eq.trans (World.drewN_drewN _ _ _) (congrArg (World.drewN _) (Nat.add_assoc _ _ _))⟩))); try go_wp2_with (first | (go_at_call 89; (with_reducible refine (money_whole.calls kj15 (x0_15.extract 0 12) t283 false _ A38.out).mono ?_); rintro e w' ⟨rfl, ⟨nd, rfl⟩⟩; (try first | exact ⟨rfl, _, World.drewN_drewN _ _ _⟩ | exact ⟨rfl, _, Eq.trans (World.drewN_drewN _ _ _) (congrArg (World.drewN _) (Nat.add_assoc _ _ _))⟩))))
              go_ret2
              exact ⟨by first | rfl | (simp [errW_none, errW_some] <;> rfl) | (simp [*, errW_none, errW_some] <;> rfl), by repeat (first | (with_reducible first | exact HB.out | apply below_alloc | apply pw_below_drewN | apply below_drew1) | exact HB.out)⟩
            ·rw [if_neg c37] at H
             exact absurd H (by simp)
           ·rw [if_neg c36] at H
            exact absurd H (by simp)
          ·rw [if_neg c35] at H
           have c35b0 : decide (12 < (x0_15.size : Int)) = false := decide_eq_false c35
           have c35b1 : decide (12 < x0_15.size) = false := decide_eq_false (by omega)
           clear c35
           replace H := Option.bind_eq_some_iff.mp H
           obtain ⟨⟨t286, t287⟩, A420, H⟩ := H
           replace H : (if t287 = true then (if x4_5 < 0 then (if t286 = 0 then (if x5_15 = 0 then (some (0, 5)) else ((money_check.f kj15 (wrap64 (x4_5 * (wrap64 ((wrap64 (t286 * 100)) + x5_15))))).bind fun bt288 => (some (bt288.1, bt288.2)))) else ((money_check.f kj15 (wrap64 (x4_5 * (wrap64 ((wrap64 (t286 * 100)) + x5_15))))).bind fun bt290 => (some (bt290.1, bt290.2)))) else ((money_check.f kj15 (wrap64 (x4_5 * (wrap64 ((wrap64 (t286 * 100)) + x5_15))))).bind fun bt292 => (some (bt292.1, bt292.2)))) else (some (0, 5))) = some (r1, r2) := H
           have A42 := Aside0.mk A420
           clear A420
           by_cases c43 : t287 = true
           ·subst c43
            have H1 : (if x4_5 < 0 then (if t286 = 0 then (if x5_15 = 0 then (some (0, 5)) else ((money_check.f kj15 (wrap64 (x4_5 * (wrap64 ((wrap64 (t286 * 100)) + x5_15))))).bind fun bt288 => (some (bt288.1, bt288.2)))) else ((money_check.f kj15 (wrap64 (x4_5 * (wrap64 ((wrap64 (t286 * 100)) + x5_15))))).bind fun bt290 => (some (bt290.1, bt290.2)))) else ((money_check.f kj15 (wrap64 (x4_5 * (wrap64 ((wrap64 (t286 * 100)) + x5_15))))).bind fun bt292 => (some (bt292.1, bt292.2)))) = some (r1, r2) := by rw [if_pos rfl] at H; exact H
            clear H
            have H := H1
            clear H1
            by_cases c44 : x4_5 < 0
            ·rw [if_pos c44] at H
             have c44b0 : decide (x4_5 < 0) = true := decide_eq_true c44
             clear c44
             by_cases c45 : t286 = 0
             ·rw [if_pos c45] at H
              have c45b0 : (t286 == 0) = true := beq_iff_eq.mpr c45
              have c45b1 : (t286 != 0) = false := bne_eq_false_iff_eq.mpr c45
              clear c45
              by_cases c46 : x5_15 = 0
              ·rw [if_pos c46] at H
               have c46b0 : (x5_15 == 0) = true := beq_iff_eq.mpr c46
               have c46b1 : (x5_15 != 0) = false := bne_eq_false_iff_eq.mpr c46
               clear c46
               simp only [Option.some.injEq, Prod.mk.injEq] at H
               obtain ⟨rfl, rfl⟩ := H
               go_wp2_with (first | (go_at_call 89; (with_reducible refine (money_whole.calls kj15 x0_15 t286 true _ A42.out).mono ?_); rintro e w' ⟨rfl, ⟨nd, rfl⟩⟩; (try first | exact ⟨rfl, _, World.drewN_drewN _ _ _⟩ | exact ⟨rfl, _, Eq.trans (World.drewN_drewN _ _ _) (congrArg (World.drewN _) (Nat.add_assoc _ _ _))⟩)))
               repeat (go_quiet (first | (go_at_call 89; (with_reducible refine (money_whole.calls kj15 x0_15 t286 true _ A42.out).mono ?_); rintro e w' ⟨rfl, ⟨nd, rfl⟩⟩; (try first | exact ⟨rfl, _, World.drewN_drewN _ _ _⟩ | exact ⟨rfl, _, Eq.trans (World.drewN_drewN _ _ _) (congrArg (World.drewN _) (Nat.add_assoc _ _ _))⟩))); try go_wp2_with (first | (go_at_call 89; (with_reducible refine (money_whole.calls kj15 x0_15 t286 true _ A42.out).mono ?_); rintro e w' ⟨rfl, ⟨nd, rfl⟩⟩; (try first | exact ⟨rfl, _, World.drewN_drewN _ _ _⟩ | exact ⟨rfl, _, Eq.trans (World.drewN_drewN _ _ _) (congrArg (World.drewN _) (Nat.add_assoc _ _ _))⟩))))
               go_ret2
               exact ⟨by first | rfl | (simp [errW_none, errW_some] <;> rfl) | (simp [*, errW_none, errW_some] <;> rfl), by repeat (first | (with_reducible first | exact HB.out | apply below_alloc | apply pw_below_drewN | apply below_drew1) | exact HB.out)⟩
              ·rw [if_neg c46] at H
               have c46b0 : (x5_15 == 0) = false := beq_eq_false_iff_ne.mpr c46
               have c46b1 : (x5_15 != 0) = true := bne_iff_ne.mpr c46
               replace H := Option.bind_eq_some_iff.mp H
               obtain ⟨⟨t288, t289⟩, A470, H⟩ := H
               replace H : (some (t288, t289)) = some (r1, r2) := H
               have A47 := Aside0.mk A470
               clear A470
               simp only [Option.some.injEq, Prod.mk.injEq] at H
               obtain ⟨rfl, rfl⟩ := H
               go_wp2_with (first | (go_at_call 89; (with_reducible refine (money_whole.calls kj15 x0_15 t286 true _ A42.out).mono ?_); rintro e w' ⟨rfl, ⟨nd, rfl⟩⟩; (try first | exact ⟨rfl, _, World.drewN_drewN _ _ _⟩ | exact ⟨rfl, _, Eq.trans (World.drewN_drewN _ _ _) (congrArg (World.drewN _) (Nat.add_assoc _ _ _))⟩)) | (go_at_call 77; (with_reducible refine (money_check.calls kj15 (wrap64 (x4_5 * (wrap64 ((wrap64 (t286 * 100)) + x5_15)))) t288 t289 _ A47.out).mono ?_); rintro e w48 ⟨rfl, hb⟩; have n0_ := Aside0.mk (below_step (by repeat (first | (with_reducible first | exact HB.out | apply below_alloc | apply pw_below_drewN | apply below_drew1) | exact HB.out)) hb); clear HB; have HB := n0_; clear n0_; (try clear hb); (try clear hb2); (try clear hk); (try clear hi)))
               repeat (go_quiet (first | (go_at_call 89; (with_reducible refine (money_whole.calls kj15 x0_15 t286 true _ A42.out).mono ?_); rintro e w' ⟨rfl, ⟨nd, rfl⟩⟩; (try first | exact ⟨rfl, _, World.drewN_drewN _ _ _⟩ | exact ⟨rfl, _, Eq.trans (World.drewN_drewN _ _ _) (congrArg (World.drewN _) (Nat.add_assoc _ _ _))⟩)) | (go_at_call 77; (with_reducible refine (money_check.calls kj15 (wrap64 (x4_5 * (wrap64 ((wrap64 (t286 * 100)) + x5_15)))) t288 t289 _ A47.out).mono ?_); rintro e w48 ⟨rfl, hb⟩; have n0_ := Aside0.mk (below_step (by repeat (first | (with_reducible first | exact HB.out | apply below_alloc | apply pw_below_drewN | apply below_drew1) | exact HB.out)) hb); clear HB; have HB := n0_; clear n0_; (try clear hb); (try clear hb2); (try clear hk); (try clear hi))); try go_wp2_with (first | (go_at_call 89; (with_reducible refine (money_whole.calls kj15 x0_15 t286 true _ A42.out).mono ?_); rintro e w' ⟨rfl, ⟨nd, rfl⟩⟩; (try first | exact ⟨rfl, _, World.drewN_drewN _ _ _⟩ | exact ⟨rfl, _, Eq.trans (World.drewN_drewN _ _ _) (congrArg (World.drewN _) (Nat.add_assoc _ _ _))⟩)) | (go_at_call 77; (with_reducible refine (money_check.calls kj15 (wrap64 (x4_5 * (wrap64 ((wrap64 (t286 * 100)) + x5_15)))) t288 t289 _ A47.out).mono ?_); rintro e w48 ⟨rfl, hb⟩; have n0_ := Aside0.mk (below_step (by repeat (first | (with_reducible first | exact HB.out | apply below_alloc | apply pw_below_drewN | apply below_drew1) | exact HB.out)) hb); clear HB; have HB := n0_; clear n0_; (try clear hb); (try clear hb2); (try clear hk); (try clear hi))))
               go_ret2
               exact ⟨by first | rfl | (simp [errW_none, errW_some] <;> rfl) | (simp [*, errW_none, errW_some] <;> rfl), by repeat (first | (with_reducible first | exact HB.out | apply below_alloc | apply pw_below_drewN | apply below_drew1) | exact HB.out)⟩
             ·rw [if_neg c45] at H
              have c45b0 : (t286 == 0) = false := beq_eq_false_iff_ne.mpr c45
              have c45b1 : (t286 != 0) = true := bne_iff_ne.mpr c45
              replace H := Option.bind_eq_some_iff.mp H
              obtain ⟨⟨t290, t291⟩, A490, H⟩ := H
              replace H : (some (t290, t291)) = some (r1, r2) := H
              have A49 := Aside0.mk A490
              clear A490
              simp only [Option.some.injEq, Prod.mk.injEq] at H
              obtain ⟨rfl, rfl⟩ := H
              go_wp2_with (first | (go_at_call 89; (with_reducible refine (money_whole.calls kj15 x0_15 t286 true _ A42.out).mono ?_); rintro e w' ⟨rfl, ⟨nd, rfl⟩⟩; (try first | exact ⟨rfl, _, World.drewN_drewN _ _ _⟩ | exact ⟨rfl, _, Eq.trans (World.drewN_drewN _ _ _) (congrArg (World.drewN _) (Nat.add_assoc _ _ _))⟩)) | (go_at_call 77; (with_reducible refine (money_check.calls kj15 (wrap64 (x4_5 * (wrap64 ((wrap64 (t286 * 100)) + x5_15)))) t290 t291 _ A49.out).mono ?_); rintro e w50 ⟨rfl, hb⟩; have n0_ := Aside0.mk (below_step (by repeat (first | (with_reducible first | exact HB.out | apply below_alloc | apply pw_below_drewN | apply below_drew1) | exact HB.out)) hb); clear HB; have HB := n0_; clear n0_; (try clear hb); (try clear hb2); (try clear hk); (try clear hi)))
              repeat (go_quiet (first | (go_at_call 89; (with_reducible refine (money_whole.calls kj15 x0_15 t286 true _ A42.out).mono ?_); rintro e w' ⟨rfl, ⟨nd, rfl⟩⟩; (try first | exact ⟨rfl, _, World.drewN_drewN _ _ _⟩ | exact ⟨rfl, _, Eq.trans (World.drewN_drewN _ _ _) (congrArg (World.drewN _) (Nat.add_assoc _ _ _))⟩)) | (go_at_call 77; (with_reducible refine (money_check.calls kj15 (wrap64 (x4_5 * (wrap64 ((wrap64 (t286 * 100)) + x5_15)))) t290 t291 _ A49.out).mono ?_); rintro e w50 ⟨rfl, hb⟩; have n0_ := Aside0.mk (below_step (by repeat (first | (with_reducible first | exact HB.out | apply below_alloc | apply pw_below_drewN | apply below_drew1) | exact HB.out)) hb); clear HB; have HB := n0_; clear n0_; (try clear hb); (try clear hb2); (try clear hk); (try clear hi))); try go_wp2_with (first | (go_at_call 89; (with_reducible refine (money_whole.calls kj15 x0_15 t286 true _ A42.out).mono ?_); rintro e w' ⟨rfl, ⟨nd, rfl⟩⟩; (try first | exact ⟨rfl, _, World.drewN_drewN _ _ _⟩ | exact ⟨rfl, _, Eq.trans (World.drewN_drewN _ _ _) (congrArg (World.drewN _) (Nat.add_assoc _ _ _))⟩)) | (go_at_call 77; (with_reducible refine (money_check.calls kj15 (wrap64 (x4_5 * (wrap64 ((wrap64 (t286 * 100)) + x5_15)))) t290 t291 _ A49.out).mono ?_); rintro e w50 ⟨rfl, hb⟩; have n0_ := Aside0.mk (below_step (by repeat (first | (with_reducible first | exact HB.out | apply below_alloc | apply pw_below_drewN | apply below_drew1) | exact HB.out)) hb); clear HB; have HB := n0_; clear n0_; (try clear hb); (try clear hb2); (try clear hk); (try clear hi))))
              go_ret2
              exact ⟨by first | rfl | (simp [errW_none, errW_some] <;> rfl) | (simp [*, errW_none, errW_some] <;> rfl), by repeat (first | (with_reducible first | exact HB.out | apply below_alloc | apply pw_below_drewN | apply below_drew1) | exact HB.out)⟩
            ·rw [if_neg c44] at H
             have c44b0 : decide (x4_5 < 0) = false := decide_eq_false c44
             clear c44
             replace H := Option.bind_eq_some_iff.mp H
             obtain ⟨⟨t292, t293⟩, A510, H⟩ := H
             replace H : (some (t292, t293)) = some (r1, r2) := H
             have A51 := Aside0.mk A510
             clear A510
             simp only [Option.some.injEq, Prod.mk.injEq] at H
             obtain ⟨rfl, rfl⟩ := H
             go_wp2_with (first | (go_at_call 89; (with_reducible refine (money_whole.calls kj15 x0_15 t286 true _ A42.out).mono ?_); rintro e w' ⟨rfl, ⟨nd, rfl⟩⟩; (try first | exact ⟨rfl, _, World.drewN_drewN _ _ _⟩ | exact ⟨rfl, _, Eq.trans (World.drewN_drewN _ _ _) (congrArg (World.drewN _) (Nat.add_assoc _ _ _))⟩)) | (go_at_call 77; (with_reducible refine (money_check.calls kj15 (wrap64 (x4_5 * (wrap64 ((wrap64 (t286 * 100)) + x5_15)))) t292 t293 _ A51.out).mono ?_); rintro e w52 ⟨rfl, hb⟩; have n0_ := Aside0.mk (below_step (by repeat (first | (with_reducible first | exact HB.out | apply below_alloc | apply pw_below_drewN | apply below_drew1) | exact HB.out)) hb); clear HB; have HB := n0_; clear n0_; (try clear hb); (try clear hb2); (try clear hk); (try clear hi)))
             repeat (go_quiet (first | (go_at_call 89; (with_reducible refine (money_whole.calls kj15 x0_15 t286 true _ A42.out).mono ?_); rintro e w' ⟨rfl, ⟨nd, rfl⟩⟩; (try first | exact ⟨rfl, _, World.drewN_drewN _ _ _⟩ | exact ⟨rfl, _, Eq.trans (World.drewN_drewN _ _ _) (congrArg (World.drewN _) (Nat.add_assoc _ _ _))⟩)) | (go_at_call 77; (with_reducible refine (money_check.calls kj15 (wrap64 (x4_5 * (wrap64 ((wrap64 (t286 * 100)) + x5_15)))) t292 t293 _ A51.out).mono ?_); rintro e w52 ⟨rfl, hb⟩; have n0_ := Aside0.mk (below_step (by repeat (first | (with_reducible first | exact HB.out | apply below_alloc | apply pw_below_drewN | apply below_drew1) | exact HB.out)) hb); clear HB; have HB := n0_; clear n0_; (try clear hb); (try clear hb2); (try clear hk); (try clear hi))); try go_wp2_with (first | (go_at_call 89; (with_reducible refine (money_whole.calls kj15 x0_15 t286 true _ A42.out).mono ?_); rintro e w' ⟨rfl, ⟨nd, rfl⟩⟩; (try first | exact ⟨rfl, _, World.drewN_drewN _ _ _⟩ | exact ⟨rfl, _, Eq.trans (World.drewN_drewN _ _ _) (congrArg (World.drewN _) (Nat.add_assoc _ _ _))⟩)) | (go_at_call 77; (with_reducible refine (money_check.calls kj15 (wrap64 (x4_5 * (wrap64 ((wrap64 (t286 * 100)) + x5_15)))) t292 t293 _ A51.out).mono ?_); rintro e w52 ⟨rfl, hb⟩; have n0_ := Aside0.mk (below_step (by repeat (first | (with_reducible first | exact HB.out | apply below_alloc | apply pw_below_drewN | apply below_drew1) | exact HB.out)) hb); clear HB; have HB := n0_; clear n0_; (try clear hb); (try clear hb2); (try clear hk); (try clear hi))))
             go_ret2
             exact ⟨by first | rfl | (simp [errW_none, errW_some] <;> rfl) | (simp [*, errW_none, errW_some] <;> rfl), by repeat (first | (with_reducible first | exact HB.out | apply below_alloc | apply pw_below_drewN | apply below_drew1) | exact HB.out)⟩
           ·replace c43 := Bool.eq_false_iff.mpr c43
            subst c43
            have H1 : (some (0, 5)) = some (r1, r2) := by rw [if_neg (show ¬ (false = true) by decide)] at H; exact H
            clear H
            have H := H1
            clear H1
            simp only [Option.some.injEq, Prod.mk.injEq] at H
            obtain ⟨rfl, rfl⟩ := H
            go_wp2_with (first | (go_at_call 89; (with_reducible refine (money_whole.calls kj15 x0_15 t286 false _ A42.out).mono ?_); rintro e w' ⟨rfl, ⟨nd, rfl⟩⟩; (try first | exact ⟨rfl, _, World.drewN_drewN _ _ _⟩ | exact ⟨rfl, _, Eq.trans (World.drewN_drewN _ _ _) (congrArg (World.drewN _) (Nat.add_assoc _ _ _))⟩)))
            repeat (go_quiet (first | (go_at_call 89; (with_reducible refine (money_whole.calls kj15 x0_15 t286 false _ A42.out).mono ?_); rintro e w' ⟨rfl, ⟨nd, rfl⟩⟩; (try first | exact ⟨rfl, _, World.drewN_drewN _ _ _⟩ | exact ⟨rfl, _, Eq.trans (World.drewN_drewN _ _ _) (congrArg (World.drewN _) (Nat.add_assoc _ _ _))⟩))); try go_wp2_with (first | (go_at_call 89; (with_reducible refine (money_whole.calls kj15 x0_15 t286 false _ A42.out).mono ?_); rintro e w' ⟨rfl, ⟨nd, rfl⟩⟩; (try first | exact ⟨rfl, _, World.drewN_drewN _ _ _⟩ | exact ⟨rfl, _, Eq.trans (World.drewN_drewN _ _ _) (congrArg (World.drewN _) (Nat.add_assoc _ _ _))⟩))))
            go_ret2
            exact ⟨by first | rfl | (simp [errW_none, errW_some] <;> rfl) | (simp [*, errW_none, errW_some] <;> rfl), by repeat (first | (with_reducible first | exact HB.out | apply below_alloc | apply pw_below_drewN | apply below_drew1) | exact HB.out)⟩

end Go.Proofs.YtmocphafkimdpaaDoor.P
