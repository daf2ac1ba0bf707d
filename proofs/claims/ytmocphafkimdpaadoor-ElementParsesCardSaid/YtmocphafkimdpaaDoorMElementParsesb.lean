/- A part of the proof of ElementParses's card: 'ElementParses' answers true for every input (the conditions: those of the given statement alone). Merged by a program (wip/merge.py) out of: Pf8. -/
import Derived.Test.YtmocphafkimdpaaDoorBElementa
import Derived.Test.YtmocphafkimdpaaDoorBElementb
import Derived.Test.YtmocphafkimdpaaDoorBElementh
import Derived.Test.YtmocphafkimdpaaDoorBElemente
import Derived.Test.YtmocphafkimdpaaDoorBElementc

-- written by a program (a patched copy of the kit's print: wip/mkprint.py); Lean checks it
namespace Go.Proofs.YtmocphafkimdpaaDoor.P
open Go.RowKit Go.Proofs.YtmocphafkimdpaaDoorW.PrintWords Go.Proofs.YtmocphafkimdpaaDoorW.PrintLast Go.Proofs.YtmocphafkimdpaaDoorW.PrintMore
attribute [local go_sem] max2_int min2_int max_two min_two max_three min_three max_four min_four   -- for this text's walks alone
set_option linter.unusedVariables false
set_option linter.unusedSimpArgs false

attribute [local go_sem high] eqA48
/-! ### stipendlaw11_ElementParses: function 8 -/
mutual
def stipendlaw11_ElementParses.l0 : Nat → List ByteArray → List ByteArray → Int → Int → Option (Bool)
 | 0, _, _, _, _ => none
 | k + 1, x0, x18, x19, x20 => if x20 < x19 then (if 0 ≤ x20 then (if x20 < (x18.length : Int) then (if ((rdOf ByteArray.empty x18 x20).size : Int) > 100 then (some true) else (stipendlaw11_ElementParses.l0 k x0 x18 x19 (wrap64 (x20 + 1)))) else (none)) else (none)) else ((element_Parse.f k x0).bind fun bt413 => (if (x0.length : Int) < 2 then (stipendlaw11_ElementParses.j1 k x0 bt413.2.2.2 (bt413.1.toList == ([] : List UInt8) && (bt413.2.1 == 0 && (bt413.2.2.1 == 0))) true bt413.1 bt413.2.1 bt413.2.2.1) else (if (x0.length : Int) > 3 then (stipendlaw11_ElementParses.j1 k x0 bt413.2.2.2 (bt413.1.toList == ([] : List UInt8) && (bt413.2.1 == 0 && (bt413.2.2.1 == 0))) true bt413.1 bt413.2.1 bt413.2.2.1) else (if 0 < (x0.length : Int) then ((word_Name.f k (rdOf ByteArray.empty x0 0)).bind fun t419 => (stipendlaw11_ElementParses.j1 k x0 bt413.2.2.2 (bt413.1.toList == ([] : List UInt8) && (bt413.2.1 == 0 && (bt413.2.2.1 == 0))) (!t419) bt413.1 bt413.2.1 bt413.2.2.1)) else (none)))))
def stipendlaw11_ElementParses.j1 : Nat → List ByteArray → Int → Bool → Bool → ByteArray → Int → Int → Option (Bool)
 | 0, _, _, _, _, _, _, _ => none
 | k + 1, x0, x6, x7, x50, x418000, x418001, x418002 => if x50 = true then (if x6 = 5 then (some x7) else (some false)) else (if 1 < (x0.length : Int) then ((money_Parse.f k (rdOf ByteArray.empty x0 1)).bind fun bt421 => (if bt421.2 = 0 then (if (x0.length : Int) = 3 then (if 2 < (x0.length : Int) then (if (rdOf ByteArray.empty x0 2).toList = ([] : List UInt8) then (stipendlaw11_ElementParses.j2 k x0 x6 x7 bt421.1 true x418000 x418001 x418002) else (if 0 < ((rdOf ByteArray.empty x0 2).size : Int) then (stipendlaw11_ElementParses.j2 k x0 x6 x7 bt421.1 ((bt (rdOf ByteArray.empty x0 2) 0) != 120) x418000 x418001 x418002) else (none))) else (none)) else (if x6 = 0 then (if 0 < (x0.length : Int) then (some (x418000.toList == ((rdOf ByteArray.empty x0 0).toList) && (x418001 == bt421.1 && (x418002 == 100)))) else (none)) else (some false))) else (if x6 = bt421.2 then (some x7) else (some false)))) else (none))
def stipendlaw11_ElementParses.j2 : Nat → List ByteArray → Int → Bool → Int → Bool → ByteArray → Int → Int → Option (Bool)
 | 0, _, _, _, _, _, _, _, _ => none
 | k + 1, x0, x6, x7, x8, x84, x418000, x418001, x418002 => if x84 = true then (if x6 = 5 then (some x7) else (some false)) else (if 2 < (x0.length : Int) then (if 1 ≤ ((rdOf ByteArray.empty x0 2).size : Int) then ((money_Parse.f k ((rdOf ByteArray.empty x0 2).extract 1 (rdOf ByteArray.empty x0 2).size)).bind fun bt426 => (if bt426.2 = 0 then (if bt426.1 < 0 then (if x6 = 1 then (some x7) else (some false)) else (if bt426.1 > 100000 then (if x6 = 1 then (some x7) else (some false)) else (if x6 = 0 then (if 0 < (x0.length : Int) then (some (x418000.toList == ((rdOf ByteArray.empty x0 0).toList) && (x418001 == x8 && (x418002 == bt426.1)))) else (none)) else (some false)))) else (if x6 = bt426.2 then (some x7) else (some false)))) else (none)) else (none))
end
def stipendlaw11_ElementParses.f (k : Nat) (l0 : List ByteArray) : Option (Bool) := (stipendlaw11_worths.f).bind fun t411 => (if t411 = true then (if (l0.length : Int) > 20 then (some true) else (stipendlaw11_ElementParses.l0 k l0 l0 (l0.length : Int) 0)) else (some false))
theorem stipendlaw11_ElementParses.mono_l : ∀ k, (∀ y0 y1 y2 y3, LeO (stipendlaw11_ElementParses.l0 k y0 y1 y2 y3) (stipendlaw11_ElementParses.l0 (k + 1) y0 y1 y2 y3)) ∧ (∀ y0 y1 y2 y3 y4 y5 y6, LeO (stipendlaw11_ElementParses.j1 k y0 y1 y2 y3 y4 y5 y6) (stipendlaw11_ElementParses.j1 (k + 1) y0 y1 y2 y3 y4 y5 y6)) ∧ (∀ y0 y1 y2 y3 y4 y5 y6 y7, LeO (stipendlaw11_ElementParses.j2 k y0 y1 y2 y3 y4 y5 y6 y7) (stipendlaw11_ElementParses.j2 (k + 1) y0 y1 y2 y3 y4 y5 y6 y7))
 | 0 => ⟨fun _ _ _ _ r h => by simp [stipendlaw11_ElementParses.l0] at h, fun _ _ _ _ _ _ _ r h => by simp [stipendlaw11_ElementParses.j1] at h, fun _ _ _ _ _ _ _ _ r h => by simp [stipendlaw11_ElementParses.j2] at h⟩
 | k + 1 => by
  obtain ⟨ih0, ih1, ih2⟩ := stipendlaw11_ElementParses.mono_l k
  refine ⟨?_, ?_, ?_⟩
  ·intro y0 y1 y2 y3
   unfold stipendlaw11_ElementParses.l0
   repeat' first
   | (with_reducible exact ih0 _ _ _ _)
   | (with_reducible exact ih1 _ _ _ _ _ _ _)
   | (with_reducible exact ih2 _ _ _ _ _ _ _ _)
   | (with_reducible exact element_Parse.mono _ _)
   | (with_reducible exact money_Parse.mono _ _)
   | (with_reducible exact word_Name.mono _ _)
   | (with_reducible exact LeO.refl _)
   | (with_reducible exact LeO.none _)
   | (with_reducible refine LeO.ite ?_ ?_)
   | (with_reducible refine LeO.bind ?_ (fun _ => ?_))
   | exact ih0 _ _ _ _
   | exact ih1 _ _ _ _ _ _ _
   | exact ih2 _ _ _ _ _ _ _ _
   | exact element_Parse.mono _ _
   | exact money_Parse.mono _ _
   | exact word_Name.mono _ _
   | exact LeO.none _
   | refine LeO.ite ?_ ?_
   | refine LeO.bind ?_ (fun _ => ?_)
  ·intro y0 y1 y2 y3 y4 y5 y6
   unfold stipendlaw11_ElementParses.j1
   repeat' first
   | (with_reducible exact ih0 _ _ _ _)
   | (with_reducible exact ih1 _ _ _ _ _ _ _)
   | (with_reducible exact ih2 _ _ _ _ _ _ _ _)
   | (with_reducible exact element_Parse.mono _ _)
   | (with_reducible exact money_Parse.mono _ _)
   | (with_reducible exact word_Name.mono _ _)
   | (with_reducible exact LeO.refl _)
   | (with_reducible exact LeO.none _)
   | (with_reducible refine LeO.ite ?_ ?_)
   | (with_reducible refine LeO.bind ?_ (fun _ => ?_))
   | exact ih0 _ _ _ _
   | exact ih1 _ _ _ _ _ _ _
   | exact ih2 _ _ _ _ _ _ _ _
   | exact element_Parse.mono _ _
   | exact money_Parse.mono _ _
   | exact word_Name.mono _ _
   | exact LeO.none _
   | refine LeO.ite ?_ ?_
   | refine LeO.bind ?_ (fun _ => ?_)
  ·intro y0 y1 y2 y3 y4 y5 y6 y7
   unfold stipendlaw11_ElementParses.j2
   repeat' first
   | (with_reducible exact ih0 _ _ _ _)
   | (with_reducible exact ih1 _ _ _ _ _ _ _)
   | (with_reducible exact ih2 _ _ _ _ _ _ _ _)
   | (with_reducible exact element_Parse.mono _ _)
   | (with_reducible exact money_Parse.mono _ _)
   | (with_reducible exact word_Name.mono _ _)
   | (with_reducible exact LeO.refl _)
   | (with_reducible exact LeO.none _)
   | (with_reducible refine LeO.ite ?_ ?_)
   | (with_reducible refine LeO.bind ?_ (fun _ => ?_))
   | exact ih0 _ _ _ _
   | exact ih1 _ _ _ _ _ _ _
   | exact ih2 _ _ _ _ _ _ _ _
   | exact element_Parse.mono _ _
   | exact money_Parse.mono _ _
   | exact word_Name.mono _ _
   | exact LeO.none _
   | refine LeO.ite ?_ ?_
   | refine LeO.bind ?_ (fun _ => ?_)
theorem stipendlaw11_ElementParses.mono : ∀ a0 k, LeO (stipendlaw11_ElementParses.f k a0) (stipendlaw11_ElementParses.f (k + 1) a0) := by
 intro a0 k
 obtain ⟨ih0, ih1, ih2⟩ := stipendlaw11_ElementParses.mono_l k
 unfold stipendlaw11_ElementParses.f
 repeat' first
   | (with_reducible exact ih0 _ _ _ _)
   | (with_reducible exact ih1 _ _ _ _ _ _ _)
   | (with_reducible exact ih2 _ _ _ _ _ _ _ _)
   | (with_reducible exact element_Parse.mono _ _)
   | (with_reducible exact money_Parse.mono _ _)
   | (with_reducible exact word_Name.mono _ _)
   | (with_reducible exact LeO.refl _)
   | (with_reducible exact LeO.none _)
   | (with_reducible refine LeO.ite ?_ ?_)
   | (with_reducible refine LeO.bind ?_ (fun _ => ?_))
   | exact ih0 _ _ _ _
   | exact ih1 _ _ _ _ _ _ _
   | exact ih2 _ _ _ _ _ _ _ _
   | exact element_Parse.mono _ _
   | exact money_Parse.mono _ _
   | exact word_Name.mono _ _
   | exact LeO.none _
   | refine LeO.ite ?_ ?_
   | refine LeO.bind ?_ (fun _ => ?_)
set_option maxHeartbeats 8000000 in
set_option maxRecDepth 100000 in
theorem stipendlaw11_ElementParses.calls (k : Nat) (A0 : Option Addr) (c0 : Nat) (l0 : List ByteArray) (r : Bool) (w : World) (hr0 : Kd.C Kd.string w A0 l0.length l0) (hc0 : l0.length ≤ c0) (h : stipendlaw11_ElementParses.f k l0 = some r) (hG : GTab w := by first | exact GTab.below HG.out (by repeat (first | (with_reducible first | exact HB.out | apply below_alloc | apply pw_below_drewN | apply below_drew1 | apply below_drew) | exact HB.out)) | exact HG.out) :
  Calls Tryd.prog 8 #[.slice A0 l0.length c0] w fun e w' => e = .returned (.bool r) ∧ Below w.heap.size w w' := by
 have hu48 := Tryd.underlying48
 have HG := Aside0.mk hG; clear hG
 have HR0 := Aside0.mk hr0
 have HC0 := Aside0.mk hc0
 clear hr0 hc0
 have HB := Aside0.mk (Below.refl w.heap.size w)
 have H : ((stipendlaw11_worths.f).bind fun t411 => (if t411 = true then (if (l0.length : Int) > 20 then (some true) else (stipendlaw11_ElementParses.l0 k l0 l0 (l0.length : Int) 0)) else (some false))) = some r := h
 clear h
 replace H := Option.bind_eq_some_iff.mp H
 obtain ⟨t411, A20, H⟩ := H
 replace H : (if t411 = true then (if (l0.length : Int) > 20 then (some true) else (stipendlaw11_ElementParses.l0 k l0 l0 (l0.length : Int) 0)) else (some false)) = some r := H
 have A2 := Aside0.mk A20
 clear A20
 by_cases c3 : t411 = true
 ·subst c3
  have H1 : (if (l0.length : Int) > 20 then (some true) else (stipendlaw11_ElementParses.l0 k l0 l0 (l0.length : Int) 0)) = some r := by rw [if_pos rfl] at H; exact H
  clear H
  have H := H1
  clear H1
  by_cases c4 : (l0.length : Int) > 20
  ·rw [if_pos c4] at H
   have c4b0 : decide (20 < (l0.length : Int)) = true := decide_eq_true c4
   have c4b1 : decide (20 < l0.length) = true := decide_eq_true (by omega)
   clear c4
   obtain rfl := Option.some.inj H
   go_enter Tryd.func8, Tryd.ntmps8
   go_wp2_with (first | (go_at_call 35; (with_reducible refine (stipendlaw11_worths.calls  true _ A2.out).mono ?_); rintro e w5 ⟨rfl, hb⟩; have n0_ := Aside0.mk (below_step (by repeat (first | (with_reducible first | exact HB.out | apply below_alloc | apply pw_below_drewN | apply below_drew1) | exact HB.out)) hb); clear HB; have HB := n0_; clear n0_; (try clear hb); (try clear hb2); (try clear hk); (try clear hi)))
   repeat (go_quiet (first | (go_at_call 35; (with_reducible refine (stipendlaw11_worths.calls  true _ A2.out).mono ?_); rintro e w5 ⟨rfl, hb⟩; have n0_ := Aside0.mk (below_step (by repeat (first | (with_reducible first | exact HB.out | apply below_alloc | apply pw_below_drewN | apply below_drew1) | exact HB.out)) hb); clear HB; have HB := n0_; clear n0_; (try clear hb); (try clear hb2); (try clear hk); (try clear hi))); try go_wp2_with (first | (go_at_call 35; (with_reducible refine (stipendlaw11_worths.calls  true _ A2.out).mono ?_); rintro e w5 ⟨rfl, hb⟩; have n0_ := Aside0.mk (below_step (by repeat (first | (with_reducible first | exact HB.out | apply below_alloc | apply pw_below_drewN | apply below_drew1) | exact HB.out)) hb); clear HB; have HB := n0_; clear n0_; (try clear hb); (try clear hb2); (try clear hk); (try clear hi))))
   go_ret
   exact ⟨by first | rfl | (simp [errW_none, errW_some] <;> rfl) | (simp [*, errW_none, errW_some] <;> rfl), by repeat (first | (with_reducible first | exact HB.out | apply below_alloc | apply pw_below_drewN | apply below_drew1) | exact HB.out)⟩
  ·rw [if_neg c4] at H
   have c4b0 : decide (20 < (l0.length : Int)) = false := decide_eq_false c4
   have c4b1 : decide (20 < l0.length) = false := decide_eq_false (by omega)
   clear c4
   have H' := Aside0.mk H
   clear H
   go_enter Tryd.func8, Tryd.ntmps8
   go_wp2_with (first | (go_at_call 35; (with_reducible refine (stipendlaw11_worths.calls  true _ A2.out).mono ?_); rintro e w6 ⟨rfl, hb⟩; have n0_ := Aside0.mk (below_step (by repeat (first | (with_reducible first | exact HB.out | apply below_alloc | apply pw_below_drewN | apply below_drew1) | exact HB.out)) hb); clear HB; have HB := n0_; clear n0_; (try clear hb); (try clear hb2); (try clear hk); (try clear hi)))
   repeat (go_quiet (first | (go_at_call 35; (with_reducible refine (stipendlaw11_worths.calls  true _ A2.out).mono ?_); rintro e w6 ⟨rfl, hb⟩; have n0_ := Aside0.mk (below_step (by repeat (first | (with_reducible first | exact HB.out | apply below_alloc | apply pw_below_drewN | apply below_drew1) | exact HB.out)) hb); clear HB; have HB := n0_; clear n0_; (try clear hb); (try clear hb2); (try clear hk); (try clear hi))); try go_wp2_with (first | (go_at_call 35; (with_reducible refine (stipendlaw11_worths.calls  true _ A2.out).mono ?_); rintro e w6 ⟨rfl, hb⟩; have n0_ := Aside0.mk (below_step (by repeat (first | (with_reducible first | exact HB.out | apply below_alloc | apply pw_below_drewN | apply below_drew1) | exact HB.out)) hb); clear HB; have HB := n0_; clear n0_; (try clear hb); (try clear hb2); (try clear hk); (try clear hi))))
   go_loopg [20] k (fun kq v20 w' => ∃ (x20_1 : Int), v20 = .int .i64 x20_1 ∧ Aside0 (stipendlaw11_ElementParses.l0 kq l0 l0 (l0.length : Int) x20_1 = some r) ∧ Aside0 (kq ≤ k) ∧ Aside0 (Below w.heap.size w w'))
   case atStart => exact ⟨(0), (by first | rfl | (simp; done) | (simp [*]; done)), H', ⟨Nat.le_refl _⟩, ⟨by repeat (first | (with_reducible first | exact HB.out | apply below_alloc | apply pw_below_drewN | apply below_drew1) | exact HB.out)⟩⟩
   case round =>
    clear H'
    try clear p2
    try clear c3
    try clear c4
    try clear c4b0
    try clear c4b1
    obtain ⟨x20_1, rfl, HA, HK1, HB⟩ := hrel
    cases gk with
    | zero => exact absurd HA.out (by simp [stipendlaw11_ElementParses.l0])
    | succ k1 =>
     have H := HA.out
     clear HA
     simp only [stipendlaw11_ElementParses.l0] at H
     by_cases c7 : x20_1 < (l0.length : Int)
     ·rw [if_pos c7] at H
      have c7b0 : decide (x20_1 < (l0.length : Int)) = true := decide_eq_true c7
      clear c7
      by_cases c8 : 0 ≤ x20_1
      ·rw [if_pos c8] at H
       have c8b0 : decide (0 ≤ x20_1) = true := decide_eq_true c8
       clear c8
       by_cases c9 : x20_1 < (l0.length : Int)
       ·rw [if_pos c9] at H
        have c9b0 : decide (x20_1 < (l0.length : Int)) = true := decide_eq_true c9
        clear c9
        by_cases c10 : ((rdOf ByteArray.empty l0 x20_1).size : Int) > 100
        ·rw [if_pos c10] at H
         have c10b0 : decide (100 < ((rdOf ByteArray.empty l0 x20_1).size : Int)) = true := decide_eq_true c10
         have c10b1 : decide (100 < (rdOf ByteArray.empty l0 x20_1).size) = true := decide_eq_true (by omega)
         clear c10
         obtain rfl := Option.some.inj H
         have p412 : 0 ≤ (x20_1 : Int) := of_decide_eq_true (by first | (with_reducible assumption) | assumption)
         have q412 : x20_1 < (l0.length : Int) := of_decide_eq_true (by first | (with_reducible assumption) | assumption)
         obtain ⟨ad412, e412, hx412_0⟩ := Kd.at_string HR0.out x20_1 p412 q412
         cases e412
         replace hx412_0 := (HB.out.cell (World.block_lt_of_cell? w _ hx412_0)).trans hx412_0
         replace p412 := eq_true p412
         replace q412 := eq_true q412
         go_wp2
         repeat (go_quiet (fail); try go_wp2)
         go_ret
         exact ⟨by first | rfl | (simp [errW_none, errW_some] <;> rfl) | (simp [*, errW_none, errW_some] <;> rfl), by repeat (first | (with_reducible first | exact HB.out | apply below_alloc | apply pw_below_drewN | apply below_drew1) | exact HB.out)⟩
        ·rw [if_neg c10] at H
         have c10b0 : decide (100 < ((rdOf ByteArray.empty l0 x20_1).size : Int)) = false := decide_eq_false c10
         have c10b1 : decide (100 < (rdOf ByteArray.empty l0 x20_1).size) = false := decide_eq_false (by omega)
         clear c10
         have H' := Aside0.mk H
         clear H
         have p412 : 0 ≤ (x20_1 : Int) := of_decide_eq_true (by first | (with_reducible assumption) | assumption)
         have q412 : x20_1 < (l0.length : Int) := of_decide_eq_true (by first | (with_reducible assumption) | assumption)
         obtain ⟨ad412, e412, hx412_0⟩ := Kd.at_string HR0.out x20_1 p412 q412
         cases e412
         replace hx412_0 := (HB.out.cell (World.block_lt_of_cell? w _ hx412_0)).trans hx412_0
         replace p412 := eq_true p412
         replace q412 := eq_true q412
         go_wp2
         repeat (go_quiet (fail); try go_wp2)
         go_roundg k1
         case measure => have := HK1.out; omega
         case rel => exact ⟨(wrap64 (x20_1 + 1)), (by first | rfl | (simp; done) | (simp [*]; done)), H', ⟨by have := HK1.out; omega⟩, ⟨by repeat (first | (with_reducible first | exact HB.out | apply below_alloc | apply pw_below_drewN | apply below_drew1) | exact HB.out)⟩⟩
       ·rw [if_neg c9] at H
        exact absurd H (by simp)
      ·rw [if_neg c8] at H
       exact absurd H (by simp)
     ·rw [if_neg c7] at H
      have c7b0 : decide (x20_1 < (l0.length : Int)) = false := decide_eq_false c7
      clear c7
      replace H := Option.bind_eq_some_iff.mp H
      obtain ⟨⟨t413, t414, t415, t416⟩, A110, H⟩ := H
      replace H : (if (l0.length : Int) < 2 then (stipendlaw11_ElementParses.j1 k1 l0 t416 (t413.toList == ([] : List UInt8) && (t414 == 0 && (t415 == 0))) true t413 t414 t415) else (if (l0.length : Int) > 3 then (stipendlaw11_ElementParses.j1 k1 l0 t416 (t413.toList == ([] : List UInt8) && (t414 == 0 && (t415 == 0))) true t413 t414 t415) else (if 0 < (l0.length : Int) then ((word_Name.f k1 (rdOf ByteArray.empty l0 0)).bind fun t419 => (stipendlaw11_ElementParses.j1 k1 l0 t416 (t413.toList == ([] : List UInt8) && (t414 == 0 && (t415 == 0))) (!t419) t413 t414 t415)) else (none)))) = some r := H
      have A11 := Aside0.mk A110
      clear A110
      have HC12 := Aside0.mk H
      clear H
      go_upto_region 13 with (first | (go_at_call 45; (with_reducible refine (element_Parse.calls k1 _ _ l0 t413 t414 t415 t416 _ ?side1 ?side2 A11.out).mono ?_); (case side1 => repeat (first | exact (Kd.C_below HR0.out HB.out) | (with_reducible refine Kd.C_alloc ?_ _) | (with_reducible refine Kd.C_drewN ?_ _) | (with_reducible refine Kd.C_drew ?_))); (case side2 => exact HC0.out); rintro e w13 ⟨rfl, hb⟩; have n0_ := Aside0.mk (below_step (by repeat (first | (with_reducible first | exact HB.out | apply below_alloc | apply pw_below_drewN | apply below_drew1) | exact HB.out)) hb); clear HB; have HB := n0_; clear n0_; (try clear hb); (try clear hb2); (try clear hk); (try clear hi)) | ((with_reducible refine gate_dst (N := 5) rfl ?_); (try (refine gate_guard (by rfl) ?_; dsimp only)); refine box_event ?hg (N := 5) ?hd (cs := #[.string (⟨#[]⟩ : ByteArray), .int .i64 0, .int .i64 0]) (t := 48) ?hr ?_; (case hd => rfl); (case hg => rfl); (case hr => first | (go_simp; done) | (go_simp; rfl)); intro gb417 hg w14 hbox hb; have n0_ := Aside0.mk (below_step (by repeat (first | (with_reducible first | exact HB.out | apply below_alloc | apply pw_below_drewN | apply below_drew1) | exact HB.out)) hb); have n1_ := Aside0.mk (hbox); have n2_ := Aside0.mk ((by rw [hg]; exact (below_size (by repeat (first | (with_reducible first | exact HB.out | apply below_alloc | apply pw_below_drewN | apply below_drew1) | exact HB.out))) : w.heap.size ≤ gb417)); have n3_ := Aside0.mk ((by rw [hg]; exact (below_size (by repeat (first | (with_reducible first | exact HB.out | apply below_alloc | apply pw_below_drewN | apply below_drew1) | exact HB.out))) : w.heap.size ≤ gb417)); clear HB; have HB := n0_; have BK417 := n1_; have GW417 := n2_; have GE417 := n3_; clear n0_ n1_ n2_ n3_; clear hb hbox hg; have hcz15_0 : w14.cell? ⟨gb417, 0, none⟩ = some (.string (⟨#[]⟩ : ByteArray)) := (blk_cell BK417.out 0).trans rfl; have hcz15_1 : w14.cell? ⟨gb417, 1, none⟩ = some (.int .i64 0) := (blk_cell BK417.out 1).trans rfl; have hcz15_2 : w14.cell? ⟨gb417, 2, none⟩ = some (.int .i64 0) := (blk_cell BK417.out 2).trans rfl; have hfz15_0 := blk_frozen BK417.out 0; have hfz15_1 := blk_frozen BK417.out 1; have hfz15_2 := blk_frozen BK417.out 2))
      repeat (go_quiet (first | (go_at_call 45; (with_reducible refine (element_Parse.calls k1 _ _ l0 t413 t414 t415 t416 _ ?side1 ?side2 A11.out).mono ?_); (case side1 => repeat (first | exact (Kd.C_below HR0.out HB.out) | (with_reducible refine Kd.C_alloc ?_ _) | (with_reducible refine Kd.C_drewN ?_ _) | (with_reducible refine Kd.C_drew ?_))); (case side2 => exact HC0.out); rintro e w13 ⟨rfl, hb⟩; have n0_ := Aside0.mk (below_step (by repeat (first | (with_reducible first | exact HB.out | apply below_alloc | apply pw_below_drewN | apply below_drew1) | exact HB.out)) hb); clear HB; have HB := n0_; clear n0_; (try clear hb); (try clear hb2); (try clear hk); (try clear hi)) | ((with_reducible refine gate_dst (N := 5) rfl ?_); (try (refine gate_guard (by rfl) ?_; dsimp only)); refine box_event ?hg (N := 5) ?hd (cs := #[.string (⟨#[]⟩ : ByteArray), .int .i64 0, .int .i64 0]) (t := 48) ?hr ?_; (case hd => rfl); (case hg => rfl); (case hr => first | (go_simp; done) | (go_simp; rfl)); intro gb417 hg w14 hbox hb; have n0_ := Aside0.mk (below_step (by repeat (first | (with_reducible first | exact HB.out | apply below_alloc | apply pw_below_drewN | apply below_drew1) | exact HB.out)) hb); have n1_ := Aside0.mk (hbox); have n2_ := Aside0.mk ((by rw [hg]; exact (below_size (by repeat (first | (with_reducible first | exact HB.out | apply below_alloc | apply pw_below_drewN | apply below_drew1) | exact HB.out))) : w.heap.size ≤ gb417)); have n3_ := Aside0.mk ((by rw [hg]; exact (below_size (by repeat (first | (with_reducible first | exact HB.out | apply below_alloc | apply pw_below_drewN | apply below_drew1) | exact HB.out))) : w.heap.size ≤ gb417)); clear HB; have HB := n0_; have BK417 := n1_; have GW417 := n2_; have GE417 := n3_; clear n0_ n1_ n2_ n3_; clear hb hbox hg; have hcz15_0 : w14.cell? ⟨gb417, 0, none⟩ = some (.string (⟨#[]⟩ : ByteArray)) := (blk_cell BK417.out 0).trans rfl; have hcz15_1 : w14.cell? ⟨gb417, 1, none⟩ = some (.int .i64 0) := (blk_cell BK417.out 1).trans rfl; have hcz15_2 : w14.cell? ⟨gb417, 2, none⟩ = some (.int .i64 0) := (blk_cell BK417.out 2).trans rfl; have hfz15_0 := blk_frozen BK417.out 0; have hfz15_1 := blk_frozen BK417.out 1; have hfz15_2 := blk_frozen BK417.out 2)); go_upto_region 13 with (first | (go_at_call 45; (with_reducible refine (element_Parse.calls k1 _ _ l0 t413 t414 t415 t416 _ ?side1 ?side2 A11.out).mono ?_); (case side1 => repeat (first | exact (Kd.C_below HR0.out HB.out) | (with_reducible refine Kd.C_alloc ?_ _) | (with_reducible refine Kd.C_drewN ?_ _) | (with_reducible refine Kd.C_drew ?_))); (case side2 => exact HC0.out); rintro e w13 ⟨rfl, hb⟩; have n0_ := Aside0.mk (below_step (by repeat (first | (with_reducible first | exact HB.out | apply below_alloc | apply pw_below_drewN | apply below_drew1) | exact HB.out)) hb); clear HB; have HB := n0_; clear n0_; (try clear hb); (try clear hb2); (try clear hk); (try clear hi)) | ((with_reducible refine gate_dst (N := 5) rfl ?_); (try (refine gate_guard (by rfl) ?_; dsimp only)); refine box_event ?hg (N := 5) ?hd (cs := #[.string (⟨#[]⟩ : ByteArray), .int .i64 0, .int .i64 0]) (t := 48) ?hr ?_; (case hd => rfl); (case hg => rfl); (case hr => first | (go_simp; done) | (go_simp; rfl)); intro gb417 hg w14 hbox hb; have n0_ := Aside0.mk (below_step (by repeat (first | (with_reducible first | exact HB.out | apply below_alloc | apply pw_below_drewN | apply below_drew1) | exact HB.out)) hb); have n1_ := Aside0.mk (hbox); have n2_ := Aside0.mk ((by rw [hg]; exact (below_size (by repeat (first | (with_reducible first | exact HB.out | apply below_alloc | apply pw_below_drewN | apply below_drew1) | exact HB.out))) : w.heap.size ≤ gb417)); have n3_ := Aside0.mk ((by rw [hg]; exact (below_size (by repeat (first | (with_reducible first | exact HB.out | apply below_alloc | apply pw_below_drewN | apply below_drew1) | exact HB.out))) : w.heap.size ≤ gb417)); clear HB; have HB := n0_; have BK417 := n1_; have GW417 := n2_; have GE417 := n3_; clear n0_ n1_ n2_ n3_; clear hb hbox hg; have hcz15_0 : w14.cell? ⟨gb417, 0, none⟩ = some (.string (⟨#[]⟩ : ByteArray)) := (blk_cell BK417.out 0).trans rfl; have hcz15_1 : w14.cell? ⟨gb417, 1, none⟩ = some (.int .i64 0) := (blk_cell BK417.out 1).trans rfl; have hcz15_2 : w14.cell? ⟨gb417, 2, none⟩ = some (.int .i64 0) := (blk_cell BK417.out 2).trans rfl; have hfz15_0 := blk_frozen BK417.out 0; have hfz15_1 := blk_frozen BK417.out 1; have hfz15_2 := blk_frozen BK417.out 2)))
      (try simp only [Act.put, List.setIfInBounds_toArray, List.set_cons_zero, List.set_cons_succ])
      go_cut [50] (fun v50 wc => ∃ (kq : Nat) (x50_11 : Bool), v50 = .bool x50_11 ∧ Aside0 (stipendlaw11_ElementParses.j1 kq l0 t416 (t413.toList == ([] : List UInt8) && (t414 == 0 && (t415 == 0))) x50_11 t413 t414 t415 = some r) ∧ Aside0 (kq ≤ k1) ∧ Aside0 (wc.heap[gb417]? = some (.cells #[.string t413, .int .i64 t414, .int .i64 t415] 48 (0, 0))) ∧ Aside0 (Below w.heap.size w wc))
      case first =>
       have H := HC12.out
       clear HC12
       by_cases c16 : (l0.length : Int) < 2
       ·rw [if_pos c16] at H
        have c16b0 : decide ((l0.length : Int) < 2) = true := decide_eq_true c16
        have c16b1 : decide (l0.length < 2) = true := decide_eq_true (by omega)
        clear c16
        (first | rw [c16b0] | (simp only [i64_w, i32_w]; rw [c16b0]) | skip)
        have H' := Aside0.mk H
        clear H
        go_wp2
        repeat (go_quiet (fail); try go_wp2)
        go_meet
        case rel => exact ⟨_, (true), (by first | rfl | (simp; done) | (simp [*]; done)), H', ⟨by have := HK1.out; first | omega | exact Nat.le_refl _⟩, ⟨by (with_reducible repeat (first | refine blk_drewN ?_ _ | refine blk_drew ?_ | refine blk_alloc ?_ _)); refine blk_put (cs := #[.string t413, .int .i64 t414, .int .i64 0]) ?_ 2 _ rfl; (with_reducible repeat (first | refine blk_drewN ?_ _ | refine blk_drew ?_ | refine blk_alloc ?_ _)); refine blk_put (cs := #[.string t413, .int .i64 0, .int .i64 0]) ?_ 1 _ rfl; (with_reducible repeat (first | refine blk_drewN ?_ _ | refine blk_drew ?_ | refine blk_alloc ?_ _)); refine blk_put (cs := #[.string (⟨#[]⟩ : ByteArray), .int .i64 0, .int .i64 0]) ?_ 0 _ rfl; (with_reducible repeat (first | refine blk_drewN ?_ _ | refine blk_drew ?_ | refine blk_alloc ?_ _)); exact BK417.out⟩, ⟨by repeat (first | (with_reducible first | exact HB.out | apply below_alloc | apply pw_below_drewN | apply below_drew1 | refine below_set ?_ GE417.out) | exact HB.out)⟩⟩
       ·rw [if_neg c16] at H
        have c16b0 : decide ((l0.length : Int) < 2) = false := decide_eq_false c16
        have c16b1 : decide (l0.length < 2) = false := decide_eq_false (by omega)
        clear c16
        (first | rw [c16b0] | (simp only [i64_w, i32_w]; rw [c16b0]) | skip)
        by_cases c17 : (l0.length : Int) > 3
        ·rw [if_pos c17] at H
         have c17b0 : decide (3 < (l0.length : Int)) = true := decide_eq_true c17
         have c17b1 : decide (3 < l0.length) = true := decide_eq_true (by omega)
         clear c17
         have H' := Aside0.mk H
         clear H
         go_wp2
         repeat (go_quiet (fail); try go_wp2)
         go_meet
         case rel => exact ⟨_, (true), (by first | rfl | (simp; done) | (simp [*]; done)), H', ⟨by have := HK1.out; first | omega | exact Nat.le_refl _⟩, ⟨by (with_reducible repeat (first | refine blk_drewN ?_ _ | refine blk_drew ?_ | refine blk_alloc ?_ _)); refine blk_put (cs := #[.string t413, .int .i64 t414, .int .i64 0]) ?_ 2 _ rfl; (with_reducible repeat (first | refine blk_drewN ?_ _ | refine blk_drew ?_ | refine blk_alloc ?_ _)); refine blk_put (cs := #[.string t413, .int .i64 0, .int .i64 0]) ?_ 1 _ rfl; (with_reducible repeat (first | refine blk_drewN ?_ _ | refine blk_drew ?_ | refine blk_alloc ?_ _)); refine blk_put (cs := #[.string (⟨#[]⟩ : ByteArray), .int .i64 0, .int .i64 0]) ?_ 0 _ rfl; (with_reducible repeat (first | refine blk_drewN ?_ _ | refine blk_drew ?_ | refine blk_alloc ?_ _)); exact BK417.out⟩, ⟨by repeat (first | (with_reducible first | exact HB.out | apply below_alloc | apply pw_below_drewN | apply below_drew1 | refine below_set ?_ GE417.out) | exact HB.out)⟩⟩
        ·rw [if_neg c17] at H
         have c17b0 : decide (3 < (l0.length : Int)) = false := decide_eq_false c17
         have c17b1 : decide (3 < l0.length) = false := decide_eq_false (by omega)
         clear c17
         by_cases c18 : 0 < (l0.length : Int)
         ·rw [if_pos c18] at H
          have c18b0 : decide (0 < (l0.length : Int)) = true := decide_eq_true c18
          have c18b1 : decide (0 < l0.length) = true := decide_eq_true (by omega)
          clear c18
          replace H := Option.bind_eq_some_iff.mp H
          obtain ⟨t419, A190, H⟩ := H
          replace H : (stipendlaw11_ElementParses.j1 k1 l0 t416 (t413.toList == ([] : List UInt8) && (t414 == 0 && (t415 == 0))) (!t419) t413 t414 t415) = some r := H
          have A19 := Aside0.mk A190
          clear A190
          have H' := Aside0.mk H
          clear H
          have p418 : 0 ≤ (0 : Int) := (by omega)
          have q418 : 0 < (l0.length : Int) := of_decide_eq_true (by first | (with_reducible assumption) | assumption)
          obtain ⟨ad418, e418, hx418_0⟩ := Kd.at_string HR0.out 0 p418 q418
          cases e418
          have qi418 : (0 < l0.length) = True := eq_true (by omega)
          (try rw [show ((0 : Int)).toNat = 0 from rfl] at hx418_0)
          (try rw [Addr.add_zero'] at hx418_0)
          have hn418_0 : ad418.block ≠ gb417 := Nat.ne_of_lt (Nat.lt_of_lt_of_le (by have := World.block_lt_of_cell? _ _ hx418_0; first | rwa [add_block] at this | exact this) GW417.out)
          have hn418_1 : ad418.block ≠ gb417 := Nat.ne_of_lt (Nat.lt_of_lt_of_le (by have := World.block_lt_of_cell? _ _ hx418_0; first | rwa [add_block] at this | exact this) GW417.out)
          have hn418_2 : ad418.block ≠ gb417 := Nat.ne_of_lt (Nat.lt_of_lt_of_le (by have := World.block_lt_of_cell? _ _ hx418_0; first | rwa [add_block] at this | exact this) GW417.out)
          replace hx418_0 := (HB.out.cell (World.block_lt_of_cell? w _ hx418_0)).trans hx418_0
          replace hx418_0 := (cell_far (p := ⟨gb417, 0, none⟩) (by first | (rw [add_block]; exact hn418_0) | (show (Addr.add _ _).block ≠ _; rw [add_block]; exact hn418_0) | exact hn418_0) (.string t413)).trans hx418_0
          replace hx418_0 := (cell_far (p := ⟨gb417, 1, none⟩) (by first | (rw [add_block]; exact hn418_1) | (show (Addr.add _ _).block ≠ _; rw [add_block]; exact hn418_1) | exact hn418_1) (.int .i64 t414)).trans hx418_0
          replace hx418_0 := (cell_far (p := ⟨gb417, 2, none⟩) (by first | (rw [add_block]; exact hn418_2) | (show (Addr.add _ _).block ≠ _; rw [add_block]; exact hn418_2) | exact hn418_2) (.int .i64 t415)).trans hx418_0
          (try have hy418_0 := fun (n_ : Nat) => (show (((((w14.drewN n_).setCell ⟨gb417, 0, none⟩ (.string t413)).setCell ⟨gb417, 1, none⟩ (.int .i64 t414)).setCell ⟨gb417, 2, none⟩ (.int .i64 t415))).cell? _ = some _ from hx418_0))
          clear hn418_0
          clear hn418_1
          clear hn418_2
          replace p418 := eq_true p418
          replace q418 := eq_true q418
          go_wp2_with (first | (go_at_call 46; (with_reducible refine (word_Name.calls k1 (rdOf ByteArray.empty l0 0) t419 _ A19.out).mono ?_); rintro e w' ⟨rfl, ⟨nd, rfl⟩⟩; (try first | exact ⟨rfl, _, World.drewN_drewN _ _ _⟩ | exact ⟨rfl, _, Eq.trans (World.drewN_drewN _ _ _) (congrArg (World.drewN _) (Nat.add_assoc _ _ _))⟩)))
          repeat (go_quiet (first | (go_at_call 46; (with_reducible refine (word_Name.calls k1 (rdOf ByteArray.empty l0 0) t419 _ A19.out).mono ?_); rintro e w' ⟨rfl, ⟨nd, rfl⟩⟩; (try first | exact ⟨rfl, _, World.drewN_drewN _ _ _⟩ | exact ⟨rfl, _, Eq.trans (World.drewN_drewN _ _ _) (congrArg (World.drewN _) (Nat.add_assoc _ _ _))⟩))); try go_wp2_with (first | (go_at_call 46; (with_reducible refine (word_Name.calls k1 (rdOf ByteArray.empty l0 0) t419 _ A19.out).mono ?_); rintro e w' ⟨rfl, ⟨nd, rfl⟩⟩; (try first | exact ⟨rfl, _, World.drewN_drewN _ _ _⟩ | exact ⟨rfl, _, Eq.trans (World.drewN_drewN _ _ _) (congrArg (World.drewN _) (Nat.add_assoc _ _ _))⟩))))
          go_meet
          case rel => exact ⟨_, (!t419), (by first | rfl | (simp; done) | (simp [*]; done)), H', ⟨by have := HK1.out; first | omega | exact Nat.le_refl _⟩, ⟨by (with_reducible repeat (first | refine blk_drewN ?_ _ | refine blk_drew ?_ | refine blk_alloc ?_ _)); refine blk_put (cs := #[.string t413, .int .i64 t414, .int .i64 0]) ?_ 2 _ rfl; (with_reducible repeat (first | refine blk_drewN ?_ _ | refine blk_drew ?_ | refine blk_alloc ?_ _)); refine blk_put (cs := #[.string t413, .int .i64 0, .int .i64 0]) ?_ 1 _ rfl; (with_reducible repeat (first | refine blk_drewN ?_ _ | refine blk_drew ?_ | refine blk_alloc ?_ _)); refine blk_put (cs := #[.string (⟨#[]⟩ : ByteArray), .int .i64 0, .int .i64 0]) ?_ 0 _ rfl; (with_reducible repeat (first | refine blk_drewN ?_ _ | refine blk_drew ?_ | refine blk_alloc ?_ _)); exact BK417.out⟩, ⟨by repeat (first | (with_reducible first | exact HB.out | apply below_alloc | apply pw_below_drewN | apply below_drew1 | refine below_set ?_ GE417.out) | exact HB.out)⟩⟩
         ·rw [if_neg c18] at H
          exact absurd H (by simp)
      case rest =>
       clear HC12
       try clear c1
       try clear p2
       try clear c3
       try clear c4
       try clear c4b0
       try clear c4b1
       try clear p4
       try clear q4
       try clear hx4
       try clear qi4
       try clear p6
       try clear c7
       try clear c7b0
       try clear c8
       try clear c8b0
       try clear c9
       try clear c9b0
       try clear c10
       try clear c10b0
       try clear c10b1
       try clear c16
       try clear c16b0
       try clear c16b1
       try clear c17
       try clear c17b0
       try clear c17b1
       try clear c18
       try clear c18b0
       try clear c18b1
       try clear hcz15_0
       try clear hcz15_1
       try clear hcz15_2
       try clear hfz15_0
       try clear hfz15_1
       try clear hfz15_2
       try clear hx412_0
       try clear hx418_0
       try clear p2
       try clear p412
       try clear p418
       try clear q412
       try clear q418
       obtain ⟨kq, x50_11, rfl, HA, HJ11, BK417, HB⟩ := hcut
       cases kq with
       | zero => exact absurd HA.out (by simp [stipendlaw11_ElementParses.j1])
       | succ kj11 =>
        have H := HA.out
        clear HA
        simp only [stipendlaw11_ElementParses.j1] at H
        by_cases c20 : x50_11 = true
        ·subst c20
         have H1 : (if t416 = 5 then (some (t413.toList == ([] : List UInt8) && (t414 == 0 && (t415 == 0)))) else (some false)) = some r := by rw [if_pos rfl] at H; exact H
         clear H
         have H := H1
         clear H1
         by_cases c21 : t416 = 5
         ·rw [if_pos c21] at H
          have c21b0 : (t416 == 5) = true := beq_iff_eq.mpr c21
          have c21b1 : (t416 != 5) = false := bne_eq_false_iff_eq.mpr c21
          clear c21
          obtain rfl := Option.some.inj H
          go_wp2
          repeat (go_quiet (fail); try go_wp2)
          go_ret
          exact ⟨by first | rfl | (simp [errW_none, errW_some] <;> rfl) | (simp [*, errW_none, errW_some] <;> rfl), by repeat (first | (with_reducible first | exact HB.out | apply below_alloc | apply pw_below_drewN | apply below_drew1 | refine below_set ?_ GE417.out) | exact HB.out)⟩
         ·rw [if_neg c21] at H
          have c21b0 : (t416 == 5) = false := beq_eq_false_iff_ne.mpr c21
          have c21b1 : (t416 != 5) = true := bne_iff_ne.mpr c21
          obtain rfl := Option.some.inj H
          go_wp2
          repeat (go_quiet (fail); try go_wp2)
          go_ret
          exact ⟨by first | rfl | (simp [errW_none, errW_some] <;> rfl) | (simp [*, errW_none, errW_some] <;> rfl), by repeat (first | (with_reducible first | exact HB.out | apply below_alloc | apply pw_below_drewN | apply below_drew1 | refine below_set ?_ GE417.out) | exact HB.out)⟩
        ·replace c20 := Bool.eq_false_iff.mpr c20
         subst c20
         have H1 : (if 1 < (l0.length : Int) then ((money_Parse.f kj11 (rdOf ByteArray.empty l0 1)).bind fun bt421 => (if bt421.2 = 0 then (if (l0.length : Int) = 3 then (if 2 < (l0.length : Int) then (if (rdOf ByteArray.empty l0 2).toList = ([] : List UInt8) then (stipendlaw11_ElementParses.j2 kj11 l0 t416 (t413.toList == ([] : List UInt8) && (t414 == 0 && (t415 == 0))) bt421.1 true t413 t414 t415) else (if 0 < ((rdOf ByteArray.empty l0 2).size : Int) then (stipendlaw11_ElementParses.j2 kj11 l0 t416 (t413.toList == ([] : List UInt8) && (t414 == 0 && (t415 == 0))) bt421.1 ((bt (rdOf ByteArray.empty l0 2) 0) != 120) t413 t414 t415) else (none))) else (none)) else (if t416 = 0 then (if 0 < (l0.length : Int) then (some (t413.toList == ((rdOf ByteArray.empty l0 0).toList) && (t414 == bt421.1 && (t415 == 100)))) else (none)) else (some false))) else (if t416 = bt421.2 then (some (t413.toList == ([] : List UInt8) && (t414 == 0 && (t415 == 0)))) else (some false)))) else (none)) = some r := by rw [if_neg (show ¬ (false = true) by decide)] at H; exact H
         clear H
         have H := H1
         clear H1
         by_cases c22 : 1 < (l0.length : Int)
         ·rw [if_pos c22] at H
          have c22b0 : decide (1 < (l0.length : Int)) = true := decide_eq_true c22
          have c22b1 : decide (1 < l0.length) = true := decide_eq_true (by omega)
          clear c22
          replace H := Option.bind_eq_some_iff.mp H
          obtain ⟨⟨t421, t422⟩, A230, H⟩ := H
          replace H : (if t422 = 0 then (if (l0.length : Int) = 3 then (if 2 < (l0.length : Int) then (if (rdOf ByteArray.empty l0 2).toList = ([] : List UInt8) then (stipendlaw11_ElementParses.j2 kj11 l0 t416 (t413.toList == ([] : List UInt8) && (t414 == 0 && (t415 == 0))) t421 true t413 t414 t415) else (if 0 < ((rdOf ByteArray.empty l0 2).size : Int) then (stipendlaw11_ElementParses.j2 kj11 l0 t416 (t413.toList == ([] : List UInt8) && (t414 == 0 && (t415 == 0))) t421 ((bt (rdOf ByteArray.empty l0 2) 0) != 120) t413 t414 t415) else (none))) else (none)) else (if t416 = 0 then (if 0 < (l0.length : Int) then (some (t413.toList == ((rdOf ByteArray.empty l0 0).toList) && (t414 == t421 && (t415 == 100)))) else (none)) else (some false))) else (if t416 = t422 then (some (t413.toList == ([] : List UInt8) && (t414 == 0 && (t415 == 0)))) else (some false))) = some r := H
          have A23 := Aside0.mk A230
          clear A230
          by_cases c24 : t422 = 0
          ·rw [if_pos c24] at H
           have c24b0 : (t422 == 0) = true := beq_iff_eq.mpr c24
           have c24b1 : (t422 != 0) = false := bne_eq_false_iff_eq.mpr c24
           clear c24
           by_cases c25 : (l0.length : Int) = 3
           ·rw [if_pos c25] at H
            have c25b0 : ((l0.length : Int) == 3) = true := beq_iff_eq.mpr c25
            have c25b1 : ((l0.length : Int) != 3) = false := bne_eq_false_iff_eq.mpr c25
            clear c25
            have HC26 := Aside0.mk H
            clear H
            have p420 : 0 ≤ (1 : Int) := (by omega)
            have q420 : 1 < (l0.length : Int) := of_decide_eq_true (by first | (with_reducible assumption) | assumption)
            obtain ⟨ad420, e420, hx420_0⟩ := Kd.at_string HR0.out 1 p420 q420
            cases e420
            (try simp only [show (1 : Int).toNat = 1 from rfl, Nat.reduceMul, Nat.reduceEqDiff, Go.Addr.add, ↓reduceIte] at hx420_0)
            have qi420 : (1 < l0.length) = True := eq_true (by omega)
            (try rw [show ((1 : Int)).toNat = 1 from rfl] at hx420_0)
            replace hx420_0 := (HB.out.cell (World.block_lt_of_cell? w _ hx420_0)).trans hx420_0
            replace p420 := eq_true p420
            replace q420 := eq_true q420
            go_upto_region 20 with (first | (go_at_call 47; (with_reducible refine (money_Parse.calls kj11 (rdOf ByteArray.empty l0 1) t421 t422 _ A23.out).mono ?_); rintro e w27 ⟨rfl, hb⟩; have n0_ := Aside0.mk (blk_below (g := gb417) (o := .cells #[.string t413, .int .i64 t414, .int .i64 t415] 48 (0, 0)) (by (with_reducible repeat (first | refine blk_drewN ?_ _ | refine blk_drew ?_ | refine blk_alloc ?_ _)); exact BK417.out) hb); have n1_ := Aside0.mk (below_step (by repeat (first | (with_reducible first | exact HB.out | apply below_alloc | apply pw_below_drewN | apply below_drew1 | refine below_set ?_ GE417.out) | exact HB.out)) hb); clear BK417; clear HB; have BK417 := n0_; have HB := n1_; clear n0_ n1_; (try clear hb); (try clear hb2); (try clear hk); (try clear hi)))
            repeat (go_quiet (first | (go_at_call 47; (with_reducible refine (money_Parse.calls kj11 (rdOf ByteArray.empty l0 1) t421 t422 _ A23.out).mono ?_); rintro e w27 ⟨rfl, hb⟩; have n0_ := Aside0.mk (blk_below (g := gb417) (o := .cells #[.string t413, .int .i64 t414, .int .i64 t415] 48 (0, 0)) (by (with_reducible repeat (first | refine blk_drewN ?_ _ | refine blk_drew ?_ | refine blk_alloc ?_ _)); exact BK417.out) hb); have n1_ := Aside0.mk (below_step (by repeat (first | (with_reducible first | exact HB.out | apply below_alloc | apply pw_below_drewN | apply below_drew1 | refine below_set ?_ GE417.out) | exact HB.out)) hb); clear BK417; clear HB; have BK417 := n0_; have HB := n1_; clear n0_ n1_; (try clear hb); (try clear hb2); (try clear hk); (try clear hi))); go_upto_region 20 with (first | (go_at_call 47; (with_reducible refine (money_Parse.calls kj11 (rdOf ByteArray.empty l0 1) t421 t422 _ A23.out).mono ?_); rintro e w27 ⟨rfl, hb⟩; have n0_ := Aside0.mk (blk_below (g := gb417) (o := .cells #[.string t413, .int .i64 t414, .int .i64 t415] 48 (0, 0)) (by (with_reducible repeat (first | refine blk_drewN ?_ _ | refine blk_drew ?_ | refine blk_alloc ?_ _)); exact BK417.out) hb); have n1_ := Aside0.mk (below_step (by repeat (first | (with_reducible first | exact HB.out | apply below_alloc | apply pw_below_drewN | apply below_drew1 | refine below_set ?_ GE417.out) | exact HB.out)) hb); clear BK417; clear HB; have BK417 := n0_; have HB := n1_; clear n0_ n1_; (try clear hb); (try clear hb2); (try clear hk); (try clear hi))))
            (try simp only [Act.put, List.setIfInBounds_toArray, List.set_cons_zero, List.set_cons_succ])
            go_cut [84] (fun v84 wc => ∃ (kq : Nat) (x84_25 : Bool), v84 = .bool x84_25 ∧ Aside0 (stipendlaw11_ElementParses.j2 kq l0 t416 (t413.toList == ([] : List UInt8) && (t414 == 0 && (t415 == 0))) t421 x84_25 t413 t414 t415 = some r) ∧ Aside0 (kq ≤ kj11) ∧ Aside0 (wc.heap[gb417]? = some (.cells #[.string t413, .int .i64 t414, .int .i64 t415] 48 (0, 0))) ∧ Aside0 (Below w.heap.size w wc))
            case first =>
             have H := HC26.out
             clear HC26
             by_cases c28 : 2 < (l0.length : Int)
             ·rw [if_pos c28] at H
              have c28b0 : decide (2 < (l0.length : Int)) = true := decide_eq_true c28
              have c28b1 : decide (2 < l0.length) = true := decide_eq_true (by omega)
              clear c28
              (first | rw [c28b0] | (simp only [i64_w, i32_w]; rw [c28b0]) | skip)
              by_cases c29 : (rdOf ByteArray.empty l0 2).toList = ([] : List UInt8)
              ·rw [if_pos c29] at H
               have c29b0 : ((rdOf ByteArray.empty l0 2).toList == ([] : List UInt8)) = true := beq_iff_eq.mpr c29
               have c29b1 : ((rdOf ByteArray.empty l0 2).toList != ([] : List UInt8)) = false := bne_eq_false_iff_eq.mpr c29
               clear c29
               have H' := Aside0.mk H
               clear H
               have p423 : 0 ≤ (2 : Int) := (by omega)
               have q423 : 2 < (l0.length : Int) := of_decide_eq_true (by first | (with_reducible assumption) | assumption)
               obtain ⟨ad423, e423, hx423_0⟩ := Kd.at_string HR0.out 2 p423 q423
               obtain rfl : ad420 = ad423 := (by injection e423)
               (try simp only [show (2 : Int).toNat = 2 from rfl, Nat.reduceMul, Nat.reduceEqDiff, Go.Addr.add, ↓reduceIte] at hx423_0)
               have qi423 : (2 < l0.length) = True := eq_true (by omega)
               (try rw [show ((2 : Int)).toNat = 2 from rfl] at hx423_0)
               replace hx423_0 := (HB.out.cell (World.block_lt_of_cell? w _ hx423_0)).trans hx423_0
               replace p423 := eq_true p423
               replace q423 := eq_true q423
               go_wp2
               repeat (go_quiet (fail); try go_wp2)
               go_meet
               case rel => exact ⟨_, (true), (by first | rfl | (simp; done) | (simp [*]; done)), H', ⟨by have := HK1.out; have := HJ11.out; first | omega | exact Nat.le_refl _⟩, ⟨by (with_reducible repeat (first | refine blk_drewN ?_ _ | refine blk_drew ?_ | refine blk_alloc ?_ _)); exact BK417.out⟩, ⟨by repeat (first | (with_reducible first | exact HB.out | apply below_alloc | apply pw_below_drewN | apply below_drew1 | refine below_set ?_ GE417.out) | exact HB.out)⟩⟩
              ·rw [if_neg c29] at H
               have c29b0 : ((rdOf ByteArray.empty l0 2).toList == ([] : List UInt8)) = false := beq_eq_false_iff_ne.mpr c29
               have c29b1 : ((rdOf ByteArray.empty l0 2).toList != ([] : List UInt8)) = true := bne_iff_ne.mpr c29
               by_cases c30 : 0 < ((rdOf ByteArray.empty l0 2).size : Int)
               ·rw [if_pos c30] at H
                have c30b0 : decide (0 < ((rdOf ByteArray.empty l0 2).size : Int)) = true := decide_eq_true c30
                have c30b1 : decide (0 < (rdOf ByteArray.empty l0 2).size) = true := decide_eq_true (by omega)
                clear c30
                have H' := Aside0.mk H
                clear H
                have p423 : 0 ≤ (2 : Int) := (by omega)
                have q423 : 2 < (l0.length : Int) := of_decide_eq_true (by first | (with_reducible assumption) | assumption)
                obtain ⟨ad423, e423, hx423_0⟩ := Kd.at_string HR0.out 2 p423 q423
                obtain rfl : ad420 = ad423 := (by injection e423)
                (try simp only [show (2 : Int).toNat = 2 from rfl, Nat.reduceMul, Nat.reduceEqDiff, Go.Addr.add, ↓reduceIte] at hx423_0)
                have qi423 : (2 < l0.length) = True := eq_true (by omega)
                (try rw [show ((2 : Int)).toNat = 2 from rfl] at hx423_0)
                replace hx423_0 := (HB.out.cell (World.block_lt_of_cell? w _ hx423_0)).trans hx423_0
                replace p423 := eq_true p423
                replace q423 := eq_true q423
                have p424 : 0 ≤ (2 : Int) := (by omega)
                have q424 : 2 < (l0.length : Int) := of_decide_eq_true (by first | (with_reducible assumption) | assumption)
                obtain ⟨ad424, e424, hx424_0⟩ := Kd.at_string HR0.out 2 p424 q424
                obtain rfl : ad420 = ad424 := (by injection e424)
                (try simp only [show (2 : Int).toNat = 2 from rfl, Nat.reduceMul, Nat.reduceEqDiff, Go.Addr.add, ↓reduceIte] at hx424_0)
                have qi424 : (2 < l0.length) = True := eq_true (by omega)
                (try rw [show ((2 : Int)).toNat = 2 from rfl] at hx424_0)
                replace hx424_0 := (HB.out.cell (World.block_lt_of_cell? w _ hx424_0)).trans hx424_0
                replace p424 := eq_true p424
                replace q424 := eq_true q424
                have p31 : 0 ≤ (0 : Int) := (by omega)
                have q31 : 0 < (rdOf ByteArray.empty l0 2).size := (by have : (0 : Int) < ((rdOf ByteArray.empty l0 2).size : Int) := of_decide_eq_true (by first | (with_reducible assumption) | assumption); omega)
                have hx31 : ∀ h : 0 < (rdOf ByteArray.empty l0 2).size, (((rdOf ByteArray.empty l0 2)[0]'h).toNat : Int) = bt (rdOf ByteArray.empty l0 2) 0 := bt_at (rdOf ByteArray.empty l0 2) 0
                clear p31
                have qi31 : (0 < ((rdOf ByteArray.empty l0 2).size : Int)) = True := eq_true (of_decide_eq_true (by first | (with_reducible assumption) | assumption))
                replace q31 := eq_true q31
                go_wp2
                repeat (go_quiet (fail); try go_wp2)
                go_meet
                case rel => exact ⟨_, (((bt (rdOf ByteArray.empty l0 2) 0) != 120)), (by first | rfl | (simp; done) | (simp [*]; done)), H', ⟨by have := HK1.out; have := HJ11.out; first | omega | exact Nat.le_refl _⟩, ⟨by (with_reducible repeat (first | refine blk_drewN ?_ _ | refine blk_drew ?_ | refine blk_alloc ?_ _)); exact BK417.out⟩, ⟨by repeat (first | (with_reducible first | exact HB.out | apply below_alloc | apply pw_below_drewN | apply below_drew1 | refine below_set ?_ GE417.out) | exact HB.out)⟩⟩
               ·rw [if_neg c30] at H
                exact absurd H (by simp)
             ·rw [if_neg c28] at H
              exact absurd H (by simp)
            case rest =>
             clear HC26
             try clear c1
             try clear c2
             try clear p2
             try clear c3
             try clear p3
             try clear q3
             try clear hx3
             try clear qi3
             try clear c4
             try clear c4b0
             try clear c4b1
             try clear p4
             try clear q4
             try clear hx4
             try clear qi4
             try clear p6
             try clear c7
             try clear c7b0
             try clear c8
             try clear c8b0
             try clear c9
             try clear c9b0
             try clear c10
             try clear c10b0
             try clear c10b1
             try clear c16
             try clear c16b0
             try clear c16b1
             try clear c17
             try clear c17b0
             try clear c17b1
             try clear c18
             try clear c18b0
             try clear c18b1
             try clear c20
             try clear c21
             try clear c21b0
             try clear c21b1
             try clear c22
             try clear c22b0
             try clear c22b1
             try clear c24
             try clear c24b0
             try clear c24b1
             try clear c25
             try clear c25b0
             try clear c25b1
             try clear c28
             try clear c28b0
             try clear c28b1
             try clear c29
             try clear c29b0
             try clear c29b1
             try clear c30
             try clear c30b0
             try clear c30b1
             try clear p31
             try clear q31
             try clear hx31
             try clear qi31
             try clear hcz15_0
             try clear hcz15_1
             try clear hcz15_2
             try clear hfz15_0
             try clear hfz15_1
             try clear hfz15_2
             try clear hx412_0
             try clear hx418_0
             try clear hx420_0
             try clear hx423_0
             try clear hx424_0
             try clear p2
             try clear p31
             try clear p4
             try clear p412
             try clear p418
             try clear p420
             try clear p423
             try clear p424
             try clear p6
             try clear q31
             try clear q4
             try clear q412
             try clear q418
             try clear q420
             try clear q423
             try clear q424
             obtain ⟨kq, x84_25, rfl, HA, HJ25, BK417, HB⟩ := hcut
             cases kq with
             | zero => exact absurd HA.out (by simp [stipendlaw11_ElementParses.j2])
             | succ kj25 =>
              have H := HA.out
              clear HA
              simp only [stipendlaw11_ElementParses.j2] at H
              by_cases c32 : x84_25 = true
              ·subst c32
               have H1 : (if t416 = 5 then (some (t413.toList == ([] : List UInt8) && (t414 == 0 && (t415 == 0)))) else (some false)) = some r := by rw [if_pos rfl] at H; exact H
               clear H
               have H := H1
               clear H1
               by_cases c33 : t416 = 5
               ·rw [if_pos c33] at H
                have c33b0 : (t416 == 5) = true := beq_iff_eq.mpr c33
                have c33b1 : (t416 != 5) = false := bne_eq_false_iff_eq.mpr c33
                clear c33
                obtain rfl := Option.some.inj H
                go_wp2
                repeat (go_quiet (fail); try go_wp2)
                go_ret
                exact ⟨by first | rfl | (simp [errW_none, errW_some] <;> rfl) | (simp [*, errW_none, errW_some] <;> rfl), by repeat (first | (with_reducible first | exact HB.out | apply below_alloc | apply pw_below_drewN | apply below_drew1 | refine below_set ?_ GE417.out) | exact HB.out)⟩
               ·rw [if_neg c33] at H
                have c33b0 : (t416 == 5) = false := beq_eq_false_iff_ne.mpr c33
                have c33b1 : (t416 != 5) = true := bne_iff_ne.mpr c33
                obtain rfl := Option.some.inj H
                go_wp2
                repeat (go_quiet (fail); try go_wp2)
                go_ret
                exact ⟨by first | rfl | (simp [errW_none, errW_some] <;> rfl) | (simp [*, errW_none, errW_some] <;> rfl), by repeat (first | (with_reducible first | exact HB.out | apply below_alloc | apply pw_below_drewN | apply below_drew1 | refine below_set ?_ GE417.out) | exact HB.out)⟩
              ·replace c32 := Bool.eq_false_iff.mpr c32
               subst c32
               have H1 : (if 2 < (l0.length : Int) then (if 1 ≤ ((rdOf ByteArray.empty l0 2).size : Int) then ((money_Parse.f kj25 ((rdOf ByteArray.empty l0 2).extract 1 (rdOf ByteArray.empty l0 2).size)).bind fun bt426 => (if bt426.2 = 0 then (if bt426.1 < 0 then (if t416 = 1 then (some (t413.toList == ([] : List UInt8) && (t414 == 0 && (t415 == 0)))) else (some false)) else (if bt426.1 > 100000 then (if t416 = 1 then (some (t413.toList == ([] : List UInt8) && (t414 == 0 && (t415 == 0)))) else (some false)) else (if t416 = 0 then (if 0 < (l0.length : Int) then (some (t413.toList == ((rdOf ByteArray.empty l0 0).toList) && (t414 == t421 && (t415 == bt426.1)))) else (none)) else (some false)))) else (if t416 = bt426.2 then (some (t413.toList == ([] : List UInt8) && (t414 == 0 && (t415 == 0)))) else (some false)))) else (none)) else (none)) = some r := by rw [if_neg (show ¬ (false = true) by decide)] at H; exact H
               clear H
               have H := H1
               clear H1
               by_cases c34 : 2 < (l0.length : Int)
               ·rw [if_pos c34] at H
                have c34b0 : decide (2 < (l0.length : Int)) = true := decide_eq_true c34
                have c34b1 : decide (2 < l0.length) = true := decide_eq_true (by omega)
                clear c34
                by_cases c35 : 1 ≤ ((rdOf ByteArray.empty l0 2).size : Int)
                ·rw [if_pos c35] at H
                 have c35b0 := eq_true c35
                 have c35b1 : decide (1 ≤ ((rdOf ByteArray.empty l0 2).size : Int)) = true := decide_eq_true c35
                 clear c35
                 replace H := Option.bind_eq_some_iff.mp H
                 obtain ⟨⟨t426, t427⟩, A360, H⟩ := H
                 replace H : (if t427 = 0 then (if t426 < 0 then (if t416 = 1 then (some (t413.toList == ([] : List UInt8) && (t414 == 0 && (t415 == 0)))) else (some false)) else (if t426 > 100000 then (if t416 = 1 then (some (t413.toList == ([] : List UInt8) && (t414 == 0 && (t415 == 0)))) else (some false)) else (if t416 = 0 then (if 0 < (l0.length : Int) then (some (t413.toList == ((rdOf ByteArray.empty l0 0).toList) && (t414 == t421 && (t415 == t426)))) else (none)) else (some false)))) else (if t416 = t427 then (some (t413.toList == ([] : List UInt8) && (t414 == 0 && (t415 == 0)))) else (some false))) = some r := H
                 have A36 := Aside0.mk A360
                 clear A360
                 by_cases c37 : t427 = 0
                 ·rw [if_pos c37] at H
                  have c37b0 : (t427 == 0) = true := beq_iff_eq.mpr c37
                  have c37b1 : (t427 != 0) = false := bne_eq_false_iff_eq.mpr c37
                  clear c37
                  by_cases c38 : t426 < 0
                  ·rw [if_pos c38] at H
                   have c38b0 : decide (t426 < 0) = true := decide_eq_true c38
                   clear c38
                   by_cases c39 : t416 = 1
                   ·rw [if_pos c39] at H
                    have c39b0 : (t416 == 1) = true := beq_iff_eq.mpr c39
                    have c39b1 : (t416 != 1) = false := bne_eq_false_iff_eq.mpr c39
                    clear c39
                    obtain rfl := Option.some.inj H
                    have p425 : 0 ≤ (2 : Int) := (by omega)
                    have q425 : 2 < (l0.length : Int) := of_decide_eq_true (by first | (with_reducible assumption) | assumption)
                    obtain ⟨ad425, e425, hx425_0⟩ := Kd.at_string HR0.out 2 p425 q425
                    obtain rfl : ad420 = ad425 := (by injection e425)
                    (try simp only [show (2 : Int).toNat = 2 from rfl, Nat.reduceMul, Nat.reduceEqDiff, Go.Addr.add, ↓reduceIte] at hx425_0)
                    have qi425 : (2 < l0.length) = True := eq_true (by omega)
                    (try rw [show ((2 : Int)).toNat = 2 from rfl] at hx425_0)
                    replace hx425_0 := (HB.out.cell (World.block_lt_of_cell? w _ hx425_0)).trans hx425_0
                    replace p425 := eq_true p425
                    replace q425 := eq_true q425
                    go_wp2_with (first | (go_at_call 47; (with_reducible refine (money_Parse.calls kj25 ((rdOf ByteArray.empty l0 2).extract 1 (rdOf ByteArray.empty l0 2).size) t426 t427 _ A36.out).mono ?_); rintro e w40 ⟨rfl, hb⟩; have n0_ := Aside0.mk (blk_below (g := gb417) (o := .cells #[.string t413, .int .i64 t414, .int .i64 t415] 48 (0, 0)) (by (with_reducible repeat (first | refine blk_drewN ?_ _ | refine blk_drew ?_ | refine blk_alloc ?_ _)); exact BK417.out) hb); have n1_ := Aside0.mk (below_step (by repeat (first | (with_reducible first | exact HB.out | apply below_alloc | apply pw_below_drewN | apply below_drew1 | refine below_set ?_ GE417.out) | exact HB.out)) hb); clear BK417; clear HB; have BK417 := n0_; have HB := n1_; clear n0_ n1_; (try clear hb); (try clear hb2); (try clear hk); (try clear hi)))
                    repeat (go_quiet (first | (go_at_call 47; (with_reducible refine (money_Parse.calls kj25 ((rdOf ByteArray.empty l0 2).extract 1 (rdOf ByteArray.empty l0 2).size) t426 t427 _ A36.out).mono ?_); rintro e w40 ⟨rfl, hb⟩; have n0_ := Aside0.mk (blk_below (g := gb417) (o := .cells #[.string t413, .int .i64 t414, .int .i64 t415] 48 (0, 0)) (by (with_reducible repeat (first | refine blk_drewN ?_ _ | refine blk_drew ?_ | refine blk_alloc ?_ _)); exact BK417.out) hb); have n1_ := Aside0.mk (below_step (by repeat (first | (with_reducible first | exact HB.out | apply below_alloc | apply pw_below_drewN | apply below_drew1 | refine below_set ?_ GE417.out) | exact HB.out)) hb); clear BK417; clear HB; have BK417 := n0_; have HB := n1_; clear n0_ n1_; (try clear hb); (try clear hb2); (try clear hk); (try clear hi))); try go_wp2_with (first | (go_at_call 47; (with_reducible refine (money_Parse.calls kj25 ((rdOf ByteArray.empty l0 2).extract 1 (rdOf ByteArray.empty l0 2).size) t426 t427 _ A36.out).mono ?_); rintro e w40 ⟨rfl, hb⟩; have n0_ := Aside0.mk (blk_below (g := gb417) (o := .cells #[.string t413, .int .i64 t414, .int .i64 t415] 48 (0, 0)) (by (with_reducible repeat (first | refine blk_drewN ?_ _ | refine blk_drew ?_ | refine blk_alloc ?_ _)); exact BK417.out) hb); have n1_ := Aside0.mk (below_step (by repeat (first | (with_reducible first | exact HB.out | apply below_alloc | apply pw_below_drewN | apply below_drew1 | refine below_set ?_ GE417.out) | exact HB.out)) hb); clear BK417; clear HB; have BK417 := n0_; have HB := n1_; clear n0_ n1_; (try clear hb); (try clear hb2); (try clear hk); (try clear hi))))
                    go_ret
                    exact ⟨by first | rfl | (simp [errW_none, errW_some] <;> rfl) | (simp [*, errW_none, errW_some] <;> rfl), by repeat (first | (with_reducible first | exact HB.out | apply below_alloc | apply pw_below_drewN | apply below_drew1 | refine below_set ?_ GE417.out) | exact HB.out)⟩
                   ·rw [if_neg c39] at H
                    have c39b0 : (t416 == 1) = false := beq_eq_false_iff_ne.mpr c39
                    have c39b1 : (t416 != 1) = true := bne_iff_ne.mpr c39
                    obtain rfl := Option.some.inj H
                    have p425 : 0 ≤ (2 : Int) := (by omega)
                    have q425 : 2 < (l0.length : Int) := of_decide_eq_true (by first | (with_reducible assumption) | assumption)
                    obtain ⟨ad425, e425, hx425_0⟩ := Kd.at_string HR0.out 2 p425 q425
                    obtain rfl : ad420 = ad425 := (by injection e425)
                    (try simp only [show (2 : Int).toNat = 2 from rfl, Nat.reduceMul, Nat.reduceEqDiff, Go.Addr.add, ↓reduceIte] at hx425_0)
                    have qi425 : (2 < l0.length) = True := eq_true (by omega)
                    (try rw [show ((2 : Int)).toNat = 2 from rfl] at hx425_0)
                    replace hx425_0 := (HB.out.cell (World.block_lt_of_cell? w _ hx425_0)).trans hx425_0
                    replace p425 := eq_true p425
                    replace q425 := eq_true q425
                    go_wp2_with (first | (go_at_call 47; (with_reducible refine (money_Parse.calls kj25 ((rdOf ByteArray.empty l0 2).extract 1 (rdOf ByteArray.empty l0 2).size) t426 t427 _ A36.out).mono ?_); rintro e w41 ⟨rfl, hb⟩; have n0_ := Aside0.mk (blk_below (g := gb417) (o := .cells #[.string t413, .int .i64 t414, .int .i64 t415] 48 (0, 0)) (by (with_reducible repeat (first | refine blk_drewN ?_ _ | refine blk_drew ?_ | refine blk_alloc ?_ _)); exact BK417.out) hb); have n1_ := Aside0.mk (below_step (by repeat (first | (with_reducible first | exact HB.out | apply below_alloc | apply pw_below_drewN | apply below_drew1 | refine below_set ?_ GE417.out) | exact HB.out)) hb); clear BK417; clear HB; have BK417 := n0_; have HB := n1_; clear n0_ n1_; (try clear hb); (try clear hb2); (try clear hk); (try clear hi)))
                    repeat (go_quiet (first | (go_at_call 47; (with_reducible refine (money_Parse.calls kj25 ((rdOf ByteArray.empty l0 2).extract 1 (rdOf ByteArray.empty l0 2).size) t426 t427 _ A36.out).mono ?_); rintro e w41 ⟨rfl, hb⟩; have n0_ := Aside0.mk (blk_below (g := gb417) (o := .cells #[.string t413, .int .i64 t414, .int .i64 t415] 48 (0, 0)) (by (with_reducible repeat (first | refine blk_drewN ?_ _ | refine blk_drew ?_ | refine blk_alloc ?_ _)); exact BK417.out) hb); have n1_ := Aside0.mk (below_step (by repeat (first | (with_reducible first | exact HB.out | apply below_alloc | apply pw_below_drewN | apply below_drew1 | refine below_set ?_ GE417.out) | exact HB.out)) hb); clear BK417; clear HB; have BK417 := n0_; have HB := n1_; clear n0_ n1_; (try clear hb); (try clear hb2); (try clear hk); (try clear hi))); try go_wp2_with (first | (go_at_call 47; (with_reducible refine (money_Parse.calls kj25 ((rdOf ByteArray.empty l0 2).extract 1 (rdOf ByteArray.empty l0 2).size) t426 t427 _ A36.out).mono ?_); rintro e w41 ⟨rfl, hb⟩; have n0_ := Aside0.mk (blk_below (g := gb417) (o := .cells #[.string t413, .int .i64 t414, .int .i64 t415] 48 (0, 0)) (by (with_reducible repeat (first | refine blk_drewN ?_ _ | refine blk_drew ?_ | refine blk_alloc ?_ _)); exact BK417.out) hb); have n1_ := Aside0.mk (below_step (by repeat (first | (with_reducible first | exact HB.out | apply below_alloc | apply pw_below_drewN | apply below_drew1 | refine below_set ?_ GE417.out) | exact HB.out)) hb); clear BK417; clear HB; have BK417 := n0_; have HB := n1_; clear n0_ n1_; (try clear hb); (try clear hb2); (try clear hk); (try clear hi))))
                    go_ret
                    exact ⟨by first | rfl | (simp [errW_none, errW_some] <;> rfl) | (simp [*, errW_none, errW_some] <;> rfl), by repeat (first | (with_reducible first | exact HB.out | apply below_alloc | apply pw_below_drewN | apply below_drew1 | refine below_set ?_ GE417.out) | exact HB.out)⟩
                  ·rw [if_neg c38] at H
                   have c38b0 : decide (t426 < 0) = false := decide_eq_false c38
                   clear c38
                   by_cases c42 : t426 > 100000
                   ·rw [if_pos c42] at H
                    have c42b0 : decide (100000 < t426) = true := decide_eq_true c42
                    clear c42
                    by_cases c43 : t416 = 1
                    ·rw [if_pos c43] at H
                     have c43b0 : (t416 == 1) = true := beq_iff_eq.mpr c43
                     have c43b1 : (t416 != 1) = false := bne_eq_false_iff_eq.mpr c43
                     clear c43
                     obtain rfl := Option.some.inj H
                     have p425 : 0 ≤ (2 : Int) := (by omega)
                     have q425 : 2 < (l0.length : Int) := of_decide_eq_true (by first | (with_reducible assumption) | assumption)
                     obtain ⟨ad425, e425, hx425_0⟩ := Kd.at_string HR0.out 2 p425 q425
                     obtain rfl : ad420 = ad425 := (by injection e425)
                     (try simp only [show (2 : Int).toNat = 2 from rfl, Nat.reduceMul, Nat.reduceEqDiff, Go.Addr.add, ↓reduceIte] at hx425_0)
                     have qi425 : (2 < l0.length) = True := eq_true (by omega)
                     (try rw [show ((2 : Int)).toNat = 2 from rfl] at hx425_0)
                     replace hx425_0 := (HB.out.cell (World.block_lt_of_cell? w _ hx425_0)).trans hx425_0
                     replace p425 := eq_true p425
                     replace q425 := eq_true q425
                     go_wp2_with (first | (go_at_call 47; (with_reducible refine (money_Parse.calls kj25 ((rdOf ByteArray.empty l0 2).extract 1 (rdOf ByteArray.empty l0 2).size) t426 t427 _ A36.out).mono ?_); rintro e w44 ⟨rfl, hb⟩; have n0_ := Aside0.mk (blk_below (g := gb417) (o := .cells #[.string t413, .int .i64 t414, .int .i64 t415] 48 (0, 0)) (by (with_reducible repeat (first | refine blk_drewN ?_ _ | refine blk_drew ?_ | refine blk_alloc ?_ _)); exact BK417.out) hb); have n1_ := Aside0.mk (below_step (by repeat (first | (with_reducible first | exact HB.out | apply below_alloc | apply pw_below_drewN | apply below_drew1 | refine below_set ?_ GE417.out) | exact HB.out)) hb); clear BK417; clear HB; have BK417 := n0_; have HB := n1_; clear n0_ n1_; (try clear hb); (try clear hb2); (try clear hk); (try clear hi)))
                     repeat (go_quiet (first | (go_at_call 47; (with_reducible refine (money_Parse.calls kj25 ((rdOf ByteArray.empty l0 2).extract 1 (rdOf ByteArray.empty l0 2).size) t426 t427 _ A36.out).mono ?_); rintro e w44 ⟨rfl, hb⟩; have n0_ := Aside0.mk (blk_below (g := gb417) (o := .cells #[.string t413, .int .i64 t414, .int .i64 t415] 48 (0, 0)) (by (with_reducible repeat (first | refine blk_drewN ?_ _ | refine blk_drew ?_ | refine blk_alloc ?_ _)); exact BK417.out) hb); have n1_ := Aside0.mk (below_step (by repeat (first | (with_reducible first | exact HB.out | apply below_alloc | apply pw_below_drewN | apply below_drew1 | refine below_set ?_ GE417.out) | exact HB.out)) hb); clear BK417; clear HB; have BK417 := n0_; have HB := n1_; clear n0_ n1_; (try clear hb); (try clear hb2); (try clear hk); (try clear hi))); try go_wp2_with (first | (go_at_call 47; (with_reducible refine (money_Parse.calls kj25 ((rdOf ByteArray.empty l0 2).extract 1 (rdOf ByteArray.empty l0 2).size) t426 t427 _ A36.out).mono ?_); rintro e w44 ⟨rfl, hb⟩; have n0_ := Aside0.mk (blk_below (g := gb417) (o := .cells #[.string t413, .int .i64 t414, .int .i64 t415] 48 (0, 0)) (by (with_reducible repeat (first | refine blk_drewN ?_ _ | refine blk_drew ?_ | refine blk_alloc ?_ _)); exact BK417.out) hb); have n1_ := Aside0.mk (below_step (by repeat (first | (with_reducible first | exact HB.out | apply below_alloc | apply pw_below_drewN | apply below_drew1 | refine below_set ?_ GE417.out) | exact HB.out)) hb); clear BK417; clear HB; have BK417 := n0_; have HB := n1_; clear n0_ n1_; (try clear hb); (try clear hb2); (try clear hk); (try clear hi))))
                     go_ret
                     exact ⟨by first | rfl | (simp [errW_none, errW_some] <;> rfl) | (simp [*, errW_none, errW_some] <;> rfl), by repeat (first | (with_reducible first | exact HB.out | apply below_alloc | apply pw_below_drewN | apply below_drew1 | refine below_set ?_ GE417.out) | exact HB.out)⟩
                    ·rw [if_neg c43] at H
                     have c43b0 : (t416 == 1) = false := beq_eq_false_iff_ne.mpr c43
                     have c43b1 : (t416 != 1) = true := bne_iff_ne.mpr c43
                     obtain rfl := Option.some.inj H
                     have p425 : 0 ≤ (2 : Int) := (by omega)
                     have q425 : 2 < (l0.length : Int) := of_decide_eq_true (by first | (with_reducible assumption) | assumption)
                     obtain ⟨ad425, e425, hx425_0⟩ := Kd.at_string HR0.out 2 p425 q425
                     obtain rfl : ad420 = ad425 := (by injection e425)
                     (try simp only [show (2 : Int).toNat = 2 from rfl, Nat.reduceMul, Nat.reduceEqDiff, Go.Addr.add, ↓reduceIte] at hx425_0)
                     have qi425 : (2 < l0.length) = True := eq_true (by omega)
                     (try rw [show ((2 : Int)).toNat = 2 from rfl] at hx425_0)
                     replace hx425_0 := (HB.out.cell (World.block_lt_of_cell? w _ hx425_0)).trans hx425_0
                     replace p425 := eq_true p425
                     replace q425 := eq_true q425
                     go_wp2_with (first | (go_at_call 47; (with_reducible refine (money_Parse.calls kj25 ((rdOf ByteArray.empty l0 2).extract 1 (rdOf ByteArray.empty l0 2).size) t426 t427 _ A36.out).mono ?_); rintro e w45 ⟨rfl, hb⟩; have n0_ := Aside0.mk (blk_below (g := gb417) (o := .cells #[.string t413, .int .i64 t414, .int .i64 t415] 48 (0, 0)) (by (with_reducible repeat (first | refine blk_drewN ?_ _ | refine blk_drew ?_ | refine blk_alloc ?_ _)); exact BK417.out) hb); have n1_ := Aside0.mk (below_step (by repeat (first | (with_reducible first | exact HB.out | apply below_alloc | apply pw_below_drewN | apply below_drew1 | refine below_set ?_ GE417.out) | exact HB.out)) hb); clear BK417; clear HB; have BK417 := n0_; have HB := n1_; clear n0_ n1_; (try clear hb); (try clear hb2); (try clear hk); (try clear hi)))
                     repeat (go_quiet (first | (go_at_call 47; (with_reducible refine (money_Parse.calls kj25 ((rdOf ByteArray.empty l0 2).extract 1 (rdOf ByteArray.empty l0 2).size) t426 t427 _ A36.out).mono ?_); rintro e w45 ⟨rfl, hb⟩; have n0_ := Aside0.mk (blk_below (g := gb417) (o := .cells #[.string t413, .int .i64 t414, .int .i64 t415] 48 (0, 0)) (by (with_reducible repeat (first | refine blk_drewN ?_ _ | refine blk_drew ?_ | refine blk_alloc ?_ _)); exact BK417.out) hb); have n1_ := Aside0.mk (below_step (by repeat (first | (with_reducible first | exact HB.out | apply below_alloc | apply pw_below_drewN | apply below_drew1 | refine below_set ?_ GE417.out) | exact HB.out)) hb); clear BK417; clear HB; have BK417 := n0_; have HB := n1_; clear n0_ n1_; (try clear hb); (try clear hb2); (try clear hk); (try clear hi))); try go_wp2_with (first | (go_at_call 47; (with_reducible refine (money_Parse.calls kj25 ((rdOf ByteArray.empty l0 2).extract 1 (rdOf ByteArray.empty l0 2).size) t426 t427 _ A36.out).mono ?_); rintro e w45 ⟨rfl, hb⟩; have n0_ := Aside0.mk (blk_below (g := gb417) (o := .cells #[.string t413, .int .i64 t414, .int .i64 t415] 48 (0, 0)) (by (with_reducible repeat (first | refine blk_drewN ?_ _ | refine blk_drew ?_ | refine blk_alloc ?_ _)); exact BK417.out) hb); have n1_ := Aside0.mk (below_step (by repeat (first | (with_reducible first | exact HB.out | apply below_alloc | apply pw_below_drewN | apply below_drew1 | refine below_set ?_ GE417.out) | exact HB.out)) hb); clear BK417; clear HB; have BK417 := n0_; have HB := n1_; clear n0_ n1_; (try clear hb); (try clear hb2); (try clear hk); (try clear hi))))
                     go_ret
                     exact ⟨by first | rfl | (simp [errW_none, errW_some] <;> rfl) | (simp [*, errW_none, errW_some] <;> rfl), by repeat (first | (with_reducible first | exact HB.out | apply below_alloc | apply pw_below_drewN | apply below_drew1 | refine below_set ?_ GE417.out) | exact HB.out)⟩
                   ·rw [if_neg c42] at H
                    have c42b0 : decide (100000 < t426) = false := decide_eq_false c42
                    clear c42
                    by_cases c46 : t416 = 0
                    ·rw [if_pos c46] at H
                     have c46b0 : (t416 == 0) = true := beq_iff_eq.mpr c46
                     have c46b1 : (t416 != 0) = false := bne_eq_false_iff_eq.mpr c46
                     clear c46
                     by_cases c47 : 0 < (l0.length : Int)
                     ·rw [if_pos c47] at H
                      have c47b0 : decide (0 < (l0.length : Int)) = true := decide_eq_true c47
                      have c47b1 : decide (0 < l0.length) = true := decide_eq_true (by omega)
                      clear c47
                      obtain rfl := Option.some.inj H
                      have p425 : 0 ≤ (2 : Int) := (by omega)
                      have q425 : 2 < (l0.length : Int) := of_decide_eq_true (by first | (with_reducible assumption) | assumption)
                      obtain ⟨ad425, e425, hx425_0⟩ := Kd.at_string HR0.out 2 p425 q425
                      obtain rfl : ad420 = ad425 := (by injection e425)
                      (try simp only [show (2 : Int).toNat = 2 from rfl, Nat.reduceMul, Nat.reduceEqDiff, Go.Addr.add, ↓reduceIte] at hx425_0)
                      have qi425 : (2 < l0.length) = True := eq_true (by omega)
                      (try rw [show ((2 : Int)).toNat = 2 from rfl] at hx425_0)
                      replace hx425_0 := (HB.out.cell (World.block_lt_of_cell? w _ hx425_0)).trans hx425_0
                      replace p425 := eq_true p425
                      replace q425 := eq_true q425
                      go_wp2_with (first | (go_at_call 47; (with_reducible refine (money_Parse.calls kj25 ((rdOf ByteArray.empty l0 2).extract 1 (rdOf ByteArray.empty l0 2).size) t426 t427 _ A36.out).mono ?_); rintro e w48 ⟨rfl, hb⟩; have n0_ := Aside0.mk (blk_below (g := gb417) (o := .cells #[.string t413, .int .i64 t414, .int .i64 t415] 48 (0, 0)) (by (with_reducible repeat (first | refine blk_drewN ?_ _ | refine blk_drew ?_ | refine blk_alloc ?_ _)); exact BK417.out) hb); have n1_ := Aside0.mk (below_step (by repeat (first | (with_reducible first | exact HB.out | apply below_alloc | apply pw_below_drewN | apply below_drew1 | refine below_set ?_ GE417.out) | exact HB.out)) hb); clear BK417; clear HB; have BK417 := n0_; have HB := n1_; clear n0_ n1_; (try clear hb); (try clear hb2); (try clear hk); (try clear hi); have hcz49_0 : w48.cell? ⟨gb417, 0, none⟩ = some (.string t413) := (blk_cell BK417.out 0).trans rfl; have hcz49_1 : w48.cell? ⟨gb417, 1, none⟩ = some (.int .i64 t414) := (blk_cell BK417.out 1).trans rfl; have hcz49_2 : w48.cell? ⟨gb417, 2, none⟩ = some (.int .i64 t415) := (blk_cell BK417.out 2).trans rfl; have hfz49_0 := blk_frozen BK417.out 0; have hfz49_1 := blk_frozen BK417.out 1; have hfz49_2 := blk_frozen BK417.out 2; have p428 : 0 ≤ (0 : Int) := (by omega); have q428 : 0 < (l0.length : Int) := of_decide_eq_true (by first | (with_reducible assumption) | assumption); obtain ⟨ad428, e428, hx428_0⟩ := Kd.at_string HR0.out 0 p428 q428; obtain rfl : ad420 = ad428 := (by injection e428); have qi428 : (0 < l0.length) = True := eq_true (by omega); (try rw [show ((0 : Int)).toNat = 0 from rfl] at hx428_0); (try rw [Addr.add_zero'] at hx428_0); replace hx428_0 := (HB.out.cell (World.block_lt_of_cell? w _ hx428_0)).trans hx428_0; replace p428 := eq_true p428; replace q428 := eq_true q428))
                      repeat (go_quiet (first | (go_at_call 47; (with_reducible refine (money_Parse.calls kj25 ((rdOf ByteArray.empty l0 2).extract 1 (rdOf ByteArray.empty l0 2).size) t426 t427 _ A36.out).mono ?_); rintro e w48 ⟨rfl, hb⟩; have n0_ := Aside0.mk (blk_below (g := gb417) (o := .cells #[.string t413, .int .i64 t414, .int .i64 t415] 48 (0, 0)) (by (with_reducible repeat (first | refine blk_drewN ?_ _ | refine blk_drew ?_ | refine blk_alloc ?_ _)); exact BK417.out) hb); have n1_ := Aside0.mk (below_step (by repeat (first | (with_reducible first | exact HB.out | apply below_alloc | apply pw_below_drewN | apply below_drew1 | refine below_set ?_ GE417.out) | exact HB.out)) hb); clear BK417; clear HB; have BK417 := n0_; have HB := n1_; clear n0_ n1_; (try clear hb); (try clear hb2); (try clear hk); (try clear hi); have hcz49_0 : w48.cell? ⟨gb417, 0, none⟩ = some (.string t413) := (blk_cell BK417.out 0).trans rfl; have hcz49_1 : w48.cell? ⟨gb417, 1, none⟩ = some (.int .i64 t414) := (blk_cell BK417.out 1).trans rfl; have hcz49_2 : w48.cell? ⟨gb417, 2, none⟩ = some (.int .i64 t415) := (blk_cell BK417.out 2).trans rfl; have hfz49_0 := blk_frozen BK417.out 0; have hfz49_1 := blk_frozen BK417.out 1; have hfz49_2 := blk_frozen BK417.out 2; have p428 : 0 ≤ (0 : Int) := (by omega); have q428 : 0 < (l0.length : Int) := of_decide_eq_true (by first | (with_reducible assumption) | assumption); obtain ⟨ad428, e428, hx428_0⟩ := Kd.at_string HR0.out 0 p428 q428; obtain rfl : ad420 = ad428 := (by injection e428); have qi428 : (0 < l0.length) = True := eq_true (by omega); (try rw [show ((0 : Int)).toNat = 0 from rfl] at hx428_0); (try rw [Addr.add_zero'] at hx428_0); replace hx428_0 := (HB.out.cell (World.block_lt_of_cell? w _ hx428_0)).trans hx428_0; replace p428 := eq_true p428; replace q428 := eq_true q428)); try go_wp2_with (first | (go_at_call 47; (with_reducible refine (money_Parse.calls kj25 ((rdOf ByteArray.empty l0 2).extract 1 (rdOf ByteArray.empty l0 2).size) t426 t427 _ A36.out).mono ?_); rintro e w48 ⟨rfl, hb⟩; have n0_ := Aside0.mk (blk_below (g := gb417) (o := .cells #[.string t413, .int .i64 t414, .int .i64 t415] 48 (0, 0)) (by (with_reducible repeat (first | refine blk_drewN ?_ _ | refine blk_drew ?_ | refine blk_alloc ?_ _)); exact BK417.out) hb); have n1_ := Aside0.mk (below_step (by repeat (first | (with_reducible first | exact HB.out | apply below_alloc | apply pw_below_drewN | apply below_drew1 | refine below_set ?_ GE417.out) | exact HB.out)) hb); clear BK417; clear HB; have BK417 := n0_; have HB := n1_; clear n0_ n1_; (try clear hb); (try clear hb2); (try clear hk); (try clear hi); have hcz49_0 : w48.cell? ⟨gb417, 0, none⟩ = some (.string t413) := (blk_cell BK417.out 0).trans rfl; have hcz49_1 : w48.cell? ⟨gb417, 1, none⟩ = some (.int .i64 t414) := (blk_cell BK417.out 1).trans rfl; have hcz49_2 : w48.cell? ⟨gb417, 2, none⟩ = some (.int .i64 t415) := (blk_cell BK417.out 2).trans rfl; have hfz49_0 := blk_frozen BK417.out 0; have hfz49_1 := blk_frozen BK417.out 1; have hfz49_2 := blk_frozen BK417.out 2; have p428 : 0 ≤ (0 : Int) := (by omega); have q428 : 0 < (l0.length : Int) := of_decide_eq_true (by first | (with_reducible assumption) | assumption); obtain ⟨ad428, e428, hx428_0⟩ := Kd.at_string HR0.out 0 p428 q428; obtain rfl : ad420 = ad428 := (by injection e428); have qi428 : (0 < l0.length) = True := eq_true (by omega); (try rw [show ((0 : Int)).toNat = 0 from rfl] at hx428_0); (try rw [Addr.add_zero'] at hx428_0); replace hx428_0 := (HB.out.cell (World.block_lt_of_cell? w _ hx428_0)).trans hx428_0; replace p428 := eq_true p428; replace q428 := eq_true q428)))
                      go_ret
                      exact ⟨by first | rfl | (simp [errW_none, errW_some] <;> rfl) | (simp [*, errW_none, errW_some] <;> rfl), by repeat (first | (with_reducible first | exact HB.out | apply below_alloc | apply pw_below_drewN | apply below_drew1 | refine below_set ?_ GE417.out) | exact HB.out)⟩
                     ·rw [if_neg c47] at H
                      exact absurd H (by simp)
                    ·rw [if_neg c46] at H
                     have c46b0 : (t416 == 0) = false := beq_eq_false_iff_ne.mpr c46
                     have c46b1 : (t416 != 0) = true := bne_iff_ne.mpr c46
                     obtain rfl := Option.some.inj H
                     have p425 : 0 ≤ (2 : Int) := (by omega)
                     have q425 : 2 < (l0.length : Int) := of_decide_eq_true (by first | (with_reducible assumption) | assumption)
                     obtain ⟨ad425, e425, hx425_0⟩ := Kd.at_string HR0.out 2 p425 q425
                     obtain rfl : ad420 = ad425 := (by injection e425)
                     (try simp only [show (2 : Int).toNat = 2 from rfl, Nat.reduceMul, Nat.reduceEqDiff, Go.Addr.add, ↓reduceIte] at hx425_0)
                     have qi425 : (2 < l0.length) = True := eq_true (by omega)
                     (try rw [show ((2 : Int)).toNat = 2 from rfl] at hx425_0)
                     replace hx425_0 := (HB.out.cell (World.block_lt_of_cell? w _ hx425_0)).trans hx425_0
                     replace p425 := eq_true p425
                     replace q425 := eq_true q425
                     go_wp2_with (first | (go_at_call 47; (with_reducible refine (money_Parse.calls kj25 ((rdOf ByteArray.empty l0 2).extract 1 (rdOf ByteArray.empty l0 2).size) t426 t427 _ A36.out).mono ?_); rintro e w50 ⟨rfl, hb⟩; have n0_ := Aside0.mk (blk_below (g := gb417) (o := .cells #[.string t413, .int .i64 t414, .int .i64 t415] 48 (0, 0)) (by (with_reducible repeat (first | refine blk_drewN ?_ _ | refine blk_drew ?_ | refine blk_alloc ?_ _)); exact BK417.out) hb); have n1_ := Aside0.mk (below_step (by repeat (first | (with_reducible first | exact HB.out | apply below_alloc | apply pw_below_drewN | apply below_drew1 | refine below_set ?_ GE417.out) | exact HB.out)) hb); clear BK417; clear HB; have BK417 := n0_; have HB := n1_; clear n0_ n1_; (try clear hb); (try clear hb2); (try clear hk); (try clear hi)))
                     repeat (go_quiet (first | (go_at_call 47; (with_reducible refine (money_Parse.calls kj25 ((rdOf ByteArray.empty l0 2).extract 1 (rdOf ByteArray.empty l0 2).size) t426 t427 _ A36.out).mono ?_); rintro e w50 ⟨rfl, hb⟩; have n0_ := Aside0.mk (blk_below (g := gb417) (o := .cells #[.string t413, .int .i64 t414, .int .i64 t415] 48 (0, 0)) (by (with_reducible repeat (first | refine blk_drewN ?_ _ | refine blk_drew ?_ | refine blk_alloc ?_ _)); exact BK417.out) hb); have n1_ := Aside0.mk (below_step (by repeat (first | (with_reducible first | exact HB.out | apply below_alloc | apply pw_below_drewN | apply below_drew1 | refine below_set ?_ GE417.out) | exact HB.out)) hb); clear BK417; clear HB; have BK417 := n0_; have HB := n1_; clear n0_ n1_; (try clear hb); (try clear hb2); (try clear hk); (try clear hi))); try go_wp2_with (first | (go_at_call 47; (with_reducible refine (money_Parse.calls kj25 ((rdOf ByteArray.empty l0 2).extract 1 (rdOf ByteArray.empty l0 2).size) t426 t427 _ A36.out).mono ?_); rintro e w50 ⟨rfl, hb⟩; have n0_ := Aside0.mk (blk_below (g := gb417) (o := .cells #[.string t413, .int .i64 t414, .int .i64 t415] 48 (0, 0)) (by (with_reducible repeat (first | refine blk_drewN ?_ _ | refine blk_drew ?_ | refine blk_alloc ?_ _)); exact BK417.out) hb); have n1_ := Aside0.mk (below_step (by repeat (first | (with_reducible first | exact HB.out | apply below_alloc | apply pw_below_drewN | apply below_drew1 | refine below_set ?_ GE417.out) | exact HB.out)) hb); clear BK417; clear HB; have BK417 := n0_; have HB := n1_; clear n0_ n1_; (try clear hb); (try clear hb2); (try clear hk); (try clear hi))))
                     go_ret
                     exact ⟨by first | rfl | (simp [errW_none, errW_some] <;> rfl) | (simp [*, errW_none, errW_some] <;> rfl), by repeat (first | (with_reducible first | exact HB.out | apply below_alloc | apply pw_below_drewN | apply below_drew1 | refine below_set ?_ GE417.out) | exact HB.out)⟩
                 ·rw [if_neg c37] at H
                  have c37b0 : (t427 == 0) = false := beq_eq_false_iff_ne.mpr c37
                  have c37b1 : (t427 != 0) = true := bne_iff_ne.mpr c37
                  by_cases c51 : t416 = t427
                  ·rw [if_pos c51] at H
                   have c51b0 : (t416 == t427) = true := beq_iff_eq.mpr c51
                   have c51b1 : (t416 != t427) = false := bne_eq_false_iff_eq.mpr c51
                   clear c51
                   obtain rfl := Option.some.inj H
                   have p425 : 0 ≤ (2 : Int) := (by omega)
                   have q425 : 2 < (l0.length : Int) := of_decide_eq_true (by first | (with_reducible assumption) | assumption)
                   obtain ⟨ad425, e425, hx425_0⟩ := Kd.at_string HR0.out 2 p425 q425
                   obtain rfl : ad420 = ad425 := (by injection e425)
                   (try simp only [show (2 : Int).toNat = 2 from rfl, Nat.reduceMul, Nat.reduceEqDiff, Go.Addr.add, ↓reduceIte] at hx425_0)
                   have qi425 : (2 < l0.length) = True := eq_true (by omega)
                   (try rw [show ((2 : Int)).toNat = 2 from rfl] at hx425_0)
                   replace hx425_0 := (HB.out.cell (World.block_lt_of_cell? w _ hx425_0)).trans hx425_0
                   replace p425 := eq_true p425
                   replace q425 := eq_true q425
                   go_wp2_with (first | (go_at_call 47; (with_reducible refine (money_Parse.calls kj25 ((rdOf ByteArray.empty l0 2).extract 1 (rdOf ByteArray.empty l0 2).size) t426 t427 _ A36.out).mono ?_); rintro e w52 ⟨rfl, hb⟩; have n0_ := Aside0.mk (blk_below (g := gb417) (o := .cells #[.string t413, .int .i64 t414, .int .i64 t415] 48 (0, 0)) (by (with_reducible repeat (first | refine blk_drewN ?_ _ | refine blk_drew ?_ | refine blk_alloc ?_ _)); exact BK417.out) hb); have n1_ := Aside0.mk (below_step (by repeat (first | (with_reducible first | exact HB.out | apply below_alloc | apply pw_below_drewN | apply below_drew1 | refine below_set ?_ GE417.out) | exact HB.out)) hb); clear BK417; clear HB; have BK417 := n0_; have HB := n1_; clear n0_ n1_; (try clear hb); (try clear hb2); (try clear hk); (try clear hi)))
                   repeat (go_quiet (first | (go_at_call 47; (with_reducible refine (money_Parse.calls kj25 ((rdOf ByteArray.empty l0 2).extract 1 (rdOf ByteArray.empty l0 2).size) t426 t427 _ A36.out).mono ?_); rintro e w52 ⟨rfl, hb⟩; have n0_ := Aside0.mk (blk_below (g := gb417) (o := .cells #[.string t413, .int .i64 t414, .int .i64 t415] 48 (0, 0)) (by (with_reducible repeat (first | refine blk_drewN ?_ _ | refine blk_drew ?_ | refine blk_alloc ?_ _)); exact BK417.out) hb); have n1_ := Aside0.mk (below_step (by repeat (first | (with_reducible first | exact HB.out | apply below_alloc | apply pw_below_drewN | apply below_drew1 | refine below_set ?_ GE417.out) | exact HB.out)) hb); clear BK417; clear HB; have BK417 := n0_; have HB := n1_; clear n0_ n1_; (try clear hb); (try clear hb2); (try clear hk); (try clear hi))); try go_wp2_with (first | (go_at_call 47; (with_reducible refine (money_Parse.calls kj25 ((rdOf ByteArray.empty l0 2).extract 1 (rdOf ByteArray.empty l0 2).size) t426 t427 _ A36.out).mono ?_); rintro e w52 ⟨rfl, hb⟩; have n0_ := Aside0.mk (blk_below (g := gb417) (o := .cells #[.string t413, .int .i64 t414, .int .i64 t415] 48 (0, 0)) (by (with_reducible repeat (first | refine blk_drewN ?_ _ | refine blk_drew ?_ | refine blk_alloc ?_ _)); exact BK417.out) hb); have n1_ := Aside0.mk (below_step (by repeat (first | (with_reducible first | exact HB.out | apply below_alloc | apply pw_below_drewN | apply below_drew1 | refine below_set ?_ GE417.out) | exact HB.out)) hb); clear BK417; clear HB; have BK417 := n0_; have HB := n1_; clear n0_ n1_; (try clear hb); (try clear hb2); (try clear hk); (try clear hi))))
                   go_ret
                   exact ⟨by first | rfl | (simp [errW_none, errW_some] <;> rfl) | (simp [*, errW_none, errW_some] <;> rfl), by repeat (first | (with_reducible first | exact HB.out | apply below_alloc | apply pw_below_drewN | apply below_drew1 | refine below_set ?_ GE417.out) | exact HB.out)⟩
                  ·rw [if_neg c51] at H
                   have c51b0 : (t416 == t427) = false := beq_eq_false_iff_ne.mpr c51
                   have c51b1 : (t416 != t427) = true := bne_iff_ne.mpr c51
                   obtain rfl := Option.some.inj H
                   have p425 : 0 ≤ (2 : Int) := (by omega)
                   have q425 : 2 < (l0.length : Int) := of_decide_eq_true (by first | (with_reducible assumption) | assumption)
                   obtain ⟨ad425, e425, hx425_0⟩ := Kd.at_string HR0.out 2 p425 q425
                   obtain rfl : ad420 = ad425 := (by injection e425)
                   (try simp only [show (2 : Int).toNat = 2 from rfl, Nat.reduceMul, Nat.reduceEqDiff, Go.Addr.add, ↓reduceIte] at hx425_0)
                   have qi425 : (2 < l0.length) = True := eq_true (by omega)
                   (try rw [show ((2 : Int)).toNat = 2 from rfl] at hx425_0)
                   replace hx425_0 := (HB.out.cell (World.block_lt_of_cell? w _ hx425_0)).trans hx425_0
                   replace p425 := eq_true p425
                   replace q425 := eq_true q425
                   go_wp2_with (first | (go_at_call 47; (with_reducible refine (money_Parse.calls kj25 ((rdOf ByteArray.empty l0 2).extract 1 (rdOf ByteArray.empty l0 2).size) t426 t427 _ A36.out).mono ?_); rintro e w53 ⟨rfl, hb⟩; have n0_ := Aside0.mk (blk_below (g := gb417) (o := .cells #[.string t413, .int .i64 t414, .int .i64 t415] 48 (0, 0)) (by (with_reducible repeat (first | refine blk_drewN ?_ _ | refine blk_drew ?_ | refine blk_alloc ?_ _)); exact BK417.out) hb); have n1_ := Aside0.mk (below_step (by repeat (first | (with_reducible first | exact HB.out | apply below_alloc | apply pw_below_drewN | apply below_drew1 | refine below_set ?_ GE417.out) | exact HB.out)) hb); clear BK417; clear HB; have BK417 := n0_; have HB := n1_; clear n0_ n1_; (try clear hb); (try clear hb2); (try clear hk); (try clear hi)))
                   repeat (go_quiet (first | (go_at_call 47; (with_reducible refine (money_Parse.calls kj25 ((rdOf ByteArray.empty l0 2).extract 1 (rdOf ByteArray.empty l0 2).size) t426 t427 _ A36.out).mono ?_); rintro e w53 ⟨rfl, hb⟩; have n0_ := Aside0.mk (blk_below (g := gb417) (o := .cells #[.string t413, .int .i64 t414, .int .i64 t415] 48 (0, 0)) (by (with_reducible repeat (first | refine blk_drewN ?_ _ | refine blk_drew ?_ | refine blk_alloc ?_ _)); exact BK417.out) hb); have n1_ := Aside0.mk (below_step (by repeat (first | (with_reducible first | exact HB.out | apply below_alloc | apply pw_below_drewN | apply below_drew1 | refine below_set ?_ GE417.out) | exact HB.out)) hb); clear BK417; clear HB; have BK417 := n0_; have HB := n1_; clear n0_ n1_; (try clear hb); (try clear hb2); (try clear hk); (try clear hi))); try go_wp2_with (first | (go_at_call 47; (with_reducible refine (money_Parse.calls kj25 ((rdOf ByteArray.empty l0 2).extract 1 (rdOf ByteArray.empty l0 2).size) t426 t427 _ A36.out).mono ?_); rintro e w53 ⟨rfl, hb⟩; have n0_ := Aside0.mk (blk_below (g := gb417) (o := .cells #[.string t413, .int .i64 t414, .int .i64 t415] 48 (0, 0)) (by (with_reducible repeat (first | refine blk_drewN ?_ _ | refine blk_drew ?_ | refine blk_alloc ?_ _)); exact BK417.out) hb); have n1_ := Aside0.mk (below_step (by repeat (first | (with_reducible first | exact HB.out | apply below_alloc | apply pw_below_drewN | apply below_drew1 | refine below_set ?_ GE417.out) | exact HB.out)) hb); clear BK417; clear HB; have BK417 := n0_; have HB := n1_; clear n0_ n1_; (try clear hb); (try clear hb2); (try clear hk); (try clear hi))))
                   go_ret
                   exact ⟨by first | rfl | (simp [errW_none, errW_some] <;> rfl) | (simp [*, errW_none, errW_some] <;> rfl), by repeat (first | (with_reducible first | exact HB.out | apply below_alloc | apply pw_below_drewN | apply below_drew1 | refine below_set ?_ GE417.out) | exact HB.out)⟩
                ·rw [if_neg c35] at H
                 exact absurd H (by simp)
               ·rw [if_neg c34] at H
                exact absurd H (by simp)
           ·rw [if_neg c25] at H
            have c25b0 : ((l0.length : Int) == 3) = false := beq_eq_false_iff_ne.mpr c25
            have c25b1 : ((l0.length : Int) != 3) = true := bne_iff_ne.mpr c25
            by_cases c54 : t416 = 0
            ·rw [if_pos c54] at H
             have c54b0 : (t416 == 0) = true := beq_iff_eq.mpr c54
             have c54b1 : (t416 != 0) = false := bne_eq_false_iff_eq.mpr c54
             clear c54
             by_cases c55 : 0 < (l0.length : Int)
             ·rw [if_pos c55] at H
              have c55b0 : decide (0 < (l0.length : Int)) = true := decide_eq_true c55
              have c55b1 : decide (0 < l0.length) = true := decide_eq_true (by omega)
              clear c55
              obtain rfl := Option.some.inj H
              have p420 : 0 ≤ (1 : Int) := (by omega)
              have q420 : 1 < (l0.length : Int) := of_decide_eq_true (by first | (with_reducible assumption) | assumption)
              obtain ⟨ad420, e420, hx420_0⟩ := Kd.at_string HR0.out 1 p420 q420
              cases e420
              (try simp only [show (1 : Int).toNat = 1 from rfl, Nat.reduceMul, Nat.reduceEqDiff, Go.Addr.add, ↓reduceIte] at hx420_0)
              have qi420 : (1 < l0.length) = True := eq_true (by omega)
              (try rw [show ((1 : Int)).toNat = 1 from rfl] at hx420_0)
              replace hx420_0 := (HB.out.cell (World.block_lt_of_cell? w _ hx420_0)).trans hx420_0
              replace p420 := eq_true p420
              replace q420 := eq_true q420
              go_wp2_with (first | (go_at_call 47; (with_reducible refine (money_Parse.calls kj11 (rdOf ByteArray.empty l0 1) t421 t422 _ A23.out).mono ?_); rintro e w56 ⟨rfl, hb⟩; have n0_ := Aside0.mk (blk_below (g := gb417) (o := .cells #[.string t413, .int .i64 t414, .int .i64 t415] 48 (0, 0)) (by (with_reducible repeat (first | refine blk_drewN ?_ _ | refine blk_drew ?_ | refine blk_alloc ?_ _)); exact BK417.out) hb); have n1_ := Aside0.mk (below_step (by repeat (first | (with_reducible first | exact HB.out | apply below_alloc | apply pw_below_drewN | apply below_drew1 | refine below_set ?_ GE417.out) | exact HB.out)) hb); clear BK417; clear HB; have BK417 := n0_; have HB := n1_; clear n0_ n1_; (try clear hb); (try clear hb2); (try clear hk); (try clear hi); have hcz57_0 : w56.cell? ⟨gb417, 0, none⟩ = some (.string t413) := (blk_cell BK417.out 0).trans rfl; have hcz57_1 : w56.cell? ⟨gb417, 1, none⟩ = some (.int .i64 t414) := (blk_cell BK417.out 1).trans rfl; have hcz57_2 : w56.cell? ⟨gb417, 2, none⟩ = some (.int .i64 t415) := (blk_cell BK417.out 2).trans rfl; have hfz57_0 := blk_frozen BK417.out 0; have hfz57_1 := blk_frozen BK417.out 1; have hfz57_2 := blk_frozen BK417.out 2; have p429 : 0 ≤ (0 : Int) := (by omega); have q429 : 0 < (l0.length : Int) := of_decide_eq_true (by first | (with_reducible assumption) | assumption); obtain ⟨ad429, e429, hx429_0⟩ := Kd.at_string HR0.out 0 p429 q429; obtain rfl : ad420 = ad429 := (by injection e429); have qi429 : (0 < l0.length) = True := eq_true (by omega); (try rw [show ((0 : Int)).toNat = 0 from rfl] at hx429_0); (try rw [Addr.add_zero'] at hx429_0); replace hx429_0 := (HB.out.cell (World.block_lt_of_cell? w _ hx429_0)).trans hx429_0; replace p429 := eq_true p429; replace q429 := eq_true q429))
              repeat (go_quiet (first | (go_at_call 47; (with_reducible refine (money_Parse.calls kj11 (rdOf ByteArray.empty l0 1) t421 t422 _ A23.out).mono ?_); rintro e w56 ⟨rfl, hb⟩; have n0_ := Aside0.mk (blk_below (g := gb417) (o := .cells #[.string t413, .int .i64 t414, .int .i64 t415] 48 (0, 0)) (by (with_reducible repeat (first | refine blk_drewN ?_ _ | refine blk_drew ?_ | refine blk_alloc ?_ _)); exact BK417.out) hb); have n1_ := Aside0.mk (below_step (by repeat (first | (with_reducible first | exact HB.out | apply below_alloc | apply pw_below_drewN | apply below_drew1 | refine below_set ?_ GE417.out) | exact HB.out)) hb); clear BK417; clear HB; have BK417 := n0_; have HB := n1_; clear n0_ n1_; (try clear hb); (try clear hb2); (try clear hk); (try clear hi); have hcz57_0 : w56.cell? ⟨gb417, 0, none⟩ = some (.string t413) := (blk_cell BK417.out 0).trans rfl; have hcz57_1 : w56.cell? ⟨gb417, 1, none⟩ = some (.int .i64 t414) := (blk_cell BK417.out 1).trans rfl; have hcz57_2 : w56.cell? ⟨gb417, 2, none⟩ = some (.int .i64 t415) := (blk_cell BK417.out 2).trans rfl; have hfz57_0 := blk_frozen BK417.out 0; have hfz57_1 := blk_frozen BK417.out 1; have hfz57_2 := blk_frozen BK417.out 2; have p429 : 0 ≤ (0 : Int) := (by omega); have q429 : 0 < (l0.length : Int) := of_decide_eq_true (by first | (with_reducible assumption) | assumption); obtain ⟨ad429, e429, hx429_0⟩ := Kd.at_string HR0.out 0 p429 q429; obtain rfl : ad420 = ad429 := (by injection e429); have qi429 : (0 < l0.length) = True := eq_true (by omega); (try rw [show ((0 : Int)).toNat = 0 from rfl] at hx429_0); (try rw [Addr.add_zero'] at hx429_0); replace hx429_0 := (HB.out.cell (World.block_lt_of_cell? w _ hx429_0)).trans hx429_0; replace p429 := eq_true p429; replace q429 := eq_true q429)); try go_wp2_with (first | (go_at_call 47; (with_reducible refine (money_Parse.calls kj11 (rdOf ByteArray.empty l0 1) t421 t422 _ A23.out).mono ?_); rintro e w56 ⟨rfl, hb⟩; have n0_ := Aside0.mk (blk_below (g := gb417) (o := .cells #[.string t413, .int .i64 t414, .int .i64 t415] 48 (0, 0)) (by (with_reducible repeat (first | refine blk_drewN ?_ _ | refine blk_drew ?_ | refine blk_alloc ?_ _)); exact BK417.out) hb); have n1_ := Aside0.mk (below_step (by repeat (first | (with_reducible first | exact HB.out | apply below_alloc | apply pw_below_drewN | apply below_drew1 | refine below_set ?_ GE417.out) | exact HB.out)) hb); clear BK417; clear HB; have BK417 := n0_; have HB := n1_; clear n0_ n1_; (try clear hb); (try clear hb2); (try clear hk); (try clear hi); have hcz57_0 : w56.cell? ⟨gb417, 0, none⟩ = some (.string t413) := (blk_cell BK417.out 0).trans rfl; have hcz57_1 : w56.cell? ⟨gb417, 1, none⟩ = some (.int .i64 t414) := (blk_cell BK417.out 1).trans rfl; have hcz57_2 : w56.cell? ⟨gb417, 2, none⟩ = some (.int .i64 t415) := (blk_cell BK417.out 2).trans rfl; have hfz57_0 := blk_frozen BK417.out 0; have hfz57_1 := blk_frozen BK417.out 1; have hfz57_2 := blk_frozen BK417.out 2; have p429 : 0 ≤ (0 : Int) := (by omega); have q429 : 0 < (l0.length : Int) := of_decide_eq_true (by first | (with_reducible assumption) | assumption); obtain ⟨ad429, e429, hx429_0⟩ := Kd.at_string HR0.out 0 p429 q429; obtain rfl : ad420 = ad429 := (by injection e429); have qi429 : (0 < l0.length) = True := eq_true (by omega); (try rw [show ((0 : Int)).toNat = 0 from rfl] at hx429_0); (try rw [Addr.add_zero'] at hx429_0); replace hx429_0 := (HB.out.cell (World.block_lt_of_cell? w _ hx429_0)).trans hx429_0; replace p429 := eq_true p429; replace q429 := eq_true q429)))
              go_ret
              exact ⟨by first | rfl | (simp [errW_none, errW_some] <;> rfl) | (simp [*, errW_none, errW_some] <;> rfl), by repeat (first | (with_reducible first | exact HB.out | apply below_alloc | apply pw_below_drewN | apply below_drew1 | refine below_set ?_ GE417.out) | exact HB.out)⟩
             ·rw [if_neg c55] at H
              exact absurd H (by simp)
            ·rw [if_neg c54] at H
             have c54b0 : (t416 == 0) = false := beq_eq_false_iff_ne.mpr c54
             have c54b1 : (t416 != 0) = true := bne_iff_ne.mpr c54
             obtain rfl := Option.some.inj H
             have p420 : 0 ≤ (1 : Int) := (by omega)
             have q420 : 1 < (l0.length : Int) := of_decide_eq_true (by first | (with_reducible assumption) | assumption)
             obtain ⟨ad420, e420, hx420_0⟩ := Kd.at_string HR0.out 1 p420 q420
             cases e420
             (try simp only [show (1 : Int).toNat = 1 from rfl, Nat.reduceMul, Nat.reduceEqDiff, Go.Addr.add, ↓reduceIte] at hx420_0)
             have qi420 : (1 < l0.length) = True := eq_true (by omega)
             (try rw [show ((1 : Int)).toNat = 1 from rfl] at hx420_0)
             replace hx420_0 := (HB.out.cell (World.block_lt_of_cell? w _ hx420_0)).trans hx420_0
             replace p420 := eq_true p420
             replace q420 := eq_true q420
             go_wp2_with (first | (go_at_call 47; (with_reducible refine (money_Parse.calls kj11 (rdOf ByteArray.empty l0 1) t421 t422 _ A23.out).mono ?_); rintro e w58 ⟨rfl, hb⟩; have n0_ := Aside0.mk (blk_below (g := gb417) (o := .cells #[.string t413, .int .i64 t414, .int .i64 t415] 48 (0, 0)) (by (with_reducible repeat (first | refine blk_drewN ?_ _ | refine blk_drew ?_ | refine blk_alloc ?_ _)); exact BK417.out) hb); have n1_ := Aside0.mk (below_step (by repeat (first | (with_reducible first | exact HB.out | apply below_alloc | apply pw_below_drewN | apply below_drew1 | refine below_set ?_ GE417.out) | exact HB.out)) hb); clear BK417; clear HB; have BK417 := n0_; have HB := n1_; clear n0_ n1_; (try clear hb); (try clear hb2); (try clear hk); (try clear hi)))
             repeat (go_quiet (first | (go_at_call 47; (with_reducible refine (money_Parse.calls kj11 (rdOf ByteArray.empty l0 1) t421 t422 _ A23.out).mono ?_); rintro e w58 ⟨rfl, hb⟩; have n0_ := Aside0.mk (blk_below (g := gb417) (o := .cells #[.string t413, .int .i64 t414, .int .i64 t415] 48 (0, 0)) (by (with_reducible repeat (first | refine blk_drewN ?_ _ | refine blk_drew ?_ | refine blk_alloc ?_ _)); exact BK417.out) hb); have n1_ := Aside0.mk (below_step (by repeat (first | (with_reducible first | exact HB.out | apply below_alloc | apply pw_below_drewN | apply below_drew1 | refine below_set ?_ GE417.out) | exact HB.out)) hb); clear BK417; clear HB; have BK417 := n0_; have HB := n1_; clear n0_ n1_; (try clear hb); (try clear hb2); (try clear hk); (try clear hi))); try go_wp2_with (first | (go_at_call 47; (with_reducible refine (money_Parse.calls kj11 (rdOf ByteArray.empty l0 1) t421 t422 _ A23.out).mono ?_); rintro e w58 ⟨rfl, hb⟩; have n0_ := Aside0.mk (blk_below (g := gb417) (o := .cells #[.string t413, .int .i64 t414, .int .i64 t415] 48 (0, 0)) (by (with_reducible repeat (first | refine blk_drewN ?_ _ | refine blk_drew ?_ | refine blk_alloc ?_ _)); exact BK417.out) hb); have n1_ := Aside0.mk (below_step (by repeat (first | (with_reducible first | exact HB.out | apply below_alloc | apply pw_below_drewN | apply below_drew1 | refine below_set ?_ GE417.out) | exact HB.out)) hb); clear BK417; clear HB; have BK417 := n0_; have HB := n1_; clear n0_ n1_; (try clear hb); (try clear hb2); (try clear hk); (try clear hi))))
             go_ret
             exact ⟨by first | rfl | (simp [errW_none, errW_some] <;> rfl) | (simp [*, errW_none, errW_some] <;> rfl), by repeat (first | (with_reducible first | exact HB.out | apply below_alloc | apply pw_below_drewN | apply below_drew1 | refine below_set ?_ GE417.out) | exact HB.out)⟩
          ·rw [if_neg c24] at H
           have c24b0 : (t422 == 0) = false := beq_eq_false_iff_ne.mpr c24
           have c24b1 : (t422 != 0) = true := bne_iff_ne.mpr c24
           by_cases c59 : t416 = t422
           ·rw [if_pos c59] at H
            have c59b0 : (t416 == t422) = true := beq_iff_eq.mpr c59
            have c59b1 : (t416 != t422) = false := bne_eq_false_iff_eq.mpr c59
            clear c59
            obtain rfl := Option.some.inj H
            have p420 : 0 ≤ (1 : Int) := (by omega)
            have q420 : 1 < (l0.length : Int) := of_decide_eq_true (by first | (with_reducible assumption) | assumption)
            obtain ⟨ad420, e420, hx420_0⟩ := Kd.at_string HR0.out 1 p420 q420
            cases e420
            (try simp only [show (1 : Int).toNat = 1 from rfl, Nat.reduceMul, Nat.reduceEqDiff, Go.Addr.add, ↓reduceIte] at hx420_0)
            have qi420 : (1 < l0.length) = True := eq_true (by omega)
            (try rw [show ((1 : Int)).toNat = 1 from rfl] at hx420_0)
            replace hx420_0 := (HB.out.cell (World.block_lt_of_cell? w _ hx420_0)).trans hx420_0
            replace p420 := eq_true p420
            replace q420 := eq_true q420
            go_wp2_with (first | (go_at_call 47; (with_reducible refine (money_Parse.calls kj11 (rdOf ByteArray.empty l0 1) t421 t422 _ A23.out).mono ?_); rintro e w60 ⟨rfl, hb⟩; have n0_ := Aside0.mk (blk_below (g := gb417) (o := .cells #[.string t413, .int .i64 t414, .int .i64 t415] 48 (0, 0)) (by (with_reducible repeat (first | refine blk_drewN ?_ _ | refine blk_drew ?_ | refine blk_alloc ?_ _)); exact BK417.out) hb); have n1_ := Aside0.mk (below_step (by repeat (first | (with_reducible first | exact HB.out | apply below_alloc | apply pw_below_drewN | apply below_drew1 | refine below_set ?_ GE417.out) | exact HB.out)) hb); clear BK417; clear HB; have BK417 := n0_; have HB := n1_; clear n0_ n1_; (try clear hb); (try clear hb2); (try clear hk); (try clear hi)))
            repeat (go_quiet (first | (go_at_call 47; (with_reducible refine (money_Parse.calls kj11 (rdOf ByteArray.empty l0 1) t421 t422 _ A23.out).mono ?_); rintro e w60 ⟨rfl, hb⟩; have n0_ := Aside0.mk (blk_below (g := gb417) (o := .cells #[.string t413, .int .i64 t414, .int .i64 t415] 48 (0, 0)) (by (with_reducible repeat (first | refine blk_drewN ?_ _ | refine blk_drew ?_ | refine blk_alloc ?_ _)); exact BK417.out) hb); have n1_ := Aside0.mk (below_step (by repeat (first | (with_reducible first | exact HB.out | apply below_alloc | apply pw_below_drewN | apply below_drew1 | refine below_set ?_ GE417.out) | exact HB.out)) hb); clear BK417; clear HB; have BK417 := n0_; have HB := n1_; clear n0_ n1_; (try clear hb); (try clear hb2); (try clear hk); (try clear hi))); try go_wp2_with (first | (go_at_call 47; (with_reducible refine (money_Parse.calls kj11 (rdOf ByteArray.empty l0 1) t421 t422 _ A23.out).mono ?_); rintro e w60 ⟨rfl, hb⟩; have n0_ := Aside0.mk (blk_below (g := gb417) (o := .cells #[.string t413, .int .i64 t414, .int .i64 t415] 48 (0, 0)) (by (with_reducible repeat (first | refine blk_drewN ?_ _ | refine blk_drew ?_ | refine blk_alloc ?_ _)); exact BK417.out) hb); have n1_ := Aside0.mk (below_step (by repeat (first | (with_reducible first | exact HB.out | apply below_alloc | apply pw_below_drewN | apply below_drew1 | refine below_set ?_ GE417.out) | exact HB.out)) hb); clear BK417; clear HB; have BK417 := n0_; have HB := n1_; clear n0_ n1_; (try clear hb); (try clear hb2); (try clear hk); (try clear hi))))
            go_ret
            exact ⟨by first | rfl | (simp [errW_none, errW_some] <;> rfl) | (simp [*, errW_none, errW_some] <;> rfl), by repeat (first | (with_reducible first | exact HB.out | apply below_alloc | apply pw_below_drewN | apply below_drew1 | refine below_set ?_ GE417.out) | exact HB.out)⟩
           ·rw [if_neg c59] at H
            have c59b0 : (t416 == t422) = false := beq_eq_false_iff_ne.mpr c59
            have c59b1 : (t416 != t422) = true := bne_iff_ne.mpr c59
            obtain rfl := Option.some.inj H
            have p420 : 0 ≤ (1 : Int) := (by omega)
            have q420 : 1 < (l0.length : Int) := of_decide_eq_true (by first | (with_reducible assumption) | assumption)
            obtain ⟨ad420, e420, hx420_0⟩ := Kd.at_string HR0.out 1 p420 q420
            cases e420
            (try simp only [show (1 : Int).toNat = 1 from rfl, Nat.reduceMul, Nat.reduceEqDiff, Go.Addr.add, ↓reduceIte] at hx420_0)
            have qi420 : (1 < l0.length) = True := eq_true (by omega)
            (try rw [show ((1 : Int)).toNat = 1 from rfl] at hx420_0)
            replace hx420_0 := (HB.out.cell (World.block_lt_of_cell? w _ hx420_0)).trans hx420_0
            replace p420 := eq_true p420
            replace q420 := eq_true q420
            go_wp2_with (first | (go_at_call 47; (with_reducible refine (money_Parse.calls kj11 (rdOf ByteArray.empty l0 1) t421 t422 _ A23.out).mono ?_); rintro e w61 ⟨rfl, hb⟩; have n0_ := Aside0.mk (blk_below (g := gb417) (o := .cells #[.string t413, .int .i64 t414, .int .i64 t415] 48 (0, 0)) (by (with_reducible repeat (first | refine blk_drewN ?_ _ | refine blk_drew ?_ | refine blk_alloc ?_ _)); exact BK417.out) hb); have n1_ := Aside0.mk (below_step (by repeat (first | (with_reducible first | exact HB.out | apply below_alloc | apply pw_below_drewN | apply below_drew1 | refine below_set ?_ GE417.out) | exact HB.out)) hb); clear BK417; clear HB; have BK417 := n0_; have HB := n1_; clear n0_ n1_; (try clear hb); (try clear hb2); (try clear hk); (try clear hi)))
            repeat (go_quiet (first | (go_at_call 47; (with_reducible refine (money_Parse.calls kj11 (rdOf ByteArray.empty l0 1) t421 t422 _ A23.out).mono ?_); rintro e w61 ⟨rfl, hb⟩; have n0_ := Aside0.mk (blk_below (g := gb417) (o := .cells #[.string t413, .int .i64 t414, .int .i64 t415] 48 (0, 0)) (by (with_reducible repeat (first | refine blk_drewN ?_ _ | refine blk_drew ?_ | refine blk_alloc ?_ _)); exact BK417.out) hb); have n1_ := Aside0.mk (below_step (by repeat (first | (with_reducible first | exact HB.out | apply below_alloc | apply pw_below_drewN | apply below_drew1 | refine below_set ?_ GE417.out) | exact HB.out)) hb); clear BK417; clear HB; have BK417 := n0_; have HB := n1_; clear n0_ n1_; (try clear hb); (try clear hb2); (try clear hk); (try clear hi))); try go_wp2_with (first | (go_at_call 47; (with_reducible refine (money_Parse.calls kj11 (rdOf ByteArray.empty l0 1) t421 t422 _ A23.out).mono ?_); rintro e w61 ⟨rfl, hb⟩; have n0_ := Aside0.mk (blk_below (g := gb417) (o := .cells #[.string t413, .int .i64 t414, .int .i64 t415] 48 (0, 0)) (by (with_reducible repeat (first | refine blk_drewN ?_ _ | refine blk_drew ?_ | refine blk_alloc ?_ _)); exact BK417.out) hb); have n1_ := Aside0.mk (below_step (by repeat (first | (with_reducible first | exact HB.out | apply below_alloc | apply pw_below_drewN | apply below_drew1 | refine below_set ?_ GE417.out) | exact HB.out)) hb); clear BK417; clear HB; have BK417 := n0_; have HB := n1_; clear n0_ n1_; (try clear hb); (try clear hb2); (try clear hk); (try clear hi))))
            go_ret
            exact ⟨by first | rfl | (simp [errW_none, errW_some] <;> rfl) | (simp [*, errW_none, errW_some] <;> rfl), by repeat (first | (with_reducible first | exact HB.out | apply below_alloc | apply pw_below_drewN | apply below_drew1 | refine below_set ?_ GE417.out) | exact HB.out)⟩
         ·rw [if_neg c22] at H
          exact absurd H (by simp)
 ·replace c3 := Bool.eq_false_iff.mpr c3
  subst c3
  have H1 : (some false) = some r := by rw [if_neg (show ¬ (false = true) by decide)] at H; exact H
  clear H
  have H := H1
  clear H1
  obtain rfl := Option.some.inj H
  go_enter Tryd.func8, Tryd.ntmps8
  go_wp2_with (first | (go_at_call 35; (with_reducible refine (stipendlaw11_worths.calls  false _ A2.out).mono ?_); rintro e w62 ⟨rfl, hb⟩; have n0_ := Aside0.mk (below_step (by repeat (first | (with_reducible first | exact HB.out | apply below_alloc | apply pw_below_drewN | apply below_drew1) | exact HB.out)) hb); clear HB; have HB := n0_; clear n0_; (try clear hb); (try clear hb2); (try clear hk); (try clear hi)))
  repeat (go_quiet (first | (go_at_call 35; (with_reducible refine (stipendlaw11_worths.calls  false _ A2.out).mono ?_); rintro e w62 ⟨rfl, hb⟩; have n0_ := Aside0.mk (below_step (by repeat (first | (with_reducible first | exact HB.out | apply below_alloc | apply pw_below_drewN | apply below_drew1) | exact HB.out)) hb); clear HB; have HB := n0_; clear n0_; (try clear hb); (try clear hb2); (try clear hk); (try clear hi))); try go_wp2_with (first | (go_at_call 35; (with_reducible refine (stipendlaw11_worths.calls  false _ A2.out).mono ?_); rintro e w62 ⟨rfl, hb⟩; have n0_ := Aside0.mk (below_step (by repeat (first | (with_reducible first | exact HB.out | apply below_alloc | apply pw_below_drewN | apply below_drew1) | exact HB.out)) hb); clear HB; have HB := n0_; clear n0_; (try clear hb); (try clear hb2); (try clear hk); (try clear hi))))
  go_ret
  exact ⟨by first | rfl | (simp [errW_none, errW_some] <;> rfl) | (simp [*, errW_none, errW_some] <;> rfl), by repeat (first | (with_reducible first | exact HB.out | apply below_alloc | apply pw_below_drewN | apply below_drew1) | exact HB.out)⟩

end Go.Proofs.YtmocphafkimdpaaDoor.P
