/- A part of the proof of MoneyParses's card: 'MoneyParses' answers true for every input (the conditions: those of the given statement alone). Merged by a program (wip/merge.py) out of: Pf14, HMoneyParses. -/
import Derived.Test.YtmocphafkimdpaaDoorBMoneya
import Derived.Test.YtmocphafkimdpaaDoorBMoneyg
import Derived.Test.YtmocphafkimdpaaDoorBMoneyi
import Derived.Test.YtmocphafkimdpaaDoorMMoneyParsesb
import Derived.Test.YtmocphafkimdpaaDoorBMoneyj
import Derived.Test.YtmocphafkimdpaaDoorMMoneyParsesa

-- written by a program (a patched copy of the kit's print: wip/mkprint.py); Lean checks it
namespace Go.Proofs.YtmocphafkimdpaaDoor.P
open Go.RowKit Go.Proofs.YtmocphafkimdpaaDoorW.PrintWords Go.Proofs.YtmocphafkimdpaaDoorW.PrintLast Go.Proofs.YtmocphafkimdpaaDoorW.PrintMore
attribute [local go_sem] max2_int min2_int max_two min_two max_three min_three max_four min_four   -- for this text's walks alone
set_option linter.unusedVariables false
set_option linter.unusedSimpArgs false

/-! ### stipendlaw01_MoneyParses: function 14 -/
def stipendlaw01_MoneyParses.j0 : Nat → ByteArray → Int → Int → Bool → Option (Bool)
 | 0, _, _, _, _ => none
 | k + 1, x0, x3, x4, x29 => if x29 = true then (some false) else (if x4 = 0 then ((money_Text.f x3).bind fun t568 => (if t568.toList = x0.toList then (some true) else ((money_Text.f x3).bind fun t569 => (if x0.size + 3 ≤ 9223372036854775807 then (some (t569.toList == (x0 ++ (⟨#[46, 48, 48]⟩ : ByteArray)).toList)) else (none))))) else (some true))
def stipendlaw01_MoneyParses.f (k : Nat) (a0 : ByteArray) : Option (Bool) := (stipendlaw01_counts.f k).bind fun t563 => (if t563 = true then (if (a0.size : Int) > 60 then (some true) else ((money_Parse.f k a0).bind fun bt564 => ((stipendref01_Parse.f k a0).bind fun bt566 => (if bt564.1 = bt566.1 then (stipendlaw01_MoneyParses.j0 k a0 bt564.1 bt564.2 (bt564.2 != bt566.2)) else (stipendlaw01_MoneyParses.j0 k a0 bt564.1 bt564.2 true))))) else (some false))
theorem stipendlaw01_MoneyParses.mono_l : ∀ k, (∀ y0 y1 y2 y3, LeO (stipendlaw01_MoneyParses.j0 k y0 y1 y2 y3) (stipendlaw01_MoneyParses.j0 (k + 1) y0 y1 y2 y3))
 | 0 => fun _ _ _ _ r h => by simp [stipendlaw01_MoneyParses.j0] at h
 | k + 1 => by
  have ih0 := stipendlaw01_MoneyParses.mono_l k
  ·intro y0 y1 y2 y3
   unfold stipendlaw01_MoneyParses.j0
   repeat' first
   | (with_reducible exact ih0 _ _ _ _)
   | (with_reducible exact money_Parse.mono _ _)
   | (with_reducible exact stipendlaw01_counts.mono _)
   | (with_reducible exact stipendref01_Parse.mono _ _)
   | (with_reducible exact LeO.refl _)
   | (with_reducible exact LeO.none _)
   | (with_reducible refine LeO.ite ?_ ?_)
   | (with_reducible refine LeO.bind ?_ (fun _ => ?_))
   | exact ih0 _ _ _ _
   | exact money_Parse.mono _ _
   | exact stipendlaw01_counts.mono _
   | exact stipendref01_Parse.mono _ _
   | exact LeO.none _
   | refine LeO.ite ?_ ?_
   | refine LeO.bind ?_ (fun _ => ?_)
theorem stipendlaw01_MoneyParses.mono : ∀ a0 k, LeO (stipendlaw01_MoneyParses.f k a0) (stipendlaw01_MoneyParses.f (k + 1) a0) := by
 intro a0 k
 have ih0 := stipendlaw01_MoneyParses.mono_l k
 unfold stipendlaw01_MoneyParses.f
 repeat' first
   | (with_reducible exact ih0 _ _ _ _)
   | (with_reducible exact money_Parse.mono _ _)
   | (with_reducible exact stipendlaw01_counts.mono _)
   | (with_reducible exact stipendref01_Parse.mono _ _)
   | (with_reducible exact LeO.refl _)
   | (with_reducible exact LeO.none _)
   | (with_reducible refine LeO.ite ?_ ?_)
   | (with_reducible refine LeO.bind ?_ (fun _ => ?_))
   | exact ih0 _ _ _ _
   | exact money_Parse.mono _ _
   | exact stipendlaw01_counts.mono _
   | exact stipendref01_Parse.mono _ _
   | exact LeO.none _
   | refine LeO.ite ?_ ?_
   | refine LeO.bind ?_ (fun _ => ?_)
set_option maxHeartbeats 8000000 in
set_option maxRecDepth 100000 in
theorem stipendlaw01_MoneyParses.calls (k : Nat) (a0 : ByteArray) (r : Bool) (w : World) (h : stipendlaw01_MoneyParses.f k a0 = some r) (hG : GTab w := by first | exact GTab.below HG.out (by repeat (first | (with_reducible first | exact HB.out | apply below_alloc | apply pw_below_drewN | apply below_drew1 | apply below_drew) | exact HB.out)) | exact HG.out) :
  Calls Tryd.prog 14 #[.string a0] w fun e w' => e = .returned (.bool r) ∧ Below w.heap.size w w' := by
 have HG := Aside0.mk hG; clear hG
 have HB := Aside0.mk (Below.refl w.heap.size w)
 have H : ((stipendlaw01_counts.f k).bind fun t563 => (if t563 = true then (if (a0.size : Int) > 60 then (some true) else ((money_Parse.f k a0).bind fun bt564 => ((stipendref01_Parse.f k a0).bind fun bt566 => (if bt564.1 = bt566.1 then (stipendlaw01_MoneyParses.j0 k a0 bt564.1 bt564.2 (bt564.2 != bt566.2)) else (stipendlaw01_MoneyParses.j0 k a0 bt564.1 bt564.2 true))))) else (some false))) = some r := h
 clear h
 replace H := Option.bind_eq_some_iff.mp H
 obtain ⟨t563, A20, H⟩ := H
 replace H : (if t563 = true then (if (a0.size : Int) > 60 then (some true) else ((money_Parse.f k a0).bind fun bt564 => ((stipendref01_Parse.f k a0).bind fun bt566 => (if bt564.1 = bt566.1 then (stipendlaw01_MoneyParses.j0 k a0 bt564.1 bt564.2 (bt564.2 != bt566.2)) else (stipendlaw01_MoneyParses.j0 k a0 bt564.1 bt564.2 true))))) else (some false)) = some r := H
 have A2 := Aside0.mk A20
 clear A20
 by_cases c3 : t563 = true
 ·subst c3
  have H1 : (if (a0.size : Int) > 60 then (some true) else ((money_Parse.f k a0).bind fun bt564 => ((stipendref01_Parse.f k a0).bind fun bt566 => (if bt564.1 = bt566.1 then (stipendlaw01_MoneyParses.j0 k a0 bt564.1 bt564.2 (bt564.2 != bt566.2)) else (stipendlaw01_MoneyParses.j0 k a0 bt564.1 bt564.2 true))))) = some r := by rw [if_pos rfl] at H; exact H
  clear H
  have H := H1
  clear H1
  by_cases c4 : (a0.size : Int) > 60
  ·rw [if_pos c4] at H
   have c4b0 : decide (60 < (a0.size : Int)) = true := decide_eq_true c4
   have c4b1 : decide (60 < a0.size) = true := decide_eq_true (by omega)
   clear c4
   obtain rfl := Option.some.inj H
   go_enter Tryd.func14, Tryd.ntmps14
   go_wp2_with (first | ((with_reducible refine gate_callee (f := 57) rfl ?_); refine goesL_ (some 7) rfl rfl Tryd.func57 (by kernel_rfl) rfl #[] rfl (by (try simp only [List.map_toArray, List.map_cons, List.map_nil]); first | done | rfl | (simp only [List.length_drop, List.length_take]; rfl)) ?_; (with_reducible refine (stipendlaw01_counts.calls k  true _ A2.out).mono ?_); rintro e w5 ⟨rfl, hb⟩; refine ⟨_, rfl, ?_⟩; have n0_ := Aside0.mk (below_step (by repeat (first | (with_reducible first | exact HB.out | apply below_alloc | apply pw_below_drewN | apply below_drew1) | exact HB.out)) hb); clear HB; have HB := n0_; clear n0_; (try clear hb); (try clear hb2); (try clear hk); (try clear hi)))
   go_ret
   exact ⟨by first | rfl | (simp [errW_none, errW_some] <;> rfl) | (simp [*, errW_none, errW_some] <;> rfl), by repeat (first | (with_reducible first | exact HB.out | apply below_alloc | apply pw_below_drewN | apply below_drew1) | exact HB.out)⟩
  ·rw [if_neg c4] at H
   have c4b0 : decide (60 < (a0.size : Int)) = false := decide_eq_false c4
   have c4b1 : decide (60 < a0.size) = false := decide_eq_false (by omega)
   clear c4
   replace H := Option.bind_eq_some_iff.mp H
   obtain ⟨⟨t564, t565⟩, A60, H⟩ := H
   replace H : ((stipendref01_Parse.f k a0).bind fun bt566 => (if t564 = bt566.1 then (stipendlaw01_MoneyParses.j0 k a0 t564 t565 (t565 != bt566.2)) else (stipendlaw01_MoneyParses.j0 k a0 t564 t565 true))) = some r := H
   have A6 := Aside0.mk A60
   clear A60
   replace H := Option.bind_eq_some_iff.mp H
   obtain ⟨⟨t566, t567⟩, A70, H⟩ := H
   replace H : (if t564 = t566 then (stipendlaw01_MoneyParses.j0 k a0 t564 t565 (t565 != t567)) else (stipendlaw01_MoneyParses.j0 k a0 t564 t565 true)) = some r := H
   have A7 := Aside0.mk A70
   clear A70
   have HC8 := Aside0.mk H
   clear H
   go_enter Tryd.func14, Tryd.ntmps14
   go_upto_region 7 with (first | ((with_reducible refine gate_callee (f := 57) rfl ?_); refine goesL_ (some 7) rfl rfl Tryd.func57 (by kernel_rfl) rfl #[] rfl (by (try simp only [List.map_toArray, List.map_cons, List.map_nil]); first | done | rfl | (simp only [List.length_drop, List.length_take]; rfl)) ?_; (with_reducible refine (stipendlaw01_counts.calls k  true _ A2.out).mono ?_); rintro e w9 ⟨rfl, hb⟩; refine ⟨_, rfl, ?_⟩; have n0_ := Aside0.mk (below_step (by repeat (first | (with_reducible first | exact HB.out | apply below_alloc | apply pw_below_drewN | apply below_drew1) | exact HB.out)) hb); clear HB; have HB := n0_; clear n0_; (try clear hb); (try clear hb2); (try clear hk); (try clear hi)) | ((with_reducible refine gate_callee (f := 47) rfl ?_); refine goesL_ (some 14) rfl rfl Tryd.func47 (by kernel_rfl) rfl #[.string a0] rfl (by (try simp only [List.map_toArray, List.map_cons, List.map_nil]); first | done | rfl | (simp only [List.length_drop, List.length_take]; rfl)) ?_; (with_reducible refine (money_Parse.calls k a0 t564 t565 _ A6.out).mono ?_); rintro e w10 ⟨rfl, hb⟩; refine ⟨_, rfl, ?_⟩; have n0_ := Aside0.mk (below_step (by repeat (first | (with_reducible first | exact HB.out | apply below_alloc | apply pw_below_drewN | apply below_drew1) | exact HB.out)) hb); clear HB; have HB := n0_; clear n0_; (try clear hb); (try clear hb2); (try clear hk); (try clear hi)) | ((with_reducible refine gate_callee (f := 60) rfl ?_); refine goesL_ (some 19) rfl rfl Tryd.func60 (by kernel_rfl) rfl #[.string a0] rfl (by (try simp only [List.map_toArray, List.map_cons, List.map_nil]); first | done | rfl | (simp only [List.length_drop, List.length_take]; rfl)) ?_; (with_reducible refine (stipendref01_Parse.calls k a0 t566 t567 _ A7.out).mono ?_); rintro e w' ⟨rfl, ⟨nd, rfl⟩⟩; refine ⟨_, rfl, ?_⟩))
   (try simp only [Act.put, List.setIfInBounds_toArray, List.set_cons_zero, List.set_cons_succ])
   go_cut [29] (fun v29 wc => ∃ (kq : Nat) (x29_7 : Bool), v29 = .bool x29_7 ∧ Aside0 (stipendlaw01_MoneyParses.j0 kq a0 t564 t565 x29_7 = some r) ∧ Aside0 (kq ≤ k) ∧ Aside0 (Below w.heap.size w wc))
   case first =>
    have H := HC8.out
    clear HC8
    by_cases c11 : t564 = t566
    ·rw [if_pos c11] at H
     have c11b0 : (t564 == t566) = true := beq_iff_eq.mpr c11
     have c11b1 : (t564 != t566) = false := bne_eq_false_iff_eq.mpr c11
     clear c11
     (first | rw [c11b0] | (simp only [i64_w, i32_w]; rw [c11b0]) | skip)
     have H' := Aside0.mk H
     clear H
     go_wp2
     go_meet
     case rel => exact ⟨_, ((t565 != t567)), (by first | rfl | (simp; done) | (simp [*]; done)), H', ⟨by first | omega | exact Nat.le_refl _⟩, ⟨by repeat (first | (with_reducible first | exact HB.out | apply below_alloc | apply pw_below_drewN | apply below_drew1) | exact HB.out)⟩⟩
    ·rw [if_neg c11] at H
     have c11b0 : (t564 == t566) = false := beq_eq_false_iff_ne.mpr c11
     have c11b1 : (t564 != t566) = true := bne_iff_ne.mpr c11
     (first | rw [c11b0] | (simp only [i64_w, i32_w]; rw [c11b0]) | skip)
     have H' := Aside0.mk H
     clear H
     go_wp2
     go_meet
     case rel => exact ⟨_, (true), (by first | rfl | (simp; done) | (simp [*]; done)), H', ⟨by first | omega | exact Nat.le_refl _⟩, ⟨by repeat (first | (with_reducible first | exact HB.out | apply below_alloc | apply pw_below_drewN | apply below_drew1) | exact HB.out)⟩⟩
   case rest =>
    clear HC8
    try clear c1
    try clear p2
    try clear c3
    try clear c4
    try clear c4b0
    try clear c4b1
    try clear c5
    try clear c6
    try clear c11
    try clear c11b0
    try clear c11b1
    obtain ⟨kq, x29_7, rfl, HA, HJ7, HB⟩ := hcut
    cases kq with
    | zero => exact absurd HA.out (by simp [stipendlaw01_MoneyParses.j0])
    | succ kj7 =>
     have H := HA.out
     clear HA
     simp only [stipendlaw01_MoneyParses.j0] at H
     by_cases c12 : x29_7 = true
     ·subst c12
      have H1 : (some false) = some r := by rw [if_pos rfl] at H; exact H
      clear H
      have H := H1
      clear H1
      obtain rfl := Option.some.inj H
      go_wp2
      go_ret
      exact ⟨by first | rfl | (simp [errW_none, errW_some] <;> rfl) | (simp [*, errW_none, errW_some] <;> rfl), by repeat (first | (with_reducible first | exact HB.out | apply below_alloc | apply pw_below_drewN | apply below_drew1) | exact HB.out)⟩
     ·replace c12 := Bool.eq_false_iff.mpr c12
      subst c12
      have H1 : (if t565 = 0 then ((money_Text.f t564).bind fun t568 => (if t568.toList = a0.toList then (some true) else ((money_Text.f t564).bind fun t569 => (if a0.size + 3 ≤ 9223372036854775807 then (some (t569.toList == (a0 ++ (⟨#[46, 48, 48]⟩ : ByteArray)).toList)) else (none))))) else (some true)) = some r := by rw [if_neg (show ¬ (false = true) by decide)] at H; exact H
      clear H
      have H := H1
      clear H1
      by_cases c13 : t565 = 0
      ·rw [if_pos c13] at H
       have c13b0 : (t565 == 0) = true := beq_iff_eq.mpr c13
       have c13b1 : (t565 != 0) = false := bne_eq_false_iff_eq.mpr c13
       clear c13
       replace H := Option.bind_eq_some_iff.mp H
       obtain ⟨t568, A140, H⟩ := H
       replace H : (if t568.toList = a0.toList then (some true) else ((money_Text.f t564).bind fun t569 => (if a0.size + 3 ≤ 9223372036854775807 then (some (t569.toList == (a0 ++ (⟨#[46, 48, 48]⟩ : ByteArray)).toList)) else (none)))) = some r := H
       have A14 := Aside0.mk A140
       clear A140
       by_cases c15 : t568.toList = a0.toList
       ·rw [if_pos c15] at H
        have c15b0 : (t568.toList == a0.toList) = true := beq_iff_eq.mpr c15
        have c15b1 : (t568.toList != a0.toList) = false := bne_eq_false_iff_eq.mpr c15
        clear c15
        obtain rfl := Option.some.inj H
        go_wp2_with (first | (go_at_call 39; (with_reducible refine (money_Text.calls t564 t568 _ A14.out).mono ?_); rintro e w16 ⟨rfl, hb⟩; have n0_ := Aside0.mk (below_step (by repeat (first | (with_reducible first | exact HB.out | apply below_alloc | apply pw_below_drewN | apply below_drew1) | exact HB.out)) hb); clear HB; have HB := n0_; clear n0_; (try clear hb); (try clear hb2); (try clear hk); (try clear hi)))
        go_ret
        exact ⟨by first | rfl | (simp [errW_none, errW_some] <;> rfl) | (simp [*, errW_none, errW_some] <;> rfl), by repeat (first | (with_reducible first | exact HB.out | apply below_alloc | apply pw_below_drewN | apply below_drew1) | exact HB.out)⟩
       ·rw [if_neg c15] at H
        have c15b0 : (t568.toList == a0.toList) = false := beq_eq_false_iff_ne.mpr c15
        have c15b1 : (t568.toList != a0.toList) = true := bne_iff_ne.mpr c15
        replace H := Option.bind_eq_some_iff.mp H
        obtain ⟨t569, A170, H⟩ := H
        replace H : (if a0.size + 3 ≤ 9223372036854775807 then (some (t569.toList == (a0 ++ (⟨#[46, 48, 48]⟩ : ByteArray)).toList)) else (none)) = some r := H
        have A17 := Aside0.mk A170
        clear A170
        by_cases c18 : a0.size + 3 ≤ 9223372036854775807
        ·rw [if_pos c18] at H
         have c18b0 := eq_true c18
         have c18b1 : decide (a0.size + 3 ≤ 9223372036854775807) = true := decide_eq_true c18
         try have c18b2 : (9223372036854775807 < a0.size + 3) = False := eq_false (Nat.not_lt.2 c18)
         (try (have c18s := c18b2; simp only [ByteArray.size_append] at c18s))
         obtain rfl := Option.some.inj H
         go_wp2_with (first | (go_at_call 39; (with_reducible refine (money_Text.calls t564 t568 _ A14.out).mono ?_); rintro e w19 ⟨rfl, hb⟩; have n0_ := Aside0.mk (below_step (by repeat (first | (with_reducible first | exact HB.out | apply below_alloc | apply pw_below_drewN | apply below_drew1) | exact HB.out)) hb); clear HB; have HB := n0_; clear n0_; (try clear hb); (try clear hb2); (try clear hk); (try clear hi)) | (go_at_call 39; (with_reducible refine (money_Text.calls t564 t569 _ A17.out).mono ?_); rintro e w20 ⟨rfl, hb⟩; have n0_ := Aside0.mk (below_step (by repeat (first | (with_reducible first | exact HB.out | apply below_alloc | apply pw_below_drewN | apply below_drew1) | exact HB.out)) hb); clear HB; have HB := n0_; clear n0_; (try clear hb); (try clear hb2); (try clear hk); (try clear hi)))
         go_ret
         exact ⟨by first | (rw [Option.some.inj (A14.out.symm.trans A17.out)]; rfl) | rfl | (simp [errW_none, errW_some] <;> rfl) | (simp [*, errW_none, errW_some] <;> rfl), by repeat (first | (with_reducible first | exact HB.out | apply below_alloc | apply pw_below_drewN | apply below_drew1) | exact HB.out)⟩
        ·rw [if_neg c18] at H
         exact absurd H (by simp)
      ·rw [if_neg c13] at H
       have c13b0 : (t565 == 0) = false := beq_eq_false_iff_ne.mpr c13
       have c13b1 : (t565 != 0) = true := bne_iff_ne.mpr c13
       obtain rfl := Option.some.inj H
       go_wp2
       go_ret
       exact ⟨by first | rfl | (simp [errW_none, errW_some] <;> rfl) | (simp [*, errW_none, errW_some] <;> rfl), by repeat (first | (with_reducible first | exact HB.out | apply below_alloc | apply pw_below_drewN | apply below_drew1) | exact HB.out)⟩
 ·replace c3 := Bool.eq_false_iff.mpr c3
  subst c3
  have H1 : (some false) = some r := by rw [if_neg (show ¬ (false = true) by decide)] at H; exact H
  clear H
  have H := H1
  clear H1
  obtain rfl := Option.some.inj H
  go_enter Tryd.func14, Tryd.ntmps14
  go_wp2_with (first | ((with_reducible refine gate_callee (f := 57) rfl ?_); refine goesL_ (some 7) rfl rfl Tryd.func57 (by kernel_rfl) rfl #[] rfl (by (try simp only [List.map_toArray, List.map_cons, List.map_nil]); first | done | rfl | (simp only [List.length_drop, List.length_take]; rfl)) ?_; (with_reducible refine (stipendlaw01_counts.calls k  false _ A2.out).mono ?_); rintro e w21 ⟨rfl, hb⟩; refine ⟨_, rfl, ?_⟩; have n0_ := Aside0.mk (below_step (by repeat (first | (with_reducible first | exact HB.out | apply below_alloc | apply pw_below_drewN | apply below_drew1) | exact HB.out)) hb); clear HB; have HB := n0_; clear n0_; (try clear hb); (try clear hb2); (try clear hk); (try clear hi)))
  go_ret
  exact ⟨by first | rfl | (simp [errW_none, errW_some] <;> rfl) | (simp [*, errW_none, errW_some] <;> rfl), by repeat (first | (with_reducible first | exact HB.out | apply below_alloc | apply pw_below_drewN | apply below_drew1) | exact HB.out)⟩

end Go.Proofs.YtmocphafkimdpaaDoor.P


/- MoneyParses answers true for every text: the plain law. -/
namespace Go.Proofs.YtmocphafkimdpaaDoor.P
open Go.RowKit Go.Proofs.YtmocphafkimdpaaDoorW.PrintWords Go.Proofs.YtmocphafkimdpaaDoorW.PrintLast Go.Proofs.YtmocphafkimdpaaDoorW.PrintMore
set_option linter.unusedVariables false

/-- What a number of least coins, with its sign, comes to. -/
def finM (neg : Bool) (m : Nat) : Int × Int := if neg = true ∧ m = 0 then (0, 5) else if 100000000000 < m then (0, 10) else (sgn neg * (m : Int), 0)
/-- The state of the reference's reckoning is that of v. -/
def Good (n : Nat) (g s : Bool) (v : Nat) : Prop := (g = false → n = v) ∧ (g = true → 10000000000000 < v) ∧ (s = true ↔ v ≠ 0) ∧ n ≤ 10000000000000
theorem ref_end (neg nopt : Bool) (x5 : Int) (h5 : nopt = decide (x5 < 0)) (n v : Nat) (g s : Bool) (hg : Good n g s v) :
    Ev (fun k => if x5 < 0 then stipendref01_Parse.j7 k neg (wrap64 ((n : Int) * 100)) g s else stipendref01_Parse.j7 k neg (n : Int) g s) (finM neg (if nopt = true then v * 100 else v)) := by
  obtain ⟨g1, g2, g3, g4⟩ := hg
  have h7 : ∀ mm w : Nat, mm ≤ 1000000000000000 → (g = false → mm = w) → (g = true → 100000000000 < w) → (v = 0 ↔ w = 0) → Ev (fun k => stipendref01_Parse.j7 k neg (mm : Int) g s) (finM neg w) := by
    intro mm w hmm e1 e2 e3
    refine Ev.shift (fun k => by rw [stipendref01_Parse.j7]) ?_
    have h8 : (neg = true → w ≠ 0) → Ev (fun k => stipendref01_Parse.j8 k neg (mm : Int) g false) (finM neg w) := by
      intro hz
      refine Ev.shift (fun k => by rw [stipendref01_Parse.j8]) ?_
      refine Ev.neg (by decide) ?_
      unfold finM
      rw [if_neg (fun h => hz h.1 h.2)]
      have h9 : Ev (fun k => stipendref01_Parse.j9 k neg (mm : Int) true) (0, 10) := by
        refine Ev.shift (fun k => by rw [stipendref01_Parse.j9]) ?_
        exact Ev.pos rfl Ev.now
      cases hgc : g with
      | true => exact (Ev.pos rfl h9).res (if_pos (e2 hgc)).symm
      | false =>
        have e := e1 hgc
        subst e
        refine Ev.neg (by decide) ?_
        by_cases c : 100000000000 < mm
        · rw [decide_eq_true (show (mm : Int) > 100000000000 by omega)]
          exact h9.res (if_pos c).symm
        · rw [decide_eq_false (show ¬(mm : Int) > 100000000000 by omega)]
          refine Ev.shift (fun k => by rw [stipendref01_Parse.j9]) ?_
          refine Ev.neg (by decide) ?_
          rw [w64 (x := -(mm : Int)) (by omega) (by omega)]
          cases neg with
          | true => exact (Ev.pos rfl Ev.now).res (by rw [if_neg c]; simp [sgn])
          | false => exact (Ev.neg (by decide) Ev.now).res (by rw [if_neg c]; simp [sgn])
    cases neg with
    | true =>
      refine Ev.pos rfl ?_
      cases hs : s with
      | true => exact h8 (fun _ h => (g3.1 hs) (e3.2 h))
      | false =>
        have hv : v = 0 := by
          apply Classical.byContradiction
          intro h
          have := g3.2 h
          rw [hs] at this
          cases this
        refine Ev.shift (fun k => by rw [stipendref01_Parse.j8]) ?_
        exact (Ev.pos rfl Ev.now).res (by unfold finM; rw [if_pos ⟨rfl, e3.1 hv⟩])
    | false => exact Ev.neg (by decide) (h8 (fun h => by cases h))
  cases hn : nopt with
  | true =>
    rw [hn] at h5
    have : x5 < 0 := of_decide_eq_true h5.symm
    refine Ev.pos this ?_
    rw [w64 (x := (n : Int) * 100) (by omega) (by omega), show (n : Int) * 100 = ((n * 100 : Nat) : Int) by omega]
    exact h7 (n * 100) _ (by omega) (fun h => by rw [g1 h]; rfl) (fun h => by have := g2 h; show 100000000000 < v * 100; omega) (by show v = 0 ↔ v * 100 = 0; omega)
  | false =>
    rw [hn] at h5
    have : ¬x5 < 0 := of_decide_eq_false h5.symm
    exact Ev.neg this (h7 n _ (by omega) (fun h => by rw [g1 h]; rfl) (fun h => by have := g2 h; show 100000000000 < v; omega) Iff.rfl)

/-- The digits alone. -/
def digsOf (l : List UInt8) : List UInt8 := l.filter fun c => !(c == 46)
theorem good_step (n v : Nat) (g s : Bool) (c : UInt8) (hc : dig c = true) (h : Good n g s v) : Good (if 10000000000000 < 10 * n + (c.toNat - 48) then 0 else 10 * n + (c.toNat - 48)) (if 10000000000000 < 10 * n + (c.toNat - 48) then true else g) (s || (c.toNat != 48)) (10 * v + (c.toNat - 48)) := by
  obtain ⟨g1, g2, g3, g4⟩ := h
  have hc' := (dig_iff c).1 hc
  refine ⟨fun h => ?_, fun h => ?_, ?_, ?_⟩
  · split at h
    · cases h
    · rename_i hn
      rw [if_neg hn, g1 h]
  · split at h
    · rename_i hn
      cases hg : g with
      | true => have := g2 hg; omega
      | false => rw [← g1 hg]; omega
    · have := g2 h; omega
  · rw [Bool.or_eq_true, g3]
    simp only [bne_iff_ne]
    omega
  · split <;> omega
theorem ref_l1_ev (neg nopt : Bool) (x5 : Int) (h5 : nopt = decide (x5 < 0)) (l : List UInt8) (hl : l.length ≤ 100) (hd : ∀ c ∈ l, dig c = true ∨ c = 46) : ∀ (t : List UInt8) (i n v : Nat) (g s : Bool), l.drop i = t → i ≤ l.length → Good n g s v →
    Ev (fun k => stipendref01_Parse.l1 k (bs l) neg x5 (n : Int) g s (i : Int)) (finM neg (if nopt = true then valFrom v (digsOf t) * 100 else valFrom v (digsOf t))) := by
  intro t
  induction t with
  | nil =>
    intro i n v g s h hi hg
    have hi2 : l.length ≤ i := by simpa using h
    refine Ev.shift (fun k => by rw [stipendref01_Parse.l1]) ?_
    refine Ev.neg (by rw [bs_size]; omega) ?_
    exact ref_end neg nopt x5 h5 n v g s hg
  | cons c t ih =>
    intro i n v g s h hi hg
    obtain ⟨g1, g2, g3⟩ := drop_cons_get h
    have hg4 := hg.2.2.2
    refine Ev.shift (fun k => by rw [stipendref01_Parse.l1]) ?_
    refine Ev.pos (by rw [bs_size]; omega) (Ev.pos (by omega) ?_)
    rw [bs_bt l i g1, show wrap64 ((i : Int) + 1) = ((i + 1 : Nat) : Int) by rw [w64 (by omega) (by omega)]; rfl]
    by_cases c46 : c = 46
    · have e : digsOf (c :: t) = digsOf t := by simp [digsOf, c46]
      rw [e]
      exact Ev.pos (by rw [c46]; rfl) (ih (i + 1) n v g s g2 (by omega) hg)
    · have hdc : dig c = true := (hd c (List.mem_of_getElem? g1)).resolve_right c46
      have hdc' := (dig_iff c).1 hdc
      have e : digsOf (c :: t) = c :: digsOf t := by simp [digsOf, c46]
      have ev : valFrom v (c :: digsOf t) = valFrom (10 * v + (c.toNat - 48)) (digsOf t) := rfl
      rw [e, ev]
      have hgs := good_step n v g s c hdc hg
      refine Ev.neg (fun h => c46 (UInt8.toNat_inj.1 (by show _ = 46; omega))) ?_
      rw [w64 (x := 10 * (n : Int)) (by omega) (by omega), w64 (x := 10 * (n : Int) + ((c.toNat : Int) - 48) % 256) (by omega) (by omega), show 10 * (n : Int) + ((c.toNat : Int) - 48) % 256 = ((10 * n + (c.toNat - 48) : Nat) : Int) by omega]
      have hb : (((c.toNat : Int)) != 48) = (c.toNat != 48) := by
        rw [Bool.eq_iff_iff]; simp only [bne_iff_ne]; omega
      have hstep : ∀ s', s' = (s || (c.toNat != 48)) → Ev (fun k => if ((10 * n + (c.toNat - 48) : Nat) : Int) > 10000000000000 then stipendref01_Parse.l1 k (bs l) neg x5 0 true s' ((i + 1 : Nat) : Int) else stipendref01_Parse.l1 k (bs l) neg x5 ((10 * n + (c.toNat - 48) : Nat) : Int) g s' ((i + 1 : Nat) : Int)) (finM neg (if nopt = true then valFrom (10 * v + (c.toNat - 48)) (digsOf t) * 100 else valFrom (10 * v + (c.toNat - 48)) (digsOf t))) := by
        intro s' hs'
        rw [← hs'] at hgs
        by_cases d : 10000000000000 < 10 * n + (c.toNat - 48)
        · rw [if_pos d, if_pos d] at hgs
          exact Ev.pos (by omega) (ih (i + 1) 0 _ true s' g2 (by omega) hgs)
        · rw [if_neg d, if_neg d] at hgs
          exact Ev.neg (by omega) (ih (i + 1) _ _ g s' g2 (by omega) hgs)
      rw [hb]
      cases hs : s with
      | true => exact Ev.pos rfl (hstep true (by rw [hs]; rfl))
      | false => exact Ev.neg (by decide) (hstep _ (by rw [hs]; rfl))

/-- What the reference says of a front. -/
def frontOk (l front : List UInt8) : Bool := decide (l.length ≤ 20) && wholeOk front
theorem ref_j4_ev (neg nopt : Bool) (x5 : Int) (h5 : nopt = decide (x5 < 0)) (l front : List UInt8) (hl : l.length ≤ 100) (hf : front.length ≤ l.length) (hd : ∀ c ∈ l, dig c = true ∨ c = 46) :
    Ev (fun k => stipendref01_Parse.j4 k (bs l) neg x5 (bs front)) (if frontOk l front = true then finM neg (if nopt = true then valFrom 0 (digsOf l) * 100 else valFrom 0 (digsOf l)) else (0, 5)) := by
  refine Ev.shift (fun k => by rw [stipendref01_Parse.j4]) ?_
  rw [bs_size, bs_toList, bs_size]
  have hbad : Ev (fun k => stipendref01_Parse.j5 k (bs l) neg x5 true) (0, 5) := by
    refine Ev.shift (fun k => by rw [stipendref01_Parse.j5]) ?_
    exact Ev.pos rfl Ev.now
  have hgo : Ev (fun k => stipendref01_Parse.j5 k (bs l) neg x5 false) (finM neg (if nopt = true then valFrom 0 (digsOf l) * 100 else valFrom 0 (digsOf l))) := by
    refine Ev.shift (fun k => by rw [stipendref01_Parse.j5]) ?_
    refine Ev.neg (by decide) ?_
    exact ref_l1_ev neg nopt x5 h5 l hl hd l 0 0 0 false false rfl (Nat.zero_le _) ⟨fun _ => rfl, (fun h => by cases h), by simp, by decide⟩
  by_cases c1 : 20 < l.length
  · refine (Ev.pos (by omega) hbad).res ?_
    rw [if_neg]
    simp [frontOk]; omega
  · refine Ev.neg (by omega) ?_
    have hfo : frontOk l front = wholeOk front := by simp [frontOk]; omega
    rw [hfo]
    match front, hf with
    | [], _ => exact Ev.pos rfl hbad
    | [c], _ => exact Ev.neg (by simp) (Ev.neg (by simp) hgo)
    | c :: d :: r, _ =>
      refine Ev.neg (by simp) (Ev.pos (by simp only [List.length_cons]; omega) (Ev.pos (by simp only [List.length_cons]; omega) ?_))
      have e : bt (bs (c :: d :: r)) 0 = (c.toNat : Int) := bs_bt (c :: d :: r) 0 rfl
      rw [e]
      by_cases h48 : c.toNat = 48
      · rw [show ((c.toNat : Int) == 48) = true from beq_iff_eq.2 (by omega)]
        exact hbad.res (if_neg (by simp [wholeOk, h48])).symm
      · rw [show ((c.toNat : Int) == 48) = false from beq_eq_false_iff_ne.2 (by omega)]
        exact hgo.res (if_pos (by simp [wholeOk, h48])).symm

/-- The reference's scan, behind a point, and ahead of one. -/
def endPt (neg : Bool) (l : List UInt8) (p : Nat) : Int × Int := if p + 3 = l.length then (if frontOk l (l.take p) = true then finM neg (valFrom 0 (digsOf l)) else (0, 5)) else (0, 5)
def scB (neg : Bool) (l : List UInt8) (p : Nat) (t : List UInt8) : Int × Int := if t.all dig = true then endPt neg l p else (0, 5)
def scA (neg : Bool) (l : List UInt8) : Nat → List UInt8 → Int × Int
  | i, [] => if frontOk l l = true then finM neg (valFrom 0 (digsOf l) * 100) else (0, 5)
  | i, c :: t => if c = 46 then scB neg l i t else if dig c = true then scA neg l (i + 1) t else (0, 5)

theorem mem_split {l : List UInt8} {i : Nat} {P : UInt8 → Prop} (h1 : ∀ c ∈ l.take i, P c) (h2 : ∀ c ∈ l.drop i, P c) : ∀ c ∈ l, P c := by
  intro c hc
  rw [← List.take_append_drop i l] at hc
  rcases List.mem_append.1 hc with h | h
  · exact h1 c h
  · exact h2 c h
theorem take_succ_mem {l : List UInt8} {i : Nat} {c : UInt8} {P : UInt8 → Prop} (h : l[i]? = some c) (h1 : ∀ x ∈ l.take i, P x) (h2 : P c) : ∀ x ∈ l.take (i + 1), P x := by
  intro x hx
  rw [List.take_add_one, h] at hx
  rcases List.mem_append.1 hx with hx | hx
  · exact h1 x hx
  · simp at hx; subst hx; exact h2

theorem ref_digit_step (neg : Bool) (x5 : Int) (l : List UInt8) (hl : l.length ≤ 100) (i : Nat) (c : UInt8) (g1 : l[i]? = some c) (hi : i < l.length) (r : Int × Int)
    (h : dig c = true → Ev (fun k => stipendref01_Parse.l0 k (bs l) neg x5 ((i + 1 : Nat) : Int)) r) (h' : dig c = false → r = (0, 5)) : Ev (fun k => stipendref01_Parse.j3 k (bs l) neg x5 (i : Int) false) r := by
  refine Ev.shift (fun k => by rw [stipendref01_Parse.j3]) ?_
  refine Ev.neg (by decide) (Ev.pos (by omega) (Ev.pos (by rw [bs_size]; omega) ?_))
  rw [bs_bt l i g1, show wrap64 ((i : Int) + 1) = ((i + 1 : Nat) : Int) by rw [w64 (by omega) (by omega)]; rfl]
  by_cases d1 : c.toNat < 48
  · rw [h' (Bool.eq_false_iff.2 fun h => by have := (dig_iff c).1 h; omega)]
    exact Ev.pos (by omega) Ev.now
  · refine Ev.neg (by omega) ?_
    by_cases d2 : 57 < c.toNat
    · rw [h' (Bool.eq_false_iff.2 fun h => by have := (dig_iff c).1 h; omega)]
      exact Ev.pos (by omega) Ev.now
    · exact Ev.neg (by omega) (h ((dig_iff c).2 (by omega)))

theorem ref_scB_ev (neg : Bool) (l : List UInt8) (hl : l.length ≤ 100) (p : Nat) (hp : p ≤ l.length) : ∀ (t : List UInt8) (i : Nat), l.drop i = t → i ≤ l.length → (∀ c ∈ l.take i, dig c = true ∨ c = 46) → Ev (fun k => stipendref01_Parse.l0 k (bs l) neg (p : Int) (i : Int)) (scB neg l p t) := by
  intro t
  induction t with
  | nil =>
    intro i h hi hd
    have hi2 : l.length ≤ i := by simpa using h
    refine Ev.shift (fun k => by rw [stipendref01_Parse.l0]) ?_
    rw [bs_size]
    refine Ev.neg (by omega) (Ev.pos (by omega) ?_)
    rw [w64 (x := (l.length : Int) - 3) (by omega) (by omega)]
    have e : scB neg l p [] = endPt neg l p := rfl
    rw [e]
    unfold endPt
    by_cases c : p + 3 = l.length
    · refine (Ev.pos (by omega) (Ev.pos (by omega) (Ev.pos (by omega) ?_))).res (if_pos c).symm
      rw [bs_extract, List.drop_zero, Int.toNat_natCast]
      have := ref_j4_ev neg false (p : Int) (by simp) l (l.take p) hl (by simp; omega) (fun c hc => hd c (by rw [List.take_of_length_le hi2]; exact hc))
      simpa using this
    · exact (Ev.neg (by omega) Ev.now).res (if_neg c).symm
  | cons c t ih =>
    intro i h hi hd
    obtain ⟨g1, g2, g3⟩ := drop_cons_get h
    have hstep : Ev (fun k => stipendref01_Parse.j3 k (bs l) neg (p : Int) (i : Int) false) (scB neg l p (c :: t)) := by
      refine ref_digit_step neg _ l hl i c g1 g3 _ (fun hc => ?_) (fun hc => ?_)
      · refine (ih (i + 1) g2 (by omega) (take_succ_mem g1 hd (.inl hc))).res ?_
        simp [scB, hc]
      · simp [scB, hc]
    refine Ev.shift (fun k => by rw [stipendref01_Parse.l0]) ?_
    refine Ev.pos (by rw [bs_size]; omega) (Ev.pos (by omega) ?_)
    rw [decide_eq_false (show ¬(p : Int) < 0 by omega)]
    by_cases c46 : bt (bs l) (i : Int) = 46
    · exact Ev.pos c46 hstep
    · exact Ev.neg c46 hstep
theorem ref_scA_ev (neg : Bool) (l : List UInt8) (hl : l.length ≤ 100) : ∀ (t : List UInt8) (i : Nat), l.drop i = t → i ≤ l.length → (∀ c ∈ l.take i, dig c = true ∨ c = 46) → Ev (fun k => stipendref01_Parse.l0 k (bs l) neg (-1) (i : Int)) (scA neg l i t) := by
  intro t
  induction t with
  | nil =>
    intro i h hi hd
    have hi2 : l.length ≤ i := by simpa using h
    refine Ev.shift (fun k => by rw [stipendref01_Parse.l0]) ?_
    rw [bs_size]
    refine Ev.neg (by omega) (Ev.neg (by decide) ?_)
    have := ref_j4_ev neg true (-1) (by decide) l l hl (Nat.le_refl _) (fun c hc => hd c (by rw [List.take_of_length_le hi2]; exact hc))
    simpa [scA] using this
  | cons c t ih =>
    intro i h hi hd
    obtain ⟨g1, g2, g3⟩ := drop_cons_get h
    refine Ev.shift (fun k => by rw [stipendref01_Parse.l0]) ?_
    refine Ev.pos (by rw [bs_size]; omega) (Ev.pos (by omega) ?_)
    rw [bs_bt l i g1]
    by_cases c46 : c = 46
    · refine Ev.pos (by rw [c46]; rfl) ?_
      rw [decide_eq_true (show (-1 : Int) < 0 by decide)]
      refine Ev.shift (fun k => by rw [stipendref01_Parse.j3]) ?_
      rw [show wrap64 ((i : Int) + 1) = ((i + 1 : Nat) : Int) by rw [w64 (by omega) (by omega)]; rfl]
      refine Ev.pos rfl ((ref_scB_ev neg l hl i (by omega) t (i + 1) g2 (by omega) (take_succ_mem g1 hd (.inr c46))).res ?_)
      simp [scA, c46]
    · refine Ev.neg (fun h => c46 (UInt8.toNat_inj.1 (by show _ = 46; omega))) ?_
      refine ref_digit_step neg _ l hl i c g1 g3 _ (fun hc => ?_) (fun hc => ?_)
      · refine (ih (i + 1) g2 (by omega) (take_succ_mem g1 hd (.inl hc))).res ?_
        simp [scA, c46, hc]
      · simp [scA, c46, hc]

/-! the two readings are one -/
theorem dig_ne46 {c : UInt8} (h : dig c = true) : c ≠ 46 := by
  intro e
  subst e
  exact absurd h (by decide)
theorem digs_all {l : List UInt8} (h : l.all dig = true) : digsOf l = l := by
  unfold digsOf
  rw [List.filter_eq_self]
  intro c hc
  have := dig_ne46 (List.all_eq_true.1 h c hc)
  simp [this]
theorem part_fin (neg : Bool) (l : List UInt8) (coins : Nat) (hc : coins < 100) (ha : l.all dig = true) (hw : wholeOk l = true) : partOf neg l coins = finM neg (valFrom 0 l * 100 + coins) := by
  unfold partOf finM
  rw [ha, hw, Bool.true_and, Bool.true_and]
  by_cases c : 12 < l.length
  · have h12 : wholeOk (l.take 12) = true ∧ 1000000000000 ≤ valFrom 0 l := by
      match l, hw, c, ha with
      | c0 :: c1 :: t, hw, c, ha =>
        have h48 : c0.toNat ≠ 48 := by simpa [wholeOk] using hw
        refine ⟨wholeOk_head c0 _ h48, ?_⟩
        simp only [List.all_cons, Bool.and_eq_true] at ha
        have hd := (dig_iff c0).1 ha.1
        have hge : ∀ (t : List UInt8) (n : Nat), n * 10 ^ t.length ≤ valFrom n t := by
          intro t
          induction t with
          | nil =>
            intro n
            have e : valFrom n [] = n := rfl
            rw [e, List.length_nil, Nat.pow_zero, Nat.mul_one]
            exact Nat.le_refl n
          | cons a t ih =>
            intro n
            have h1 := ih (10 * n + (a.toNat - 48))
            have e : valFrom n (a :: t) = valFrom (10 * n + (a.toNat - 48)) t := rfl
            rw [e, List.length_cons, Nat.pow_succ]
            refine Nat.le_trans ?_ h1
            have h2 : (10 * n) * 10 ^ t.length ≤ (10 * n + (a.toNat - 48)) * 10 ^ t.length := Nat.mul_le_mul_right _ (by omega)
            rw [Nat.mul_comm (10 ^ t.length) 10, ← Nat.mul_assoc, Nat.mul_comm n 10]
            exact h2
        have h1 := hge (c1 :: t) (10 * 0 + (c0.toNat - 48))
        have e : valFrom 0 (c0 :: c1 :: t) = valFrom (10 * 0 + (c0.toNat - 48)) (c1 :: t) := rfl
        rw [e]
        refine Nat.le_trans ?_ h1
        have hp : 10 ^ 12 ≤ 10 ^ (c1 :: t).length := Nat.pow_le_pow_right (by decide) (by simp only [List.length_cons] at c ⊢; omega)
        have h2 : 1 * 10 ^ (c1 :: t).length ≤ (10 * 0 + (c0.toNat - 48)) * 10 ^ (c1 :: t).length := Nat.mul_le_mul_right _ (by omega)
        omega
    rw [if_pos c, if_pos h12.1, if_neg (by omega), if_pos (by omega)]
  · rw [if_neg c, if_pos rfl]
    by_cases d : neg = true ∧ valFrom 0 l * 100 + coins = 0
    · rw [if_pos d, if_pos ⟨d.1, by omega, by omega⟩]
    · rw [if_neg d, if_neg (fun h => d ⟨h.1, by omega⟩)]
      by_cases e : 100000000000 < valFrom 0 l * 100 + coins
      · rw [if_pos e, if_neg]
        rw [okAmt_iff]
        cases neg <;> simp [sgn] <;> omega
      · rw [if_neg e, if_pos]
        rw [okAmt_iff]
        cases neg <;> simp [sgn] <;> omega
theorem part_bad (neg : Bool) (l : List UInt8) (coins : Nat) (h : ¬(l.all dig = true ∧ wholeOk l = true)) : partOf neg l coins = (0, 5) := by
  unfold partOf
  have hb : (l.all dig && wholeOk l) = false := by
    rw [Bool.eq_false_iff]
    exact fun h' => h (Bool.and_eq_true_iff.1 h')
  by_cases c : 12 < l.length
  · have : (l.all dig && wholeOk (l.take 12)) = false := by
      rw [Bool.eq_false_iff]
      intro h'
      obtain ⟨h1, h2⟩ := Bool.and_eq_true_iff.1 h'
      refine h ⟨h1, ?_⟩
      match l, c, h2 with
      | c0 :: c1 :: t, c, h2 => exact h2
    rw [if_pos c, if_neg (by rw [this]; decide)]
  · rw [if_neg c, if_neg (by rw [hb]; decide)]

theorem scA_eq (neg : Bool) (l : List UInt8) : ∀ (t : List UInt8) (i : Nat), l.drop i = t → i ≤ l.length → (l.take i).all dig = true → scA neg l i t = bodyOf neg l := by
  intro t
  induction t with
  | nil =>
    intro i h hi ha
    have hi2 : l.length ≤ i := by simpa using h
    rw [List.take_of_length_le hi2] at ha
    have hno : ¬(3 < l.length ∧ l[l.length - 3]? = some 46) := fun h => dig_ne46 (List.all_eq_true.1 ha _ (List.mem_of_getElem? h.2)) rfl
    simp only [scA]
    unfold bodyOf frontOk
    rw [digs_all ha]
    by_cases c : 20 < l.length
    · rw [if_pos c, if_neg (by simp; omega)]
    · rw [if_neg c, if_neg hno]
      by_cases hw : wholeOk l = true
      · rw [if_pos (by simp [hw]; omega), part_fin neg l 0 (by decide) ha hw]
        rfl
      · rw [if_neg (by simp [hw]), part_bad neg l 0 (fun h => hw h.2)]
  | cons c t ih =>
    intro i h hi ha
    obtain ⟨g1, g2, g3⟩ := drop_cons_get h
    have htk : l.take (i + 1) = l.take i ++ [c] := by rw [List.take_add_one, g1]; rfl
    have hlen : l.length = i + 1 + t.length := by
      have := congrArg List.length g2
      simp at this; omega
    have hsplit : l = l.take i ++ c :: t := by rw [← h, List.take_append_drop]
    by_cases c46 : c = 46
    · have hnall : ¬l.all dig = true := fun h' => dig_ne46 (List.all_eq_true.1 h' c (List.mem_of_getElem? g1)) c46
      simp only [scA, if_pos c46]
      unfold scB endPt
      -- the point is not where it must be, or what is behind it is no number
      have hbody : (t.all dig = true ∧ i + 3 = l.length) ∨ ¬(t.all dig = true ∧ i + 3 = l.length) := Classical.em _
      rcases hbody with ⟨ht, h3⟩ | hbad
      · rw [if_pos ht, if_pos h3]
        obtain ⟨a, b, rfl⟩ : ∃ a b, t = [a, b] := by
          match t, hlen with
          | [a, b], _ => exact ⟨a, b, rfl⟩
          | [], h' => simp at h'; omega
          | [a], h' => simp at h'; omega
          | a :: b :: d :: r, h' => simp at h'; omega
        simp only [List.all_cons, List.all_nil, Bool.and_true, Bool.and_eq_true] at ht
        have hfr : (l.take i).length = i := by simp; omega
        have hdg : digsOf l = l.take i ++ [a, b] := by
          have hs2 : digsOf l = digsOf (l.take i ++ 46 :: [a, b]) := congrArg digsOf (by rw [c46] at hsplit; exact hsplit)
          have e1 : (l.take i).filter (fun c => !(c == 46)) = l.take i := digs_all ha
          rw [hs2]
          unfold digsOf
          rw [List.filter_append, e1]
          have n1 := dig_ne46 ht.1
          have n2 := dig_ne46 ht.2
          simp [n1, n2]
        unfold bodyOf frontOk
        by_cases c20 : 20 < l.length
        · rw [if_pos c20, if_neg (by simp; omega)]
        · rw [if_neg c20]
          have ga : l[l.length - 2]? = some a := by
            rw [show l.length - 2 = i + 1 by omega]
            have : (l.drop (i + 1))[0]? = some a := by rw [g2]; rfl
            rw [List.getElem?_drop] at this
            simpa using this
          have gb : l[l.length - 1]? = some b := by
            rw [show l.length - 1 = i + 2 by omega]
            have : (l.drop (i + 1))[1]? = some b := by rw [g2]; rfl
            rw [List.getElem?_drop] at this
            simpa using this
          have gda : l.getD (l.length - 2) 0 = a := by rw [List.getD_eq_getElem?_getD, ga]; rfl
          have gdb : l.getD (l.length - 1) 0 = b := by rw [List.getD_eq_getElem?_getD, gb]; rfl
          have hda := (dig_iff a).1 ht.1
          have hdb := (dig_iff b).1 ht.2
          have hv : valFrom 0 (digsOf l) = valFrom 0 (l.take i) * 100 + ((a.toNat - 48) * 10 + (b.toNat - 48)) := by
            rw [hdg, show l.take i ++ [a, b] = (l.take i ++ [a]) ++ [b] by simp, valFrom_snoc, valFrom_snoc]
            omega
          by_cases i0 : i = 0
          · -- nothing ahead of the point
            subst i0
            have hw : wholeOk (l.take 0) = false := by simp [wholeOk]
            rw [if_neg (by rw [hw]; simp), if_neg (by omega), part_bad neg l 0 (fun h' => hnall h'.1)]
          · rw [if_pos (show 3 < l.length ∧ l[l.length - 3]? = some 46 from ⟨by omega, by rw [show l.length - 3 = i by omega, g1, c46]⟩), gda, gdb, if_pos ht, show l.length - 3 = i by omega, hv]
            by_cases hw : wholeOk (l.take i) = true
            · rw [if_pos (by simp [hw]; omega), part_fin neg _ _ (by omega) ha hw]
            · rw [if_neg (by simp [hw]), part_bad neg _ _ (fun h' => hw h'.2)]
      · have e : (if t.all dig = true then (if i + 3 = l.length then (if frontOk l (l.take i) = true then finM neg (valFrom 0 (digsOf l)) else (0, 5)) else (0, 5)) else (0, 5)) = ((0 : Int), (5 : Int)) := by
          by_cases h1 : t.all dig = true
          · rw [if_pos h1, if_neg (fun h2 => hbad ⟨h1, h2⟩)]
          · rw [if_neg h1]
        rw [e]
        unfold bodyOf
        by_cases c20 : 20 < l.length
        · rw [if_pos c20]
        · rw [if_neg c20]
          by_cases hp : 3 < l.length ∧ l[l.length - 3]? = some 46
          · rw [if_pos hp]
            by_cases hdd : dig (l.getD (l.length - 2) 0) = true ∧ dig (l.getD (l.length - 1) 0) = true
            · rw [if_pos hdd]
              -- an earlier point stands in the front
              have hil : i < l.length - 3 := by
                rcases Nat.lt_trichotomy i (l.length - 3) with h' | h' | h'
                · exact h'
                · exfalso
                  refine hbad ⟨?_, by omega⟩
                  rw [List.all_eq_true]
                  intro x hx
                  obtain ⟨j, hj⟩ := List.mem_iff_getElem?.1 hx
                  have hjl := (List.getElem?_eq_some_iff.1 hj).1
                  rw [← g2, List.getElem?_drop] at hj
                  have : x = l.getD (i + 1 + j) 0 := by rw [List.getD_eq_getElem?_getD, hj]; rfl
                  rw [this]
                  have : j = 0 ∨ j = 1 := by omega
                  rcases this with rfl | rfl
                  · rw [show i + 1 + 0 = l.length - 2 by omega]; exact hdd.1
                  · rw [show i + 1 + 1 = l.length - 1 by omega]; exact hdd.2
                · exfalso
                  have : i = l.length - 2 ∨ i = l.length - 1 := by omega
                  have e : l.getD i 0 = 46 := by rw [List.getD_eq_getElem?_getD, g1, c46]; rfl
                  rcases this with h2 | h2
                  · rw [← h2, e] at hdd; exact absurd hdd.1 (by decide)
                  · rw [← h2, e] at hdd; exact absurd hdd.2 (by decide)
              rw [part_bad]
              intro h'
              have : c ∈ l.take (l.length - 3) := by
                refine List.mem_of_getElem? (i := i) ?_
                rw [List.getElem?_take_of_lt hil, g1]
              exact dig_ne46 (List.all_eq_true.1 h'.1 c this) c46
            · rw [if_neg hdd]
          · rw [if_neg hp, part_bad neg l 0 (fun h' => hnall h'.1)]
    · by_cases hd : dig c = true
      · simp only [scA, if_neg c46, if_pos hd]
        exact ih (i + 1) g2 (by omega) (by rw [htk, List.all_append, ha]; simp [hd])
      · have hnall : ¬l.all dig = true := fun h' => hd (List.all_eq_true.1 h' c (List.mem_of_getElem? g1))
        simp only [scA, if_neg c46, if_neg hd]
        unfold bodyOf
        by_cases c20 : 20 < l.length
        · rw [if_pos c20]
        · rw [if_neg c20]
          by_cases hp : 3 < l.length ∧ l[l.length - 3]? = some 46
          · rw [if_pos hp]
            by_cases hdd : dig (l.getD (l.length - 2) 0) = true ∧ dig (l.getD (l.length - 1) 0) = true
            · rw [if_pos hdd]
              have e : l.getD i 0 = c := by rw [List.getD_eq_getElem?_getD, g1]; rfl
              have hil : i < l.length - 3 := by
                apply Classical.byContradiction
                intro hn
                have : i = l.length - 3 ∨ i = l.length - 2 ∨ i = l.length - 1 := by omega
                rcases this with h2 | h2 | h2
                · rw [← h2, g1] at hp; injection hp.2 with hp; exact c46 hp
                · rw [← h2, e] at hdd; exact hd hdd.1
                · rw [← h2, e] at hdd; exact hd hdd.2
              rw [part_bad]
              intro h'
              have : c ∈ l.take (l.length - 3) := by
                refine List.mem_of_getElem? (i := i) ?_
                rw [List.getElem?_take_of_lt hil, g1]
              exact hd (List.all_eq_true.1 h'.1 c this)
            · rw [if_neg hdd]
          · rw [if_neg hp, part_bad neg l 0 (fun h' => hnall h'.1)]

theorem refparse_ev (l : List UInt8) (hl : l.length ≤ 60) : Ev (fun k => stipendref01_Parse.f k (bs l)) (parseOf l) := by
  have h1 : ∀ (neg : Bool) (t : List UInt8), t.length ≤ 60 → Ev (fun k => stipendref01_Parse.j1 k (bs t) neg) (bodyOf neg t) := by
    intro neg t ht
    refine Ev.shift (fun k => by rw [stipendref01_Parse.j1]) ?_
    rw [← scA_eq neg t t 0 rfl (Nat.zero_le _) (by simp)]
    exact ref_scA_ev neg t (by omega) t 0 rfl (Nat.zero_le _) (by simp)
  unfold stipendref01_Parse.f
  rw [bs_size]
  match l, hl with
  | [], _ =>
    refine Ev.neg (by simp) (Ev.shift (fun k => by rw [stipendref01_Parse.j0]) (Ev.neg (by decide) ?_))
    exact h1 false [] (by simp)
  | c :: t, hl =>
    refine Ev.pos (by simp only [List.length_cons]; omega) (Ev.pos (by simp only [List.length_cons]; omega) (Ev.shift (fun k => by rw [stipendref01_Parse.j0]) ?_))
    have e0 : bt (bs (c :: t)) 0 = (c.toNat : Int) := bs_bt (c :: t) 0 rfl
    rw [e0, bs_size]
    by_cases h : c = 45
    · subst h
      refine Ev.pos (by decide) (Ev.pos (by simp only [List.length_cons]; omega) ?_)
      rw [bs_extract, List.take_length, List.drop_one, List.tail_cons]
      exact h1 true t (by simp at hl; omega)
    · have e : parseOf (c :: t) = bodyOf false (c :: t) := by
        unfold parseOf
        split
        · rename_i h2; injection h2 with h2; exact absurd h2 h
        · rfl
      rw [e]
      refine Ev.neg ?_ (h1 false (c :: t) hl)
      intro h2
      have h3 : (c.toNat : Int) = 45 := by simpa using h2
      exact h (UInt8.toNat_inj.1 (by show _ = 45; omega))

/-! what is read is written so -/
theorem valFrom_ge (t : List UInt8) : ∀ (n : Nat), n ≤ valFrom n t := by
  induction t with
  | nil => intro n; exact Nat.le_refl n
  | cons a t ih =>
    intro n
    have h1 := ih (10 * n + (a.toNat - 48))
    have e : valFrom n (a :: t) = valFrom (10 * n + (a.toNat - 48)) t := rfl
    rw [e]
    omega
theorem dec_val : ∀ (n : Nat) (F : List UInt8), F.length = n → F.all dig = true → wholeOk F = true → Lib.decDigits (valFrom 0 F) = F := by
  intro n
  induction n with
  | zero =>
    intro F hF ha hw
    have : F = [] := List.eq_nil_of_length_eq_zero hF
    subst this
    cases hw
  | succ n ih =>
    intro F hF ha hw
    match F, hF, ha, hw with
    | [c], _, ha, _ =>
      simp only [List.all_cons, List.all_nil, Bool.and_true] at ha
      have hc := (dig_iff c).1 ha
      have e : valFrom 0 [c] = c.toNat - 48 := by show 10 * 0 + (c.toNat - 48) = _; omega
      rw [e, dec_small _ (by omega), show 48 + (c.toNat - 48) = c.toNat by omega, UInt8.ofNat_toNat]
    | c0 :: c1 :: r, hF, ha, hw =>
      have h48 : c0.toNat ≠ 48 := by simpa [wholeOk] using hw
      obtain ⟨G, c, hG⟩ : ∃ G c, c1 :: r = G ++ [c] := ⟨(c1 :: r).dropLast, (c1 :: r).getLast (by simp), (List.dropLast_concat_getLast (by simp)).symm⟩
      have hGl : (c0 :: G).length = n := by
        have := congrArg List.length hG
        simp only [List.length_cons, List.length_append, List.length_nil] at this hF ⊢
        omega
      rw [hG] at ha ⊢
      have ha1 : (c0 :: G).all dig = true := by
        simp only [List.all_cons, List.all_append, Bool.and_eq_true] at ha ⊢
        exact ⟨ha.1, ha.2.1⟩
      have hc : dig c = true := by
        simp only [List.all_cons, List.all_append, List.all_nil, Bool.and_true, Bool.and_eq_true] at ha
        exact ha.2.2
      have hc' := (dig_iff c).1 hc
      have h0 := (dig_iff c0).1 (by simp only [List.all_cons, Bool.and_eq_true] at ha1; exact ha1.1)
      have hih := ih (c0 :: G) hGl ha1 (wholeOk_head c0 G h48)
      have e : c0 :: (G ++ [c]) = (c0 :: G) ++ [c] := rfl
      rw [e, valFrom_snoc]
      have hpos : 1 ≤ valFrom 0 (c0 :: G) := by
        have h1 := valFrom_ge G (10 * 0 + (c0.toNat - 48))
        have e : valFrom 0 (c0 :: G) = valFrom (10 * 0 + (c0.toNat - 48)) G := rfl
        rw [e]
        omega
      rw [dec_step _ (by omega), show (10 * valFrom 0 (c0 :: G) + (c.toNat - 48)) / 10 = valFrom 0 (c0 :: G) by omega, hih, show 48 + (10 * valFrom 0 (c0 :: G) + (c.toNat - 48)) % 10 = c.toNat by omega, UInt8.ofNat_toNat]

theorem part_back (neg : Bool) (F : List UInt8) (coins : Nat) (x : Int) (hc : coins < 100) (h : partOf neg F coins = (x, 0)) :
    ∃ m : Nat, x = sgn neg * (m : Int) ∧ (neg = true → 0 < m) ∧ bodyText m = F ++ [46, UInt8.ofNat (48 + coins / 10), UInt8.ofNat (48 + coins % 10)] := by
  by_cases hb : F.all dig = true ∧ wholeOk F = true
  · rw [part_fin neg F coins hc hb.1 hb.2] at h
    unfold finM at h
    split at h
    · injection h with _ h; exact absurd h (by decide)
    · rename_i hz
      split at h
      · injection h with _ h; exact absurd h (by decide)
      · injection h with h _
        refine ⟨_, h.symm, fun hn => ?_, ?_⟩
        · apply Nat.pos_of_ne_zero
          exact fun h0 => hz ⟨hn, h0⟩
        · unfold bodyText
          rw [show (valFrom 0 F * 100 + coins) / 100 = valFrom 0 F by omega, dec_val _ F rfl hb.1 hb.2, show (valFrom 0 F * 100 + coins) % 100 / 10 = coins / 10 by omega, show (valFrom 0 F * 100 + coins) % 10 = coins % 10 by omega]
  · rw [part_bad neg F coins hb] at h
    injection h with _ h
    exact absurd h (by decide)
theorem body_back (neg : Bool) (t : List UInt8) (x : Int) (h : bodyOf neg t = (x, 0)) : ∃ m : Nat, x = sgn neg * (m : Int) ∧ (neg = true → 0 < m) ∧ (bodyText m = t ∨ bodyText m = t ++ [46, 48, 48]) := by
  unfold bodyOf at h
  split at h
  · injection h with _ h; exact absurd h (by decide)
  · split at h
    · rename_i hp
      split at h
      · rename_i hd
        have ha := (dig_iff _).1 hd.1
        have hb := (dig_iff _).1 hd.2
        obtain ⟨m, h1, h2, h3⟩ := part_back neg _ _ x (by omega) h
        refine ⟨m, h1, h2, .inl ?_⟩
        rw [h3]
        generalize hA : t.getD (t.length - 2) 0 = A at ha hb h h3 ⊢
        generalize hB : t.getD (t.length - 1) 0 = B at ha hb h h3 ⊢
        rw [show 48 + ((A.toNat - 48) * 10 + (B.toNat - 48)) / 10 = A.toNat by omega, show 48 + ((A.toNat - 48) * 10 + (B.toNat - 48)) % 10 = B.toNat by omega, UInt8.ofNat_toNat, UInt8.ofNat_toNat]
        have gA := getD_some (l := t) (i := t.length - 2) (by omega)
        have gB := getD_some (l := t) (i := t.length - 1) (by omega)
        rw [hA] at gA
        rw [hB] at gB
        apply List.ext_getElem?
        intro j
        rw [List.getElem?_append]
        simp only [List.length_take]
        by_cases c : j < min (t.length - 3) t.length
        · rw [if_pos c, List.getElem?_take_of_lt (by omega)]
        · rw [if_neg c]
          have hj : j = t.length - 3 ∨ j = t.length - 2 ∨ j = t.length - 1 ∨ t.length ≤ j := by omega
          rcases hj with rfl | rfl | rfl | hj
          · rw [show t.length - 3 - min (t.length - 3) t.length = 0 by omega, hp.2]; rfl
          · rw [show t.length - 2 - min (t.length - 3) t.length = 1 by omega, gA]; rfl
          · rw [show t.length - 1 - min (t.length - 3) t.length = 2 by omega, gB]; rfl
          · rw [List.getElem?_eq_none hj, List.getElem?_eq_none (by simp only [List.length_cons, List.length_nil]; omega)]
      · injection h with _ h; exact absurd h (by decide)
    · obtain ⟨m, h1, h2, h3⟩ := part_back neg t 0 x (by decide) h
      exact ⟨m, h1, h2, .inr h3⟩
theorem parse_back (l : List UInt8) (x : Int) (h : parseOf l = (x, 0)) : textOf x = l ∨ textOf x = l ++ [46, 48, 48] := by
  have key : ∀ (neg : Bool) (t : List UInt8), bodyOf neg t = (x, 0) → l = (if neg = true then [45] else []) ++ t → textOf x = l ∨ textOf x = l ++ [46, 48, 48] := by
    intro neg t hb hl
    obtain ⟨m, h1, h2, h3⟩ := body_back neg t x hb
    have e : textOf x = (if neg = true then [45] else []) ++ bodyText m := by
      rw [textOf_body]
      cases neg with
      | true =>
        have := h2 rfl
        rw [if_pos (by rw [h1]; simp [sgn]; omega), if_pos rfl, show x.natAbs = m by rw [h1]; simp [sgn]]
      | false => rw [if_neg (by rw [h1]; simp [sgn]), if_neg (by decide), show x.natAbs = m by rw [h1]; simp [sgn]]
    rw [e, hl]
    rcases h3 with h3 | h3
    · exact .inl (by rw [h3])
    · exact .inr (by rw [h3, List.append_assoc])
  match l, h, key with
  | [], h, key => exact key false [] h rfl
  | c :: t, h, key =>
    by_cases hc : c = 45
    · subst hc
      exact key true t h rfl
    · have e : parseOf (c :: t) = bodyOf false (c :: t) := by
        unfold parseOf
        split
        · rename_i h2; injection h2 with h2; exact absurd h2 hc
        · rfl
      rw [e] at h
      exact key false (c :: t) h rfl
theorem part_okAmt (neg : Bool) (F : List UInt8) (c : Nat) (x : Int) (h : partOf neg F c = (x, 0)) : okAmt x = true := by
  unfold partOf at h
  split at h
  · split at h <;> (injection h with _ h; exact absurd h (by decide))
  · split at h
    · split at h
      · injection h with _ h; exact absurd h (by decide)
      · split at h
        · rename_i hk; injection h with h _; rw [← h]; exact hk
        · injection h with _ h; exact absurd h (by decide)
    · injection h with _ h; exact absurd h (by decide)
theorem body_okAmt (neg : Bool) (t : List UInt8) (x : Int) (h : bodyOf neg t = (x, 0)) : okAmt x = true := by
  unfold bodyOf at h
  split at h
  · injection h with _ h; exact absurd h (by decide)
  · split at h
    · split at h
      · exact part_okAmt _ _ _ _ h
      · injection h with _ h; exact absurd h (by decide)
    · exact part_okAmt _ _ _ _ h
theorem parse_okAmt (l : List UInt8) (x : Int) (h : parseOf l = (x, 0)) : okAmt x = true := by
  unfold parseOf at h
  split at h
  · exact body_okAmt _ _ _ h
  · exact body_okAmt _ _ _ h

theorem moneyParses_true (s : ByteArray) (_g : s.size ≤ maxLen) : ∃ k, stipendlaw01_MoneyParses.f k s = some true := by
  apply Ev.get
  unfold stipendlaw01_MoneyParses.f
  refine Ev.bind counts_ev (Ev.pos rfl ?_)
  by_cases c : 60 < s.size
  · exact Ev.pos (by omega) Ev.now
  · have hsl : s.toList.length = s.size := by rw [Lib.toList_data, data_length]
    refine Ev.neg (by omega) (Ev.bind (mparse_ev s (by omega)) ?_)
    have hr := refparse_ev s.toList (by omega)
    rw [bs_eta] at hr
    refine Ev.bind hr (Ev.pos rfl ?_)
    rw [show ((parseOf s.toList).2 != (parseOf s.toList).2) = false by simp]
    refine Ev.shift (fun k => by rw [stipendlaw01_MoneyParses.j0]) ?_
    refine Ev.neg (by decide) ?_
    by_cases c0 : (parseOf s.toList).2 = 0
    · refine Ev.pos c0 ?_
      have hp : parseOf s.toList = ((parseOf s.toList).1, 0) := by rw [← c0]
      have hk := (okAmt_iff _).1 (parse_okAmt _ _ hp)
      have ht := text_f (parseOf s.toList).1 (by omega) (by omega)
      refine Ev.bindc ht ?_
      rw [show (⟨(textOf (parseOf s.toList).1).toArray⟩ : ByteArray).toList = textOf (parseOf s.toList).1 from bs_toList _]
      rcases parse_back _ _ hp with h | h
      · exact Ev.pos h Ev.now
      · by_cases h2 : textOf (parseOf s.toList).1 = s.toList
        · exact Ev.pos h2 Ev.now
        · refine Ev.neg h2 (Ev.bindc ht (Ev.pos (by omega) (Ev.const ?_)))
          rw [show (⟨(textOf (parseOf s.toList).1).toArray⟩ : ByteArray).toList = textOf (parseOf s.toList).1 from bs_toList _, h]
          have e : s ++ (⟨#[46, 48, 48]⟩ : ByteArray) = bs (s.toList ++ [46, 48, 48]) := (congrArg (fun z => z ++ (⟨#[46, 48, 48]⟩ : ByteArray)) (bs_eta s).symm).trans (ba_append s.toList [46, 48, 48])
          rw [e, bs_toList]
          simp
    · exact Ev.neg c0 Ev.now
end Go.Proofs.YtmocphafkimdpaaDoor.P
