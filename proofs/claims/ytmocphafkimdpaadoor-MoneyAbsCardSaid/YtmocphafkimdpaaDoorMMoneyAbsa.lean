/- A part of the proof of MoneyAbs's card: 'MoneyAbs' answers true for every input (the conditions: those of the given statement alone). Merged by a program (wip/merge.py) out of: Pf15, HMoneyAbs. -/
import Derived.Test.YtmocphafkimdpaaDoorBMoneya
import Derived.Test.YtmocphafkimdpaaDoorBMoneyi
import Derived.Test.YtmocphafkimdpaaDoorBMoneyj

-- written by a program (a patched copy of the kit's print: wip/mkprint.py); Lean checks it
namespace Go.Proofs.YtmocphafkimdpaaDoor.P
open Go.RowKit Go.Proofs.YtmocphafkimdpaaDoorW.PrintWords Go.Proofs.YtmocphafkimdpaaDoorW.PrintLast Go.Proofs.YtmocphafkimdpaaDoorW.PrintMore
attribute [local go_sem] max2_int min2_int max_two min_two max_three min_three max_four min_four   -- for this text's walks alone
set_option linter.unusedVariables false
set_option linter.unusedSimpArgs false

/-! ### stipendlaw01_MoneyAbs: function 15 -/
def stipendlaw01_MoneyAbs.f (k : Nat) (a0 : Int) : Option (Bool) := (stipendlaw01_counts.f k).bind fun t570 => (if t570 = true then ((money_Abs.f a0).bind fun t571 => (if a0 < 0 then (if t571 = (IntKind.u64.wrap (-(IntKind.u64.wrap (a0)))) then (some (decide (t571 > 0))) else (some false)) else (some (t571 == (IntKind.u64.wrap (a0)))))) else (some false))
theorem stipendlaw01_MoneyAbs.mono : ∀ a0 k, LeO (stipendlaw01_MoneyAbs.f k a0) (stipendlaw01_MoneyAbs.f (k + 1) a0) := by
 intro a0 k
 unfold stipendlaw01_MoneyAbs.f
 repeat' first
   | (with_reducible exact stipendlaw01_counts.mono _)
   | (with_reducible exact LeO.refl _)
   | (with_reducible exact LeO.none _)
   | (with_reducible refine LeO.ite ?_ ?_)
   | (with_reducible refine LeO.bind ?_ (fun _ => ?_))
   | exact stipendlaw01_counts.mono _
   | exact LeO.none _
   | refine LeO.ite ?_ ?_
   | refine LeO.bind ?_ (fun _ => ?_)
set_option maxHeartbeats 8000000 in
set_option maxRecDepth 100000 in
theorem stipendlaw01_MoneyAbs.calls (k : Nat) (a0 : Int) (r : Bool) (w : World) (h : stipendlaw01_MoneyAbs.f k a0 = some r) (hG : GTab w := by first | exact GTab.below HG.out (by repeat (first | (with_reducible first | exact HB.out | apply below_alloc | apply pw_below_drewN | apply below_drew1 | apply below_drew) | exact HB.out)) | exact HG.out) :
  Calls Tryd.prog 15 #[.int .i64 a0] w fun e w' => e = .returned (.bool r) ∧ Below w.heap.size w w' := by
 have HG := Aside0.mk hG; clear hG
 have HB := Aside0.mk (Below.refl w.heap.size w)
 have H : ((stipendlaw01_counts.f k).bind fun t570 => (if t570 = true then ((money_Abs.f a0).bind fun t571 => (if a0 < 0 then (if t571 = (IntKind.u64.wrap (-(IntKind.u64.wrap (a0)))) then (some (decide (t571 > 0))) else (some false)) else (some (t571 == (IntKind.u64.wrap (a0)))))) else (some false))) = some r := h
 clear h
 replace H := Option.bind_eq_some_iff.mp H
 obtain ⟨t570, A20, H⟩ := H
 replace H : (if t570 = true then ((money_Abs.f a0).bind fun t571 => (if a0 < 0 then (if t571 = (IntKind.u64.wrap (-(IntKind.u64.wrap (a0)))) then (some (decide (t571 > 0))) else (some false)) else (some (t571 == (IntKind.u64.wrap (a0)))))) else (some false)) = some r := H
 have A2 := Aside0.mk A20
 clear A20
 by_cases c3 : t570 = true
 ·subst c3
  have H1 : ((money_Abs.f a0).bind fun t571 => (if a0 < 0 then (if t571 = (IntKind.u64.wrap (-(IntKind.u64.wrap (a0)))) then (some (decide (t571 > 0))) else (some false)) else (some (t571 == (IntKind.u64.wrap (a0)))))) = some r := by rw [if_pos rfl] at H; exact H
  clear H
  have H := H1
  clear H1
  replace H := Option.bind_eq_some_iff.mp H
  obtain ⟨t571, A40, H⟩ := H
  replace H : (if a0 < 0 then (if t571 = (IntKind.u64.wrap (-(IntKind.u64.wrap (a0)))) then (some (decide (t571 > 0))) else (some false)) else (some (t571 == (IntKind.u64.wrap (a0))))) = some r := H
  have A4 := Aside0.mk A40
  clear A40
  by_cases c5 : a0 < 0
  ·rw [if_pos c5] at H
   have c5b0 : decide (a0 < 0) = true := decide_eq_true c5
   clear c5
   by_cases c6 : t571 = (IntKind.u64.wrap (-(IntKind.u64.wrap (a0))))
   ·rw [if_pos c6] at H
    have c6b0 : (t571 == (IntKind.u64.wrap (-(IntKind.u64.wrap (a0))))) = true := beq_iff_eq.mpr c6
    have c6b1 : (t571 != (IntKind.u64.wrap (-(IntKind.u64.wrap (a0))))) = false := bne_eq_false_iff_eq.mpr c6
    clear c6
    obtain rfl := Option.some.inj H
    go_enter Tryd.func15, Tryd.ntmps15
    go_wp2_with (first | ((with_reducible refine gate_callee (f := 57) rfl ?_); refine goesL_ (some 4) rfl rfl Tryd.func57 (by kernel_rfl) rfl #[] rfl (by (try simp only [List.map_toArray, List.map_cons, List.map_nil]); first | done | rfl | (simp only [List.length_drop, List.length_take]; rfl)) ?_; (with_reducible refine (stipendlaw01_counts.calls k  true _ A2.out).mono ?_); rintro e w7 ⟨rfl, hb⟩; refine ⟨_, rfl, ?_⟩; have n0_ := Aside0.mk (below_step (by repeat (first | (with_reducible first | exact HB.out | apply below_alloc | apply pw_below_drewN | apply below_drew1) | exact HB.out)) hb); clear HB; have HB := n0_; clear n0_; (try clear hb); (try clear hb2); (try clear hk); (try clear hi)) | ((with_reducible refine gate_callee (f := 61) rfl ?_); refine goesL_ (some 7) rfl rfl Tryd.func61 (by kernel_rfl) rfl #[.int .i64 a0] rfl (by (try simp only [List.map_toArray, List.map_cons, List.map_nil]); first | done | rfl | (simp only [List.length_drop, List.length_take]; rfl)) ?_; (with_reducible refine (money_Abs.calls a0 t571 _ A4.out).mono ?_); rintro e w' ⟨rfl, ⟨nd, rfl⟩⟩; refine ⟨_, rfl, ?_⟩))
    go_ret
    exact ⟨by first | rfl | (simp [errW_none, errW_some] <;> rfl) | (simp [*, errW_none, errW_some] <;> rfl), by repeat (first | (with_reducible first | exact HB.out | apply below_alloc | apply pw_below_drewN | apply below_drew1) | exact HB.out)⟩
   ·rw [if_neg c6] at H
    have c6b0 : (t571 == (IntKind.u64.wrap (-(IntKind.u64.wrap (a0))))) = false := beq_eq_false_iff_ne.mpr c6
    have c6b1 : (t571 != (IntKind.u64.wrap (-(IntKind.u64.wrap (a0))))) = true := bne_iff_ne.mpr c6
    obtain rfl := Option.some.inj H
    go_enter Tryd.func15, Tryd.ntmps15
    go_wp2_with (first | ((with_reducible refine gate_callee (f := 57) rfl ?_); refine goesL_ (some 4) rfl rfl Tryd.func57 (by kernel_rfl) rfl #[] rfl (by (try simp only [List.map_toArray, List.map_cons, List.map_nil]); first | done | rfl | (simp only [List.length_drop, List.length_take]; rfl)) ?_; (with_reducible refine (stipendlaw01_counts.calls k  true _ A2.out).mono ?_); rintro e w8 ⟨rfl, hb⟩; refine ⟨_, rfl, ?_⟩; have n0_ := Aside0.mk (below_step (by repeat (first | (with_reducible first | exact HB.out | apply below_alloc | apply pw_below_drewN | apply below_drew1) | exact HB.out)) hb); clear HB; have HB := n0_; clear n0_; (try clear hb); (try clear hb2); (try clear hk); (try clear hi)) | ((with_reducible refine gate_callee (f := 61) rfl ?_); refine goesL_ (some 7) rfl rfl Tryd.func61 (by kernel_rfl) rfl #[.int .i64 a0] rfl (by (try simp only [List.map_toArray, List.map_cons, List.map_nil]); first | done | rfl | (simp only [List.length_drop, List.length_take]; rfl)) ?_; (with_reducible refine (money_Abs.calls a0 t571 _ A4.out).mono ?_); rintro e w' ⟨rfl, ⟨nd, rfl⟩⟩; refine ⟨_, rfl, ?_⟩))
    go_ret
    exact ⟨by first | rfl | (simp [errW_none, errW_some] <;> rfl) | (simp [*, errW_none, errW_some] <;> rfl), by repeat (first | (with_reducible first | exact HB.out | apply below_alloc | apply pw_below_drewN | apply below_drew1) | exact HB.out)⟩
  ·rw [if_neg c5] at H
   have c5b0 : decide (a0 < 0) = false := decide_eq_false c5
   clear c5
   obtain rfl := Option.some.inj H
   go_enter Tryd.func15, Tryd.ntmps15
   go_wp2_with (first | ((with_reducible refine gate_callee (f := 57) rfl ?_); refine goesL_ (some 4) rfl rfl Tryd.func57 (by kernel_rfl) rfl #[] rfl (by (try simp only [List.map_toArray, List.map_cons, List.map_nil]); first | done | rfl | (simp only [List.length_drop, List.length_take]; rfl)) ?_; (with_reducible refine (stipendlaw01_counts.calls k  true _ A2.out).mono ?_); rintro e w9 ⟨rfl, hb⟩; refine ⟨_, rfl, ?_⟩; have n0_ := Aside0.mk (below_step (by repeat (first | (with_reducible first | exact HB.out | apply below_alloc | apply pw_below_drewN | apply below_drew1) | exact HB.out)) hb); clear HB; have HB := n0_; clear n0_; (try clear hb); (try clear hb2); (try clear hk); (try clear hi)) | ((with_reducible refine gate_callee (f := 61) rfl ?_); refine goesL_ (some 7) rfl rfl Tryd.func61 (by kernel_rfl) rfl #[.int .i64 a0] rfl (by (try simp only [List.map_toArray, List.map_cons, List.map_nil]); first | done | rfl | (simp only [List.length_drop, List.length_take]; rfl)) ?_; (with_reducible refine (money_Abs.calls a0 t571 _ A4.out).mono ?_); rintro e w' ⟨rfl, ⟨nd, rfl⟩⟩; refine ⟨_, rfl, ?_⟩))
   go_ret
   exact ⟨by first | rfl | (simp [errW_none, errW_some] <;> rfl) | (simp [*, errW_none, errW_some] <;> rfl), by repeat (first | (with_reducible first | exact HB.out | apply below_alloc | apply pw_below_drewN | apply below_drew1) | exact HB.out)⟩
 ·replace c3 := Bool.eq_false_iff.mpr c3
  subst c3
  have H1 : (some false) = some r := by rw [if_neg (show ¬ (false = true) by decide)] at H; exact H
  clear H
  have H := H1
  clear H1
  obtain rfl := Option.some.inj H
  go_enter Tryd.func15, Tryd.ntmps15
  go_wp2_with (first | ((with_reducible refine gate_callee (f := 57) rfl ?_); refine goesL_ (some 4) rfl rfl Tryd.func57 (by kernel_rfl) rfl #[] rfl (by (try simp only [List.map_toArray, List.map_cons, List.map_nil]); first | done | rfl | (simp only [List.length_drop, List.length_take]; rfl)) ?_; (with_reducible refine (stipendlaw01_counts.calls k  false _ A2.out).mono ?_); rintro e w10 ⟨rfl, hb⟩; refine ⟨_, rfl, ?_⟩; have n0_ := Aside0.mk (below_step (by repeat (first | (with_reducible first | exact HB.out | apply below_alloc | apply pw_below_drewN | apply below_drew1) | exact HB.out)) hb); clear HB; have HB := n0_; clear n0_; (try clear hb); (try clear hb2); (try clear hk); (try clear hi)))
  go_ret
  exact ⟨by first | rfl | (simp [errW_none, errW_some] <;> rfl) | (simp [*, errW_none, errW_some] <;> rfl), by repeat (first | (with_reducible first | exact HB.out | apply below_alloc | apply pw_below_drewN | apply below_drew1) | exact HB.out)⟩

end Go.Proofs.YtmocphafkimdpaaDoor.P


/- MoneyAbs answers true for every number: the plain law. -/
namespace Go.Proofs.YtmocphafkimdpaaDoor.P
open Go.RowKit Go.Proofs.YtmocphafkimdpaaDoorW.PrintWords Go.Proofs.YtmocphafkimdpaaDoorW.PrintLast Go.Proofs.YtmocphafkimdpaaDoorW.PrintMore

theorem i64_of {x : Int} (g : (Lit.int .i64 x).wf = true) : -9223372036854775808 ≤ x ∧ x ≤ 9223372036854775807 := by
  have := g
  simp [Lit.wf] at this
  exact this
theorem moneyAbs_true (x : Int) (g : (Lit.int .i64 x).wf = true) : ∃ k, stipendlaw01_MoneyAbs.f k x = some true := by
  obtain ⟨h0, h1⟩ := i64_of g
  apply Ev.get
  unfold stipendlaw01_MoneyAbs.f
  refine Ev.bind counts_ev (Ev.pos rfl (Ev.bindc (abs_f x h0 h1) ?_))
  by_cases c : x < 0
  · refine Ev.pos c (Ev.pos ?_ (Ev.const ?_))
    · rw [IntKind.wrap_u64, IntKind.wrap_u64]; omega
    · rw [decide_eq_true (by omega)]
  · refine Ev.neg c (Ev.const ?_)
    rw [IntKind.wrap_u64, show ((x.natAbs : Int) == x % 18446744073709551616) = true from beq_iff_eq.2 (by omega)]
end Go.Proofs.YtmocphafkimdpaaDoor.P
