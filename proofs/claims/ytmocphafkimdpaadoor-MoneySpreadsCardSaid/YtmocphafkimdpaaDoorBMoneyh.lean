/- A part of the proof of the cards of Money..: each of these statements answers true for every input (the conditions: those of the given statements alone). Merged by a program (wip/merge.py) out of: Pf66, Pf67. -/
import Derived.Test.YtmocphafkimdpaaDoorBMoneya

-- written by a program (a patched copy of the kit's print: wip/mkprint.py); Lean checks it
namespace Go.Proofs.YtmocphafkimdpaaDoor.P
open Go.RowKit Go.Proofs.YtmocphafkimdpaaDoorW.PrintWords Go.Proofs.YtmocphafkimdpaaDoorW.PrintLast Go.Proofs.YtmocphafkimdpaaDoorW.PrintMore
attribute [local go_sem] max2_int min2_int max_two min_two max_three min_three max_four min_four   -- for this text's walks alone
set_option linter.unusedVariables false
set_option linter.unusedSimpArgs false

/-! ### money_Least: function 66 -/
def money_Least.f (a0 : Int) (a1 : Int) : Option (Int) := some (mn a0 a1)
set_option maxHeartbeats 8000000 in
set_option maxRecDepth 100000 in
theorem money_Least.calls (a0 : Int) (a1 : Int) (r : Int) (w : World) (h : money_Least.f a0 a1 = some r) :
  Calls Tryd.prog 66 #[.int .i64 a0, .int .i64 a1] w fun e w' => e = .returned (.int .i64 r) ∧ Below w.heap.size w w' := by
 have HB := Aside0.mk (Below.refl w.heap.size w)
 have H : (some (mn a0 a1)) = some r := h
 clear h
 obtain ⟨ji3, hji3⟩ : ∃ j_ : Int, (mn a0 a1) = j_ := ⟨_, rfl⟩
 replace H : (some ji3) = some r := by first | (rw [hji3] at H; exact H) | (simp only [hji3] at H ⊢; exact H)
 have hji3_ : (if a1 < a0 then a1 else a0) = ji3 := hji3
 obtain rfl := Option.some.inj H
 go_enter Tryd.func66, Tryd.ntmps66
 go_wp2
 go_ret
 exact ⟨by first | rfl | (simp [errW_none, errW_some] <;> rfl) | (simp only [← hji3]; first | rfl | (simp [errW_none, errW_some] <;> rfl)) | (simp [*, errW_none, errW_some] <;> rfl), by repeat (first | (with_reducible first | exact HB.out | apply below_alloc | apply pw_below_drewN | apply below_drew1) | exact HB.out)⟩

end Go.Proofs.YtmocphafkimdpaaDoor.P


-- written by a program (a patched copy of the kit's print: wip/mkprint.py); Lean checks it
namespace Go.Proofs.YtmocphafkimdpaaDoor.P
open Go.RowKit Go.Proofs.YtmocphafkimdpaaDoorW.PrintWords Go.Proofs.YtmocphafkimdpaaDoorW.PrintLast Go.Proofs.YtmocphafkimdpaaDoorW.PrintMore
attribute [local go_sem] max2_int min2_int max_two min_two max_three min_three max_four min_four   -- for this text's walks alone
set_option linter.unusedVariables false
set_option linter.unusedSimpArgs false

/-! ### money_Greatest: function 67 -/
def money_Greatest.f (a0 : Int) (a1 : Int) : Option (Int) := some (mx a0 a1)
set_option maxHeartbeats 8000000 in
set_option maxRecDepth 100000 in
theorem money_Greatest.calls (a0 : Int) (a1 : Int) (r : Int) (w : World) (h : money_Greatest.f a0 a1 = some r) :
  Calls Tryd.prog 67 #[.int .i64 a0, .int .i64 a1] w fun e w' => e = .returned (.int .i64 r) ∧ Below w.heap.size w w' := by
 have HB := Aside0.mk (Below.refl w.heap.size w)
 have H : (some (mx a0 a1)) = some r := h
 clear h
 obtain ⟨ji3, hji3⟩ : ∃ j_ : Int, (mx a0 a1) = j_ := ⟨_, rfl⟩
 replace H : (some ji3) = some r := by first | (rw [hji3] at H; exact H) | (simp only [hji3] at H ⊢; exact H)
 have hji3_ : (if a0 < a1 then a1 else a0) = ji3 := hji3
 obtain rfl := Option.some.inj H
 go_enter Tryd.func67, Tryd.ntmps67
 go_wp2
 go_ret
 exact ⟨by first | rfl | (simp [errW_none, errW_some] <;> rfl) | (simp only [← hji3]; first | rfl | (simp [errW_none, errW_some] <;> rfl)) | (simp [*, errW_none, errW_some] <;> rfl), by repeat (first | (with_reducible first | exact HB.out | apply below_alloc | apply pw_below_drewN | apply below_drew1) | exact HB.out)⟩

end Go.Proofs.YtmocphafkimdpaaDoor.P
