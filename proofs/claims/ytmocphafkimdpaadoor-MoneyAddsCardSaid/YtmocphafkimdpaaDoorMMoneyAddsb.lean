/- A part of the proof of MoneyAdds's card: 'MoneyAdds' answers true for every input (the conditions: those of the given statement alone). Merged by a program (wip/merge.py) out of: HMoneyAdds. -/
import Derived.Test.YtmocphafkimdpaaDoorBMoneyj
import Derived.Test.YtmocphafkimdpaaDoorMMoneyAddsa

/- MoneyAdds answers true for every two numbers: the plain law. -/
namespace Go.Proofs.YtmocphafkimdpaaDoor.P
open Go.RowKit Go.Proofs.YtmocphafkimdpaaDoorW.PrintWords Go.Proofs.YtmocphafkimdpaaDoorW.PrintLast Go.Proofs.YtmocphafkimdpaaDoorW.PrintMore
set_option linter.unusedVariables false
set_option linter.unusedSimpArgs false

theorem least_great (a b : Int) (ha : -100000000000 ≤ a ∧ a ≤ 100000000000) (hb : -100000000000 ≤ b ∧ b ≤ 100000000000) : (money_Least.f a b).bind (fun t => (money_Greatest.f a b).bind fun u => some (wrap64 (t + u) == a + b)) = some true := by
  unfold money_Least.f money_Greatest.f
  simp only [Option.bind_some]
  congr 1
  unfold mn mx
  rw [beq_iff_eq]
  split <;> (unfold wrap64; omega)
theorem moneyAdds_true (a b : Int) (_g : (Lit.int .i64 a).wf = true) (_g' : (Lit.int .i64 b).wf = true) : ∃ k, stipendlaw01_MoneyAdds.f k a b = some true := by
  apply Ev.get
  unfold stipendlaw01_MoneyAdds.f
  refine Ev.bind counts_ev (Ev.pos rfl (Ev.bind (madd_ev a b) (Ev.bind (msub_ev a b) (Ev.bindc (refRight_f a) ?_))))
  by_cases c : okAmt a = true ∧ okAmt b = true
  · obtain ⟨ha, hb⟩ := c
    have ha' := (okAmt_iff a).1 ha
    have hb' := (okAmt_iff b).1 hb
    refine Ev.pos ha (Ev.bindc (refRight_f b) ?_)
    rw [ha, hb]
    simp only [Bool.true_and]
    refine Ev.shift (fun k => by rw [stipendlaw01_MoneyAdds.j0]) ?_
    refine Ev.neg (by decide) ?_
    rw [w64 (x := a + b) (by omega) (by omega), w64 (x := a - b) (by omega) (by omega)]
    have hr : Ev (fun k => money_Right.f k [a, b]) true := (mright_ev [a, b] (by simp)).res (by simp [ha, hb])
    cases hs : okAmt (a + b) <;> cases hd : okAmt (a - b)
    all_goals
      refine Ev.bindc (refRight_f _) ?_
      rw [hs]
      refine Ev.neg (by simp) (Ev.bindc (refRight_f _) ?_)
      rw [hd]
      refine Ev.neg (by simp) (Ev.bind hr ?_)
      refine Ev.shift (fun k => by rw [stipendlaw01_MoneyAdds.j1]) ?_
      refine Ev.neg (by simp) ?_
    · exact Ev.neg (by simp) (Ev.pos rfl (Ev.pos rfl (Ev.neg (by simp) (Ev.pos rfl (Ev.pos rfl (Ev.const (least_great a b ha' hb')))))))
    · exact Ev.neg (by simp) (Ev.pos rfl (Ev.pos rfl (Ev.pos rfl (Ev.pos rfl (Ev.const (least_great a b ha' hb'))))))
    · exact Ev.pos rfl (Ev.pos rfl (Ev.neg (by simp) (Ev.pos rfl (Ev.pos rfl (Ev.const (least_great a b ha' hb'))))))
    · exact Ev.pos rfl (Ev.pos rfl (Ev.pos rfl (Ev.pos rfl (Ev.const (least_great a b ha' hb')))))
  · have h1 : (okAmt a && okAmt b) = false := by
      rw [Bool.eq_false_iff]
      exact fun h => c (Bool.and_eq_true_iff.1 h)
    have hj : Ev (fun k => stipendlaw01_MoneyAdds.j0 k a b 0 10 0 10 true) true := by
      refine Ev.shift (fun k => by rw [stipendlaw01_MoneyAdds.j0]) ?_
      refine Ev.pos rfl (Ev.pos rfl (Ev.pos rfl (Ev.pos rfl (Ev.pos rfl (Ev.bind (mright_ev [a, b] (by simp)) (Ev.const ?_))))))
      have : [a, b].all okAmt = false := by simpa using h1
      rw [this]
      rfl
    rw [h1]
    simp only [Bool.false_and]
    by_cases ha : okAmt a = true
    · refine Ev.pos ha (Ev.bindc (refRight_f b) ?_)
      have hb : okAmt b = false := by rw [ha] at h1; simpa using h1
      rw [hb]
      exact hj
    · exact Ev.neg ha hj
end Go.Proofs.YtmocphafkimdpaaDoor.P
