/- A part of the proof of ShareSides's card: 'ShareSides' answers true for every input (the conditions: those of the given statement alone). Merged by a program (wip/merge.py) out of: HShareSides. -/
import Derived.Test.YtmocphafkimdpaaDoorMShareSidesg
import Derived.Test.YtmocphafkimdpaaDoorMShareSidesa
import Derived.Test.YtmocphafkimdpaaDoorMShareSidesi

/- ShareSides answers true for every row and every cash: the plain law. -/
namespace Go.Proofs.YtmocphafkimdpaaDoor.P
open Go.RowKit Go.Proofs.YtmocphafkimdpaaDoorW.PrintWords Go.Proofs.YtmocphafkimdpaaDoorW.PrintLast Go.Proofs.YtmocphafkimdpaaDoorW.PrintMore

/-- The sum, one by one: each share and each sum on the way may be. -/
def sumFrom (p q : Int) : List S29 → Option (Int × Int)
  | [] => some (p, q)
  | a :: t => if tOk ⟨p, q⟩ a = true then sumFrom (p + a.f0) (q + a.f1) t else none
def orBad2 (o : Option (Int × Int)) : Int × Int × Int := match o with
  | some d => (d.1, d.2, 0)
  | none => (0, 0, 10)

theorem total_l (l : List S29) (hl : l.length < 1000) : ∀ (t : List S29) (i : Nat) (p q : Int), l.drop i = t → i ≤ l.length → okSh ⟨p, q⟩ = true → Ev (fun k => pair_Total.l0 k l (l.length : Int) i p q) (orBad2 (sumFrom p q t))
  | [], i, p, q, h, hi, ho => by
    have : l.length ≤ i := by simpa using h
    refine Ev.shift (fun k => by rw [pair_Total.l0]) ?_
    exact Ev.neg (by omega) Ev.now
  | a :: t, i, p, q, h, hi, ho => by
    obtain ⟨h1, h2, h3⟩ := drop_cons_get h
    obtain ⟨o1, o2⟩ := Bool.and_eq_true_iff.1 ho
    refine Ev.shift (fun k => by rw [pair_Total.l0]) ?_
    refine Ev.pos (by omega) (Ev.pos (by omega) (Ev.pos (by omega) ?_))
    rw [rdt h1]
    rw [show wrap64 ((i : Int) + 1) = ((i + 1 : Nat) : Int) by rw [w64 (by omega) (by omega)]; rfl]
    by_cases c : okAmt p = true ∧ okAmt a.f0 = true ∧ okAmt (p + a.f0) = true
    · refine Ev.bind (madd_ok p a.f0 c.1 c.2.1 c.2.2) (Ev.pos rfl ?_)
      by_cases d : okAmt q = true ∧ okAmt a.f1 = true ∧ okAmt (q + a.f1) = true
      · refine Ev.bind (madd_ok q a.f1 d.1 d.2.1 d.2.2) (Ev.pos rfl ?_)
        have hk : tOk ⟨p, q⟩ a = true := (tOk_iff ⟨p, q⟩ a).2 ⟨c, d⟩
        simp only [sumFrom, if_pos hk]
        exact total_l l hl t (i + 1) (p + a.f0) (q + a.f1) h2 (by omega) (by simp [okSh, c.2.2, d.2.2])
      · refine Ev.bind (madd_no q a.f1 d) (Ev.neg (by decide) ?_)
        have hk : ¬tOk ⟨p, q⟩ a = true := fun h => d ((tOk_iff ⟨p, q⟩ a).1 h).2
        simp only [sumFrom, if_neg hk]
        exact Ev.now
    · refine Ev.bind (madd_no p a.f0 c) (Ev.neg (by decide) ?_)
      have hk : ¬tOk ⟨p, q⟩ a = true := fun h => c ((tOk_iff ⟨p, q⟩ a).1 h).1
      simp only [sumFrom, if_neg hk]
      exact Ev.now
theorem sides_ev (l : List S29) (hl : l.length < 1000) : Ev (fun k => share_Sides.f k l) (orBad2 (sumFrom 0 0 l)) := by
  unfold share_Sides.f pair_Total.f
  exact Ev.bind (total_l l hl l 0 0 0 rfl (by omega) (by decide)) (Ev.const rfl)
theorem employee_ev (l : List S29) (hl : l.length < 1000) : Ev (fun k => share_Employee.f k l) ((orBad2 (sumFrom 0 0 l)).1, (orBad2 (sumFrom 0 0 l)).2.2) := by
  unfold share_Employee.f
  exact Ev.bind (sides_ev l hl) (Ev.const rfl)
theorem employer_ev (l : List S29) (hl : l.length < 1000) : Ev (fun k => share_Employer.f k l) ((orBad2 (sumFrom 0 0 l)).2.1, (orBad2 (sumFrom 0 0 l)).2.2) := by
  unfold share_Employer.f
  exact Ev.bind (sides_ev l hl) (Ev.const rfl)

theorem ss_good (x : Int) (l : List S29) (hl : l.length ≤ 60) (P Q : Int) (r : Int × Int) (hr : Ev (fun k => money_Add.f k x Q) r) : ∀ (t : List S29) (i : Nat) (p q : Int), l.drop i = t → i ≤ l.length → okSh ⟨p, q⟩ = true → sumFrom p q t = some (P, Q) →
    Ev (fun k => stipendlaw16_ShareSides.l0 k x 0 P 0 Q 0 r.1 r.2 l (l.length : Int) i P Q p q) true
  | [], i, p, q, h, hi, ho, hs => by
    have : l.length ≤ i := by simpa using h
    cases hs
    refine Ev.shift (fun k => by rw [stipendlaw16_ShareSides.l0]) ?_
    refine Ev.neg (by omega) (Ev.pos (by kernel_rfl) (Ev.neg (by simp) (Ev.pos rfl (Ev.pos rfl ?_))))
    exact Ev.bind hr (Ev.pos rfl (Ev.const (by simp)))
  | a :: t, i, p, q, h, hi, ho, hs => by
    obtain ⟨h1, h2, h3⟩ := drop_cons_get h
    have op := (okSh_iff ⟨p, q⟩).1 ho
    simp only [sumFrom] at hs
    split at hs
    · rename_i c
      have c' := (tOk_iff ⟨p, q⟩ a).1 c
      have ca : okSh a = true := by simp [okSh, c'.1.2.1, c'.2.2.1]
      have cs : okSh ⟨p + a.f0, q + a.f1⟩ = true := by simp [okSh, c'.1.2.2, c'.2.2.2]
      have oa := (okSh_iff a).1 ca
      refine Ev.shift (fun k => by rw [stipendlaw16_ShareSides.l0]) ?_
      refine Ev.pos (by omega) (Ev.pos (by omega) (Ev.pos (by omega) ?_))
      rw [rdt h1]
      refine Ev.bind (right_ev _ (by simp)) (Ev.pos (by simp [ca]) ?_)
      simp only at op
      rw [w64 (x := p + a.f0) (by omega) (by omega), w64 (x := q + a.f1) (by omega) (by omega)]
      refine Ev.bind (right_ev _ (by simp)) (Ev.pos (by simp [cs]) ?_)
      rw [show wrap64 ((i : Int) + 1) = ((i + 1 : Nat) : Int) by rw [w64 (by omega) (by omega)]; rfl]
      exact ss_good x l hl P Q r hr t (i + 1) (p + a.f0) (q + a.f1) h2 (by omega) cs hs
    · cases hs
theorem ss_bad (x : Int) (l : List S29) (hl : l.length ≤ 60) : ∀ (t : List S29) (i : Nat) (p q : Int), l.drop i = t → i ≤ l.length → okSh ⟨p, q⟩ = true → sumFrom p q t = none →
    Ev (fun k => stipendlaw16_ShareSides.l0 k x 10 0 10 0 10 0 10 l (l.length : Int) i 0 0 p q) true
  | [], i, p, q, h, hi, ho, hs => by cases hs
  | a :: t, i, p, q, h, hi, ho, hs => by
    obtain ⟨h1, h2, h3⟩ := drop_cons_get h
    have op := (okSh_iff ⟨p, q⟩).1 ho
    simp only at op
    simp only [sumFrom] at hs
    refine Ev.shift (fun k => by rw [stipendlaw16_ShareSides.l0]) ?_
    refine Ev.pos (by omega) (Ev.pos (by omega) (Ev.pos (by omega) ?_))
    rw [rdt h1]
    refine Ev.bind (right_ev _ (by simp)) ?_
    by_cases ca : okSh a = true
    · have oa := (okSh_iff a).1 ca
      refine Ev.pos (by simp [ca]) ?_
      rw [w64 (x := p + a.f0) (by omega) (by omega), w64 (x := q + a.f1) (by omega) (by omega)]
      refine Ev.bind (right_ev _ (by simp)) ?_
      by_cases cs : okSh ⟨p + a.f0, q + a.f1⟩ = true
      · have c : tOk ⟨p, q⟩ a = true := by unfold tOk; rw [ho, ca, cs]; rfl
        rw [if_pos c] at hs
        refine Ev.pos (by simp [cs]) ?_
        rw [show wrap64 ((i : Int) + 1) = ((i + 1 : Nat) : Int) by rw [w64 (by omega) (by omega)]; rfl]
        exact ss_bad x l hl t (i + 1) (p + a.f0) (q + a.f1) h2 (by omega) cs hs
      · refine Ev.neg (by simp [cs]) ?_
        exact Ev.pos rfl (Ev.pos rfl (Ev.pos rfl (Ev.pos rfl (Ev.pos rfl (Ev.pos rfl (Ev.const rfl))))))
    · refine Ev.neg (by simp [ca]) ?_
      exact Ev.pos rfl (Ev.pos rfl (Ev.pos rfl (Ev.pos rfl (Ev.pos rfl (Ev.pos rfl (Ev.const rfl))))))

theorem shareSides_true (l : List S29) (x : Int) (_gl : okL ok29 l) (_gx : (Lit.int .i64 x).wf = true) : ∃ k, stipendlaw16_ShareSides.f k l x = some true := by
  apply Ev.get
  unfold stipendlaw16_ShareSides.f
  refine Ev.bindc (a := true) rfl (Ev.pos rfl ?_)
  by_cases c1 : (l.length : Int) > 60
  · exact Ev.pos c1 Ev.now
  refine Ev.neg c1 ?_
  refine Ev.bind (sides_ev l (by omega)) (Ev.bind (employee_ev l (by omega)) (Ev.bind (employer_ev l (by omega)) ?_))
  cases hs : sumFrom 0 0 l with
  | none =>
    refine Ev.bind (a := (0, 10)) ?_ (ss_bad x l (by omega) l 0 0 0 rfl (by omega) (by decide) hs)
    unfold share_Cost.f
    refine Ev.bind (employer_ev l (by omega)) ?_
    rw [hs]
    exact Ev.neg (by decide) Ev.now
  | some s =>
    obtain ⟨P, Q⟩ := s
    have hr := madd_ev x Q
    refine Ev.bind (a := (if (okAmt x && okAmt Q && okAmt (x + Q)) = true then (x + Q, 0) else (0, 10))) ?_ (ss_good x l (by omega) P Q _ hr l 0 0 0 rfl (by omega) (by decide) hs)
    unfold share_Cost.f
    refine Ev.bind (employer_ev l (by omega)) ?_
    rw [hs]
    exact Ev.pos rfl (Ev.bind hr (Ev.const rfl))
end Go.Proofs.YtmocphafkimdpaaDoor.P
