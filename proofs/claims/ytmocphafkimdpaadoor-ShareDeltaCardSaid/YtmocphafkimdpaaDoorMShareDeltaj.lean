/- A part of the proof of ShareDelta's card: 'ShareDelta' answers true for every input (the conditions: those of the given statement alone). Merged by a program (wip/merge.py) out of: HShareDelta. -/
import Derived.Test.YtmocphafkimdpaaDoorMShareDeltag
import Derived.Test.YtmocphafkimdpaaDoorMShareDeltaa
import Derived.Test.YtmocphafkimdpaaDoorMShareDeltai

/- ShareDelta answers true for every pair of rows: the plain law. -/
namespace Go.Proofs.YtmocphafkimdpaaDoor.P
open Go.RowKit Go.Proofs.YtmocphafkimdpaaDoorW.PrintWords Go.Proofs.YtmocphafkimdpaaDoorW.PrintLast Go.Proofs.YtmocphafkimdpaaDoorW.PrintMore

theorem sd_l1 (x : List S29) (hx : x.length < 1000) : ∀ (t : List S29) (i : Nat), x.drop i = t → i ≤ x.length → Ev (fun k => stipendlaw16_ShareDelta.l1 k x x (x.length : Int) i) true
  | [], i, h, hi => by
    have : x.length ≤ i := by simpa using h
    refine Ev.shift (fun k => by rw [stipendlaw16_ShareDelta.l1]) ?_
    exact Ev.neg (by omega) Ev.now
  | a :: t, i, h, hi => by
    obtain ⟨h1, h2, h3⟩ := drop_cons_get h
    refine Ev.shift (fun k => by rw [stipendlaw16_ShareDelta.l1]) ?_
    refine Ev.pos (by omega) (Ev.pos (by omega) (Ev.pos (by omega) (Ev.pos (by omega) (Ev.neg (by simp) ?_))))
    rw [show wrap64 ((i : Int) + 1) = ((i + 1 : Nat) : Int) by rw [w64 (by omega) (by omega)]; rfl]
    exact sd_l1 x hx t (i + 1) h2 (by omega)

theorem subOf_get : ∀ (x y d : List S29) (i : Nat) (a b : S29), deltaOf x y = some d → x[i]? = some a → y[i]? = some b → d[i]? = some (subS a b)
  | a :: t, b :: u, d, i, a', b', h, ha, hb => by
    simp only [deltaOf] at h
    split at h
    · obtain ⟨d', hd, rfl⟩ := Option.map_eq_some_iff.1 h
      cases i with
      | zero => simp at ha hb ⊢; rw [ha, hb]
      | succ i => exact subOf_get t u d' i a' b' hd (by simpa using ha) (by simpa using hb)
    · cases h
  | [], _, _, i, _, _, _, ha, _ => by simp at ha
  | _ :: _, [], _, i, _, _, _, _, hb => by simp at hb

/-- All of the pairs from i on are right: the loop goes to its end. -/
theorem sd_good (x y d : List S29) (hx : x.length ≤ 60) (hxy : x.length = y.length) (hd : deltaOf x y = some d) : ∀ (t u : List S29) (i : Nat), x.drop i = t → y.drop i = u → i ≤ x.length →
    (deltaOf t u).isSome → Ev (fun k => stipendlaw16_ShareDelta.l0 k x y d 0 (x.length : Int) i) true
  | [], u, i, h, h', hi, _ => by
    have : x.length ≤ i := by simpa using h
    obtain ⟨h1, h2, h3⟩ := delta_add x y d hxy hd
    refine Ev.shift (fun k => by rw [stipendlaw16_ShareDelta.l0]) ?_
    refine Ev.neg (by omega) ?_
    refine Ev.bind (post_ev y d (by omega)) ?_
    rw [if_pos (by omega), if_pos h3, h1]
    refine Ev.pos rfl (Ev.pos rfl ?_)
    refine Ev.shift (fun k => by rw [stipendlaw16_ShareDelta.j3]) ?_
    refine Ev.neg (by simp [orBad]) ?_
    exact sd_l1 x (by omega) x 0 rfl (by omega)
  | a :: t, u, i, h, h', hi, hs => by
    obtain ⟨h1, h2, h3⟩ := drop_cons_get h
    obtain ⟨b, u, rfl⟩ : ∃ b u', u = b :: u' := by
      cases u with
      | nil => have : y.length ≤ i := by simpa using h'
               omega
      | cons b u => exact ⟨b, u, rfl⟩
    obtain ⟨h1', h2', h3'⟩ := drop_cons_get h'
    have hl := (delta_add x y d hxy hd).2.1
    have hg := subOf_get x y d i a b hd h1 h1'
    simp only [deltaOf] at hs
    by_cases c : dOk a b = true
    · rw [if_pos c] at hs
      have hs' : (deltaOf t u).isSome := by simpa using hs
      unfold dOk at c
      simp only [Bool.and_eq_true] at c
      have ca := (okSh_iff a).1 c.1.1
      have cb := (okSh_iff b).1 c.1.2
      refine Ev.shift (fun k => by rw [stipendlaw16_ShareDelta.l0]) ?_
      refine Ev.pos (by omega) (Ev.pos (by omega) (Ev.pos (by omega) (Ev.pos (by omega) ?_)))
      rw [rdt h1, rdt h1']
      refine Ev.bind (right_ev _ (by simp)) ?_
      refine Ev.pos (by simp [c.1.1, c.1.2]) ?_
      refine Ev.bind (right_ev _ (by simp)) ?_
      rw [w64 (x := a.f0 - b.f0) (by omega) (by omega), w64 (x := a.f1 - b.f1) (by omega) (by omega)]
      rw [show List.all [(⟨a.f0 - b.f0, a.f1 - b.f1⟩ : S29)] okSh = true by simp; exact c.2]
      refine Ev.shift (fun k => by rw [stipendlaw16_ShareDelta.j2]) ?_
      refine Ev.neg (by decide) (Ev.pos rfl (Ev.pos (by omega) (Ev.pos (by omega) (Ev.pos (by omega) ?_))))
      rw [rdt hg, w64 (x := a.f0 - b.f0) (by omega) (by omega), w64 (x := a.f1 - b.f1) (by omega) (by omega)]
      refine Ev.neg (by simp [subS]) ?_
      rw [show wrap64 ((i : Int) + 1) = ((i + 1 : Nat) : Int) by rw [w64 (by omega) (by omega)]; rfl]
      exact sd_good x y d hx hxy hd t u (i + 1) h2 h2' (by omega) hs'
    · rw [if_neg c] at hs
      cases hs
/-- One of them isn't: the loop ends there, and tells it. -/
theorem sd_bad (x y : List S29) (hx : x.length ≤ 60) (hxy : x.length = y.length) : ∀ (t u : List S29) (i : Nat), x.drop i = t → y.drop i = u → i ≤ x.length →
    deltaOf t u = none → Ev (fun k => stipendlaw16_ShareDelta.l0 k x y [] 10 (x.length : Int) i) true
  | [], u, i, h, h', hi, hn => by cases u <;> simp [deltaOf] at hn
  | a :: t, u, i, h, h', hi, hs => by
    obtain ⟨h1, h2, h3⟩ := drop_cons_get h
    obtain ⟨b, u, rfl⟩ : ∃ b u', u = b :: u' := by
      cases u with
      | nil => have : y.length ≤ i := by simpa using h'
               omega
      | cons b u => exact ⟨b, u, rfl⟩
    obtain ⟨h1', h2', h3'⟩ := drop_cons_get h'
    refine Ev.shift (fun k => by rw [stipendlaw16_ShareDelta.l0]) ?_
    refine Ev.pos (by omega) (Ev.pos (by omega) (Ev.pos (by omega) (Ev.pos (by omega) ?_)))
    rw [rdt h1, rdt h1']
    refine Ev.bind (right_ev _ (by simp)) ?_
    have out : ∀ (v : Bool) (p q r s : Int), (v = true ∨ (v = false ∧ dOk a b = true)) → Ev (fun k => stipendlaw16_ShareDelta.j2 k x y [] 10 (i : Int) (x.length : Int) i v p q r s) true := by
      intro v p q r s hv
      refine Ev.shift (fun k => by rw [stipendlaw16_ShareDelta.j2]) ?_
      rcases hv with rfl | ⟨rfl, c⟩
      · exact Ev.pos rfl (Ev.pos rfl (Ev.const rfl))
      · refine Ev.neg (by decide) (Ev.neg (by decide) ?_)
        simp only [deltaOf, if_pos c] at hs
        rw [show wrap64 ((i : Int) + 1) = ((i + 1 : Nat) : Int) by rw [w64 (by omega) (by omega)]; rfl]
        exact sd_bad x y hx hxy t u (i + 1) h2 h2' (by omega) (by simpa using hs)
    by_cases c1 : okSh a = true ∧ okSh b = true
    · refine Ev.pos (by simp [c1.1, c1.2]) ?_
      have ca := (okSh_iff a).1 c1.1
      have cb := (okSh_iff b).1 c1.2
      refine Ev.bind (right_ev _ (by simp)) ?_
      rw [w64 (x := a.f0 - b.f0) (by omega) (by omega), w64 (x := a.f1 - b.f1) (by omega) (by omega)]
      apply out
      by_cases c2 : okSh (subS a b) = true
      · refine .inr ⟨?_, by simp [dOk, c1.1, c1.2, c2]⟩
        have : (⟨a.f0 - b.f0, a.f1 - b.f1⟩ : S29) = subS a b := rfl
        rw [this]
        simp [c2]
      · refine .inl ?_
        have : (⟨a.f0 - b.f0, a.f1 - b.f1⟩ : S29) = subS a b := rfl
        rw [this]
        simp [c2]
    · refine Ev.neg ?_ (out _ _ _ _ _ (.inl rfl))
      simpa using c1

theorem shareDelta_true (x y : List S29) (_gx : okL ok29 x) (_gy : okL ok29 y) : ∃ k, stipendlaw16_ShareDelta.f k x y = some true := by
  apply Ev.get
  unfold stipendlaw16_ShareDelta.f
  refine Ev.bindc (a := true) rfl (Ev.pos rfl ?_)
  have skip : Ev (fun k => stipendlaw16_ShareDelta.j0 k x y true) true := by
    refine Ev.shift (fun k => by rw [stipendlaw16_ShareDelta.j0]) ?_
    exact Ev.pos rfl Ev.now
  by_cases c1 : (x.length : Int) > 60
  · exact Ev.pos c1 skip
  refine Ev.neg c1 ?_
  by_cases c2 : (y.length : Int) > 60
  · rw [decide_eq_true c2]
    exact skip
  rw [decide_eq_false c2]
  refine Ev.shift (fun k => by rw [stipendlaw16_ShareDelta.j0]) ?_
  refine Ev.neg (by decide) ?_
  refine Ev.bind (delta_ev x y (by omega)) ?_
  by_cases c : x.length = y.length
  · rw [if_pos c]
    refine Ev.pos (by omega) ?_
    cases hd : deltaOf x y with
    | none => exact sd_bad x y (by omega) c x y 0 rfl rfl (by omega) hd
    | some d => exact sd_good x y d (by omega) c hd x y 0 rfl rfl (by omega) (by rw [hd]; rfl)
  · rw [if_neg c]
    refine Ev.neg (by omega) ?_
    refine Ev.bind (post_ev y x (by omega)) ?_
    rw [if_neg (fun h : y.length = x.length => c h.symm)]
    exact Ev.pos rfl (Ev.pos rfl (Ev.pos rfl (Ev.const rfl)))
end Go.Proofs.YtmocphafkimdpaaDoor.P
