/- A part of the proof of ElementParses's card: 'ElementParses' answers true for every input (the conditions: those of the given statement alone). Merged by a program (wip/merge.py) out of: HElementParses. -/
import Derived.Test.YtmocphafkimdpaaDoorMElementParsesa
import Derived.Test.YtmocphafkimdpaaDoorBElementh
import Derived.Test.YtmocphafkimdpaaDoorMElementParsesb

/- ElementParses answers true for every list of words: the plain law. -/
namespace Go.Proofs.YtmocphafkimdpaaDoor.P
open Go.RowKit Go.Proofs.YtmocphafkimdpaaDoorW.PrintWords Go.Proofs.YtmocphafkimdpaaDoorW.PrintLast Go.Proofs.YtmocphafkimdpaaDoorW.PrintMore
set_option linter.unusedVariables false

theorem parses_bad (l : List ByteArray) (x : Bool) (e : Int) (a : ByteArray) (p q : Int) (he : e = 5) (hx : x = true) : Ev (fun k => stipendlaw11_ElementParses.j1 k l e x true a p q) true := by
  subst he hx
  refine Ev.shift (fun k => by rw [stipendlaw11_ElementParses.j1]) ?_
  exact Ev.pos rfl (Ev.pos rfl (Ev.const rfl))

def noneOf (x : ByteArray × Int × Int × Int) : Bool := x.1.toList == ([] : List UInt8) && (x.2.1 == 0 && (x.2.2.1 == 0))
theorem none_emp (e : Int) : noneOf (emp, 0, 0, e) = true := by
  unfold noneOf
  simp [Lib.toList_data]

theorem parses_j2 (a b c : ByteArray) (n : Int) (hc : c.size ≤ 1000) (bad : Bool) (hbad : bad = true ↔ cutX c.toList = none) (hn : nameOf a.toList = true) (hp : parseOf b.toList = (n, 0)) :
    Ev (fun k => stipendlaw11_ElementParses.j2 k [a, b, c] (thirdOf a n c.toList).2.2.2 (noneOf (thirdOf a n c.toList)) n bad (thirdOf a n c.toList).1 (thirdOf a n c.toList).2.1 (thirdOf a n c.toList).2.2.1) true := by
  have hcl : c.toList.length = c.size := by rw [Lib.toList_data, data_length]
  cases hx : cutX c.toList with
  | none =>
    have e : thirdOf a n c.toList = (emp, 0, 0, 5) := by unfold thirdOf; rw [hx]
    have : bad = true := hbad.2 hx
    subst this
    rw [e]
    refine Ev.shift (fun k => by rw [stipendlaw11_ElementParses.j2]) ?_
    exact Ev.pos rfl (Ev.pos rfl (Ev.const (congrArg some (none_emp _))))
  | some t =>
    have : bad = false := Bool.eq_false_iff.2 fun h => by rw [hbad.1 h] at hx; cases hx
    subst this
    obtain ⟨c0, hc0⟩ : ∃ c0, c.toList = c0 :: t := by
      cases hcc : c.toList with
      | nil => rw [hcc] at hx; cases hx
      | cons c' t' =>
        rw [hcc] at hx
        simp only [cutX] at hx
        split at hx
        · injection hx with hx
          subst hx
          exact ⟨c', rfl⟩
        · cases hx
    have hct : t.length + 1 = c.size := by rw [← hcl, hc0]; rfl
    have he : c.extract 1 c.size = bs t := by
      have h := bs_extract c.toList 1 c.size
      rw [bs_eta, ← hcl, List.take_length, hc0] at h
      rw [← hcl, hc0]
      exact h
    have hpe : Ev (fun k => money_Parse.f k ((rdOf ByteArray.empty [a, b, c] 2).extract 1 (rdOf ByteArray.empty [a, b, c] 2).size)) (parseOf t) := by
      show Ev (fun k => money_Parse.f k (c.extract 1 c.size)) (parseOf t)
      rw [he]
      exact parse_bs_ev t (by omega)
    have hsz : (1 : Int) ≤ ((rdOf ByteArray.empty [a, b, c] 2).size : Int) := by
      show (1 : Int) ≤ (c.size : Int)
      omega
    by_cases c3 : (parseOf t).2 = 0
    · by_cases c4 : (parseOf t).1 < 0
      · have e : thirdOf a n c.toList = (emp, 0, 0, 1) := by unfold thirdOf; rw [hx]; simp [c3, c4]
        rw [e]
        refine Ev.shift (fun k => by rw [stipendlaw11_ElementParses.j2]) ?_
        exact Ev.neg (by decide) (Ev.pos (by simp) (Ev.pos hsz (Ev.bind hpe (Ev.pos c3 (Ev.pos c4 (Ev.pos rfl (Ev.const (congrArg some (none_emp _)))))))))
      · by_cases c5 : 100000 < (parseOf t).1
        · have e : thirdOf a n c.toList = (emp, 0, 0, 1) := by unfold thirdOf; rw [hx]; simp [c3, c5]
          rw [e]
          refine Ev.shift (fun k => by rw [stipendlaw11_ElementParses.j2]) ?_
          exact Ev.neg (by decide) (Ev.pos (by simp) (Ev.pos hsz (Ev.bind hpe (Ev.pos c3 (Ev.neg c4 (Ev.pos c5 (Ev.pos rfl (Ev.const (congrArg some (none_emp _))))))))))
        · have e : thirdOf a n c.toList = (a, n, (parseOf t).1, 0) := by unfold thirdOf; rw [hx]; simp [c3, c4, c5]
          rw [e]
          refine Ev.shift (fun k => by rw [stipendlaw11_ElementParses.j2]) ?_
          refine Ev.neg (by decide) (Ev.pos (by simp) (Ev.pos hsz (Ev.bind hpe (Ev.pos c3 (Ev.neg c4 (Ev.neg c5 (Ev.pos rfl (Ev.pos (by simp) (Ev.const ?_)))))))))
          show some (a.toList == a.toList && (n == n && ((parseOf t).1 == (parseOf t).1))) = some true
          simp
    · have e : thirdOf a n c.toList = (emp, 0, 0, (parseOf t).2) := by unfold thirdOf; rw [hx]; simp [c3]
      rw [e]
      refine Ev.shift (fun k => by rw [stipendlaw11_ElementParses.j2]) ?_
      exact Ev.neg (by decide) (Ev.pos (by simp) (Ev.pos hsz (Ev.bind hpe (Ev.neg c3 (Ev.pos rfl (Ev.const (congrArg some (none_emp _))))))))

theorem parses_end (l : List ByteArray) (hl : l.length ≤ 20) (hs : ∀ w ∈ l, w.size ≤ 100) (i : Nat) (hi : l.length ≤ i) : Ev (fun k => stipendlaw11_ElementParses.l0 k l l (l.length : Int) (i : Int)) true := by
  refine Ev.shift (fun k => by rw [stipendlaw11_ElementParses.l0]) ?_
  refine Ev.neg (by omega) (Ev.bind (eparse_ev l (by omega) (fun w hw => Nat.le_trans (hs w hw) (by decide))) ?_)
  match l, hl, hs with
  | [], _, _ => exact Ev.pos (by simp) (parses_bad _ _ _ _ _ _ rfl (none_emp 5))
  | [a], _, _ => exact Ev.pos (by simp) (parses_bad _ _ _ _ _ _ rfl (none_emp 5))
  | [a, b], _, hs =>
    have ha := hs a (by simp)
    have hb := hs b (by simp)
    refine Ev.neg (by simp) (Ev.neg (by simp) (Ev.pos (by simp) (Ev.bind (name_ev a (by omega)) ?_)))
    by_cases c1 : nameOf a.toList = true
    · rw [c1]
      by_cases c2 : (parseOf b.toList).2 = 0
      · have e : elemOf [a, b] = (a, (parseOf b.toList).1, 100, 0) := by simp [elemOf, c1, c2]
        rw [e]
        refine Ev.shift (fun k => by rw [stipendlaw11_ElementParses.j1]) ?_
        refine Ev.neg (by decide) (Ev.pos (by simp) (Ev.bind (mparse_ev b (by omega)) ?_))
        refine Ev.pos c2 (Ev.neg (by simp) (Ev.pos rfl (Ev.pos (by simp) (Ev.const ?_))))
        show some (a.toList == a.toList && ((parseOf b.toList).1 == (parseOf b.toList).1 && ((100 : Int) == 100))) = some true
        simp
      · have e : elemOf [a, b] = (emp, 0, 0, (parseOf b.toList).2) := by simp [elemOf, c1, c2]
        rw [e]
        refine Ev.shift (fun k => by rw [stipendlaw11_ElementParses.j1]) ?_
        refine Ev.neg (by decide) (Ev.pos (by simp) (Ev.bind (mparse_ev b (by omega)) ?_))
        exact Ev.neg c2 (Ev.pos rfl (Ev.const (congrArg some (none_emp _))))
    · have e : elemOf [a, b] = (emp, 0, 0, 5) := by simp [elemOf, c1]
      rw [e, Bool.eq_false_iff.2 c1]
      exact parses_bad _ _ _ _ _ _ rfl (none_emp 5)
  | [a, b, c], _, hs =>
    have ha := hs a (by simp)
    have hb := hs b (by simp)
    have hc := hs c (by simp)
    refine Ev.neg (by simp) (Ev.neg (by simp) (Ev.pos (by simp) (Ev.bind (name_ev a (by omega)) ?_)))
    by_cases c1 : nameOf a.toList = true
    · rw [c1]
      by_cases c2 : (parseOf b.toList).2 = 0
      · have e : elemOf [a, b, c] = thirdOf a (parseOf b.toList).1 c.toList := by simp [elemOf, c1, c2]
        rw [e]
        refine Ev.shift (fun k => by rw [stipendlaw11_ElementParses.j1]) ?_
        refine Ev.neg (by decide) (Ev.pos (by simp) (Ev.bind (mparse_ev b (by omega)) ?_))
        refine Ev.pos c2 (Ev.pos (by simp) (Ev.pos (by simp) ?_))
        have hp : parseOf b.toList = ((parseOf b.toList).1, 0) := by rw [← c2]
        have hcl : c.toList.length = c.size := by rw [Lib.toList_data, data_length]
        have h2 := fun bad hbad => parses_j2 a b c (parseOf b.toList).1 (by omega) bad hbad c1 hp
        by_cases ce : c.toList = []
        · refine Ev.pos ce (h2 true ?_)
          rw [ce]
          exact ⟨fun _ => rfl, fun _ => rfl⟩
        · obtain ⟨c0, t, hct⟩ : ∃ c0 t, c.toList = c0 :: t := by
            cases h : c.toList with
            | nil => exact absurd h ce
            | cons c0 t => exact ⟨c0, t, rfl⟩
          refine Ev.neg ce (Ev.pos ?_ (h2 _ ?_))
          · show (0 : Int) < (c.size : Int)
            rw [← hcl, hct]
            simp only [List.length_cons]
            omega
          · have hbt : bt (rdOf ByteArray.empty [a, b, c] 2) 0 = (c0.toNat : Int) := by
              have h := bs_bt c.toList 0 (c := c0) (by rw [hct]; rfl)
              rw [bs_eta] at h
              exact h
            rw [hbt, hct]
            simp only [cutX, bne_iff_ne, ne_eq]
            constructor
            · intro h
              rw [if_neg (fun h2 => h (by rw [h2]; rfl))]
            · intro h h2
              have : c0 = 120 := UInt8.toNat_inj.1 (by show _ = 120; omega)
              rw [if_pos this] at h
              cases h
      · have e : elemOf [a, b, c] = (emp, 0, 0, (parseOf b.toList).2) := by simp [elemOf, c1, c2]
        rw [e]
        refine Ev.shift (fun k => by rw [stipendlaw11_ElementParses.j1]) ?_
        refine Ev.neg (by decide) (Ev.pos (by simp) (Ev.bind (mparse_ev b (by omega)) ?_))
        exact Ev.neg c2 (Ev.pos rfl (Ev.const (congrArg some (none_emp _))))
    · have e : elemOf [a, b, c] = (emp, 0, 0, 5) := by simp [elemOf, c1]
      rw [e, Bool.eq_false_iff.2 c1]
      exact parses_bad _ _ _ _ _ _ rfl (none_emp 5)
  | a :: b :: c :: d :: t, _, _ =>
    refine Ev.neg (by simp only [List.length_cons]; omega) (Ev.pos (by simp only [List.length_cons]; omega) ?_)
    exact parses_bad _ _ _ _ _ _ rfl (none_emp 5)

theorem parses_l0 (l : List ByteArray) (hl : l.length ≤ 20) : ∀ (t : List ByteArray) (i : Nat), l.drop i = t → i ≤ l.length → (∀ j w, l[j]? = some w → j < i → w.size ≤ 100) → Ev (fun k => stipendlaw11_ElementParses.l0 k l l (l.length : Int) (i : Int)) true := by
  intro t
  induction t with
  | nil =>
    intro i h hi hs
    have hi' : l.length ≤ i := by simpa using h
    refine parses_end l hl (fun w hw => ?_) i hi'
    obtain ⟨j, hj⟩ := List.mem_iff_getElem?.1 hw
    have hlt := (List.getElem?_eq_some_iff.1 hj).1
    exact hs j w hj (by omega)
  | cons w t ih =>
    intro i h hi hs
    obtain ⟨h1, h2, h3⟩ := drop_cons_get h
    have hrd : rdOf ByteArray.empty l (i : Int) = w := by
      unfold rdOf
      rw [List.getD_eq_getElem?_getD, Int.toNat_natCast, h1]
      rfl
    refine Ev.shift (fun k => by rw [stipendlaw11_ElementParses.l0]) ?_
    refine Ev.pos (by omega) (Ev.pos (by omega) (Ev.pos (by omega) ?_))
    rw [hrd]
    by_cases c : 100 < w.size
    · exact Ev.pos (by omega) Ev.now
    · refine Ev.neg (by omega) ?_
      rw [show wrap64 ((i : Int) + 1) = ((i + 1 : Nat) : Int) by rw [w64 (by omega) (by omega)]; rfl]
      refine ih (i + 1) h2 (by omega) (fun j w' hj hji => ?_)
      by_cases e : j = i
      · subst e
        rw [h1] at hj
        injection hj with hj
        subst hj
        omega
      · exact hs j w' hj (by omega)
theorem elementParses_true (l : List ByteArray) (_g : okL okS l) : ∃ k, stipendlaw11_ElementParses.f k l = some true := by
  apply Ev.get
  unfold stipendlaw11_ElementParses.f
  refine Ev.bindc (a := true) rfl (Ev.pos rfl ?_)
  by_cases c : 20 < l.length
  · exact Ev.pos (by omega) Ev.now
  · exact Ev.neg (by omega) (parses_l0 l (by omega) l 0 rfl (Nat.zero_le _) (fun j w _ h => by omega))
end Go.Proofs.YtmocphafkimdpaaDoor.P
