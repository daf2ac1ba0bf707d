/- A part of the proof of ElementChange's card: 'ElementChange' answers true for every input (the conditions: those of the given statement alone). Merged by a program (wip/merge.py) out of: HElementChange. -/
import Derived.Test.YtmocphafkimdpaaDoorBElementh
import Derived.Test.YtmocphafkimdpaaDoorMElementChangea

/- ElementChange answers true for every list, kind and amount: the plain law. -/
namespace Go.Proofs.YtmocphafkimdpaaDoor.P
open Go.RowKit Go.Proofs.YtmocphafkimdpaaDoorW.PrintWords Go.Proofs.YtmocphafkimdpaaDoorW.PrintLast Go.Proofs.YtmocphafkimdpaaDoorW.PrintMore
set_option linter.unusedVariables false
set_option linter.unusedSimpArgs false

theorem rd48 {xs : List S48} {i : Nat} {x : S48} (h : xs[i]? = some x) : rd_T48 xs (i : Int) = x := by
  unfold rd_T48
  rw [List.getD_eq_getElem?_getD, Int.toNat_natCast, h]
  rfl
/-- Elements, those of a kind turned to one. -/
def chg (kind : ByteArray) (o : S48) : Bool → List S48 → List S48
  | d, [] => if d = true then [] else [o]
  | d, x :: t => if x.f0.toList = kind.toList then (if d = true then chg kind o d t else o :: chg kind o true t) else x :: chg kind o d t
theorem chg_len (kind : ByteArray) (o : S48) : ∀ (l : List S48) (d : Bool), (chg kind o d l).length ≤ l.length + 1
  | [], d => by simp only [chg]; split <;> simp
  | x :: t, d => by
    simp only [chg]
    have h1 := chg_len kind o t d
    have h2 := chg_len kind o t true
    split
    · split <;> simp <;> omega
    · simp; omega
/-- Those of other kinds. -/
def oth (kind : ByteArray) (l : List S48) : List S48 := l.filter fun x => !(x.f0.toList == kind.toList)
def cnt (kind : ByteArray) (l : List S48) : Nat := l.countP fun x => x.f0.toList == kind.toList
theorem oth_chg (kind : ByteArray) (o : S48) (ho : o.f0.toList = kind.toList) : ∀ (l : List S48) (d : Bool), oth kind (chg kind o d l) = oth kind l
  | [], d => by simp only [chg, oth]; split <;> simp [ho]
  | x :: t, d => by
    have h1 := oth_chg kind o ho t d
    have h2 := oth_chg kind o ho t true
    unfold oth at h1 h2 ⊢
    simp only [chg]
    split
    · rename_i h
      split
      · simp [h, h1]
      · simp [h, ho, h2]
    · rename_i h
      simp [h, h1]
theorem cnt_chg (kind : ByteArray) (o : S48) (ho : o.f0.toList = kind.toList) : ∀ (l : List S48) (d : Bool), cnt kind (chg kind o d l) = if d = true then 0 else 1
  | [], d => by cases d <;> simp [chg, cnt, ho]
  | x :: t, d => by
    have h1 := cnt_chg kind o ho t d
    have h2 := cnt_chg kind o ho t true
    unfold cnt at h1 h2 ⊢
    simp only [chg]
    split
    · rename_i h
      cases d
      · simp [ho, h2]
      · simpa using h1
    · rename_i h
      simp [h, h1]
theorem chg_kind (kind : ByteArray) (o : S48) : ∀ (l : List S48) (d : Bool), ∀ x ∈ chg kind o d l, x.f0.toList = kind.toList → x = o
  | [], d, x, hx, h => by
    simp only [chg] at hx
    split at hx <;> simp at hx
    exact hx
  | y :: t, d, x, hx, h => by
    simp only [chg] at hx
    split at hx
    · split at hx
      · exact chg_kind kind o t _ x hx h
      · rcases List.mem_cons.1 hx with hx | hx
        · exact hx
        · exact chg_kind kind o t _ x hx h
    · rename_i hy
      rcases List.mem_cons.1 hx with hx | hx
      · subst hx; exact absurd h hy
      · exact chg_kind kind o t _ x hx h
theorem chg_true (kind : ByteArray) (o : S48) : ∀ (l : List S48), chg kind o true (chg kind o true l) = chg kind o true l
  | [] => rfl
  | x :: t => by
    by_cases h : x.f0.toList = kind.toList
    · simp only [chg, h, if_true]; exact chg_true kind o t
    · simp only [chg, h, if_false]; rw [chg_true kind o t]
theorem chg_idem (kind : ByteArray) (o : S48) (ho : o.f0.toList = kind.toList) : ∀ (l : List S48) (d : Bool), chg kind o d (chg kind o d l) = chg kind o d l
  | [], d => by cases d <;> simp [chg, ho]
  | x :: t, d => by
    by_cases h : x.f0.toList = kind.toList
    · cases d
      · simp only [chg, h, if_true, ho]
        simp only [Bool.false_eq_true, if_false, chg, ho, if_true]
        rw [chg_true kind o t]
      · simp only [chg, h, if_true]; exact chg_true kind o t
    · simp only [chg, h, if_false]; rw [chg_idem kind o ho t d]

theorem change_l0_ev (kind : ByteArray) (amt : Int) (l : List S48) (hl : l.length ≤ 100) : ∀ (t : List S48) (i : Nat) (d : Bool) (acc : List S48), l.drop i = t → i ≤ l.length → acc.length ≤ i → Ev (fun k => element_Change.l0 k kind amt acc d l (l.length : Int) (i : Int)) (acc ++ chg kind ⟨kind, amt, 100⟩ d t)
  | [], i, d, acc, h, hi, ha => by
    have hi' : l.length ≤ i := by simpa using h
    refine Ev.shift (fun k => by rw [element_Change.l0]) ?_
    refine Ev.neg (by omega) ?_
    cases d with
    | true => exact (Ev.pos rfl Ev.now).res (by simp [chg])
    | false => exact Ev.neg (by decide) (Ev.bindc rfl (Ev.pos (by omega) (Ev.const (by simp [chg]))))
  | x :: t, i, d, acc, h, hi, ha => by
    obtain ⟨h1, h2, h3⟩ := drop_cons_get h
    refine Ev.shift (fun k => by rw [element_Change.l0]) ?_
    refine Ev.pos (by omega) (Ev.pos (by omega) (Ev.pos (by omega) ?_))
    rw [rd48 h1, show wrap64 ((i : Int) + 1) = ((i + 1 : Nat) : Int) by rw [w64 (by omega) (by omega)]; rfl]
    by_cases c : x.f0.toList = kind.toList
    · refine Ev.pos c ?_
      cases d with
      | true =>
        refine Ev.pos rfl ((change_l0_ev kind amt l hl t (i + 1) true acc h2 (by omega) (by omega)).res ?_)
        simp only [chg, c, if_true]
      | false =>
        refine Ev.neg (by decide) (Ev.bindc rfl (Ev.pos (by omega) ((change_l0_ev kind amt l hl t (i + 1) true (acc ++ [⟨kind, amt, 100⟩]) h2 (by omega) (by simp; omega)).res ?_)))
        simp [chg, c]
    · refine Ev.neg c (Ev.pos (by omega) ((change_l0_ev kind amt l hl t (i + 1) d (acc ++ [x]) h2 (by omega) (by simp; omega)).res ?_))
      simp [chg, c]
theorem change_ev (kind : ByteArray) (amt : Int) (l : List S48) (hl : l.length ≤ 100) : Ev (fun k => element_Change.f k kind amt l) (chg kind ⟨kind, amt, 100⟩ (amt == 0) l) := by
  unfold element_Change.f
  exact (change_l0_ev kind amt l hl l 0 (amt == 0) [] rfl (Nat.zero_le _) (by simp)).res (by simp)

theorem eq48 (x : S48) : (!(x.f0.toList == x.f0.toList) || (!(x.f1 == x.f1) || (!(x.f2 == x.f2)))) = false := by simp
theorem same_l0_ev (l : List S48) (hl : l.length ≤ 1000) : ∀ (t : List S48) (i : Nat), l.drop i = t → i ≤ l.length → Ev (fun k => api_Element.l0 k l l (l.length : Int) (i : Int)) true
  | [], i, h, hi => by
    have hi' : l.length ≤ i := by simpa using h
    refine Ev.shift (fun k => by rw [api_Element.l0]) ?_
    exact Ev.neg (by omega) Ev.now
  | x :: t, i, h, hi => by
    obtain ⟨h1, h2, h3⟩ := drop_cons_get h
    refine Ev.shift (fun k => by rw [api_Element.l0]) ?_
    refine Ev.pos (by omega) (Ev.pos (by omega) (Ev.pos (by omega) (Ev.pos (by omega) ?_)))
    rw [rd48 h1, eq48, show wrap64 ((i : Int) + 1) = ((i + 1 : Nat) : Int) by rw [w64 (by omega) (by omega)]; rfl]
    exact Ev.neg (by decide) (same_l0_ev l hl t (i + 1) h2 (by omega))
theorem same_ev (l : List S48) (hl : l.length ≤ 1000) : Ev (fun k => element_Same.f k l l) true := by
  unfold element_Same.f api_Element.f
  exact Ev.bind (Ev.pos rfl (same_l0_ev l hl l 0 rfl (Nat.zero_le _))) Ev.now

theorem change_l1 (kind : ByteArray) (amt : Int) (out l others : List S48) (count : Nat) (hl : l.length ≤ 40) (hol : others.length ≤ 100) (ho : out.length ≤ 50) (hc : count = if (amt == 0) = true then 0 else 1)
    (hi' : chg kind ⟨kind, amt, 100⟩ (amt == 0) out = out) : ∀ (t : List S48) (i n : Nat), l.drop i = t → i ≤ l.length → others.drop n = oth kind t → n ≤ others.length → Ev (fun k => stipendlaw11_ElementChange.l1 k kind amt out others (count : Int) (n : Int) l (l.length : Int) (i : Int)) true
  | [], i, n, h, hi, hn, hn' => by
    have hi2 : l.length ≤ i := by simpa using h
    have hn2 : others.length ≤ n := by
      have : others.drop n = [] := hn
      simpa using this
    refine Ev.shift (fun k => by rw [stipendlaw11_ElementChange.l1]) ?_
    refine Ev.neg (by omega) (Ev.pos (by omega) ?_)
    have hj : Ev (fun k => stipendlaw11_ElementChange.j2 k kind amt out false) true := by
      refine Ev.shift (fun k => by rw [stipendlaw11_ElementChange.j2]) ?_
      refine Ev.neg (by decide) (Ev.bind (change_ev kind amt out (by omega)) ?_)
      rw [hi']
      exact Ev.bind (same_ev out (by omega)) Ev.now
    by_cases c : amt = 0
    · refine Ev.pos c ?_
      have : count = 0 := by rw [hc, if_pos (by simp [c])]
      exact Ev.pos (by omega) hj
    · refine Ev.neg c ?_
      have : count = 1 := by rw [hc, if_neg (by simp [c])]
      rw [this]
      exact hj
  | x :: t, i, n, h, hi, hn, hn' => by
    obtain ⟨h1, h2, h3⟩ := drop_cons_get h
    refine Ev.shift (fun k => by rw [stipendlaw11_ElementChange.l1]) ?_
    refine Ev.pos (by omega) (Ev.pos (by omega) (Ev.pos (by omega) ?_))
    rw [rd48 h1, show wrap64 ((i : Int) + 1) = ((i + 1 : Nat) : Int) by rw [w64 (by omega) (by omega)]; rfl]
    by_cases c : x.f0.toList = kind.toList
    · refine Ev.pos c (change_l1 kind amt out l others count hl hol ho hc hi' t (i + 1) n h2 (by omega) ?_ hn')
      rw [hn]; simp [oth, c]
    · have e : oth kind (x :: t) = x :: oth kind t := by simp [oth, c]
      rw [e] at hn
      obtain ⟨g1, g2, g3⟩ := drop_cons_get hn
      refine Ev.neg c (Ev.neg (by omega) (Ev.pos (by omega) (Ev.pos (by omega) ?_)))
      rw [rd48 g1, eq48, show wrap64 ((n : Int) + 1) = ((n + 1 : Nat) : Int) by rw [w64 (by omega) (by omega)]; rfl]
      exact Ev.neg (by decide) (change_l1 kind amt out l others count hl hol ho hc hi' t (i + 1) (n + 1) h2 (by omega) g2 (by omega))

theorem change_l0_law (kind : ByteArray) (amt : Int) (out l : List S48) (hl : l.length ≤ 40) (ho : out.length ≤ 50) (hk : ∀ x ∈ out, x.f0.toList = kind.toList → x = ⟨kind, amt, 100⟩)
    (hc : cnt kind out = if (amt == 0) = true then 0 else 1) (hoth : oth kind out = oth kind l) (hi' : chg kind ⟨kind, amt, 100⟩ (amt == 0) out = out) :
    ∀ (t : List S48) (i : Nat) (acc : List S48) (n : Nat), out.drop i = t → i ≤ out.length → acc.length ≤ i → n ≤ i → acc ++ oth kind t = oth kind out → n + cnt kind t = cnt kind out →
    Ev (fun k => stipendlaw11_ElementChange.l0 k l kind amt out acc (n : Int) out (out.length : Int) (i : Int)) true
  | [], i, acc, n, h, hi, ha, hn, h1, h2 => by
    have hi2 : out.length ≤ i := by simpa using h
    refine Ev.shift (fun k => by rw [stipendlaw11_ElementChange.l0]) ?_
    have e1 : acc = oth kind l := by rw [← hoth, ← h1]; simp [oth]
    have e2 : n = if (amt == 0) = true then 0 else 1 := by rw [← hc, ← h2]; simp [cnt]
    refine Ev.neg (by omega) ?_
    exact change_l1 kind amt out l acc n hl (by omega) ho e2 hi' l 0 0 rfl (Nat.zero_le _) e1 (Nat.zero_le _)
  | x :: t, i, acc, n, h, hi, ha, hn, h1, h2 => by
    obtain ⟨g1, g2, g3⟩ := drop_cons_get h
    refine Ev.shift (fun k => by rw [stipendlaw11_ElementChange.l0]) ?_
    refine Ev.pos (by omega) (Ev.pos (by omega) (Ev.pos (by omega) ?_))
    rw [rd48 g1, show wrap64 ((i : Int) + 1) = ((i + 1 : Nat) : Int) by rw [w64 (by omega) (by omega)]; rfl]
    by_cases c : x.f0.toList = kind.toList
    · have hx := hk x (List.mem_of_getElem? g1) c
      refine Ev.pos c (Ev.bindc rfl ?_)
      have e : (!(x.f0.toList == kind.toList) || (!(x.f1 == amt) || (!(x.f2 == 100)))) = false := by rw [hx]; simp
      refine Ev.neg (by simp only [e]; decide) ?_
      rw [show wrap64 ((n : Int) + 1) = ((n + 1 : Nat) : Int) by rw [w64 (by omega) (by omega)]; rfl]
      refine change_l0_law kind amt out l hl ho hk hc hoth hi' t (i + 1) acc (n + 1) g2 (by omega) (by omega) (by omega) ?_ ?_
      · rw [← h1]; simp [oth, c]
      · rw [← h2]; simp [cnt, c]; omega
    · refine Ev.neg c (Ev.pos (by omega) ?_)
      refine change_l0_law kind amt out l hl ho hk hc hoth hi' t (i + 1) (acc ++ [x]) n g2 (by omega) (by simp; omega) (by omega) ?_ ?_
      · rw [← h1]; simp [oth, c]
      · rw [← h2]; simp [cnt, c]

theorem elementChange_true (l : List S48) (kind : ByteArray) (amt : Int) (_g : okL ok48 l) (_g1 : kind.size ≤ maxLen) (_g2 : (Lit.int .i64 amt).wf = true) : ∃ k, stipendlaw11_ElementChange.f k l kind amt = some true := by
  apply Ev.get
  unfold stipendlaw11_ElementChange.f
  refine Ev.bindc (a := true) rfl (Ev.pos rfl ?_)
  by_cases c : 40 < l.length
  · exact Ev.pos (by omega) Ev.now
  · refine Ev.neg (by omega) (Ev.bind (change_ev kind amt l (by omega)) ?_)
    have hlen := chg_len kind ⟨kind, amt, 100⟩ l (amt == 0)
    exact change_l0_law kind amt _ l (by omega) (by omega) (chg_kind kind _ l _) (cnt_chg kind _ rfl l _) (oth_chg kind _ rfl l _) (chg_idem kind _ rfl l _) _ 0 [] 0 rfl (Nat.zero_le _) (by simp) (Nat.le_refl _) (by simp) (by simp)
end Go.Proofs.YtmocphafkimdpaaDoor.P
