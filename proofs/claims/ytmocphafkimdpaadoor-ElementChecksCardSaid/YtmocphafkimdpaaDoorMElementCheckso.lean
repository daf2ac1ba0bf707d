/- A part of the proof of ElementChecks's card: 'ElementChecks' answers true for every input (the conditions: those of the given statement alone). Merged by a program (wip/merge.py) out of: HElementChecks, GOpen86. -/
import Derived.Test.YtmocphafkimdpaaDoorMElementChecksi
import Derived.Test.YtmocphafkimdpaaDoorMElementChecksk
import Derived.Test.YtmocphafkimdpaaDoorMElementChecksn
import Derived.Test.YtmocphafkimdpaaDoorMElementChecksa

/- ElementChecks answers true for every table and list: the plain law. -/
namespace Go.Proofs.YtmocphafkimdpaaDoor.P
open Go.RowKit Go.Proofs.YtmocphafkimdpaaDoorW.PrintWords Go.Proofs.YtmocphafkimdpaaDoorW.PrintLast Go.Proofs.YtmocphafkimdpaaDoorW.PrintMore
set_option linter.unusedVariables false
set_option linter.unusedSimpArgs false

/-- What is wrong with a kind's name: none of the table's. -/
def kindErr (ks : List S89) (name : ByteArray) : Int := if ks.any (fun x => x.f0.toList == name.toList) = true then 0 else 110
theorem rd89 {xs : List S89} {i : Nat} {x : S89} (h : xs[i]? = some x) : rd_T89 xs (i : Int) = x := by
  unfold rd_T89
  rw [List.getD_eq_getElem?_getD, Int.toNat_natCast, h]
  rfl
theorem kind_l0_ev (name : ByteArray) (ks : List S89) (hl : ks.length ≤ 1000) : ∀ (t : List S89) (i : Nat), ks.drop i = t → i ≤ ks.length → ∃ K : ByteArray × Int × Int × Int × Int, Ev (fun k => table_Kind.l0 k name ks (ks.length : Int) (i : Int)) K ∧ K.2.2.2.2 = kindErr t name
  | [], i, h, hi => by
    have hi2 : ks.length ≤ i := by simpa using h
    refine ⟨_, Ev.shift (fun k => by rw [table_Kind.l0]) (Ev.neg (by omega) Ev.now), rfl⟩
  | x :: t, i, h, hi => by
    obtain ⟨g1, g2, g3⟩ := drop_cons_get h
    obtain ⟨K, hK, hk⟩ := kind_l0_ev name ks hl t (i + 1) g2 (by omega)
    have hs : ∀ {r}, Ev (fun k => if (x.f0).toList = name.toList then (some (x.f0, x.f1, x.f2, x.f3, (0 : Int))) else (table_Kind.l0 k name ks (ks.length : Int) ((i + 1 : Nat) : Int))) r → Ev (fun k => table_Kind.l0 k name ks (ks.length : Int) (i : Int)) r := by
      intro r hr
      refine Ev.shift (fun k => by rw [table_Kind.l0]) ?_
      refine Ev.pos (by omega) (Ev.pos (by omega) (Ev.pos (by omega) ?_))
      rw [rd89 g1, show wrap64 ((i : Int) + 1) = ((i + 1 : Nat) : Int) by rw [w64 (by omega) (by omega)]; rfl]
      exact hr
    by_cases c : x.f0.toList = name.toList
    · exact ⟨_, hs (Ev.pos c Ev.now), by simp [kindErr, c]⟩
    · exact ⟨K, hs (Ev.neg c hK), by rw [hk]; simp [kindErr, c]⟩

/-- What is wrong with an element. -/
noncomputable def errOf (ks : List S89) (x : S48) : Int := if kindErr ks x.f0 = 0 then (worthOf x.f1 x.f2 (value_ev x.f0 x.f1 x.f2).choose).2 else kindErr ks x.f0
theorem check_elem_ev (a : List (List S222)) (b : List S97) (ks : List S89) (p q : Int) (hl : ks.length ≤ 1000) (x : S48) : Ev (fun k => element_Check.f k a b ks p q x.f0 x.f1 x.f2) (errOf ks x) := by
  unfold element_Check.f
  obtain ⟨K, hK, hk⟩ := kind_l0_ev x.f0 ks hl ks 0 rfl (Nat.zero_le _)
  refine Ev.bind hK ?_
  unfold errOf
  rw [hk]
  by_cases c : kindErr ks x.f0 = 0
  · refine Ev.res ?_ (if_pos c).symm
    refine Ev.pos c ?_
    have hv := (value_ev x.f0 x.f1 x.f2).choose_spec.1
    refine Ev.bind (mright_ev [x.f1] (by simp)) ?_
    generalize (value_ev x.f0 x.f1 x.f2).choose = r at hv ⊢
    unfold worthOf at hv ⊢
    by_cases cx : okAmt x.f1 = true
    · rw [if_pos cx] at hv ⊢
      refine Ev.pos (by simp [cx]) ?_
      by_cases c1 : x.f2 < 0
      · refine (Ev.pos c1 Ev.now).res ?_
        rw [if_pos (.inl c1)]
      · refine Ev.neg c1 ?_
        by_cases c2 : 100000 < x.f2
        · refine (Ev.pos c2 Ev.now).res ?_
          rw [if_pos (.inr c2)]
        · exact Ev.neg c2 (Ev.bind hv Ev.now)
    · rw [if_neg cx]
      exact Ev.neg (by simp [cx]) Ev.now
  · refine Ev.res ?_ (if_neg c).symm
    exact Ev.neg c Ev.now

noncomputable def firstErr (ks : List S89) : List S48 → Int
  | [] => 0
  | x :: t => if errOf ks x = 0 then firstErr ks t else errOf ks x
theorem checkAll_l0_ev (a : List (List S222)) (b : List S97) (ks : List S89) (p q : Int) (hl : ks.length ≤ 1000) (l : List S48) (hll : l.length ≤ 1000) : ∀ (t : List S48) (i : Nat), l.drop i = t → i ≤ l.length → Ev (fun k => element_CheckAll.l0 k l (l.length : Int) (i : Int) a b ks p q) (firstErr ks t)
  | [], i, h, hi => by
    have hi2 : l.length ≤ i := by simpa using h
    refine Ev.shift (fun k => by rw [element_CheckAll.l0]) ?_
    exact Ev.neg (by omega) Ev.now
  | x :: t, i, h, hi => by
    obtain ⟨g1, g2, g3⟩ := drop_cons_get h
    refine Ev.shift (fun k => by rw [element_CheckAll.l0]) ?_
    refine Ev.pos (by omega) (Ev.pos (by omega) (Ev.pos (by omega) ?_))
    rw [rd48 g1, show wrap64 ((i : Int) + 1) = ((i + 1 : Nat) : Int) by rw [w64 (by omega) (by omega)]; rfl]
    refine Ev.bind (check_elem_ev a b ks p q hl x) ?_
    by_cases c : errOf ks x = 0
    · exact (Ev.pos c (checkAll_l0_ev a b ks p q hl l hll t (i + 1) g2 (by omega))).res (if_pos c).symm
    · exact (Ev.neg c Ev.now).res (if_neg c).symm

noncomputable def wantOf (ks : List S89) : Int → List S48 → Int
  | w, [] => w
  | w, x :: t => if w = 0 then wantOf ks (errOf ks x) t else wantOf ks w t
theorem want_nz (ks : List S89) : ∀ (t : List S48) (w : Int), w ≠ 0 → wantOf ks w t = w
  | [], w, h => rfl
  | x :: t, w, h => by simp only [wantOf, if_neg h]; exact want_nz ks t w h
theorem want_zero (ks : List S89) : ∀ (t : List S48), wantOf ks 0 t = firstErr ks t
  | [] => rfl
  | x :: t => by
    simp only [wantOf, if_true, firstErr]
    by_cases c : errOf ks x = 0
    · rw [if_pos c, c]; exact want_zero ks t
    · rw [if_neg c]; exact want_nz ks t _ c

theorem checks_l0_ev (a : List (List S222)) (b : List S97) (ks : List S89) (p q : Int) (hl : ks.length ≤ 1000) (l : List S48) (hll : l.length ≤ 1000) (c : Int) (hc : Ev (fun k => element_CheckAll.f k a b ks p q l) c) :
    ∀ (t : List S48) (i : Nat) (w : Int), l.drop i = t → i ≤ l.length → wantOf ks w t = c → Ev (fun k => stipendlaw11_ElementChecks.l0 k l w l (l.length : Int) (i : Int) a b ks p q) true
  | [], i, w, h, hi, hw => by
    have hi2 : l.length ≤ i := by simpa using h
    refine Ev.shift (fun k => by rw [stipendlaw11_ElementChecks.l0]) ?_
    refine Ev.neg (by omega) (Ev.bind hc (Ev.const ?_))
    have : w = c := hw
    rw [this]; simp
  | x :: t, i, w, h, hi, hw => by
    obtain ⟨g1, g2, g3⟩ := drop_cons_get h
    refine Ev.shift (fun k => by rw [stipendlaw11_ElementChecks.l0]) ?_
    refine Ev.pos (by omega) (Ev.pos (by omega) (Ev.pos (by omega) ?_))
    rw [rd48 g1]
    have hv := (value_ev x.f0 x.f1 x.f2).choose_spec.1
    obtain ⟨K, hK, hk⟩ := kind_l0_ev x.f0 ks hl ks 0 rfl (Nat.zero_le _)
    refine Ev.bind (check_elem_ev a b ks p q hl x) (Ev.bind hv (Ev.bind hK ?_))
    have hj : ∀ f, f = errOf ks x → Ev (fun k => stipendlaw11_ElementChecks.j3 k l w (errOf ks x) f l (l.length : Int) (i : Int) a b ks p q) true := by
      intro f hf
      refine Ev.shift (fun k => by rw [stipendlaw11_ElementChecks.j3]) ?_
      refine Ev.pos hf.symm ?_
      rw [show wrap64 ((i : Int) + 1) = ((i + 1 : Nat) : Int) by rw [w64 (by omega) (by omega)]; rfl]
      by_cases c0 : w = 0
      · refine Ev.pos c0 (checks_l0_ev a b ks p q hl l hll c hc t (i + 1) _ g2 (by omega) ?_)
        rw [← hw]; simp [wantOf, c0]
      · refine Ev.neg c0 (checks_l0_ev a b ks p q hl l hll c hc t (i + 1) _ g2 (by omega) ?_)
        rw [← hw]; simp [wantOf, c0]
    rw [hk]
    by_cases c0 : kindErr ks x.f0 = 0
    · exact Ev.pos c0 (hj _ (by unfold errOf; rw [if_pos c0]))
    · exact Ev.neg c0 (hj _ (by unfold errOf; rw [if_neg c0]))

theorem elementChecks_true (a : List (List S222)) (b : List S97) (ks : List S89) (p q : Int) (l : List S48) (_g : ok86 (a, b, ks, p, q)) (_g1 : okL ok48 l) : ∃ k, stipendlaw11_ElementChecks.f k a b ks p q l = some true := by
  apply Ev.get
  unfold stipendlaw11_ElementChecks.f
  refine Ev.bindc (a := true) rfl (Ev.pos rfl ?_)
  have hj : Ev (fun k => stipendlaw11_ElementChecks.j0 k l true a b ks p q) true := by
    refine Ev.shift (fun k => by rw [stipendlaw11_ElementChecks.j0]) ?_
    exact Ev.pos rfl Ev.now
  by_cases c : 60 < l.length
  · exact Ev.pos (by omega) hj
  · refine Ev.neg (by omega) ?_
    by_cases c2 : 60 < ks.length
    · rw [decide_eq_true (show (ks.length : Int) > 60 by omega)]
      exact hj
    · rw [decide_eq_false (show ¬(ks.length : Int) > 60 by omega)]
      refine Ev.shift (fun k => by rw [stipendlaw11_ElementChecks.j0]) ?_
      refine Ev.neg (by decide) ?_
      by_cases c3 : 32 < l.length
      · have hc : Ev (fun k => element_CheckAll.f k a b ks p q l) 2 := by
          unfold element_CheckAll.f
          exact Ev.pos (by omega) Ev.now
        refine Ev.pos (by omega) (Ev.shift (fun k => by rw [stipendlaw11_ElementChecks.j1]) ?_)
        exact checks_l0_ev a b ks p q (by omega) l (by omega) 2 hc l 0 2 rfl (Nat.zero_le _) (want_nz ks l 2 (by decide))
      · have hc : Ev (fun k => element_CheckAll.f k a b ks p q l) (firstErr ks l) := by
          unfold element_CheckAll.f
          exact Ev.neg (by omega) (checkAll_l0_ev a b ks p q (by omega) l (by omega) l 0 rfl (Nat.zero_le _))
        refine Ev.neg (by omega) (Ev.shift (fun k => by rw [stipendlaw11_ElementChecks.j1]) ?_)
        exact checks_l0_ev a b ks p q (by omega) l (by omega) _ hc l 0 0 rfl (Nat.zero_le _) (want_zero ks l)
end Go.Proofs.YtmocphafkimdpaaDoor.P


/- A table's cells, opened. -/
namespace Go.Proofs.YtmocphafkimdpaaDoor.P
open Go.RowKit Go.Proofs.YtmocphafkimdpaaDoorW.PrintWords
theorem k86_open {w : World} {x : List (List S222) × List S97 × List S89 × Int × Int} {cs : List Value} (h : k86.K w x cs) :
    ∃ A0 c0 A1 c1 A2 c2, cs = [.slice A0 x.1.length c0, .slice A1 x.2.1.length c1, .slice A2 x.2.2.1.length c2, .int .i64 x.2.2.2.1, .int .i64 x.2.2.2.2] ∧ x.1.length ≤ c0 ∧ Kd.C (Kd.slice 222 k222) w A0 x.1.length x.1 ∧ x.2.1.length ≤ c1 ∧ Kd.C k97 w A1 x.2.1.length x.2.1 ∧ x.2.2.1.length ≤ c2 ∧ Kd.C k89 w A2 x.2.2.1.length x.2.2.1 := by
  obtain ⟨_, _, rfl, ⟨A0, c0, rfl, l0, g0⟩, ⟨_, _, rfl, ⟨A1, c1, rfl, l1, g1⟩, ⟨_, _, rfl, ⟨A2, c2, rfl, l2, g2⟩, ⟨_, _, rfl, rfl, rfl⟩⟩⟩⟩ := h
  exact ⟨A0, c0, A1, c1, A2, c2, rfl, l0, g0, l1, g1, l2, g2⟩
end Go.Proofs.YtmocphafkimdpaaDoor.P
