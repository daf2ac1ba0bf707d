/- A part of the proof of ElementParses's card: 'ElementParses' answers true for every input (the conditions: those of the given statement alone). Merged by a program (wip/merge.py) out of: GElem. -/
import Derived.Test.YtmocphafkimdpaaDoorBElementh
import Derived.Test.YtmocphafkimdpaaDoorBElemente

/- element.Parse, told of words. -/
namespace Go.Proofs.YtmocphafkimdpaaDoor.P
open Go.RowKit Go.Proofs.YtmocphafkimdpaaDoorW.PrintWords Go.Proofs.YtmocphafkimdpaaDoorW.PrintLast Go.Proofs.YtmocphafkimdpaaDoorW.PrintMore
set_option linter.unusedVariables false

abbrev emp : ByteArray := ⟨#[]⟩
/-- Behind an x. -/
def cutX (l : List UInt8) : Option (List UInt8) := match l with
  | c :: t => if c = 120 then some t else none
  | [] => none
theorem cut_f (l : List UInt8) : strings_CutPrefix.f (bs l) (⟨#[120]⟩ : ByteArray) = some (match cutX l with | some t => (bs t, true) | none => (bs l, false)) := by
  have e1 : (⟨#[120]⟩ : ByteArray).size = 1 := rfl
  have e2 : (⟨#[120]⟩ : ByteArray).toList = [120] := by rw [Lib.toList_data]
  unfold strings_CutPrefix.f stringslite_CutPrefix.f stringslite_HasPrefix.f
  rw [e1, e2, bs_size]
  match l with
  | [] => rfl
  | c :: t =>
    rw [if_pos (by simp only [List.length_cons]; omega), if_pos (by decide), if_pos (by simp only [List.length_cons]; omega), Option.bind_some, bs_extract, List.drop_zero, bs_toList]
    simp only [cutX]
    by_cases h : c = 120
    · subst h
      rw [if_pos (by rfl), if_pos (by decide), if_pos (by simp only [List.length_cons]; omega), bs_extract, List.take_length]
      rfl
    · rw [if_neg (by simp [h]), if_neg h]
      rfl

def thirdOf (a : ByteArray) (n : Int) (l : List UInt8) : ByteArray × Int × Int × Int := match cutX l with
  | none => (emp, 0, 0, 5)
  | some t => if (parseOf t).2 = 0 then (if (parseOf t).1 < 0 ∨ 100000 < (parseOf t).1 then (emp, 0, 0, 1) else (a, n, (parseOf t).1, 0)) else (emp, 0, 0, (parseOf t).2)
def elemOf : List ByteArray → ByteArray × Int × Int × Int
  | [a, b] => if nameOf a.toList = true then (if (parseOf b.toList).2 = 0 then (a, (parseOf b.toList).1, 100, 0) else (emp, 0, 0, (parseOf b.toList).2)) else (emp, 0, 0, 5)
  | [a, b, c] => if nameOf a.toList = true then (if (parseOf b.toList).2 = 0 then thirdOf a (parseOf b.toList).1 c.toList else (emp, 0, 0, (parseOf b.toList).2)) else (emp, 0, 0, 5)
  | _ => (emp, 0, 0, 5)

theorem eparse_ev (l : List ByteArray) (hl : l.length ≤ 1000) (hs : ∀ w ∈ l, w.size ≤ 1000) : Ev (fun k => element_Parse.f k l) (elemOf l) := by
  have hbad : Ev (fun k => element_Parse.j0 k l true) (emp, 0, 0, 5) := by
    refine Ev.shift (fun k => by rw [element_Parse.j0]) ?_
    exact Ev.pos rfl Ev.now
  unfold element_Parse.f
  match l, hl, hs, hbad with
  | [], _, _, hbad => exact Ev.neg (by simp) hbad
  | [a], _, _, hbad => exact Ev.neg (by simp) hbad
  | [a, b], _, hs, _ =>
    have ha := hs a (by simp)
    have hb := hs b (by simp)
    refine Ev.pos (by simp) (Ev.shift (fun k => by rw [element_Parse.j0]) ?_)
    refine Ev.neg (by decide) (Ev.pos (by simp) (Ev.bind (name_ev a (by omega)) ?_))
    simp only [elemOf]
    by_cases c1 : nameOf a.toList = true
    · refine Ev.res ?_ (if_pos c1).symm
      refine Ev.pos c1 (Ev.pos (by simp) (Ev.bind (mparse_ev b (by omega)) ?_))
      by_cases c2 : (parseOf b.toList).2 = 0
      · refine Ev.res ?_ (if_pos c2).symm
        exact Ev.pos c2 (Ev.bindc rfl (Ev.neg (by simp) (Ev.const rfl)))
      · refine Ev.res ?_ (if_neg c2).symm
        exact Ev.neg c2 (Ev.const rfl)
    · refine Ev.res ?_ (if_neg c1).symm
      exact Ev.neg c1 (Ev.const rfl)
  | [a, b, c], _, hs, _ =>
    have ha := hs a (by simp)
    have hb := hs b (by simp)
    have hc := hs c (by simp)
    refine Ev.neg (by simp) (Ev.shift (fun k => by rw [element_Parse.j0]) ?_)
    refine Ev.neg (by simp) (Ev.pos (by simp) (Ev.bind (name_ev a (by omega)) ?_))
    simp only [elemOf]
    by_cases c1 : nameOf a.toList = true
    · refine Ev.res ?_ (if_pos c1).symm
      refine Ev.pos c1 (Ev.pos (by simp) (Ev.bind (mparse_ev b (by omega)) ?_))
      by_cases c2 : (parseOf b.toList).2 = 0
      · refine Ev.res ?_ (if_pos c2).symm
        refine Ev.pos c2 (Ev.bindc rfl (Ev.pos (by simp) (Ev.pos (by simp) ?_)))
        have ec : strings_CutPrefix.f (rdOf ByteArray.empty [a, b, c] 2) (⟨#[120]⟩ : ByteArray) = some (match cutX c.toList with | some t => (bs t, true) | none => (bs c.toList, false)) := by
          have := cut_f c.toList
          rw [bs_eta] at this
          exact this.trans (by rw [bs_eta])
        refine Ev.bindc ec ?_
        unfold thirdOf
        have hcl : c.toList.length ≤ 1000 := by rw [Lib.toList_data, data_length]; exact hc
        cases hx : cutX c.toList with
        | none => exact Ev.neg (by simp) (Ev.const rfl)
        | some t =>
          have ht : t.length ≤ 1000 := by
            unfold cutX at hx
            split at hx
            · rename_i c' t' he
              split at hx
              · injection hx with hx
                subst hx
                rw [he] at hcl
                simp at hcl
                omega
              · cases hx
            · cases hx
          refine Ev.pos rfl (Ev.bind (parse_bs_ev t (by omega)) ?_)
          simp only
          by_cases c3 : (parseOf t).2 = 0
          · refine Ev.res ?_ (if_pos c3).symm
            refine Ev.pos c3 ?_
            by_cases c4 : (parseOf t).1 < 0
            · exact (Ev.pos c4 (Ev.const rfl)).res (if_pos (.inl c4)).symm
            · refine Ev.neg c4 ?_
              by_cases c5 : 100000 < (parseOf t).1
              · exact (Ev.pos c5 (Ev.const rfl)).res (if_pos (.inr c5)).symm
              · exact (Ev.neg c5 (Ev.const rfl)).res (if_neg (fun h => h.elim c4 c5)).symm
          · refine Ev.res ?_ (if_neg c3).symm
            exact Ev.neg c3 (Ev.const rfl)
      · refine Ev.res ?_ (if_neg c2).symm
        exact Ev.neg c2 (Ev.const rfl)
    · refine Ev.res ?_ (if_neg c1).symm
      exact Ev.neg c1 (Ev.const rfl)
  | a :: b :: c :: d :: t, _, _, hbad =>
    refine Ev.neg (by simp only [List.length_cons]; omega) ?_
    rw [show (((a :: b :: c :: d :: t).length : Int) != 3) = true by simp only [List.length_cons, bne_iff_ne]; omega]
    exact hbad
end Go.Proofs.YtmocphafkimdpaaDoor.P
