/- A part of the proof of ElementTexts's card: 'ElementTexts' answers true for every input (the conditions: those of the given statement alone). Merged by a program (wip/merge.py) out of: GElem, GPText, Pf6, HElementValues, GFields, Pf21, HElementTexts. -/
import Derived.Test.YtmocphafkimdpaaDoorBElementh
import Derived.Test.YtmocphafkimdpaaDoorBElemente
import Derived.Test.YtmocphafkimdpaaDoorBElementb
import Derived.Test.YtmocphafkimdpaaDoorBElementa
import Derived.Shelf.Strings.Fields
import Derived.Test.YtmocphafkimdpaaDoorBElementf

/- element.Parse, told of words. -/
namespace Go.Proofs.YtmocphafkimdpaaDoor.P
open Go.RowKit Go.Proofs.YtmocphafkimdpaaDoorW.PrintWords Go.Proofs.YtmocphafkimdpaaDoorW.PrintLast Go.Proofs.YtmocphafkimdpaaDoorW.PrintMore
set_option linter.unusedVariables false

abbrev emp : ByteArray := ⟨#[]⟩
/-- Behind an x. -/
def cutX (l : List UInt8) : Option (List UInt8) := match l with
  | c :: t => if c = 120 then some t else none
  | [] => none
theorem cut_f (l : List UInt8) : strings_CutPrefix.f (bs l) (⟨#[120]⟩ : ByteArray) = some (match cutX l with | some t => (bs t, true) | none => (bs l, false)) := by
  have e1 : (⟨#[120]⟩ : ByteArray).size = 1 := rfl
  have e2 : (⟨#[120]⟩ : ByteArray).toList = [120] := by rw [Lib.toList_data]
  unfold strings_CutPrefix.f stringslite_CutPrefix.f stringslite_HasPrefix.f
  rw [e1, e2, bs_size]
  match l with
  | [] => rfl
  | c :: t =>
    rw [if_pos (by simp only [List.length_cons]; omega), if_pos (by decide), if_pos (by simp only [List.length_cons]; omega), Option.bind_some, bs_extract, List.drop_zero, bs_toList]
    simp only [cutX]
    by_cases h : c = 120
    · subst h
      rw [if_pos (by rfl), if_pos (by decide), if_pos (by simp only [List.length_cons]; omega), bs_extract, List.take_length]
      rfl
    · rw [if_neg (by simp [h]), if_neg h]
      rfl

def thirdOf (a : ByteArray) (n : Int) (l : List UInt8) : ByteArray × Int × Int × Int := match cutX l with
  | none => (emp, 0, 0, 5)
  | some t => if (parseOf t).2 = 0 then (if (parseOf t).1 < 0 ∨ 100000 < (parseOf t).1 then (emp, 0, 0, 1) else (a, n, (parseOf t).1, 0)) else (emp, 0, 0, (parseOf t).2)
def elemOf : List ByteArray → ByteArray × Int × Int × Int
  | [a, b] => if nameOf a.toList = true then (if (parseOf b.toList).2 = 0 then (a, (parseOf b.toList).1, 100, 0) else (emp, 0, 0, (parseOf b.toList).2)) else (emp, 0, 0, 5)
  | [a, b, c] => if nameOf a.toList = true then (if (parseOf b.toList).2 = 0 then thirdOf a (parseOf b.toList).1 c.toList else (emp, 0, 0, (parseOf b.toList).2)) else (emp, 0, 0, 5)
  | _ => (emp, 0, 0, 5)

theorem eparse_ev (l : List ByteArray) (hl : l.length ≤ 1000) (hs : ∀ w ∈ l, w.size ≤ 1000) : Ev (fun k => element_Parse.f k l) (elemOf l) := by
  have hbad : Ev (fun k => element_Parse.j0 k l true) (emp, 0, 0, 5) := by
    refine Ev.shift (fun k => by rw [element_Parse.j0]) ?_
    exact Ev.pos rfl Ev.now
  unfold element_Parse.f
  match l, hl, hs, hbad with
  | [], _, _, hbad => exact Ev.neg (by simp) hbad
  | [a], _, _, hbad => exact Ev.neg (by simp) hbad
  | [a, b], _, hs, _ =>
    have ha := hs a (by simp)
    have hb := hs b (by simp)
    refine Ev.pos (by simp) (Ev.shift (fun k => by rw [element_Parse.j0]) ?_)
    refine Ev.neg (by decide) (Ev.pos (by simp) (Ev.bind (name_ev a (by omega)) ?_))
    simp only [elemOf]
    by_cases c1 : nameOf a.toList = true
    · refine Ev.res ?_ (if_pos c1).symm
      refine Ev.pos c1 (Ev.pos (by simp) (Ev.bind (mparse_ev b (by omega)) ?_))
      by_cases c2 : (parseOf b.toList).2 = 0
      · refine Ev.res ?_ (if_pos c2).symm
        exact Ev.pos c2 (Ev.bindc rfl (Ev.neg (by simp) (Ev.const rfl)))
      · refine Ev.res ?_ (if_neg c2).symm
        exact Ev.neg c2 (Ev.const rfl)
    · refine Ev.res ?_ (if_neg c1).symm
      exact Ev.neg c1 (Ev.const rfl)
  | [a, b, c], _, hs, _ =>
    have ha := hs a (by simp)
    have hb := hs b (by simp)
    have hc := hs c (by simp)
    refine Ev.neg (by simp) (Ev.shift (fun k => by rw [element_Parse.j0]) ?_)
    refine Ev.neg (by simp) (Ev.pos (by simp) (Ev.bind (name_ev a (by omega)) ?_))
    simp only [elemOf]
    by_cases c1 : nameOf a.toList = true
    · refine Ev.res ?_ (if_pos c1).symm
      refine Ev.pos c1 (Ev.pos (by simp) (Ev.bind (mparse_ev b (by omega)) ?_))
      by_cases c2 : (parseOf b.toList).2 = 0
      · refine Ev.res ?_ (if_pos c2).symm
        refine Ev.pos c2 (Ev.bindc rfl (Ev.pos (by simp) (Ev.pos (by simp) ?_)))
        have ec : strings_CutPrefix.f (rdOf ByteArray.empty [a, b, c] 2) (⟨#[120]⟩ : ByteArray) = some (match cutX c.toList with | some t => (bs t, true) | none => (bs c.toList, false)) := by
          have := cut_f c.toList
          rw [bs_eta] at this
          exact this.trans (by rw [bs_eta])
        refine Ev.bindc ec ?_
        unfold thirdOf
        have hcl : c.toList.length ≤ 1000 := by rw [Lib.toList_data, data_length]; exact hc
        cases hx : cutX c.toList with
        | none => exact Ev.neg (by simp) (Ev.const rfl)
        | some t =>
          have ht : t.length ≤ 1000 := by
            unfold cutX at hx
            split at hx
            · rename_i c' t' he
              split at hx
              · injection hx with hx
                subst hx
                rw [he] at hcl
                simp at hcl
                omega
              · cases hx
            · cases hx
          refine Ev.pos rfl (Ev.bind (parse_bs_ev t (by omega)) ?_)
          simp only
          by_cases c3 : (parseOf t).2 = 0
          · refine Ev.res ?_ (if_pos c3).symm
            refine Ev.pos c3 ?_
            by_cases c4 : (parseOf t).1 < 0
            · exact (Ev.pos c4 (Ev.const rfl)).res (if_pos (.inl c4)).symm
            · refine Ev.neg c4 ?_
              by_cases c5 : 100000 < (parseOf t).1
              · exact (Ev.pos c5 (Ev.const rfl)).res (if_pos (.inr c5)).symm
              · exact (Ev.neg c5 (Ev.const rfl)).res (if_neg (fun h => h.elim c4 c5)).symm
          · refine Ev.res ?_ (if_neg c3).symm
            exact Ev.neg c3 (Ev.const rfl)
      · refine Ev.res ?_ (if_neg c2).symm
        exact Ev.neg c2 (Ev.const rfl)
    · refine Ev.res ?_ (if_neg c1).symm
      exact Ev.neg c1 (Ev.const rfl)
  | a :: b :: c :: d :: t, _, _, hbad =>
    refine Ev.neg (by simp only [List.length_cons]; omega) ?_
    rw [show (((a :: b :: c :: d :: t).length : Int) != 3) = true by simp only [List.length_cons, bne_iff_ne]; omega]
    exact hbad
end Go.Proofs.YtmocphafkimdpaaDoor.P


/- What money.Text writes, money.Parse reads. -/
namespace Go.Proofs.YtmocphafkimdpaaDoor.P
open Go.RowKit Go.Proofs.YtmocphafkimdpaaDoorW.PrintWords Go.Proofs.YtmocphafkimdpaaDoorW.PrintLast Go.Proofs.YtmocphafkimdpaaDoorW.PrintMore
set_option linter.unusedVariables false

theorem dgN_all : ∀ d : Fin 10, (UInt8.ofNat (48 + d.val)).toNat = 48 + d.val := by decide
theorem dgN (d : Nat) (h : d < 10) : (UInt8.ofNat (48 + d)).toNat = 48 + d := dgN_all ⟨d, h⟩
theorem dig_dg (d : Nat) (h : d < 10) : dig (UInt8.ofNat (48 + d)) = true := by
  rw [dig_iff, dgN d h]; omega
theorem dec_step (q : Nat) (h : ¬q < 10) : Lib.decDigits q = Lib.decDigits (q / 10) ++ [UInt8.ofNat (48 + q % 10)] := by
  rw [Lib.decDigits, dif_neg h]
theorem valFrom_snoc (l : List UInt8) (c : UInt8) : ∀ n, valFrom n (l ++ [c]) = 10 * valFrom n l + (c.toNat - 48) := by
  induction l with
  | nil => intro n; rfl
  | cons a t ih => intro n; exact ih _
theorem dec_facts (q : Nat) : (Lib.decDigits q).all dig = true ∧ valFrom 0 (Lib.decDigits q) = q ∧ (0 < q → ∃ c t, Lib.decDigits q = c :: t ∧ c.toNat ≠ 48) ∧ Lib.decDigits q ≠ [] := by
  induction q using Nat.strongRecOn with
  | _ q ih =>
    by_cases h : q < 10
    · rw [dec_small q h]
      refine ⟨by simp only [List.all_cons, List.all_nil, Bool.and_true]; exact dig_dg q h, ?_, fun h0 => ⟨_, [], rfl, by rw [dgN q h]; omega⟩, by simp⟩
      show 10 * 0 + ((UInt8.ofNat (48 + q)).toNat - 48) = q
      rw [dgN q h]; omega
    · obtain ⟨h1, h2, h3, h4⟩ := ih (q / 10) (by omega)
      have hm : q % 10 < 10 := Nat.mod_lt _ (by decide)
      rw [dec_step q h]
      refine ⟨by simp only [List.all_append, h1, Bool.true_and, List.all_cons, List.all_nil, Bool.and_true]; exact dig_dg _ hm, ?_, fun _ => ?_, by simp⟩
      · rw [valFrom_snoc, h2, dgN _ hm]; omega
      · obtain ⟨c, t, e, hc⟩ := h3 (by omega)
        exact ⟨c, t ++ [_], by rw [e]; rfl, hc⟩
theorem dec_len_le : ∀ (m q : Nat), q < 10 ^ (m + 1) → (Lib.decDigits q).length ≤ m + 1 := by
  intro m
  induction m with
  | zero =>
    intro q h
    rw [dec_small q (by simpa using h)]
    simp
  | succ m ih =>
    intro q h
    by_cases h1 : q < 10
    · rw [dec_small q h1]; simp
    · rw [dec_step q h1]
      have := ih (q / 10) (by rw [Nat.pow_succ] at h; omega)
      simp
      omega
theorem wholeOk_head (c : UInt8) (t : List UInt8) (h : c.toNat ≠ 48) : wholeOk (c :: t) = true := by
  cases t <;> simp [wholeOk, h]
theorem dec_whole (q : Nat) : wholeOk (Lib.decDigits q) = true := by
  by_cases h : q < 10
  · rw [dec_small q h]; rfl
  · obtain ⟨_, _, h3, _⟩ := dec_facts q
    obtain ⟨c, t, e, hc⟩ := h3 (by omega)
    rw [e]; exact wholeOk_head c t hc

/-- The digits of a text, without its sign. -/
def bodyText (n : Nat) : List UInt8 := Lib.decDigits (n / 100) ++ [46, UInt8.ofNat (48 + n % 100 / 10), UInt8.ofNat (48 + n % 10)]
theorem textOf_body (x : Int) : textOf x = (if x < 0 then [45] else []) ++ bodyText x.natAbs := by
  unfold textOf bodyText
  simp
theorem part_text (neg : Bool) (n : Nat) (hn : neg = true → 0 < n) : partOf neg (Lib.decDigits (n / 100)) (n % 100) = if okAmt (sgn neg * (n : Int)) = true then (sgn neg * (n : Int), 0) else (0, 10) := by
  obtain ⟨h1, h2, h3, h4⟩ := dec_facts (n / 100)
  unfold partOf
  rw [h1, h2, dec_whole, Bool.true_and, Bool.true_and]
  rw [show n / 100 * 100 + n % 100 = n by omega]
  by_cases c : 12 < (Lib.decDigits (n / 100)).length
  · have hq : ¬n / 100 < 10 ^ 12 := fun h => by have := dec_len_le 11 (n / 100) h; omega
    have hw : wholeOk ((Lib.decDigits (n / 100)).take 12) = true := by
      obtain ⟨c, t, e, hc⟩ := h3 (by omega)
      rw [e]
      exact wholeOk_head c _ hc
    rw [if_pos c, if_pos hw, if_neg]
    rw [okAmt_iff]
    cases neg <;> simp [sgn] <;> omega
  · rw [if_neg c, if_pos rfl, if_neg]
    intro h
    have := hn h.1
    omega
theorem body_text (neg : Bool) (n : Nat) (h : n < 10000000000000000000) (hn : neg = true → 0 < n) : bodyOf neg (bodyText n) = if okAmt (sgn neg * (n : Int)) = true then (sgn neg * (n : Int), 0) else (0, 10) := by
  have hl := dec_len_le 16 (n / 100) (by omega)
  have hne := (dec_facts (n / 100)).2.2.2
  have hpos : 0 < (Lib.decDigits (n / 100)).length := List.length_pos_iff.2 hne
  rw [← part_text neg n hn]
  unfold bodyOf bodyText
  generalize Lib.decDigits (n / 100) = D at hl hpos ⊢
  have e1 : (D ++ [46, UInt8.ofNat (48 + n % 100 / 10), UInt8.ofNat (48 + n % 10)]).length = D.length + 3 := by simp
  rw [e1]
  have g0 : (D ++ [46, UInt8.ofNat (48 + n % 100 / 10), UInt8.ofNat (48 + n % 10)])[D.length + 3 - 3]? = some 46 := by
    rw [show D.length + 3 - 3 = D.length by omega]; simp
  have g1 : (D ++ [46, UInt8.ofNat (48 + n % 100 / 10), UInt8.ofNat (48 + n % 10)]).getD (D.length + 3 - 2) 0 = UInt8.ofNat (48 + n % 100 / 10) := by
    rw [show D.length + 3 - 2 = D.length + 1 by omega, List.getD_eq_getElem?_getD, List.getElem?_append_right (by omega), show D.length + 1 - D.length = 1 by omega]; rfl
  have g2 : (D ++ [46, UInt8.ofNat (48 + n % 100 / 10), UInt8.ofNat (48 + n % 10)]).getD (D.length + 3 - 1) 0 = UInt8.ofNat (48 + n % 10) := by
    rw [show D.length + 3 - 1 = D.length + 2 by omega, List.getD_eq_getElem?_getD, List.getElem?_append_right (by omega), show D.length + 2 - D.length = 2 by omega]; rfl
  rw [g1, g2, if_neg (by omega), if_pos ⟨by omega, g0⟩, if_pos ⟨dig_dg _ (by omega), dig_dg _ (by omega)⟩, dgN _ (by omega), dgN _ (by omega)]
  rw [show D.length + 3 - 3 = D.length by omega, List.take_left' rfl]
  congr 1
  omega
theorem parse_text (x : Int) (h0 : -9223372036854775808 ≤ x) (h1 : x ≤ 9223372036854775807) : parseOf (textOf x) = if okAmt x = true then (x, 0) else (0, 10) := by
  rw [textOf_body]
  by_cases hx : x < 0
  · rw [if_pos hx]
    show bodyOf true (bodyText x.natAbs) = _
    rw [body_text true x.natAbs (by omega) (fun _ => by omega)]
    rw [show sgn true * (x.natAbs : Int) = x by simp [sgn]; omega]
  · rw [if_neg hx, List.nil_append]
    have hd : ∃ c t, bodyText x.natAbs = c :: t ∧ c ≠ 45 := by
      obtain ⟨ha, _, _, hne⟩ := dec_facts (x.natAbs / 100)
      unfold bodyText
      cases e : Lib.decDigits (x.natAbs / 100) with
      | nil => exact absurd e hne
      | cons c t =>
        refine ⟨c, _, rfl, fun h => ?_⟩
        rw [e] at ha
        simp only [List.all_cons, Bool.and_eq_true] at ha
        have := (dig_iff c).1 ha.1
        rw [h] at this
        exact absurd this.1 (by decide)
    have hp : parseOf (bodyText x.natAbs) = bodyOf false (bodyText x.natAbs) := by
      obtain ⟨c, t, e, hc⟩ := hd
      rw [e]
      unfold parseOf
      split
      · rename_i h; injection h with h; exact absurd h hc
      · rfl
    rw [hp, body_text false x.natAbs (by omega) (fun h => by cases h)]
    rw [show sgn false * (x.natAbs : Int) = x by simp [sgn]; omega]
theorem text_len (x : Int) (h0 : -9223372036854775808 ≤ x) (h1 : x ≤ 9223372036854775807) : (textOf x).length ≤ 30 := by
  have := dec_len_le 16 (x.natAbs / 100) (by omega)
  rw [textOf_body]
  unfold bodyText
  split <;> simp <;> omega
end Go.Proofs.YtmocphafkimdpaaDoor.P


-- written by a program (a patched copy of the kit's print: wip/mkprint.py); Lean checks it
namespace Go.Proofs.YtmocphafkimdpaaDoor.P
open Go.RowKit Go.Proofs.YtmocphafkimdpaaDoorW.PrintWords Go.Proofs.YtmocphafkimdpaaDoorW.PrintLast Go.Proofs.YtmocphafkimdpaaDoorW.PrintMore
attribute [local go_sem] max2_int min2_int max_two min_two max_three min_three max_four min_four   -- for this text's walks alone
set_option linter.unusedVariables false
set_option linter.unusedSimpArgs false

/-! ### stipendlaw11_ElementValues: function 6 -/
mutual
def stipendlaw11_ElementValues.j0 : Nat → Int → Int → Int → Bool → ByteArray → Int → Int → Option (Bool)
 | 0, _, _, _, _, _, _, _ => none
 | k + 1, x3, x4, x5, x26, x338000, x338001, x338002 => if x26 = true then (if x4 = 10 then (some (x3 == 0)) else (some false)) else (if x338002 < 0 then (stipendlaw11_ElementValues.j1 k x3 x4 x5 true x338000 x338001 x338002) else (stipendlaw11_ElementValues.j1 k x3 x4 x5 (decide (x338002 > 100000)) x338000 x338001 x338002))
def stipendlaw11_ElementValues.j1 : Nat → Int → Int → Int → Bool → ByteArray → Int → Int → Option (Bool)
 | 0, _, _, _, _, _, _, _ => none
 | k + 1, x3, x4, x5, x40, x338000, x338001, x338002 => if x40 = true then (if x4 = 1 then (some (x3 == 0)) else (some false)) else ((frac_Round.f k (wrap64 (x338001 * x338002)) 100 4).bind fun bt341 => (if bt341.1 > x5 then (if x4 = 10 then (some (x3 == 0)) else (some false)) else (if bt341.1 < (wrap64 (-x5)) then (if x4 = 10 then (some (x3 == 0)) else (some false)) else (if x4 = 0 then (if x3 = bt341.1 then (if (wrap64 (2 * (wrap64 ((wrap64 (100 * x3)) - (wrap64 (x338001 * x338002)))))) ≤ 100 then (some (decide ((wrap64 (2 * (wrap64 ((wrap64 (x338001 * x338002)) - (wrap64 (100 * x3)))))) ≤ 100))) else (some false)) else (some false)) else (some false)))))
end
def stipendlaw11_ElementValues.f (k : Nat) (a0_0 : ByteArray) (a0_1 : Int) (a0_2 : Int) : Option (Bool) := (stipendlaw11_worths.f).bind fun t338 => (if t338 = true then ((element_Value.f k a0_0 a0_1 a0_2).bind fun bt339 => (if a0_1 > 100000000000 then (stipendlaw11_ElementValues.j0 k bt339.1 bt339.2 100000000000 true a0_0 a0_1 a0_2) else (stipendlaw11_ElementValues.j0 k bt339.1 bt339.2 100000000000 (decide (a0_1 < (-100000000000))) a0_0 a0_1 a0_2))) else (some false))
theorem stipendlaw11_ElementValues.mono_l : ∀ k, (∀ y0 y1 y2 y3 y4 y5 y6, LeO (stipendlaw11_ElementValues.j0 k y0 y1 y2 y3 y4 y5 y6) (stipendlaw11_ElementValues.j0 (k + 1) y0 y1 y2 y3 y4 y5 y6)) ∧ (∀ y0 y1 y2 y3 y4 y5 y6, LeO (stipendlaw11_ElementValues.j1 k y0 y1 y2 y3 y4 y5 y6) (stipendlaw11_ElementValues.j1 (k + 1) y0 y1 y2 y3 y4 y5 y6))
 | 0 => ⟨fun _ _ _ _ _ _ _ r h => by simp [stipendlaw11_ElementValues.j0] at h, fun _ _ _ _ _ _ _ r h => by simp [stipendlaw11_ElementValues.j1] at h⟩
 | k + 1 => by
  obtain ⟨ih0, ih1⟩ := stipendlaw11_ElementValues.mono_l k
  refine ⟨?_, ?_⟩
  ·intro y0 y1 y2 y3 y4 y5 y6
   unfold stipendlaw11_ElementValues.j0
   repeat' first
   | (with_reducible exact ih0 _ _ _ _ _ _ _)
   | (with_reducible exact ih1 _ _ _ _ _ _ _)
   | (with_reducible exact element_Value.mono _ _ _ _)
   | (with_reducible exact frac_Round.mono _ _ _ _)
   | (with_reducible exact LeO.refl _)
   | (with_reducible exact LeO.none _)
   | (with_reducible refine LeO.ite ?_ ?_)
   | (with_reducible refine LeO.bind ?_ (fun _ => ?_))
   | exact ih0 _ _ _ _ _ _ _
   | exact ih1 _ _ _ _ _ _ _
   | exact element_Value.mono _ _ _ _
   | exact frac_Round.mono _ _ _ _
   | exact LeO.none _
   | refine LeO.ite ?_ ?_
   | refine LeO.bind ?_ (fun _ => ?_)
  ·intro y0 y1 y2 y3 y4 y5 y6
   unfold stipendlaw11_ElementValues.j1
   repeat' first
   | (with_reducible exact ih0 _ _ _ _ _ _ _)
   | (with_reducible exact ih1 _ _ _ _ _ _ _)
   | (with_reducible exact element_Value.mono _ _ _ _)
   | (with_reducible exact frac_Round.mono _ _ _ _)
   | (with_reducible exact LeO.refl _)
   | (with_reducible exact LeO.none _)
   | (with_reducible refine LeO.ite ?_ ?_)
   | (with_reducible refine LeO.bind ?_ (fun _ => ?_))
   | exact ih0 _ _ _ _ _ _ _
   | exact ih1 _ _ _ _ _ _ _
   | exact element_Value.mono _ _ _ _
   | exact frac_Round.mono _ _ _ _
   | exact LeO.none _
   | refine LeO.ite ?_ ?_
   | refine LeO.bind ?_ (fun _ => ?_)
theorem stipendlaw11_ElementValues.mono : ∀ a0 a1 a2 k, LeO (stipendlaw11_ElementValues.f k a0 a1 a2) (stipendlaw11_ElementValues.f (k + 1) a0 a1 a2) := by
 intro a0 a1 a2 k
 obtain ⟨ih0, ih1⟩ := stipendlaw11_ElementValues.mono_l k
 unfold stipendlaw11_ElementValues.f
 repeat' first
   | (with_reducible exact ih0 _ _ _ _ _ _ _)
   | (with_reducible exact ih1 _ _ _ _ _ _ _)
   | (with_reducible exact element_Value.mono _ _ _ _)
   | (with_reducible exact frac_Round.mono _ _ _ _)
   | (with_reducible exact LeO.refl _)
   | (with_reducible exact LeO.none _)
   | (with_reducible refine LeO.ite ?_ ?_)
   | (with_reducible refine LeO.bind ?_ (fun _ => ?_))
   | exact ih0 _ _ _ _ _ _ _
   | exact ih1 _ _ _ _ _ _ _
   | exact element_Value.mono _ _ _ _
   | exact frac_Round.mono _ _ _ _
   | exact LeO.none _
   | refine LeO.ite ?_ ?_
   | refine LeO.bind ?_ (fun _ => ?_)
set_option maxHeartbeats 8000000 in
set_option maxRecDepth 100000 in
theorem stipendlaw11_ElementValues.calls (k : Nat) (a0_0 : ByteArray) (a0_1 : Int) (a0_2 : Int) (r : Bool) (w : World) (h : stipendlaw11_ElementValues.f k a0_0 a0_1 a0_2 = some r) (hG : GTab w := by first | exact GTab.below HG.out (by repeat (first | (with_reducible first | exact HB.out | apply below_alloc | apply pw_below_drewN | apply below_drew1 | apply below_drew) | exact HB.out)) | exact HG.out) :
  Calls Tryd.prog 6 #[.agg #[.string a0_0, .int .i64 a0_1, .int .i64 a0_2]] w fun e w' => e = .returned (.bool r) ∧ Below w.heap.size w w' := by
 have hu48 := Tryd.underlying48
 have HG := Aside0.mk hG; clear hG
 have HB := Aside0.mk (Below.refl w.heap.size w)
 have H : ((stipendlaw11_worths.f).bind fun t338 => (if t338 = true then ((element_Value.f k a0_0 a0_1 a0_2).bind fun bt339 => (if a0_1 > 100000000000 then (stipendlaw11_ElementValues.j0 k bt339.1 bt339.2 100000000000 true a0_0 a0_1 a0_2) else (stipendlaw11_ElementValues.j0 k bt339.1 bt339.2 100000000000 (decide (a0_1 < (-100000000000))) a0_0 a0_1 a0_2))) else (some false))) = some r := h
 clear h
 replace H := Option.bind_eq_some_iff.mp H
 obtain ⟨t338, A20, H⟩ := H
 replace H : (if t338 = true then ((element_Value.f k a0_0 a0_1 a0_2).bind fun bt339 => (if a0_1 > 100000000000 then (stipendlaw11_ElementValues.j0 k bt339.1 bt339.2 100000000000 true a0_0 a0_1 a0_2) else (stipendlaw11_ElementValues.j0 k bt339.1 bt339.2 100000000000 (decide (a0_1 < (-100000000000))) a0_0 a0_1 a0_2))) else (some false)) = some r := H
 have A2 := Aside0.mk A20
 clear A20
 by_cases c3 : t338 = true
 ·subst c3
  have H1 : ((element_Value.f k a0_0 a0_1 a0_2).bind fun bt339 => (if a0_1 > 100000000000 then (stipendlaw11_ElementValues.j0 k bt339.1 bt339.2 100000000000 true a0_0 a0_1 a0_2) else (stipendlaw11_ElementValues.j0 k bt339.1 bt339.2 100000000000 (decide (a0_1 < (-100000000000))) a0_0 a0_1 a0_2))) = some r := by rw [if_pos rfl] at H; exact H
  clear H
  have H := H1
  clear H1
  replace H := Option.bind_eq_some_iff.mp H
  obtain ⟨⟨t339, t340⟩, A40, H⟩ := H
  replace H : (if a0_1 > 100000000000 then (stipendlaw11_ElementValues.j0 k t339 t340 100000000000 true a0_0 a0_1 a0_2) else (stipendlaw11_ElementValues.j0 k t339 t340 100000000000 (decide (a0_1 < (-100000000000))) a0_0 a0_1 a0_2)) = some r := H
  have A4 := Aside0.mk A40
  clear A40
  have HC5 := Aside0.mk H
  clear H
  go_enter Tryd.func6, Tryd.ntmps6
  go_upto_region 5 with (first | ((with_reducible refine gate_dst (N := 1) rfl ?_); refine box_event ?hg (N := 1) ?hd (cs := #[.string a0_0, .int .i64 a0_1, .int .i64 a0_2]) (t := 48) ?hr ?_; (case hd => rfl); (case hg => rfl); (case hr => first | (go_simp; done) | (go_simp; rfl)); intro gb337 hg w6 hbox hb; have n0_ := Aside0.mk (below_step (by repeat (first | (with_reducible first | exact HB.out | apply below_alloc | apply pw_below_drewN | apply below_drew1) | exact HB.out)) hb); have n1_ := Aside0.mk (hbox); have n2_ := Aside0.mk ((by rw [hg]; exact (below_size (by repeat (first | (with_reducible first | exact HB.out | apply below_alloc | apply pw_below_drewN | apply below_drew1) | exact HB.out))) : w.heap.size ≤ gb337)); have n3_ := Aside0.mk ((by rw [hg]; exact (below_size (by repeat (first | (with_reducible first | exact HB.out | apply below_alloc | apply pw_below_drewN | apply below_drew1) | exact HB.out))) : w.heap.size ≤ gb337)); clear HB; have HB := n0_; have BK337 := n1_; have GW337 := n2_; have GE337 := n3_; clear n0_ n1_ n2_ n3_; clear hb hbox hg) | ((with_reducible refine gate_callee (f := 35) rfl ?_); refine goesL_ (some 9) rfl rfl Tryd.func35 (by kernel_rfl) rfl #[] rfl (by (try simp only [List.map_toArray, List.map_cons, List.map_nil]); first | done | rfl | (simp only [List.length_drop, List.length_take]; rfl)) ?_; (with_reducible refine (stipendlaw11_worths.calls  true _ A2.out).mono ?_); rintro e w7 ⟨rfl, hb⟩; refine ⟨_, rfl, ?_⟩; have n0_ := Aside0.mk (blk_below (g := gb337) (o := .cells #[.string a0_0, .int .i64 a0_1, .int .i64 a0_2] 48 (0, 0)) (by (with_reducible repeat (first | refine blk_drewN ?_ _ | refine blk_drew ?_ | refine blk_alloc ?_ _)); exact BK337.out) hb); have n1_ := Aside0.mk (below_step (by repeat (first | (with_reducible first | exact HB.out | apply below_alloc | apply pw_below_drewN | apply below_drew1 | refine below_set ?_ GE337.out) | exact HB.out)) hb); clear BK337; clear HB; have BK337 := n0_; have HB := n1_; clear n0_ n1_; (try clear hb); (try clear hb2); (try clear hk); (try clear hi); have hcz8_0 : w7.cell? ⟨gb337, 0, none⟩ = some (.string a0_0) := (blk_cell BK337.out 0).trans rfl; have hcz8_1 : w7.cell? ⟨gb337, 1, none⟩ = some (.int .i64 a0_1) := (blk_cell BK337.out 1).trans rfl; have hcz8_2 : w7.cell? ⟨gb337, 2, none⟩ = some (.int .i64 a0_2) := (blk_cell BK337.out 2).trans rfl; have hfz8_0 := blk_frozen BK337.out 0; have hfz8_1 := blk_frozen BK337.out 1; have hfz8_2 := blk_frozen BK337.out 2) | ((with_reducible refine gate_callee (f := 36) rfl ?_); refine goesL_ (some 13) rfl rfl Tryd.func36 (by kernel_rfl) rfl #[.agg #[.string a0_0, .int .i64 a0_1, .int .i64 a0_2]] rfl (by (try simp only [List.map_toArray, List.map_cons, List.map_nil]); first | done | rfl | (simp only [List.length_drop, List.length_take]; rfl)) ?_; (with_reducible refine (element_Value.calls k a0_0 a0_1 a0_2 t339 t340 _ A4.out).mono ?_); rintro e w9 ⟨rfl, hb⟩; refine ⟨_, rfl, ?_⟩; have n0_ := Aside0.mk (blk_below (g := gb337) (o := .cells #[.string a0_0, .int .i64 a0_1, .int .i64 a0_2] 48 (0, 0)) (by (with_reducible repeat (first | refine blk_drewN ?_ _ | refine blk_drew ?_ | refine blk_alloc ?_ _)); exact BK337.out) hb); have n1_ := Aside0.mk (below_step (by repeat (first | (with_reducible first | exact HB.out | apply below_alloc | apply pw_below_drewN | apply below_drew1 | refine below_set ?_ GE337.out) | exact HB.out)) hb); clear BK337; clear HB; have BK337 := n0_; have HB := n1_; clear n0_ n1_; (try clear hb); (try clear hb2); (try clear hk); (try clear hi)))
  (try simp only [Act.put, List.setIfInBounds_toArray, List.set_cons_zero, List.set_cons_succ])
  go_cut [26] (fun v26 wc => ∃ (kq : Nat) (x26_4 : Bool), v26 = .bool x26_4 ∧ Aside0 (stipendlaw11_ElementValues.j0 kq t339 t340 100000000000 x26_4 a0_0 a0_1 a0_2 = some r) ∧ Aside0 (kq ≤ k) ∧ Aside0 (wc.heap[gb337]? = some (.cells #[.string a0_0, .int .i64 a0_1, .int .i64 a0_2] 48 (0, 0))) ∧ Aside0 (Below w.heap.size w wc))
  case first =>
   have H := HC5.out
   clear HC5
   by_cases c10 : a0_1 > 100000000000
   ·rw [if_pos c10] at H
    have c10b0 : decide (100000000000 < a0_1) = true := decide_eq_true c10
    clear c10
    (first | rw [c10b0] | (simp only [i64_w, i32_w]; rw [c10b0]) | skip)
    have H' := Aside0.mk H
    clear H
    have hcz11_0 : w9.cell? ⟨gb337, 0, none⟩ = some (.string a0_0) := (blk_cell BK337.out 0).trans rfl
    have hcz11_1 : w9.cell? ⟨gb337, 1, none⟩ = some (.int .i64 a0_1) := (blk_cell BK337.out 1).trans rfl
    have hcz11_2 : w9.cell? ⟨gb337, 2, none⟩ = some (.int .i64 a0_2) := (blk_cell BK337.out 2).trans rfl
    have hfz11_0 := blk_frozen BK337.out 0
    have hfz11_1 := blk_frozen BK337.out 1
    have hfz11_2 := blk_frozen BK337.out 2
    go_wp2
    go_meet
    case rel => exact ⟨_, (true), (by first | rfl | (simp; done) | (simp [*]; done)), H', ⟨by first | omega | exact Nat.le_refl _⟩, ⟨by (with_reducible repeat (first | refine blk_drewN ?_ _ | refine blk_drew ?_ | refine blk_alloc ?_ _)); exact BK337.out⟩, ⟨by repeat (first | (with_reducible first | exact HB.out | apply below_alloc | apply pw_below_drewN | apply below_drew1 | refine below_set ?_ GE337.out) | exact HB.out)⟩⟩
   ·rw [if_neg c10] at H
    have c10b0 : decide (100000000000 < a0_1) = false := decide_eq_false c10
    clear c10
    (first | rw [c10b0] | (simp only [i64_w, i32_w]; rw [c10b0]) | skip)
    have H' := Aside0.mk H
    clear H
    have hcz12_0 : w9.cell? ⟨gb337, 0, none⟩ = some (.string a0_0) := (blk_cell BK337.out 0).trans rfl
    have hcz12_1 : w9.cell? ⟨gb337, 1, none⟩ = some (.int .i64 a0_1) := (blk_cell BK337.out 1).trans rfl
    have hcz12_2 : w9.cell? ⟨gb337, 2, none⟩ = some (.int .i64 a0_2) := (blk_cell BK337.out 2).trans rfl
    have hfz12_0 := blk_frozen BK337.out 0
    have hfz12_1 := blk_frozen BK337.out 1
    have hfz12_2 := blk_frozen BK337.out 2
    go_wp2
    go_meet
    case rel => exact ⟨_, (decide (a0_1 < (-100000000000))), (by first | rfl | (simp; done) | (simp [*]; done)), H', ⟨by first | omega | exact Nat.le_refl _⟩, ⟨by (with_reducible repeat (first | refine blk_drewN ?_ _ | refine blk_drew ?_ | refine blk_alloc ?_ _)); exact BK337.out⟩, ⟨by repeat (first | (with_reducible first | exact HB.out | apply below_alloc | apply pw_below_drewN | apply below_drew1 | refine below_set ?_ GE337.out) | exact HB.out)⟩⟩
  case rest =>
   clear HC5
   try clear c1
   try clear p2
   try clear c3
   try clear c6
   try clear c10
   try clear c10b0
   try clear hcz11_0
   try clear hcz11_1
   try clear hcz11_2
   try clear hcz12_0
   try clear hcz12_1
   try clear hcz12_2
   try clear hcz8_0
   try clear hcz8_1
   try clear hcz8_2
   try clear hfz11_0
   try clear hfz11_1
   try clear hfz11_2
   try clear hfz12_0
   try clear hfz12_1
   try clear hfz12_2
   try clear hfz8_0
   try clear hfz8_1
   try clear hfz8_2
   obtain ⟨kq, x26_4, rfl, HA, HJ4, BK337, HB⟩ := hcut
   cases kq with
   | zero => exact absurd HA.out (by simp [stipendlaw11_ElementValues.j0])
   | succ kj4 =>
    have H := HA.out
    clear HA
    simp only [stipendlaw11_ElementValues.j0] at H
    (try rw [show wrap64 (-100000000000) = -100000000000 from by unfold wrap64; omega] at H)
    by_cases c13 : x26_4 = true
    ·subst c13
     have H1 : (if t340 = 10 then (some (t339 == 0)) else (some false)) = some r := by rw [if_pos rfl] at H; exact H
     clear H
     have H := H1
     clear H1
     by_cases c14 : t340 = 10
     ·rw [if_pos c14] at H
      have c14b0 : (t340 == 10) = true := beq_iff_eq.mpr c14
      have c14b1 : (t340 != 10) = false := bne_eq_false_iff_eq.mpr c14
      clear c14
      obtain rfl := Option.some.inj H
      go_wp2
      go_ret
      exact ⟨by first | rfl | (simp [errW_none, errW_some] <;> rfl) | (simp [*, errW_none, errW_some] <;> rfl), by repeat (first | (with_reducible first | exact HB.out | apply below_alloc | apply pw_below_drewN | apply below_drew1 | refine below_set ?_ GE337.out) | exact HB.out)⟩
     ·rw [if_neg c14] at H
      have c14b0 : (t340 == 10) = false := beq_eq_false_iff_ne.mpr c14
      have c14b1 : (t340 != 10) = true := bne_iff_ne.mpr c14
      obtain rfl := Option.some.inj H
      go_wp2
      go_ret
      exact ⟨by first | rfl | (simp [errW_none, errW_some] <;> rfl) | (simp [*, errW_none, errW_some] <;> rfl), by repeat (first | (with_reducible first | exact HB.out | apply below_alloc | apply pw_below_drewN | apply below_drew1 | refine below_set ?_ GE337.out) | exact HB.out)⟩
    ·replace c13 := Bool.eq_false_iff.mpr c13
     subst c13
     have H1 : (if a0_2 < 0 then (stipendlaw11_ElementValues.j1 kj4 t339 t340 100000000000 true a0_0 a0_1 a0_2) else (stipendlaw11_ElementValues.j1 kj4 t339 t340 100000000000 (decide (a0_2 > 100000)) a0_0 a0_1 a0_2)) = some r := by rw [if_neg (show ¬ (false = true) by decide)] at H; exact H
     clear H
     have H := H1
     clear H1
     have HC15 := Aside0.mk H
     clear H
     go_upto_region 7 with (fail)
     go_cut [40] (fun v40 wc => ∃ (kq : Nat) (x40_14 : Bool), v40 = .bool x40_14 ∧ Aside0 (stipendlaw11_ElementValues.j1 kq t339 t340 100000000000 x40_14 a0_0 a0_1 a0_2 = some r) ∧ Aside0 (kq ≤ kj4) ∧ Aside0 (wc.heap[gb337]? = some (.cells #[.string a0_0, .int .i64 a0_1, .int .i64 a0_2] 48 (0, 0))) ∧ Aside0 (Below w.heap.size w wc))
     case first =>
      have H := HC15.out
      clear HC15
      by_cases c16 : a0_2 < 0
      ·rw [if_pos c16] at H
       have c16b0 : decide (a0_2 < 0) = true := decide_eq_true c16
       clear c16
       (first | rw [c16b0] | (simp only [i64_w, i32_w]; rw [c16b0]) | skip)
       have H' := Aside0.mk H
       clear H
       have hcz17_0 : wc.cell? ⟨gb337, 0, none⟩ = some (.string a0_0) := (blk_cell BK337.out 0).trans rfl
       have hcz17_1 : wc.cell? ⟨gb337, 1, none⟩ = some (.int .i64 a0_1) := (blk_cell BK337.out 1).trans rfl
       have hcz17_2 : wc.cell? ⟨gb337, 2, none⟩ = some (.int .i64 a0_2) := (blk_cell BK337.out 2).trans rfl
       have hfz17_0 := blk_frozen BK337.out 0
       have hfz17_1 := blk_frozen BK337.out 1
       have hfz17_2 := blk_frozen BK337.out 2
       go_wp2
       go_meet
       case rel => exact ⟨_, (true), (by first | rfl | (simp; done) | (simp [*]; done)), H', ⟨by have := HJ4.out; first | omega | exact Nat.le_refl _⟩, ⟨by (with_reducible repeat (first | refine blk_drewN ?_ _ | refine blk_drew ?_ | refine blk_alloc ?_ _)); exact BK337.out⟩, ⟨by repeat (first | (with_reducible first | exact HB.out | apply below_alloc | apply pw_below_drewN | apply below_drew1 | refine below_set ?_ GE337.out) | exact HB.out)⟩⟩
      ·rw [if_neg c16] at H
       have c16b0 : decide (a0_2 < 0) = false := decide_eq_false c16
       clear c16
       (first | rw [c16b0] | (simp only [i64_w, i32_w]; rw [c16b0]) | skip)
       have H' := Aside0.mk H
       clear H
       have hcz18_0 : wc.cell? ⟨gb337, 0, none⟩ = some (.string a0_0) := (blk_cell BK337.out 0).trans rfl
       have hcz18_1 : wc.cell? ⟨gb337, 1, none⟩ = some (.int .i64 a0_1) := (blk_cell BK337.out 1).trans rfl
       have hcz18_2 : wc.cell? ⟨gb337, 2, none⟩ = some (.int .i64 a0_2) := (blk_cell BK337.out 2).trans rfl
       have hfz18_0 := blk_frozen BK337.out 0
       have hfz18_1 := blk_frozen BK337.out 1
       have hfz18_2 := blk_frozen BK337.out 2
       go_wp2
       go_meet
       case rel => exact ⟨_, (decide (a0_2 > 100000)), (by first | rfl | (simp; done) | (simp [*]; done)), H', ⟨by have := HJ4.out; first | omega | exact Nat.le_refl _⟩, ⟨by (with_reducible repeat (first | refine blk_drewN ?_ _ | refine blk_drew ?_ | refine blk_alloc ?_ _)); exact BK337.out⟩, ⟨by repeat (first | (with_reducible first | exact HB.out | apply below_alloc | apply pw_below_drewN | apply below_drew1 | refine below_set ?_ GE337.out) | exact HB.out)⟩⟩
     case rest =>
      clear HC15
      try clear c1
      try clear p2
      try clear c3
      try clear c6
      try clear c10
      try clear c10b0
      try clear c13
      try clear c14
      try clear c14b0
      try clear c14b1
      try clear c16
      try clear c16b0
      try clear hcz11_0
      try clear hcz11_1
      try clear hcz11_2
      try clear hcz12_0
      try clear hcz12_1
      try clear hcz12_2
      try clear hcz17_0
      try clear hcz17_1
      try clear hcz17_2
      try clear hcz18_0
      try clear hcz18_1
      try clear hcz18_2
      try clear hcz8_0
      try clear hcz8_1
      try clear hcz8_2
      try clear hfz11_0
      try clear hfz11_1
      try clear hfz11_2
      try clear hfz12_0
      try clear hfz12_1
      try clear hfz12_2
      try clear hfz17_0
      try clear hfz17_1
      try clear hfz17_2
      try clear hfz18_0
      try clear hfz18_1
      try clear hfz18_2
      try clear hfz8_0
      try clear hfz8_1
      try clear hfz8_2
      try clear p2
      obtain ⟨kq, x40_14, rfl, HA, HJ14, BK337, HB⟩ := hcut
      cases kq with
      | zero => exact absurd HA.out (by simp [stipendlaw11_ElementValues.j1])
      | succ kj14 =>
       have H := HA.out
       clear HA
       simp only [stipendlaw11_ElementValues.j1] at H
       (try rw [show wrap64 (-100000000000) = -100000000000 from by unfold wrap64; omega] at H)
       by_cases c19 : x40_14 = true
       ·subst c19
        have H1 : (if t340 = 1 then (some (t339 == 0)) else (some false)) = some r := by rw [if_pos rfl] at H; exact H
        clear H
        have H := H1
        clear H1
        by_cases c20 : t340 = 1
        ·rw [if_pos c20] at H
         have c20b0 : (t340 == 1) = true := beq_iff_eq.mpr c20
         have c20b1 : (t340 != 1) = false := bne_eq_false_iff_eq.mpr c20
         clear c20
         obtain rfl := Option.some.inj H
         go_wp2
         go_ret
         exact ⟨by first | rfl | (simp [errW_none, errW_some] <;> rfl) | (simp [*, errW_none, errW_some] <;> rfl), by repeat (first | (with_reducible first | exact HB.out | apply below_alloc | apply pw_below_drewN | apply below_drew1 | refine below_set ?_ GE337.out) | exact HB.out)⟩
        ·rw [if_neg c20] at H
         have c20b0 : (t340 == 1) = false := beq_eq_false_iff_ne.mpr c20
         have c20b1 : (t340 != 1) = true := bne_iff_ne.mpr c20
         obtain rfl := Option.some.inj H
         go_wp2
         go_ret
         exact ⟨by first | rfl | (simp [errW_none, errW_some] <;> rfl) | (simp [*, errW_none, errW_some] <;> rfl), by repeat (first | (with_reducible first | exact HB.out | apply below_alloc | apply pw_below_drewN | apply below_drew1 | refine below_set ?_ GE337.out) | exact HB.out)⟩
       ·replace c19 := Bool.eq_false_iff.mpr c19
        subst c19
        have H1 : ((frac_Round.f kj14 (wrap64 (a0_1 * a0_2)) 100 4).bind fun bt341 => (if bt341.1 > 100000000000 then (if t340 = 10 then (some (t339 == 0)) else (some false)) else (if bt341.1 < (-100000000000) then (if t340 = 10 then (some (t339 == 0)) else (some false)) else (if t340 = 0 then (if t339 = bt341.1 then (if (wrap64 (2 * (wrap64 ((wrap64 (100 * t339)) - (wrap64 (a0_1 * a0_2)))))) ≤ 100 then (some (decide ((wrap64 (2 * (wrap64 ((wrap64 (a0_1 * a0_2)) - (wrap64 (100 * t339)))))) ≤ 100))) else (some false)) else (some false)) else (some false))))) = some r := by rw [if_neg (show ¬ (false = true) by decide)] at H; exact H
        clear H
        have H := H1
        clear H1
        replace H := Option.bind_eq_some_iff.mp H
        obtain ⟨⟨t341, t342⟩, A210, H⟩ := H
        replace H : (if t341 > 100000000000 then (if t340 = 10 then (some (t339 == 0)) else (some false)) else (if t341 < (-100000000000) then (if t340 = 10 then (some (t339 == 0)) else (some false)) else (if t340 = 0 then (if t339 = t341 then (if (wrap64 (2 * (wrap64 ((wrap64 (100 * t339)) - (wrap64 (a0_1 * a0_2)))))) ≤ 100 then (some (decide ((wrap64 (2 * (wrap64 ((wrap64 (a0_1 * a0_2)) - (wrap64 (100 * t339)))))) ≤ 100))) else (some false)) else (some false)) else (some false)))) = some r := H
        have A21 := Aside0.mk A210
        clear A210
        by_cases c22 : t341 > 100000000000
        ·rw [if_pos c22] at H
         have c22b0 : decide (100000000000 < t341) = true := decide_eq_true c22
         clear c22
         by_cases c23 : t340 = 10
         ·rw [if_pos c23] at H
          have c23b0 : (t340 == 10) = true := beq_iff_eq.mpr c23
          have c23b1 : (t340 != 10) = false := bne_eq_false_iff_eq.mpr c23
          clear c23
          obtain rfl := Option.some.inj H
          have hcz24_0 : wc.cell? ⟨gb337, 0, none⟩ = some (.string a0_0) := (blk_cell BK337.out 0).trans rfl
          have hcz24_1 : wc.cell? ⟨gb337, 1, none⟩ = some (.int .i64 a0_1) := (blk_cell BK337.out 1).trans rfl
          have hcz24_2 : wc.cell? ⟨gb337, 2, none⟩ = some (.int .i64 a0_2) := (blk_cell BK337.out 2).trans rfl
          have hfz24_0 := blk_frozen BK337.out 0
          have hfz24_1 := blk_frozen BK337.out 1
          have hfz24_2 := blk_frozen BK337.out 2
          go_wp2_with (first | ((with_reducible refine gate_callee (f := 37) rfl ?_); refine goesL_ (some 54) rfl rfl Tryd.func37 (by kernel_rfl) rfl #[.int .i64 (wrap64 (a0_1 * a0_2)), .int .i64 100, .int .i64 4] rfl (by (try simp only [List.map_toArray, List.map_cons, List.map_nil]); first | done | rfl | (simp only [List.length_drop, List.length_take]; rfl)) ?_; (with_reducible refine (frac_Round.calls kj14 (wrap64 (a0_1 * a0_2)) 100 4 t341 t342 _ A21.out).mono ?_); rintro e w' ⟨rfl, ⟨nd, rfl⟩⟩; refine ⟨_, rfl, ?_⟩))
          go_ret
          exact ⟨by first | rfl | (simp [errW_none, errW_some] <;> rfl) | (simp [*, errW_none, errW_some] <;> rfl), by repeat (first | (with_reducible first | exact HB.out | apply below_alloc | apply pw_below_drewN | apply below_drew1 | refine below_set ?_ GE337.out) | exact HB.out)⟩
         ·rw [if_neg c23] at H
          have c23b0 : (t340 == 10) = false := beq_eq_false_iff_ne.mpr c23
          have c23b1 : (t340 != 10) = true := bne_iff_ne.mpr c23
          obtain rfl := Option.some.inj H
          have hcz25_0 : wc.cell? ⟨gb337, 0, none⟩ = some (.string a0_0) := (blk_cell BK337.out 0).trans rfl
          have hcz25_1 : wc.cell? ⟨gb337, 1, none⟩ = some (.int .i64 a0_1) := (blk_cell BK337.out 1).trans rfl
          have hcz25_2 : wc.cell? ⟨gb337, 2, none⟩ = some (.int .i64 a0_2) := (blk_cell BK337.out 2).trans rfl
          have hfz25_0 := blk_frozen BK337.out 0
          have hfz25_1 := blk_frozen BK337.out 1
          have hfz25_2 := blk_frozen BK337.out 2
          go_wp2_with (first | ((with_reducible refine gate_callee (f := 37) rfl ?_); refine goesL_ (some 54) rfl rfl Tryd.func37 (by kernel_rfl) rfl #[.int .i64 (wrap64 (a0_1 * a0_2)), .int .i64 100, .int .i64 4] rfl (by (try simp only [List.map_toArray, List.map_cons, List.map_nil]); first | done | rfl | (simp only [List.length_drop, List.length_take]; rfl)) ?_; (with_reducible refine (frac_Round.calls kj14 (wrap64 (a0_1 * a0_2)) 100 4 t341 t342 _ A21.out).mono ?_); rintro e w' ⟨rfl, ⟨nd, rfl⟩⟩; refine ⟨_, rfl, ?_⟩))
          go_ret
          exact ⟨by first | rfl | (simp [errW_none, errW_some] <;> rfl) | (simp [*, errW_none, errW_some] <;> rfl), by repeat (first | (with_reducible first | exact HB.out | apply below_alloc | apply pw_below_drewN | apply below_drew1 | refine below_set ?_ GE337.out) | exact HB.out)⟩
        ·rw [if_neg c22] at H
         have c22b0 : decide (100000000000 < t341) = false := decide_eq_false c22
         clear c22
         by_cases c26 : t341 < (-100000000000)
         ·rw [if_pos c26] at H
          have c26b0 : decide (t341 < (-100000000000)) = true := decide_eq_true c26
          clear c26
          by_cases c27 : t340 = 10
          ·rw [if_pos c27] at H
           have c27b0 : (t340 == 10) = true := beq_iff_eq.mpr c27
           have c27b1 : (t340 != 10) = false := bne_eq_false_iff_eq.mpr c27
           clear c27
           obtain rfl := Option.some.inj H
           have hcz28_0 : wc.cell? ⟨gb337, 0, none⟩ = some (.string a0_0) := (blk_cell BK337.out 0).trans rfl
           have hcz28_1 : wc.cell? ⟨gb337, 1, none⟩ = some (.int .i64 a0_1) := (blk_cell BK337.out 1).trans rfl
           have hcz28_2 : wc.cell? ⟨gb337, 2, none⟩ = some (.int .i64 a0_2) := (blk_cell BK337.out 2).trans rfl
           have hfz28_0 := blk_frozen BK337.out 0
           have hfz28_1 := blk_frozen BK337.out 1
           have hfz28_2 := blk_frozen BK337.out 2
           go_wp2_with (first | ((with_reducible refine gate_callee (f := 37) rfl ?_); refine goesL_ (some 54) rfl rfl Tryd.func37 (by kernel_rfl) rfl #[.int .i64 (wrap64 (a0_1 * a0_2)), .int .i64 100, .int .i64 4] rfl (by (try simp only [List.map_toArray, List.map_cons, List.map_nil]); first | done | rfl | (simp only [List.length_drop, List.length_take]; rfl)) ?_; (with_reducible refine (frac_Round.calls kj14 (wrap64 (a0_1 * a0_2)) 100 4 t341 t342 _ A21.out).mono ?_); rintro e w' ⟨rfl, ⟨nd, rfl⟩⟩; refine ⟨_, rfl, ?_⟩))
           go_ret
           exact ⟨by first | rfl | (simp [errW_none, errW_some] <;> rfl) | (simp [*, errW_none, errW_some] <;> rfl), by repeat (first | (with_reducible first | exact HB.out | apply below_alloc | apply pw_below_drewN | apply below_drew1 | refine below_set ?_ GE337.out) | exact HB.out)⟩
          ·rw [if_neg c27] at H
           have c27b0 : (t340 == 10) = false := beq_eq_false_iff_ne.mpr c27
           have c27b1 : (t340 != 10) = true := bne_iff_ne.mpr c27
           obtain rfl := Option.some.inj H
           have hcz29_0 : wc.cell? ⟨gb337, 0, none⟩ = some (.string a0_0) := (blk_cell BK337.out 0).trans rfl
           have hcz29_1 : wc.cell? ⟨gb337, 1, none⟩ = some (.int .i64 a0_1) := (blk_cell BK337.out 1).trans rfl
           have hcz29_2 : wc.cell? ⟨gb337, 2, none⟩ = some (.int .i64 a0_2) := (blk_cell BK337.out 2).trans rfl
           have hfz29_0 := blk_frozen BK337.out 0
           have hfz29_1 := blk_frozen BK337.out 1
           have hfz29_2 := blk_frozen BK337.out 2
           go_wp2_with (first | ((with_reducible refine gate_callee (f := 37) rfl ?_); refine goesL_ (some 54) rfl rfl Tryd.func37 (by kernel_rfl) rfl #[.int .i64 (wrap64 (a0_1 * a0_2)), .int .i64 100, .int .i64 4] rfl (by (try simp only [List.map_toArray, List.map_cons, List.map_nil]); first | done | rfl | (simp only [List.length_drop, List.length_take]; rfl)) ?_; (with_reducible refine (frac_Round.calls kj14 (wrap64 (a0_1 * a0_2)) 100 4 t341 t342 _ A21.out).mono ?_); rintro e w' ⟨rfl, ⟨nd, rfl⟩⟩; refine ⟨_, rfl, ?_⟩))
           go_ret
           exact ⟨by first | rfl | (simp [errW_none, errW_some] <;> rfl) | (simp [*, errW_none, errW_some] <;> rfl), by repeat (first | (with_reducible first | exact HB.out | apply below_alloc | apply pw_below_drewN | apply below_drew1 | refine below_set ?_ GE337.out) | exact HB.out)⟩
         ·rw [if_neg c26] at H
          have c26b0 : decide (t341 < (-100000000000)) = false := decide_eq_false c26
          clear c26
          by_cases c30 : t340 = 0
          ·rw [if_pos c30] at H
           have c30b0 : (t340 == 0) = true := beq_iff_eq.mpr c30
           have c30b1 : (t340 != 0) = false := bne_eq_false_iff_eq.mpr c30
           clear c30
           by_cases c31 : t339 = t341
           ·rw [if_pos c31] at H
            have c31b0 : (t339 == t341) = true := beq_iff_eq.mpr c31
            have c31b1 : (t339 != t341) = false := bne_eq_false_iff_eq.mpr c31
            clear c31
            by_cases c32 : (wrap64 (2 * (wrap64 ((wrap64 (100 * t339)) - (wrap64 (a0_1 * a0_2)))))) ≤ 100
            ·rw [if_pos c32] at H
             have c32b0 : decide ((wrap64 (2 * (wrap64 ((wrap64 (100 * t339)) - (wrap64 (a0_1 * a0_2)))))) ≤ 100) = true := decide_eq_true c32
             clear c32
             obtain rfl := Option.some.inj H
             have hcz33_0 : wc.cell? ⟨gb337, 0, none⟩ = some (.string a0_0) := (blk_cell BK337.out 0).trans rfl
             have hcz33_1 : wc.cell? ⟨gb337, 1, none⟩ = some (.int .i64 a0_1) := (blk_cell BK337.out 1).trans rfl
             have hcz33_2 : wc.cell? ⟨gb337, 2, none⟩ = some (.int .i64 a0_2) := (blk_cell BK337.out 2).trans rfl
             have hfz33_0 := blk_frozen BK337.out 0
             have hfz33_1 := blk_frozen BK337.out 1
             have hfz33_2 := blk_frozen BK337.out 2
             go_wp2_with (first | ((with_reducible refine gate_callee (f := 37) rfl ?_); refine goesL_ (some 54) rfl rfl Tryd.func37 (by kernel_rfl) rfl #[.int .i64 (wrap64 (a0_1 * a0_2)), .int .i64 100, .int .i64 4] rfl (by (try simp only [List.map_toArray, List.map_cons, List.map_nil]); first | done | rfl | (simp only [List.length_drop, List.length_take]; rfl)) ?_; (with_reducible refine (frac_Round.calls kj14 (wrap64 (a0_1 * a0_2)) 100 4 t341 t342 _ A21.out).mono ?_); rintro e w' ⟨rfl, ⟨nd, rfl⟩⟩; refine ⟨_, rfl, ?_⟩))
             go_ret
             exact ⟨by first | rfl | (simp [errW_none, errW_some] <;> rfl) | (simp [*, errW_none, errW_some] <;> rfl), by repeat (first | (with_reducible first | exact HB.out | apply below_alloc | apply pw_below_drewN | apply below_drew1 | refine below_set ?_ GE337.out) | exact HB.out)⟩
            ·rw [if_neg c32] at H
             have c32b0 : decide ((wrap64 (2 * (wrap64 ((wrap64 (100 * t339)) - (wrap64 (a0_1 * a0_2)))))) ≤ 100) = false := decide_eq_false c32
             clear c32
             obtain rfl := Option.some.inj H
             have hcz34_0 : wc.cell? ⟨gb337, 0, none⟩ = some (.string a0_0) := (blk_cell BK337.out 0).trans rfl
             have hcz34_1 : wc.cell? ⟨gb337, 1, none⟩ = some (.int .i64 a0_1) := (blk_cell BK337.out 1).trans rfl
             have hcz34_2 : wc.cell? ⟨gb337, 2, none⟩ = some (.int .i64 a0_2) := (blk_cell BK337.out 2).trans rfl
             have hfz34_0 := blk_frozen BK337.out 0
             have hfz34_1 := blk_frozen BK337.out 1
             have hfz34_2 := blk_frozen BK337.out 2
             go_wp2_with (first | ((with_reducible refine gate_callee (f := 37) rfl ?_); refine goesL_ (some 54) rfl rfl Tryd.func37 (by kernel_rfl) rfl #[.int .i64 (wrap64 (a0_1 * a0_2)), .int .i64 100, .int .i64 4] rfl (by (try simp only [List.map_toArray, List.map_cons, List.map_nil]); first | done | rfl | (simp only [List.length_drop, List.length_take]; rfl)) ?_; (with_reducible refine (frac_Round.calls kj14 (wrap64 (a0_1 * a0_2)) 100 4 t341 t342 _ A21.out).mono ?_); rintro e w' ⟨rfl, ⟨nd, rfl⟩⟩; refine ⟨_, rfl, ?_⟩))
             go_ret
             exact ⟨by first | rfl | (simp [errW_none, errW_some] <;> rfl) | (simp [*, errW_none, errW_some] <;> rfl), by repeat (first | (with_reducible first | exact HB.out | apply below_alloc | apply pw_below_drewN | apply below_drew1 | refine below_set ?_ GE337.out) | exact HB.out)⟩
           ·rw [if_neg c31] at H
            have c31b0 : (t339 == t341) = false := beq_eq_false_iff_ne.mpr c31
            have c31b1 : (t339 != t341) = true := bne_iff_ne.mpr c31
            obtain rfl := Option.some.inj H
            have hcz35_0 : wc.cell? ⟨gb337, 0, none⟩ = some (.string a0_0) := (blk_cell BK337.out 0).trans rfl
            have hcz35_1 : wc.cell? ⟨gb337, 1, none⟩ = some (.int .i64 a0_1) := (blk_cell BK337.out 1).trans rfl
            have hcz35_2 : wc.cell? ⟨gb337, 2, none⟩ = some (.int .i64 a0_2) := (blk_cell BK337.out 2).trans rfl
            have hfz35_0 := blk_frozen BK337.out 0
            have hfz35_1 := blk_frozen BK337.out 1
            have hfz35_2 := blk_frozen BK337.out 2
            go_wp2_with (first | ((with_reducible refine gate_callee (f := 37) rfl ?_); refine goesL_ (some 54) rfl rfl Tryd.func37 (by kernel_rfl) rfl #[.int .i64 (wrap64 (a0_1 * a0_2)), .int .i64 100, .int .i64 4] rfl (by (try simp only [List.map_toArray, List.map_cons, List.map_nil]); first | done | rfl | (simp only [List.length_drop, List.length_take]; rfl)) ?_; (with_reducible refine (frac_Round.calls kj14 (wrap64 (a0_1 * a0_2)) 100 4 t341 t342 _ A21.out).mono ?_); rintro e w' ⟨rfl, ⟨nd, rfl⟩⟩; refine ⟨_, rfl, ?_⟩))
            go_ret
            exact ⟨by first | rfl | (simp [errW_none, errW_some] <;> rfl) | (simp [*, errW_none, errW_some] <;> rfl), by repeat (first | (with_reducible first | exact HB.out | apply below_alloc | apply pw_below_drewN | apply below_drew1 | refine below_set ?_ GE337.out) | exact HB.out)⟩
          ·rw [if_neg c30] at H
           have c30b0 : (t340 == 0) = false := beq_eq_false_iff_ne.mpr c30
           have c30b1 : (t340 != 0) = true := bne_iff_ne.mpr c30
           obtain rfl := Option.some.inj H
           have hcz36_0 : wc.cell? ⟨gb337, 0, none⟩ = some (.string a0_0) := (blk_cell BK337.out 0).trans rfl
           have hcz36_1 : wc.cell? ⟨gb337, 1, none⟩ = some (.int .i64 a0_1) := (blk_cell BK337.out 1).trans rfl
           have hcz36_2 : wc.cell? ⟨gb337, 2, none⟩ = some (.int .i64 a0_2) := (blk_cell BK337.out 2).trans rfl
           have hfz36_0 := blk_frozen BK337.out 0
           have hfz36_1 := blk_frozen BK337.out 1
           have hfz36_2 := blk_frozen BK337.out 2
           go_wp2_with (first | ((with_reducible refine gate_callee (f := 37) rfl ?_); refine goesL_ (some 54) rfl rfl Tryd.func37 (by kernel_rfl) rfl #[.int .i64 (wrap64 (a0_1 * a0_2)), .int .i64 100, .int .i64 4] rfl (by (try simp only [List.map_toArray, List.map_cons, List.map_nil]); first | done | rfl | (simp only [List.length_drop, List.length_take]; rfl)) ?_; (with_reducible refine (frac_Round.calls kj14 (wrap64 (a0_1 * a0_2)) 100 4 t341 t342 _ A21.out).mono ?_); rintro e w' ⟨rfl, ⟨nd, rfl⟩⟩; refine ⟨_, rfl, ?_⟩))
           go_ret
           exact ⟨by first | rfl | (simp [errW_none, errW_some] <;> rfl) | (simp [*, errW_none, errW_some] <;> rfl), by repeat (first | (with_reducible first | exact HB.out | apply below_alloc | apply pw_below_drewN | apply below_drew1 | refine below_set ?_ GE337.out) | exact HB.out)⟩
 ·replace c3 := Bool.eq_false_iff.mpr c3
  subst c3
  have H1 : (some false) = some r := by rw [if_neg (show ¬ (false = true) by decide)] at H; exact H
  clear H
  have H := H1
  clear H1
  obtain rfl := Option.some.inj H
  go_enter Tryd.func6, Tryd.ntmps6
  go_wp2_with (first | ((with_reducible refine gate_dst (N := 1) rfl ?_); refine box_event ?hg (N := 1) ?hd (cs := #[.string a0_0, .int .i64 a0_1, .int .i64 a0_2]) (t := 48) ?hr ?_; (case hd => rfl); (case hg => rfl); (case hr => first | (go_simp; done) | (go_simp; rfl)); intro gb337 hg w37 hbox hb; have n0_ := Aside0.mk (below_step (by repeat (first | (with_reducible first | exact HB.out | apply below_alloc | apply pw_below_drewN | apply below_drew1) | exact HB.out)) hb); have n1_ := Aside0.mk (hbox); have n2_ := Aside0.mk ((by rw [hg]; exact (below_size (by repeat (first | (with_reducible first | exact HB.out | apply below_alloc | apply pw_below_drewN | apply below_drew1) | exact HB.out))) : w.heap.size ≤ gb337)); have n3_ := Aside0.mk ((by rw [hg]; exact (below_size (by repeat (first | (with_reducible first | exact HB.out | apply below_alloc | apply pw_below_drewN | apply below_drew1) | exact HB.out))) : w.heap.size ≤ gb337)); clear HB; have HB := n0_; have BK337 := n1_; have GW337 := n2_; have GE337 := n3_; clear n0_ n1_ n2_ n3_; clear hb hbox hg) | ((with_reducible refine gate_callee (f := 35) rfl ?_); refine goesL_ (some 9) rfl rfl Tryd.func35 (by kernel_rfl) rfl #[] rfl (by (try simp only [List.map_toArray, List.map_cons, List.map_nil]); first | done | rfl | (simp only [List.length_drop, List.length_take]; rfl)) ?_; (with_reducible refine (stipendlaw11_worths.calls  false _ A2.out).mono ?_); rintro e w38 ⟨rfl, hb⟩; refine ⟨_, rfl, ?_⟩; have n0_ := Aside0.mk (blk_below (g := gb337) (o := .cells #[.string a0_0, .int .i64 a0_1, .int .i64 a0_2] 48 (0, 0)) (by (with_reducible repeat (first | refine blk_drewN ?_ _ | refine blk_drew ?_ | refine blk_alloc ?_ _)); exact BK337.out) hb); have n1_ := Aside0.mk (below_step (by repeat (first | (with_reducible first | exact HB.out | apply below_alloc | apply pw_below_drewN | apply below_drew1 | refine below_set ?_ GE337.out) | exact HB.out)) hb); clear BK337; clear HB; have BK337 := n0_; have HB := n1_; clear n0_ n1_; (try clear hb); (try clear hb2); (try clear hk); (try clear hi)))
  go_ret
  exact ⟨by first | rfl | (simp [errW_none, errW_some] <;> rfl) | (simp [*, errW_none, errW_some] <;> rfl), by repeat (first | (with_reducible first | exact HB.out | apply below_alloc | apply pw_below_drewN | apply below_drew1 | refine below_set ?_ GE337.out) | exact HB.out)⟩

end Go.Proofs.YtmocphafkimdpaaDoor.P


/- ElementValues answers true for every element: the plain law. -/
namespace Go.Proofs.YtmocphafkimdpaaDoor.P
open Go.RowKit Go.Proofs.YtmocphafkimdpaaDoorW.PrintWords Go.Proofs.YtmocphafkimdpaaDoorW.PrintLast Go.Proofs.YtmocphafkimdpaaDoorW.PrintMore

theorem floor_f (n : Int) (h0 : -100000000000000000 ≤ n) (h1 : n ≤ 100000000000000000) : frac_floor.f n 100 = some (n / 100, n % 100) := by
  unfold frac_floor.f
  rw [if_neg (by decide)]
  by_cases hs : 0 ≤ n
  · rw [Int.tdiv_eq_ediv_of_nonneg hs, Int.tmod_eq_emod_of_nonneg hs, if_neg (by omega), w64 (by omega) (by omega)]
  · obtain ⟨m, rfl⟩ : ∃ m : Int, n = -m := ⟨-n, by omega⟩
    have hm : 0 ≤ m := by omega
    rw [Int.neg_tdiv, Int.neg_tmod, Int.tdiv_eq_ediv_of_nonneg hm, Int.tmod_eq_emod_of_nonneg hm]
    by_cases c : m % 100 = 0
    · rw [if_neg (by omega), w64 (by omega) (by omega)]
      congr 2 <;> omega
    · rw [if_pos (by omega), w64 (x := -(m / 100)) (by omega) (by omega), w64 (by omega) (by omega), w64 (by omega) (by omega)]
      congr 2 <;> omega

theorem round_ev (n : Int) (h0 : -100000000000000000 ≤ n) (h1 : n ≤ 100000000000000000) : ∃ r, Ev (fun k => frac_Round.f k n 100 4) (r, 0) ∧ -50 ≤ 100 * r - n ∧ 100 * r - n ≤ 50 := by
  have go : ∀ r : Int, Ev (fun k => (frac_floor.f n 100).bind fun bt265 => (if bt265.2 > 0 then ((frac_nearer.f bt265.1 bt265.2 100 4).bind fun t267 => (if t267 = true then (some (wrap64 (bt265.1 + 1), (0 : Int))) else (some (bt265.1, 0)))) else (some (bt265.1, 0)))) (r, 0) → Ev (fun k => frac_Round.f k n 100 4) (r, 0) := by
    intro r h
    unfold frac_Round.f
    refine Ev.neg (by decide) (Ev.bindc (a := true) (by unfold frac_Mode.f; rfl) ?_)
    refine Ev.shift (fun k => by rw [frac_Round.j0]) ?_
    exact Ev.neg (by decide) h
  rw [floor_f n h0 h1] at go
  by_cases c : n % 100 > 0
  · have e : frac_nearer.f (n / 100) (n % 100) 100 4 = some (if n % 100 = 50 then decide (n / 100 ≥ 0) else decide (n % 100 > 50)) := by
      unfold frac_nearer.f
      rw [if_neg (by decide), if_neg (by decide), if_neg (by decide), w64 (x := 100 - n % 100) (by omega) (by omega)]
      by_cases d : n % 100 = 50
      · rw [if_pos (by omega), if_pos rfl, if_pos d]
      · rw [if_neg (by omega), if_neg d]
        congr 1
        simp only [decide_eq_decide]
        omega
    by_cases t : (if n % 100 = 50 then decide (n / 100 ≥ 0) else decide (n % 100 > 50)) = true
    · refine ⟨n / 100 + 1, go _ ?_, ?_, ?_⟩
      · refine Ev.bindc rfl (Ev.pos c (Ev.bindc e (Ev.pos t ?_)))
        rw [w64 (by omega) (by omega)]
        exact Ev.now
      · omega
      · split at t <;> simp at t <;> omega
    · refine ⟨n / 100, go _ ?_, ?_, ?_⟩
      · exact Ev.bindc rfl (Ev.pos c (Ev.bindc e (Ev.neg t Ev.now)))
      · split at t <;> simp at t <;> omega
      · omega
  · exact ⟨n / 100, go _ (Ev.bindc rfl (Ev.neg c Ev.now)), by omega, by omega⟩

/-- What an element is worth. -/
def worthOf (x u r : Int) : Int × Int := if okAmt x = true then (if u < 0 ∨ 100000 < u then (0, 1) else if okAmt r = true then (r, 0) else (0, 10)) else (0, 10)
theorem prod_le (x u : Int) (hx : okAmt x = true) (h0 : 0 ≤ u) (h1 : u ≤ 100000) : -10000000000000000 ≤ x * u ∧ x * u ≤ 10000000000000000 := by
  obtain ⟨a, b⟩ := (okAmt_iff x).1 hx
  constructor
  · have h := Int.mul_le_mul_of_nonneg_right a h0
    have h2 : -100000000000 * 100000 ≤ -100000000000 * u := Int.mul_le_mul_of_nonpos_left (by decide) h1
    omega
  · have h := Int.mul_le_mul_of_nonneg_right b h0
    omega
theorem value_ev (s : ByteArray) (x u : Int) : ∃ r, Ev (fun k => element_Value.f k s x u) (worthOf x u r) ∧
    (okAmt x = true → 0 ≤ u → u ≤ 100000 → Ev (fun k => frac_Round.f k (x * u) 100 4) (r, 0) ∧ -50 ≤ 100 * r - x * u ∧ 100 * r - x * u ≤ 50) := by
  by_cases cx : okAmt x = true
  · by_cases cu : u < 0 ∨ 100000 < u
    · refine ⟨0, ?_, fun _ _ _ => by omega⟩
      unfold element_Value.f worthOf
      rw [if_pos cx, if_pos cu]
      refine Ev.bind (mright_ev [x] (by simp)) (Ev.pos (by simp [cx]) ?_)
      have hj : Ev (fun k => element_Value.j0 k true s x u) (0, 1) := by
        refine Ev.shift (fun k => by rw [element_Value.j0]) ?_
        exact Ev.pos rfl Ev.now
      by_cases c : u < 0
      · exact Ev.pos c hj
      · refine Ev.neg c ?_
        rw [decide_eq_true (show u > 100000 by omega)]
        exact hj
    · obtain ⟨hp0, hp1⟩ := prod_le x u cx (by omega) (by omega)
      obtain ⟨r, hr, hb0, hb1⟩ := round_ev (x * u) (by omega) (by omega)
      refine ⟨r, ?_, fun _ _ _ => ⟨hr, hb0, hb1⟩⟩
      unfold element_Value.f worthOf
      rw [if_pos cx, if_neg cu]
      refine Ev.bind (mright_ev [x] (by simp)) (Ev.pos (by simp [cx]) (Ev.neg (by omega) ?_))
      rw [decide_eq_false (show ¬u > 100000 by omega)]
      refine Ev.shift (fun k => by rw [element_Value.j0]) ?_
      refine Ev.neg (by decide) ?_
      rw [w64 (x := x * u) (by omega) (by omega)]
      refine Ev.bind hr (Ev.pos rfl (Ev.bind (mright_ev [r] (by simp)) ?_))
      by_cases cr : okAmt r = true
      · rw [if_pos cr]
        exact Ev.pos (by simp [cr]) Ev.now
      · rw [if_neg cr]
        exact Ev.neg (by simp [cr]) Ev.now
  · refine ⟨0, ?_, fun h => absurd h cx⟩
    unfold element_Value.f worthOf
    rw [if_neg cx]
    exact Ev.bind (mright_ev [x] (by simp)) (Ev.neg (by simp [cx]) Ev.now)

theorem elementValues_true (s : ByteArray) (x u : Int) (_g : ok48 ⟨s, x, u⟩) : ∃ k, stipendlaw11_ElementValues.f k s x u = some true := by
  apply Ev.get
  unfold stipendlaw11_ElementValues.f
  refine Ev.bindc (a := true) rfl (Ev.pos rfl ?_)
  obtain ⟨r, hv, hr⟩ := value_ev s x u
  refine Ev.bind hv ?_
  by_cases cx : okAmt x = true
  · have cx' := (okAmt_iff x).1 cx
    refine Ev.neg (by omega) ?_
    rw [decide_eq_false (show ¬x < -100000000000 by omega)]
    refine Ev.shift (fun k => by rw [stipendlaw11_ElementValues.j0]) ?_
    refine Ev.neg (by decide) ?_
    by_cases cu : u < 0 ∨ 100000 < u
    · have e : worthOf x u r = (0, 1) := by unfold worthOf; rw [if_pos cx, if_pos cu]
      rw [e]
      have hj : Ev (fun k => stipendlaw11_ElementValues.j1 k 0 1 100000000000 true s x u) true := by
        refine Ev.shift (fun k => by rw [stipendlaw11_ElementValues.j1]) ?_
        exact Ev.pos rfl (Ev.pos rfl (Ev.const rfl))
      by_cases c : u < 0
      · exact Ev.pos c hj
      · refine Ev.neg c ?_
        rw [decide_eq_true (show u > 100000 by omega)]
        exact hj
    · obtain ⟨hr, hb0, hb1⟩ := hr cx (by omega) (by omega)
      obtain ⟨hp0, hp1⟩ := prod_le x u cx (by omega) (by omega)
      refine Ev.neg (by omega) ?_
      rw [decide_eq_false (show ¬u > 100000 by omega)]
      refine Ev.shift (fun k => by rw [stipendlaw11_ElementValues.j1]) ?_
      refine Ev.neg (by decide) ?_
      rw [w64 (x := x * u) (by omega) (by omega)]
      refine Ev.bind hr ?_
      rw [show wrap64 (-100000000000) = -100000000000 from w64 (by decide) (by decide)]
      by_cases cr : okAmt r = true
      · have e : worthOf x u r = (r, 0) := by unfold worthOf; rw [if_pos cx, if_neg cu, if_pos cr]
        have cr' := (okAmt_iff r).1 cr
        rw [e]
        refine Ev.neg (by omega) (Ev.neg (by omega) (Ev.pos rfl (Ev.pos rfl ?_)))
        generalize x * u = p at hp0 hp1 hb0 hb1 ⊢
        rw [w64 (x := 100 * r) (by omega) (by omega), w64 (x := 100 * r - p) (by omega) (by omega), w64 (x := p - 100 * r) (by omega) (by omega), w64 (x := 2 * (100 * r - p)) (by omega) (by omega), w64 (x := 2 * (p - 100 * r)) (by omega) (by omega)]
        exact Ev.pos (by omega) (Ev.const (by rw [decide_eq_true (by omega)]))
      · have e : worthOf x u r = (0, 10) := by unfold worthOf; rw [if_pos cx, if_neg cu, if_neg cr]
        have cr' : ¬(-100000000000 ≤ r ∧ r ≤ 100000000000) := fun h => cr ((okAmt_iff r).2 h)
        rw [e]
        by_cases c : r > 100000000000
        · exact Ev.pos c (Ev.pos rfl (Ev.const rfl))
        · exact Ev.neg c (Ev.pos (by omega) (Ev.pos rfl (Ev.const rfl)))
  · have cx' : ¬(-100000000000 ≤ x ∧ x ≤ 100000000000) := fun h => cx ((okAmt_iff x).2 h)
    have e : worthOf x u r = (0, 10) := by unfold worthOf; rw [if_neg cx]
    rw [e]
    have hj : Ev (fun k => stipendlaw11_ElementValues.j0 k 0 10 100000000000 true s x u) true := by
      refine Ev.shift (fun k => by rw [stipendlaw11_ElementValues.j0]) ?_
      exact Ev.pos rfl (Ev.pos rfl (Ev.const rfl))
    by_cases c : x > 100000000000
    · exact Ev.pos c hj
    · refine Ev.neg c ?_
      rw [decide_eq_true (show x < -100000000000 by omega)]
      exact hj
end Go.Proofs.YtmocphafkimdpaaDoor.P


/- strings.Fields at words of small bytes: the library's contract, laid at this program. -/
namespace Go.Proofs
open Go.Shelf
def Tryd.lays157_ren : Go.Shelf.Ren := ⟨fun | 157 => 72 | 199 => 100 | 229 => 99 | 261 => 110 | 311 => 121 | 312 => 122 | n => n, fun | 0 => 0 | 3 => 3 | 4 => 4 | 5 => 5 | 9 => 9 | 21 => 21 | 31 => 65 | 40 => 149 | 46 => 158 | 49 => 185 | 51 => 168 | 119 => 147 | 141 => 170 | 152 => 165 | 154 => 167 | 193 => 181 | 194 => 182 | 196 => 184 | 198 => 187 | 201 => 190 | 226 => 201 | 227 => 202 | n => n, fun | 0 => 1 | 6 => 4 | n => n⟩
theorem Tryd.lays157 : Go.Proofs.Lays.n157 Tryd.prog Tryd.lays157_ren := {
  mixed := by kernel_rfl
  f157 := Tryd.func72.trans (congrArg some (by kernel_rfl))
  f199 := Tryd.func100.trans (congrArg some (by kernel_rfl))
  f229 := Tryd.func99.trans (congrArg some (by kernel_rfl))
  f261 := Tryd.func110.trans (congrArg some (by kernel_rfl))
  f311 := Tryd.func121.trans (congrArg some (by kernel_rfl))
  f312 := Tryd.func122.trans (congrArg some (by kernel_rfl))
  t0 := Tryd.underlying0
  a0 := Tryd.isAgg0
  z0 := Tryd.sizeOf0
  v0 := Tryd.zeroValue0
  t3 := Tryd.underlying3
  a3 := Tryd.isAgg3
  z3 := Tryd.sizeOf3
  v3 := Tryd.zeroValue3
  t4 := Tryd.underlying4
  a4 := Tryd.isAgg4
  z4 := Tryd.sizeOf4
  v4 := Tryd.zeroValue4
  t5 := Tryd.underlying5
  a5 := Tryd.isAgg5
  z5 := Tryd.sizeOf5
  v5 := Tryd.zeroValue5
  t9 := Tryd.underlying9
  a9 := Tryd.isAgg9
  z9 := Tryd.sizeOf9
  v9 := Tryd.zeroValue9
  t21 := Tryd.underlying21
  a21 := Tryd.isAgg21
  z21 := Tryd.sizeOf21
  v21 := Tryd.zeroValue21
  t31 := Tryd.underlying65
  a31 := Tryd.isAgg65
  z31 := Tryd.sizeOf65
  v31 := Tryd.zeroValue65
  t40 := Tryd.underlying149
  a40 := Tryd.isAgg149
  z40 := Tryd.sizeOf149
  v40 := Tryd.zeroValue149
  t46 := Tryd.underlying158
  a46 := Tryd.isAgg158
  z46 := Tryd.sizeOf158
  v46 := Tryd.zeroValue158
  t49 := Tryd.underlying185
  a49 := Tryd.isAgg185
  z49 := Tryd.sizeOf185
  v49 := Tryd.zeroValue185
  t51 := Tryd.underlying168
  a51 := Tryd.isAgg168
  z51 := Tryd.sizeOf168
  v51 := Tryd.zeroValue168
  t119 := Tryd.underlying147
  a119 := Tryd.isAgg147
  z119 := Tryd.sizeOf147
  t141 := Tryd.underlying170
  a141 := Tryd.isAgg170
  z141 := Tryd.sizeOf170
  v141 := Tryd.zeroValue170
  t152 := Tryd.underlying165
  a152 := Tryd.isAgg165
  z152 := Tryd.sizeOf165
  v152 := Tryd.zeroValue165
  t154 := Tryd.underlying167
  a154 := Tryd.isAgg167
  z154 := Tryd.sizeOf167
  v154 := Tryd.zeroValue167
  t193 := Tryd.underlying181
  a193 := Tryd.isAgg181
  z193 := Tryd.sizeOf181
  v193 := Tryd.zeroValue181
  t194 := Tryd.underlying182
  a194 := Tryd.isAgg182
  z194 := Tryd.sizeOf182
  v194 := Tryd.zeroValue182
  t196 := Tryd.underlying184
  a196 := Tryd.isAgg184
  z196 := Tryd.sizeOf184
  v196 := Tryd.zeroValue184
  t198 := Tryd.underlying187
  a198 := Tryd.isAgg187
  z198 := Tryd.sizeOf187
  v198 := Tryd.zeroValue187
  t201 := Tryd.underlying190
  a201 := Tryd.isAgg190
  z201 := Tryd.sizeOf190
  v201 := Tryd.zeroValue190
  t226 := Tryd.underlying201
  a226 := Tryd.isAgg201
  z226 := Tryd.sizeOf201
  v226 := Tryd.zeroValue201
  t227 := Tryd.underlying202
  a227 := Tryd.isAgg202
  z227 := Tryd.sizeOf202
  v227 := Tryd.zeroValue202
  g0 := by kernel_rfl
  g6 := by kernel_rfl }
end Go.Proofs
namespace Go.Proofs.YtmocphafkimdpaaDoor.P
open Go.RowKit Go.Proofs.YtmocphafkimdpaaDoorW.PrintWords Go.Proofs.YtmocphafkimdpaaDoorW.PrintLast Go.Proofs.YtmocphafkimdpaaDoorW.PrintMore

/-- The table that strings.Fields reads. -/
def GSpT (w : World) : Prop := Lib.TabIs Tryd.prog w "strings.asciiSpace" .u8 Lib.asciiSpaceTab
theorem GSpT.below {w W : World} (h : GSpT w) (hb : Below w.heap.size w W) : GSpT W := by
  have hg : Tryd.prog.globalNamed "strings.asciiSpace" = some 1 := by kernel_rfl
  exact var?_below hb hg (var_lt hg h) h

theorem cntF_le2 : ∀ (l : List UInt8) (ws : Bool), Lib.cntF ws l ≤ l.length
  | [], _ => by simp [Lib.cntF]
  | b :: t, ws => by
    have h1 := cntF_le2 t (Lib.isSp b)
    simp only [Lib.cntF, List.length_cons]
    split <;> omega
def strings_Fields.f (a0 : ByteArray) : Option (List ByteArray) := if a0.size < 4294967281 ∧ (a0.data.toList.all fun b => decide (b.toNat < 128)) = true then some ((Lib.fields a0.data.toList).map fun l => ⟨l.toArray⟩) else none
theorem info9f : (Tryd.prog.info? 9).map (fun i => (i.zero, i.size, i.bytes)) = some (some (.string ByteArray.empty), 1, 16) := by kernel_rfl
theorem strings_Fields.calls (a0 : ByteArray) (r : List ByteArray) (w : World) (h : strings_Fields.f a0 = some r) (hS : GSpT w := by first | exact GSpT.below HS.out (by repeat (first | (with_reducible first | exact HB.out | apply below_alloc | apply pw_below_drewN | apply below_drew1 | apply below_drew) | exact HB.out)) | exact HS.out) :
    Calls Tryd.prog 72 #[.string a0] w fun e w' => ∃ v0_ : Value, e = .returned (v0_) ∧ Kd.R Kd.string 9 w' w.heap.size (fun _ => True) v0_ r ∧ Below w.heap.size w w' := by
  unfold strings_Fields.f at h
  split at h
  · rename_i hc
    obtain ⟨h1, h2⟩ := hc
    obtain rfl := Option.some.inj h
    refine (Any.strings_Fields Tryd.lays157 info9f (by kernel_rfl) a0 w h1 (fun j b hj => by
      have := List.all_eq_true.1 h2 b (List.mem_of_getElem? hj)
      simpa using this) hS).mono ?_
    rintro e w' ⟨rfl, rfl⟩
    refine ⟨_, rfl, ?_, below_alloc (Below.refl _ _) _⟩
    generalize hF : Lib.fields a0.data.toList = F
    have hlen : F.length ≤ 4294967281 := by
      rw [← hF]
      rw [Lib.fields_length]
      have := cntF_le2 a0.data.toList true
      rw [data_length] at this
      omega
    refine Kd.R_of_own ⟨by simp [encs], .inr ⟨w.heap.size, F.length, (F.map fun l => Value.string ⟨l.toArray⟩).toArray, by simp, Nat.le_refl _, heap_alloc_new w _, by simp, by unfold maxLen; omega, by simp, ?_⟩⟩ (fun _ _ => trivial)
    simp only [encs, List.map_map, Function.comp_def]
    exact List.take_of_length_le (by simp)
  · cases h
end Go.Proofs.YtmocphafkimdpaaDoor.P


-- written by a program (a patched copy of the kit's print: wip/mkprint.py); Lean checks it
namespace Go.Proofs.YtmocphafkimdpaaDoor.P
open Go.RowKit Go.Proofs.YtmocphafkimdpaaDoorW.PrintWords Go.Proofs.YtmocphafkimdpaaDoorW.PrintLast Go.Proofs.YtmocphafkimdpaaDoorW.PrintMore
attribute [local go_sem] max2_int min2_int max_two min_two max_three min_three max_four min_four   -- for this text's walks alone
set_option linter.unusedVariables false
set_option linter.unusedSimpArgs false

attribute [local go_sem high] eqA48
/-! ### stipendlaw11_ElementTexts: function 21 -/
def stipendlaw11_ElementTexts.j0 : Nat → Bool → ByteArray → Int → Int → Option (Bool)
 | 0, _, _, _, _ => none
 | k + 1, x21, x696000, x696001, x696002 => if x21 = true then (some true) else ((element_Text.f x696000 x696001 x696002).bind fun t700 => ((strings_Fields.f t700).bind fun t701 => ((element_Parse.f k t701).bind fun bt704 => (if bt704.2.2.2 = 0 then (some (bt704.1.toList == x696000.toList && (bt704.2.1 == x696001 && (bt704.2.2.1 == x696002)))) else (some false)))))
def stipendlaw11_ElementTexts.f (k : Nat) (a0_0 : ByteArray) (a0_1 : Int) (a0_2 : Int) : Option (Bool) := (stipendlaw11_worths.f).bind fun t696 => (if t696 = true then ((element_Value.f k a0_0 a0_1 a0_2).bind fun bt697 => (if bt697.2 = 0 then ((word_Name.f k a0_0).bind fun t699 => (stipendlaw11_ElementTexts.j0 k (!t699) a0_0 a0_1 a0_2)) else (stipendlaw11_ElementTexts.j0 k true a0_0 a0_1 a0_2))) else (some false))
theorem stipendlaw11_ElementTexts.mono_l : ∀ k, (∀ y0 y1 y2 y3, LeO (stipendlaw11_ElementTexts.j0 k y0 y1 y2 y3) (stipendlaw11_ElementTexts.j0 (k + 1) y0 y1 y2 y3))
 | 0 => fun _ _ _ _ r h => by simp [stipendlaw11_ElementTexts.j0] at h
 | k + 1 => by
  have ih0 := stipendlaw11_ElementTexts.mono_l k
  ·intro y0 y1 y2 y3
   unfold stipendlaw11_ElementTexts.j0
   repeat' first
   | (with_reducible exact ih0 _ _ _ _)
   | (with_reducible exact element_Parse.mono _ _)
   | (with_reducible exact element_Value.mono _ _ _ _)
   | (with_reducible exact word_Name.mono _ _)
   | (with_reducible exact LeO.refl _)
   | (with_reducible exact LeO.none _)
   | (with_reducible refine LeO.ite ?_ ?_)
   | (with_reducible refine LeO.bind ?_ (fun _ => ?_))
   | exact ih0 _ _ _ _
   | exact element_Parse.mono _ _
   | exact element_Value.mono _ _ _ _
   | exact word_Name.mono _ _
   | exact LeO.none _
   | refine LeO.ite ?_ ?_
   | refine LeO.bind ?_ (fun _ => ?_)
theorem stipendlaw11_ElementTexts.mono : ∀ a0 a1 a2 k, LeO (stipendlaw11_ElementTexts.f k a0 a1 a2) (stipendlaw11_ElementTexts.f (k + 1) a0 a1 a2) := by
 intro a0 a1 a2 k
 have ih0 := stipendlaw11_ElementTexts.mono_l k
 unfold stipendlaw11_ElementTexts.f
 repeat' first
   | (with_reducible exact ih0 _ _ _ _)
   | (with_reducible exact element_Parse.mono _ _)
   | (with_reducible exact element_Value.mono _ _ _ _)
   | (with_reducible exact word_Name.mono _ _)
   | (with_reducible exact LeO.refl _)
   | (with_reducible exact LeO.none _)
   | (with_reducible refine LeO.ite ?_ ?_)
   | (with_reducible refine LeO.bind ?_ (fun _ => ?_))
   | exact ih0 _ _ _ _
   | exact element_Parse.mono _ _
   | exact element_Value.mono _ _ _ _
   | exact word_Name.mono _ _
   | exact LeO.none _
   | refine LeO.ite ?_ ?_
   | refine LeO.bind ?_ (fun _ => ?_)
set_option maxHeartbeats 8000000 in
set_option maxRecDepth 100000 in
theorem stipendlaw11_ElementTexts.calls (k : Nat) (a0_0 : ByteArray) (a0_1 : Int) (a0_2 : Int) (r : Bool) (w : World) (h : stipendlaw11_ElementTexts.f k a0_0 a0_1 a0_2 = some r) (hG : GTab w := by first | exact GTab.below HG.out (by repeat (first | (with_reducible first | exact HB.out | apply below_alloc | apply pw_below_drewN | apply below_drew1 | apply below_drew) | exact HB.out)) | exact HG.out) (hS : GSpT w := by first | exact GSpT.below HS.out (by repeat (first | (with_reducible first | exact HB.out | apply below_alloc | apply pw_below_drewN | apply below_drew1 | apply below_drew) | exact HB.out)) | exact HS.out) :
  Calls Tryd.prog 21 #[.agg #[.string a0_0, .int .i64 a0_1, .int .i64 a0_2]] w fun e w' => e = .returned (.bool r) ∧ Below w.heap.size w w' := by
 have hu48 := Tryd.underlying48
 have HG := Aside0.mk hG; clear hG
 have HS := Aside0.mk hS; clear hS
 have HB := Aside0.mk (Below.refl w.heap.size w)
 have H : ((stipendlaw11_worths.f).bind fun t696 => (if t696 = true then ((element_Value.f k a0_0 a0_1 a0_2).bind fun bt697 => (if bt697.2 = 0 then ((word_Name.f k a0_0).bind fun t699 => (stipendlaw11_ElementTexts.j0 k (!t699) a0_0 a0_1 a0_2)) else (stipendlaw11_ElementTexts.j0 k true a0_0 a0_1 a0_2))) else (some false))) = some r := h
 clear h
 replace H := Option.bind_eq_some_iff.mp H
 obtain ⟨t696, A20, H⟩ := H
 replace H : (if t696 = true then ((element_Value.f k a0_0 a0_1 a0_2).bind fun bt697 => (if bt697.2 = 0 then ((word_Name.f k a0_0).bind fun t699 => (stipendlaw11_ElementTexts.j0 k (!t699) a0_0 a0_1 a0_2)) else (stipendlaw11_ElementTexts.j0 k true a0_0 a0_1 a0_2))) else (some false)) = some r := H
 have A2 := Aside0.mk A20
 clear A20
 by_cases c3 : t696 = true
 ·subst c3
  have H1 : ((element_Value.f k a0_0 a0_1 a0_2).bind fun bt697 => (if bt697.2 = 0 then ((word_Name.f k a0_0).bind fun t699 => (stipendlaw11_ElementTexts.j0 k (!t699) a0_0 a0_1 a0_2)) else (stipendlaw11_ElementTexts.j0 k true a0_0 a0_1 a0_2))) = some r := by rw [if_pos rfl] at H; exact H
  clear H
  have H := H1
  clear H1
  replace H := Option.bind_eq_some_iff.mp H
  obtain ⟨⟨t697, t698⟩, A40, H⟩ := H
  replace H : (if t698 = 0 then ((word_Name.f k a0_0).bind fun t699 => (stipendlaw11_ElementTexts.j0 k (!t699) a0_0 a0_1 a0_2)) else (stipendlaw11_ElementTexts.j0 k true a0_0 a0_1 a0_2)) = some r := H
  have A4 := Aside0.mk A40
  clear A40
  have HC5 := Aside0.mk H
  clear H
  go_enter Tryd.func21, Tryd.ntmps21
  go_upto_region 4 with (first | ((with_reducible refine gate_dst (N := 1) rfl ?_); refine box_event ?hg (N := 1) ?hd (cs := #[.string a0_0, .int .i64 a0_1, .int .i64 a0_2]) (t := 48) ?hr ?_; (case hd => rfl); (case hg => rfl); (case hr => first | (go_simp; done) | (go_simp; rfl)); intro gb695 hg w6 hbox hb; have n0_ := Aside0.mk (below_step (by repeat (first | (with_reducible first | exact HB.out | apply below_alloc | apply pw_below_drewN | apply below_drew1) | exact HB.out)) hb); have n1_ := Aside0.mk (hbox); have n2_ := Aside0.mk ((by rw [hg]; exact (below_size (by repeat (first | (with_reducible first | exact HB.out | apply below_alloc | apply pw_below_drewN | apply below_drew1) | exact HB.out))) : w.heap.size ≤ gb695)); have n3_ := Aside0.mk ((by rw [hg]; exact (below_size (by repeat (first | (with_reducible first | exact HB.out | apply below_alloc | apply pw_below_drewN | apply below_drew1) | exact HB.out))) : w.heap.size ≤ gb695)); clear HB; have HB := n0_; have BK695 := n1_; have GW695 := n2_; have GE695 := n3_; clear n0_ n1_ n2_ n3_; clear hb hbox hg) | ((with_reducible refine gate_callee (f := 35) rfl ?_); refine goesL_ (some 7) rfl rfl Tryd.func35 (by kernel_rfl) rfl #[] rfl (by (try simp only [List.map_toArray, List.map_cons, List.map_nil]); first | done | rfl | (simp only [List.length_drop, List.length_take]; rfl)) ?_; (with_reducible refine (stipendlaw11_worths.calls  true _ A2.out).mono ?_); rintro e w7 ⟨rfl, hb⟩; refine ⟨_, rfl, ?_⟩; have n0_ := Aside0.mk (blk_below (g := gb695) (o := .cells #[.string a0_0, .int .i64 a0_1, .int .i64 a0_2] 48 (0, 0)) (by (with_reducible repeat (first | refine blk_drewN ?_ _ | refine blk_drew ?_ | refine blk_alloc ?_ _)); exact BK695.out) hb); have n1_ := Aside0.mk (below_step (by repeat (first | (with_reducible first | exact HB.out | apply below_alloc | apply pw_below_drewN | apply below_drew1 | refine below_set ?_ GE695.out) | exact HB.out)) hb); clear BK695; clear HB; have BK695 := n0_; have HB := n1_; clear n0_ n1_; (try clear hb); (try clear hb2); (try clear hk); (try clear hi); have hcz8_0 : w7.cell? ⟨gb695, 0, none⟩ = some (.string a0_0) := (blk_cell BK695.out 0).trans rfl; have hcz8_1 : w7.cell? ⟨gb695, 1, none⟩ = some (.int .i64 a0_1) := (blk_cell BK695.out 1).trans rfl; have hcz8_2 : w7.cell? ⟨gb695, 2, none⟩ = some (.int .i64 a0_2) := (blk_cell BK695.out 2).trans rfl; have hfz8_0 := blk_frozen BK695.out 0; have hfz8_1 := blk_frozen BK695.out 1; have hfz8_2 := blk_frozen BK695.out 2) | ((with_reducible refine gate_callee (f := 36) rfl ?_); refine goesL_ (some 11) rfl rfl Tryd.func36 (by kernel_rfl) rfl #[.agg #[.string a0_0, .int .i64 a0_1, .int .i64 a0_2]] rfl (by (try simp only [List.map_toArray, List.map_cons, List.map_nil]); first | done | rfl | (simp only [List.length_drop, List.length_take]; rfl)) ?_; (with_reducible refine (element_Value.calls k a0_0 a0_1 a0_2 t697 t698 _ A4.out).mono ?_); rintro e w9 ⟨rfl, hb⟩; refine ⟨_, rfl, ?_⟩; have n0_ := Aside0.mk (blk_below (g := gb695) (o := .cells #[.string a0_0, .int .i64 a0_1, .int .i64 a0_2] 48 (0, 0)) (by (with_reducible repeat (first | refine blk_drewN ?_ _ | refine blk_drew ?_ | refine blk_alloc ?_ _)); exact BK695.out) hb); have n1_ := Aside0.mk (below_step (by repeat (first | (with_reducible first | exact HB.out | apply below_alloc | apply pw_below_drewN | apply below_drew1 | refine below_set ?_ GE695.out) | exact HB.out)) hb); clear BK695; clear HB; have BK695 := n0_; have HB := n1_; clear n0_ n1_; (try clear hb); (try clear hb2); (try clear hk); (try clear hi)))
  (try simp only [Act.put, List.setIfInBounds_toArray, List.set_cons_zero, List.set_cons_succ])
  go_cut [21] (fun v21 wc => ∃ (kq : Nat) (x21_4 : Bool), v21 = .bool x21_4 ∧ Aside0 (stipendlaw11_ElementTexts.j0 kq x21_4 a0_0 a0_1 a0_2 = some r) ∧ Aside0 (kq ≤ k) ∧ Aside0 (wc.heap[gb695]? = some (.cells #[.string a0_0, .int .i64 a0_1, .int .i64 a0_2] 48 (0, 0))) ∧ Aside0 (Below w.heap.size w wc))
  case first =>
   have H := HC5.out
   clear HC5
   by_cases c10 : t698 = 0
   ·rw [if_pos c10] at H
    have c10b0 : (t698 == 0) = true := beq_iff_eq.mpr c10
    have c10b1 : (t698 != 0) = false := bne_eq_false_iff_eq.mpr c10
    clear c10
    (first | rw [c10b0] | (simp only [i64_w, i32_w]; rw [c10b0]) | skip)
    replace H := Option.bind_eq_some_iff.mp H
    obtain ⟨t699, A110, H⟩ := H
    replace H : (stipendlaw11_ElementTexts.j0 k (!t699) a0_0 a0_1 a0_2) = some r := H
    have A11 := Aside0.mk A110
    clear A110
    have H' := Aside0.mk H
    clear H
    have hcz12_0 : w9.cell? ⟨gb695, 0, none⟩ = some (.string a0_0) := (blk_cell BK695.out 0).trans rfl
    have hcz12_1 : w9.cell? ⟨gb695, 1, none⟩ = some (.int .i64 a0_1) := (blk_cell BK695.out 1).trans rfl
    have hcz12_2 : w9.cell? ⟨gb695, 2, none⟩ = some (.int .i64 a0_2) := (blk_cell BK695.out 2).trans rfl
    have hfz12_0 := blk_frozen BK695.out 0
    have hfz12_1 := blk_frozen BK695.out 1
    have hfz12_2 := blk_frozen BK695.out 2
    go_wp2_with (first | (go_at_call 46; (with_reducible refine (word_Name.calls k a0_0 t699 _ A11.out).mono ?_); rintro e w' ⟨rfl, ⟨nd, rfl⟩⟩))
    go_meet
    case rel => exact ⟨_, (!t699), (by first | rfl | (simp; done) | (simp [*]; done)), H', ⟨by first | omega | exact Nat.le_refl _⟩, ⟨by (with_reducible repeat (first | refine blk_drewN ?_ _ | refine blk_drew ?_ | refine blk_alloc ?_ _)); exact BK695.out⟩, ⟨by repeat (first | (with_reducible first | exact HB.out | apply below_alloc | apply pw_below_drewN | apply below_drew1 | refine below_set ?_ GE695.out) | exact HB.out)⟩⟩
   ·rw [if_neg c10] at H
    have c10b0 : (t698 == 0) = false := beq_eq_false_iff_ne.mpr c10
    have c10b1 : (t698 != 0) = true := bne_iff_ne.mpr c10
    (first | rw [c10b0] | (simp only [i64_w, i32_w]; rw [c10b0]) | skip)
    have H' := Aside0.mk H
    clear H
    go_wp2
    go_meet
    case rel => exact ⟨_, (true), (by first | rfl | (simp; done) | (simp [*]; done)), H', ⟨by first | omega | exact Nat.le_refl _⟩, ⟨by (with_reducible repeat (first | refine blk_drewN ?_ _ | refine blk_drew ?_ | refine blk_alloc ?_ _)); exact BK695.out⟩, ⟨by repeat (first | (with_reducible first | exact HB.out | apply below_alloc | apply pw_below_drewN | apply below_drew1 | refine below_set ?_ GE695.out) | exact HB.out)⟩⟩
  case rest =>
   clear HC5
   try clear c1
   try clear c2
   try clear p2
   try clear c3
   try clear c10
   try clear c10b0
   try clear c10b1
   try clear hcz12_0
   try clear hcz12_1
   try clear hcz12_2
   try clear hcz8_0
   try clear hcz8_1
   try clear hcz8_2
   try clear hfz12_0
   try clear hfz12_1
   try clear hfz12_2
   try clear hfz8_0
   try clear hfz8_1
   try clear hfz8_2
   obtain ⟨kq, x21_4, rfl, HA, HJ4, BK695, HB⟩ := hcut
   cases kq with
   | zero => exact absurd HA.out (by simp [stipendlaw11_ElementTexts.j0])
   | succ kj4 =>
    have H := HA.out
    clear HA
    simp only [stipendlaw11_ElementTexts.j0] at H
    by_cases c13 : x21_4 = true
    ·subst c13
     have H1 : (some true) = some r := by rw [if_pos rfl] at H; exact H
     clear H
     have H := H1
     clear H1
     obtain rfl := Option.some.inj H
     go_wp2
     go_ret
     exact ⟨by first | rfl | (simp [errW_none, errW_some] <;> rfl) | (simp [*, errW_none, errW_some] <;> rfl), by repeat (first | (with_reducible first | exact HB.out | apply below_alloc | apply pw_below_drewN | apply below_drew1 | refine below_set ?_ GE695.out) | exact HB.out)⟩
    ·replace c13 := Bool.eq_false_iff.mpr c13
     subst c13
     have H1 : ((element_Text.f a0_0 a0_1 a0_2).bind fun t700 => ((strings_Fields.f t700).bind fun t701 => ((element_Parse.f kj4 t701).bind fun bt704 => (if bt704.2.2.2 = 0 then (some (bt704.1.toList == a0_0.toList && (bt704.2.1 == a0_1 && (bt704.2.2.1 == a0_2)))) else (some false))))) = some r := by rw [if_neg (show ¬ (false = true) by decide)] at H; exact H
     clear H
     have H := H1
     clear H1
     replace H := Option.bind_eq_some_iff.mp H
     obtain ⟨t700, A140, H⟩ := H
     replace H : ((strings_Fields.f t700).bind fun t701 => ((element_Parse.f kj4 t701).bind fun bt704 => (if bt704.2.2.2 = 0 then (some (bt704.1.toList == a0_0.toList && (bt704.2.1 == a0_1 && (bt704.2.2.1 == a0_2)))) else (some false)))) = some r := H
     have A14 := Aside0.mk A140
     clear A140
     replace H := Option.bind_eq_some_iff.mp H
     obtain ⟨t701, A150, H⟩ := H
     replace H : ((element_Parse.f kj4 t701).bind fun bt704 => (if bt704.2.2.2 = 0 then (some (bt704.1.toList == a0_0.toList && (bt704.2.1 == a0_1 && (bt704.2.2.1 == a0_2)))) else (some false))) = some r := H
     have A15 := Aside0.mk A150
     clear A150
     replace H := Option.bind_eq_some_iff.mp H
     obtain ⟨⟨t704, t705, t706, t707⟩, A160, H⟩ := H
     replace H : (if t707 = 0 then (some (t704.toList == a0_0.toList && (t705 == a0_1 && (t706 == a0_2)))) else (some false)) = some r := H
     have A16 := Aside0.mk A160
     clear A160
     by_cases c17 : t707 = 0
     ·rw [if_pos c17] at H
      have c17b0 : (t707 == 0) = true := beq_iff_eq.mpr c17
      have c17b1 : (t707 != 0) = false := bne_eq_false_iff_eq.mpr c17
      clear c17
      obtain rfl := Option.some.inj H
      have hcz18_0 : wc.cell? ⟨gb695, 0, none⟩ = some (.string a0_0) := (blk_cell BK695.out 0).trans rfl
      have hcz18_1 : wc.cell? ⟨gb695, 1, none⟩ = some (.int .i64 a0_1) := (blk_cell BK695.out 1).trans rfl
      have hcz18_2 : wc.cell? ⟨gb695, 2, none⟩ = some (.int .i64 a0_2) := (blk_cell BK695.out 2).trans rfl
      have hfz18_0 := blk_frozen BK695.out 0
      have hfz18_1 := blk_frozen BK695.out 1
      have hfz18_2 := blk_frozen BK695.out 2
      go_wp2_with (first | ((with_reducible refine gate_callee (f := 73) rfl ?_); refine goesL_ (some 24) rfl rfl Tryd.func73 (by kernel_rfl) rfl #[.agg #[.string a0_0, .int .i64 a0_1, .int .i64 a0_2]] rfl (by (try simp only [List.map_toArray, List.map_cons, List.map_nil]); first | done | rfl | (simp only [List.length_drop, List.length_take]; rfl)) ?_; (with_reducible refine (element_Text.calls a0_0 a0_1 a0_2 t700 _ A14.out).mono ?_); rintro e w19 ⟨rfl, hb⟩; refine ⟨_, rfl, ?_⟩; have n0_ := Aside0.mk (blk_below (g := gb695) (o := .cells #[.string a0_0, .int .i64 a0_1, .int .i64 a0_2] 48 (0, 0)) (by (with_reducible repeat (first | refine blk_drewN ?_ _ | refine blk_drew ?_ | refine blk_alloc ?_ _)); exact BK695.out) hb); have n1_ := Aside0.mk (below_step (by repeat (first | (with_reducible first | exact HB.out | apply below_alloc | apply pw_below_drewN | apply below_drew1 | refine below_set ?_ GE695.out) | exact HB.out)) hb); clear BK695; clear HB; have BK695 := n0_; have HB := n1_; clear n0_ n1_; (try clear hb); (try clear hb2); (try clear hk); (try clear hi)) | ((with_reducible refine gate_callee (f := 72) rfl ?_); refine goesL_ (some 25) rfl rfl Tryd.func72 (by kernel_rfl) rfl #[.string t700] rfl (by (try simp only [List.map_toArray, List.map_cons, List.map_nil]); first | done | rfl | (simp only [List.length_drop, List.length_take]; rfl)) ?_; (with_reducible refine (strings_Fields.calls t700 t701 _ A15.out).mono ?_); rintro e w20 ⟨v702, rfl, ho0, hb⟩; refine ⟨_, rfl, ?_⟩; have n0_ := Aside0.mk (Kd.R_lower ho0 (below_size (by repeat (first | (with_reducible first | exact HB.out | apply below_alloc | apply pw_below_drewN | apply below_drew1 | refine below_set ?_ GE695.out) | exact HB.out)))); have n1_ := Aside0.mk (blk_below (g := gb695) (o := .cells #[.string a0_0, .int .i64 a0_1, .int .i64 a0_2] 48 (0, 0)) (by (with_reducible repeat (first | refine blk_drewN ?_ _ | refine blk_drew ?_ | refine blk_alloc ?_ _)); exact BK695.out) hb); have n2_ := Aside0.mk (below_step (by repeat (first | (with_reducible first | exact HB.out | apply below_alloc | apply pw_below_drewN | apply below_drew1 | refine below_set ?_ GE695.out) | exact HB.out)) hb); clear BK695; clear HB; have HO703 := n0_; have BK695 := n1_; have HB := n2_; clear n0_ n1_ n2_; (try clear hb); (try clear hb2); (try clear hk); (try clear hi); (try clear ho0); obtain ⟨Ao21, co21, eo21⟩ := Kd.R_slice HO703.out; subst eo21) | ((with_reducible refine gate_callee (f := 45) rfl ?_); refine goesL_ (some 26) rfl rfl Tryd.func45 (by kernel_rfl) rfl #[.slice Ao21 t701.length co21] rfl (by (try simp only [List.map_toArray, List.map_cons, List.map_nil]); first | done | rfl | (simp only [List.length_drop, List.length_take]; rfl)) ?_; (with_reducible refine (element_Parse.calls kj4 _ _ t701 t704 t705 t706 t707 _ ?side1 ?side2 A16.out).mono ?_); (case side1 => repeat (first | exact (Kd.R_reads' HO703.out).2.2 | (with_reducible refine Kd.C_alloc ?_ _) | (with_reducible refine Kd.C_drewN ?_ _) | (with_reducible refine Kd.C_drew ?_))); (case side2 => exact (Kd.R_reads' HO703.out).2.1); rintro e w22 ⟨rfl, hb⟩; refine ⟨_, rfl, ?_⟩; have n0_ := Aside0.mk (Kd.R_below (by (with_reducible repeat (first | apply Kd.R_alloc | apply Kd.R_drewN | apply Kd.R_drew)); exact HO703.out) hb); have n1_ := Aside0.mk (blk_below (g := gb695) (o := .cells #[.string a0_0, .int .i64 a0_1, .int .i64 a0_2] 48 (0, 0)) (by (with_reducible repeat (first | refine blk_drewN ?_ _ | refine blk_drew ?_ | refine blk_alloc ?_ _)); exact BK695.out) hb); have n2_ := Aside0.mk (below_step (by repeat (first | (with_reducible first | exact HB.out | apply below_alloc | apply pw_below_drewN | apply below_drew1 | refine below_set ?_ GE695.out) | exact HB.out)) hb); clear HO703; clear BK695; clear HB; have HO703 := n0_; have BK695 := n1_; have HB := n2_; clear n0_ n1_ n2_; (try clear hb); (try clear hb2); (try clear hk); (try clear hi)) | ((with_reducible refine gate_dst (N := 5) rfl ?_); refine box_event ?hg (N := 5) ?hd (cs := #[.string (⟨#[]⟩ : ByteArray), .int .i64 0, .int .i64 0]) (t := 48) ?hr ?_; (case hd => rfl); (case hg => rfl); (case hr => first | (go_simp; done) | (go_simp; rfl)); intro gb708 hg w23 hbox hb; have n0_ := Aside0.mk (Kd.R_below (by (with_reducible repeat (first | apply Kd.R_alloc | apply Kd.R_drewN | apply Kd.R_drew)); exact HO703.out) hb); have n1_ := Aside0.mk (blk_below (g := gb695) (o := .cells #[.string a0_0, .int .i64 a0_1, .int .i64 a0_2] 48 (0, 0)) (by (with_reducible repeat (first | refine blk_drewN ?_ _ | refine blk_drew ?_ | refine blk_alloc ?_ _)); exact BK695.out) hb); have n2_ := Aside0.mk (below_step (by repeat (first | (with_reducible first | exact HB.out | apply below_alloc | apply pw_below_drewN | apply below_drew1 | refine below_set ?_ GE695.out) | exact HB.out)) hb); have n3_ := Aside0.mk (hbox); have n4_ := Aside0.mk ((by rw [hg]; exact (below_size (by repeat (first | (with_reducible first | exact HB.out | apply below_alloc | apply pw_below_drewN | apply below_drew1 | refine below_set ?_ GE695.out) | exact HB.out))) : w.heap.size ≤ gb708)); have n5_ := Aside0.mk ((by rw [hg]; exact (below_size (by repeat (first | (with_reducible first | exact HB.out | apply below_alloc | apply pw_below_drewN | apply below_drew1 | refine below_set ?_ GE695.out) | exact HB.out))) : w.heap.size ≤ gb708)); have n6_ := Aside0.mk ((by rw [hg]; exact Nat.ne_of_lt (blk_lt (g := gb695) (o := .cells #[.string a0_0, .int .i64 a0_1, .int .i64 a0_2] 48 (0, 0)) (by (with_reducible repeat (first | refine blk_drewN ?_ _ | refine blk_drew ?_ | refine blk_alloc ?_ _)); exact BK695.out)) : gb695 ≠ gb708)); have n7_ := Aside0.mk ((by rw [hg]; exact Nat.ne_of_gt (blk_lt (g := gb695) (o := .cells #[.string a0_0, .int .i64 a0_1, .int .i64 a0_2] 48 (0, 0)) (by (with_reducible repeat (first | refine blk_drewN ?_ _ | refine blk_drew ?_ | refine blk_alloc ?_ _)); exact BK695.out)) : gb708 ≠ gb695)); clear HO703; clear BK695; clear HB; have HO703 := n0_; have BK695 := n1_; have HB := n2_; have BK708 := n3_; have GW708 := n4_; have GE708 := n5_; have NB695_708 := n6_; have NB708_695 := n7_; clear n0_ n1_ n2_ n3_ n4_ n5_ n6_ n7_; clear hb hbox hg; have hnb24 := NB708_695.out; have hnc24 := NB695_708.out; have hcz25_0 : w23.cell? ⟨gb708, 0, none⟩ = some (.string (⟨#[]⟩ : ByteArray)) := (blk_cell BK708.out 0).trans rfl; have hcz25_1 : w23.cell? ⟨gb708, 1, none⟩ = some (.int .i64 0) := (blk_cell BK708.out 1).trans rfl; have hcz25_2 : w23.cell? ⟨gb708, 2, none⟩ = some (.int .i64 0) := (blk_cell BK708.out 2).trans rfl; have hfz25_0 := blk_frozen BK708.out 0; have hfz25_1 := blk_frozen BK708.out 1; have hfz25_2 := blk_frozen BK708.out 2; have hcz26_0 : w23.cell? ⟨gb695, 0, none⟩ = some (.string a0_0) := (blk_cell BK695.out 0).trans rfl; have hcz26_1 : w23.cell? ⟨gb695, 1, none⟩ = some (.int .i64 a0_1) := (blk_cell BK695.out 1).trans rfl; have hcz26_2 : w23.cell? ⟨gb695, 2, none⟩ = some (.int .i64 a0_2) := (blk_cell BK695.out 2).trans rfl; have hfz26_0 := blk_frozen BK695.out 0; have hfz26_1 := blk_frozen BK695.out 1; have hfz26_2 := blk_frozen BK695.out 2))
      go_ret
      exact ⟨by first | rfl | (simp [errW_none, errW_some] <;> rfl) | (simp [*, errW_none, errW_some] <;> rfl), by repeat (first | (with_reducible first | exact HB.out | apply below_alloc | apply pw_below_drewN | apply below_drew1 | refine below_set ?_ GE695.out | refine below_set ?_ GE708.out) | exact HB.out)⟩
     ·rw [if_neg c17] at H
      have c17b0 : (t707 == 0) = false := beq_eq_false_iff_ne.mpr c17
      have c17b1 : (t707 != 0) = true := bne_iff_ne.mpr c17
      obtain rfl := Option.some.inj H
      have hcz27_0 : wc.cell? ⟨gb695, 0, none⟩ = some (.string a0_0) := (blk_cell BK695.out 0).trans rfl
      have hcz27_1 : wc.cell? ⟨gb695, 1, none⟩ = some (.int .i64 a0_1) := (blk_cell BK695.out 1).trans rfl
      have hcz27_2 : wc.cell? ⟨gb695, 2, none⟩ = some (.int .i64 a0_2) := (blk_cell BK695.out 2).trans rfl
      have hfz27_0 := blk_frozen BK695.out 0
      have hfz27_1 := blk_frozen BK695.out 1
      have hfz27_2 := blk_frozen BK695.out 2
      go_wp2_with (first | ((with_reducible refine gate_callee (f := 73) rfl ?_); refine goesL_ (some 24) rfl rfl Tryd.func73 (by kernel_rfl) rfl #[.agg #[.string a0_0, .int .i64 a0_1, .int .i64 a0_2]] rfl (by (try simp only [List.map_toArray, List.map_cons, List.map_nil]); first | done | rfl | (simp only [List.length_drop, List.length_take]; rfl)) ?_; (with_reducible refine (element_Text.calls a0_0 a0_1 a0_2 t700 _ A14.out).mono ?_); rintro e w28 ⟨rfl, hb⟩; refine ⟨_, rfl, ?_⟩; have n0_ := Aside0.mk (blk_below (g := gb695) (o := .cells #[.string a0_0, .int .i64 a0_1, .int .i64 a0_2] 48 (0, 0)) (by (with_reducible repeat (first | refine blk_drewN ?_ _ | refine blk_drew ?_ | refine blk_alloc ?_ _)); exact BK695.out) hb); have n1_ := Aside0.mk (below_step (by repeat (first | (with_reducible first | exact HB.out | apply below_alloc | apply pw_below_drewN | apply below_drew1 | refine below_set ?_ GE695.out) | exact HB.out)) hb); clear BK695; clear HB; have BK695 := n0_; have HB := n1_; clear n0_ n1_; (try clear hb); (try clear hb2); (try clear hk); (try clear hi)) | ((with_reducible refine gate_callee (f := 72) rfl ?_); refine goesL_ (some 25) rfl rfl Tryd.func72 (by kernel_rfl) rfl #[.string t700] rfl (by (try simp only [List.map_toArray, List.map_cons, List.map_nil]); first | done | rfl | (simp only [List.length_drop, List.length_take]; rfl)) ?_; (with_reducible refine (strings_Fields.calls t700 t701 _ A15.out).mono ?_); rintro e w29 ⟨v702, rfl, ho0, hb⟩; refine ⟨_, rfl, ?_⟩; have n0_ := Aside0.mk (Kd.R_lower ho0 (below_size (by repeat (first | (with_reducible first | exact HB.out | apply below_alloc | apply pw_below_drewN | apply below_drew1 | refine below_set ?_ GE695.out) | exact HB.out)))); have n1_ := Aside0.mk (blk_below (g := gb695) (o := .cells #[.string a0_0, .int .i64 a0_1, .int .i64 a0_2] 48 (0, 0)) (by (with_reducible repeat (first | refine blk_drewN ?_ _ | refine blk_drew ?_ | refine blk_alloc ?_ _)); exact BK695.out) hb); have n2_ := Aside0.mk (below_step (by repeat (first | (with_reducible first | exact HB.out | apply below_alloc | apply pw_below_drewN | apply below_drew1 | refine below_set ?_ GE695.out) | exact HB.out)) hb); clear BK695; clear HB; have HO703 := n0_; have BK695 := n1_; have HB := n2_; clear n0_ n1_ n2_; (try clear hb); (try clear hb2); (try clear hk); (try clear hi); (try clear ho0); obtain ⟨Ao30, co30, eo30⟩ := Kd.R_slice HO703.out; subst eo30) | ((with_reducible refine gate_callee (f := 45) rfl ?_); refine goesL_ (some 26) rfl rfl Tryd.func45 (by kernel_rfl) rfl #[.slice Ao30 t701.length co30] rfl (by (try simp only [List.map_toArray, List.map_cons, List.map_nil]); first | done | rfl | (simp only [List.length_drop, List.length_take]; rfl)) ?_; (with_reducible refine (element_Parse.calls kj4 _ _ t701 t704 t705 t706 t707 _ ?side1 ?side2 A16.out).mono ?_); (case side1 => repeat (first | exact (Kd.R_reads' HO703.out).2.2 | (with_reducible refine Kd.C_alloc ?_ _) | (with_reducible refine Kd.C_drewN ?_ _) | (with_reducible refine Kd.C_drew ?_))); (case side2 => exact (Kd.R_reads' HO703.out).2.1); rintro e w31 ⟨rfl, hb⟩; refine ⟨_, rfl, ?_⟩; have n0_ := Aside0.mk (Kd.R_below (by (with_reducible repeat (first | apply Kd.R_alloc | apply Kd.R_drewN | apply Kd.R_drew)); exact HO703.out) hb); have n1_ := Aside0.mk (blk_below (g := gb695) (o := .cells #[.string a0_0, .int .i64 a0_1, .int .i64 a0_2] 48 (0, 0)) (by (with_reducible repeat (first | refine blk_drewN ?_ _ | refine blk_drew ?_ | refine blk_alloc ?_ _)); exact BK695.out) hb); have n2_ := Aside0.mk (below_step (by repeat (first | (with_reducible first | exact HB.out | apply below_alloc | apply pw_below_drewN | apply below_drew1 | refine below_set ?_ GE695.out) | exact HB.out)) hb); clear HO703; clear BK695; clear HB; have HO703 := n0_; have BK695 := n1_; have HB := n2_; clear n0_ n1_ n2_; (try clear hb); (try clear hb2); (try clear hk); (try clear hi)) | ((with_reducible refine gate_dst (N := 5) rfl ?_); refine box_event ?hg (N := 5) ?hd (cs := #[.string (⟨#[]⟩ : ByteArray), .int .i64 0, .int .i64 0]) (t := 48) ?hr ?_; (case hd => rfl); (case hg => rfl); (case hr => first | (go_simp; done) | (go_simp; rfl)); intro gb708 hg w32 hbox hb; have n0_ := Aside0.mk (Kd.R_below (by (with_reducible repeat (first | apply Kd.R_alloc | apply Kd.R_drewN | apply Kd.R_drew)); exact HO703.out) hb); have n1_ := Aside0.mk (blk_below (g := gb695) (o := .cells #[.string a0_0, .int .i64 a0_1, .int .i64 a0_2] 48 (0, 0)) (by (with_reducible repeat (first | refine blk_drewN ?_ _ | refine blk_drew ?_ | refine blk_alloc ?_ _)); exact BK695.out) hb); have n2_ := Aside0.mk (below_step (by repeat (first | (with_reducible first | exact HB.out | apply below_alloc | apply pw_below_drewN | apply below_drew1 | refine below_set ?_ GE695.out) | exact HB.out)) hb); have n3_ := Aside0.mk (hbox); have n4_ := Aside0.mk ((by rw [hg]; exact (below_size (by repeat (first | (with_reducible first | exact HB.out | apply below_alloc | apply pw_below_drewN | apply below_drew1 | refine below_set ?_ GE695.out) | exact HB.out))) : w.heap.size ≤ gb708)); have n5_ := Aside0.mk ((by rw [hg]; exact (below_size (by repeat (first | (with_reducible first | exact HB.out | apply below_alloc | apply pw_below_drewN | apply below_drew1 | refine below_set ?_ GE695.out) | exact HB.out))) : w.heap.size ≤ gb708)); have n6_ := Aside0.mk ((by rw [hg]; exact Nat.ne_of_lt (blk_lt (g := gb695) (o := .cells #[.string a0_0, .int .i64 a0_1, .int .i64 a0_2] 48 (0, 0)) (by (with_reducible repeat (first | refine blk_drewN ?_ _ | refine blk_drew ?_ | refine blk_alloc ?_ _)); exact BK695.out)) : gb695 ≠ gb708)); have n7_ := Aside0.mk ((by rw [hg]; exact Nat.ne_of_gt (blk_lt (g := gb695) (o := .cells #[.string a0_0, .int .i64 a0_1, .int .i64 a0_2] 48 (0, 0)) (by (with_reducible repeat (first | refine blk_drewN ?_ _ | refine blk_drew ?_ | refine blk_alloc ?_ _)); exact BK695.out)) : gb708 ≠ gb695)); clear HO703; clear BK695; clear HB; have HO703 := n0_; have BK695 := n1_; have HB := n2_; have BK708 := n3_; have GW708 := n4_; have GE708 := n5_; have NB695_708 := n6_; have NB708_695 := n7_; clear n0_ n1_ n2_ n3_ n4_ n5_ n6_ n7_; clear hb hbox hg; have hnb33 := NB708_695.out; have hnc33 := NB695_708.out; have hcz34_0 : w32.cell? ⟨gb708, 0, none⟩ = some (.string (⟨#[]⟩ : ByteArray)) := (blk_cell BK708.out 0).trans rfl; have hcz34_1 : w32.cell? ⟨gb708, 1, none⟩ = some (.int .i64 0) := (blk_cell BK708.out 1).trans rfl; have hcz34_2 : w32.cell? ⟨gb708, 2, none⟩ = some (.int .i64 0) := (blk_cell BK708.out 2).trans rfl; have hfz34_0 := blk_frozen BK708.out 0; have hfz34_1 := blk_frozen BK708.out 1; have hfz34_2 := blk_frozen BK708.out 2))
      go_ret
      exact ⟨by first | rfl | (simp [errW_none, errW_some] <;> rfl) | (simp [*, errW_none, errW_some] <;> rfl), by repeat (first | (with_reducible first | exact HB.out | apply below_alloc | apply pw_below_drewN | apply below_drew1 | refine below_set ?_ GE695.out | refine below_set ?_ GE708.out) | exact HB.out)⟩
 ·replace c3 := Bool.eq_false_iff.mpr c3
  subst c3
  have H1 : (some false) = some r := by rw [if_neg (show ¬ (false = true) by decide)] at H; exact H
  clear H
  have H := H1
  clear H1
  obtain rfl := Option.some.inj H
  go_enter Tryd.func21, Tryd.ntmps21
  go_wp2_with (first | ((with_reducible refine gate_dst (N := 1) rfl ?_); refine box_event ?hg (N := 1) ?hd (cs := #[.string a0_0, .int .i64 a0_1, .int .i64 a0_2]) (t := 48) ?hr ?_; (case hd => rfl); (case hg => rfl); (case hr => first | (go_simp; done) | (go_simp; rfl)); intro gb695 hg w35 hbox hb; have n0_ := Aside0.mk (below_step (by repeat (first | (with_reducible first | exact HB.out | apply below_alloc | apply pw_below_drewN | apply below_drew1) | exact HB.out)) hb); have n1_ := Aside0.mk (hbox); have n2_ := Aside0.mk ((by rw [hg]; exact (below_size (by repeat (first | (with_reducible first | exact HB.out | apply below_alloc | apply pw_below_drewN | apply below_drew1) | exact HB.out))) : w.heap.size ≤ gb695)); have n3_ := Aside0.mk ((by rw [hg]; exact (below_size (by repeat (first | (with_reducible first | exact HB.out | apply below_alloc | apply pw_below_drewN | apply below_drew1) | exact HB.out))) : w.heap.size ≤ gb695)); clear HB; have HB := n0_; have BK695 := n1_; have GW695 := n2_; have GE695 := n3_; clear n0_ n1_ n2_ n3_; clear hb hbox hg) | ((with_reducible refine gate_callee (f := 35) rfl ?_); refine goesL_ (some 7) rfl rfl Tryd.func35 (by kernel_rfl) rfl #[] rfl (by (try simp only [List.map_toArray, List.map_cons, List.map_nil]); first | done | rfl | (simp only [List.length_drop, List.length_take]; rfl)) ?_; (with_reducible refine (stipendlaw11_worths.calls  false _ A2.out).mono ?_); rintro e w36 ⟨rfl, hb⟩; refine ⟨_, rfl, ?_⟩; have n0_ := Aside0.mk (blk_below (g := gb695) (o := .cells #[.string a0_0, .int .i64 a0_1, .int .i64 a0_2] 48 (0, 0)) (by (with_reducible repeat (first | refine blk_drewN ?_ _ | refine blk_drew ?_ | refine blk_alloc ?_ _)); exact BK695.out) hb); have n1_ := Aside0.mk (below_step (by repeat (first | (with_reducible first | exact HB.out | apply below_alloc | apply pw_below_drewN | apply below_drew1 | refine below_set ?_ GE695.out) | exact HB.out)) hb); clear BK695; clear HB; have BK695 := n0_; have HB := n1_; clear n0_ n1_; (try clear hb); (try clear hb2); (try clear hk); (try clear hi)))
  go_ret
  exact ⟨by first | rfl | (simp [errW_none, errW_some] <;> rfl) | (simp [*, errW_none, errW_some] <;> rfl), by repeat (first | (with_reducible first | exact HB.out | apply below_alloc | apply pw_below_drewN | apply below_drew1 | refine below_set ?_ GE695.out) | exact HB.out)⟩

end Go.Proofs.YtmocphafkimdpaaDoor.P


/- ElementTexts answers true for every element: the plain law. -/
namespace Go.Proofs.YtmocphafkimdpaaDoor.P
open Go.RowKit Go.Proofs.YtmocphafkimdpaaDoorW.PrintWords Go.Proofs.YtmocphafkimdpaaDoorW.PrintLast Go.Proofs.YtmocphafkimdpaaDoorW.PrintMore
set_option linter.unusedVariables false
set_option linter.unusedSimpArgs false

/-- A byte of a word: none that parts words, and a small one. -/
def wb (c : UInt8) : Prop := Lib.isSp c = false ∧ c.toNat < 128
theorem wb_of {c : UInt8} (h : 33 ≤ c.toNat) (h2 : c.toNat < 128) : wb c := by
  refine ⟨?_, h2⟩
  rw [Bool.eq_false_iff]
  intro hs
  unfold Lib.isSp at hs
  simp only [Bool.or_eq_true, beq_iff_eq] at hs
  have : c = 9 ∨ c = 10 ∨ c = 11 ∨ c = 12 ∨ c = 13 ∨ c = 32 := by
    rcases hs with ((((h | h) | h) | h) | h) | h
    · exact .inl h
    · exact .inr (.inl h)
    · exact .inr (.inr (.inl h))
    · exact .inr (.inr (.inr (.inl h)))
    · exact .inr (.inr (.inr (.inr (.inl h))))
    · exact .inr (.inr (.inr (.inr (.inr h))))
  rcases this with h | h | h | h | h | h <;> (subst h; exact absurd h (by decide))
theorem fields_word (t rest : List UInt8) : ∀ (cur : List UInt8), (∀ c ∈ t, wb c) → Lib.fieldsGo cur (t ++ rest) = Lib.fieldsGo (cur ++ t) rest := by
  induction t with
  | nil => intro cur _; simp
  | cons c t ih =>
    intro cur h
    have hc := (h c (by simp)).1
    simp only [List.cons_append, Lib.fieldsGo, hc, Bool.false_eq_true, if_false]
    rw [ih _ (fun x hx => h x (List.mem_cons_of_mem _ hx))]
    simp
theorem fields_two (a b : List UInt8) (ha : a ≠ []) (hb : b ≠ []) (h1 : ∀ c ∈ a, wb c) (h2 : ∀ c ∈ b, wb c) : Lib.fields (a ++ [32] ++ b) = [a, b] := by
  unfold Lib.fields
  rw [List.append_assoc, fields_word a _ [] h1, List.nil_append]
  have e : Lib.isSp 32 = true := by decide
  have ea : a.isEmpty = false := by cases a <;> simp_all
  have eb : b.isEmpty = false := by cases b <;> simp_all
  simp only [List.cons_append, List.nil_append, Lib.fieldsGo, e, if_true, ea, Bool.false_eq_true, if_false]
  have := fields_word b [] [] h2
  rw [List.append_nil, List.nil_append] at this
  rw [this]
  simp [Lib.fieldsGo, eb]
theorem fields_three (a b c : List UInt8) (ha : a ≠ []) (hb : b ≠ []) (hc : c ≠ []) (h1 : ∀ x ∈ a, wb x) (h2 : ∀ x ∈ b, wb x) (h3 : ∀ x ∈ c, wb x) : Lib.fields (a ++ [32] ++ b ++ ([32] ++ c)) = [a, b, c] := by
  unfold Lib.fields
  rw [List.append_assoc, List.append_assoc, fields_word a _ [] h1, List.nil_append]
  have e : Lib.isSp 32 = true := by decide
  have ea : a.isEmpty = false := by cases a <;> simp_all
  have h := fields_two b c hb hc h2 h3
  unfold Lib.fields at h
  simp only [List.cons_append, List.nil_append, Lib.fieldsGo, e, if_true, ea, Bool.false_eq_true, if_false]
  rw [show b ++ 32 :: c = b ++ [32] ++ c by simp, h]

theorem text_wb (x : Int) : (∀ c ∈ textOf x, wb c) ∧ textOf x ≠ [] := by
  rw [textOf_body]
  obtain ⟨h1, _, _, _⟩ := dec_facts (x.natAbs / 100)
  constructor
  · intro c hc
    rcases List.mem_append.1 hc with hc | hc
    · split at hc
      · simp at hc; subst hc; exact wb_of (by decide) (by decide)
      · simp at hc
    · unfold bodyText at hc
      rcases List.mem_append.1 hc with hc | hc
      · have := (dig_iff c).1 (List.all_eq_true.1 h1 c hc)
        exact wb_of (by omega) (by omega)
      · simp only [List.mem_cons, List.not_mem_nil, or_false] at hc
        rcases hc with rfl | rfl | rfl
        · exact wb_of (by decide) (by decide)
        · have := dgN (x.natAbs % 100 / 10) (by omega); exact wb_of (by omega) (by omega)
        · have := dgN (x.natAbs % 10) (by omega); exact wb_of (by omega) (by omega)
  · unfold bodyText
    simp
theorem name_wb (l : List UInt8) (h : nameOf l = true) : (∀ c ∈ l, wb c) ∧ l ≠ [] ∧ l.length ≤ 16 := by
  match l, h with
  | c :: t, h =>
    simp only [nameOf, Bool.and_eq_true, decide_eq_true_eq] at h
    obtain ⟨⟨h1, h2⟩, h3⟩ := h
    refine ⟨fun x hx => ?_, by simp, by simp only [List.length_cons]; omega⟩
    have hs : ∀ y, small y = true → wb y := fun y hy => by
      simp only [small, Bool.and_eq_true, decide_eq_true_eq] at hy
      exact wb_of (by omega) (by omega)
    rcases List.mem_cons.1 hx with hx | hx
    · subst hx; exact hs _ h2
    · have := List.all_eq_true.1 h3 x hx
      simp only [Bool.or_eq_true, decide_eq_true_eq] at this
      rcases this with (h | h) | h
      · exact hs _ h
      · have := (dig_iff x).1 h; exact wb_of (by omega) (by omega)
      · exact wb_of (by omega) (by omega)

theorem fields_f (l : List UInt8) (h : ∀ c ∈ l, c.toNat < 128) (hl : l.length < 4294967281) (ws : List (List UInt8)) (hf : Lib.fields l = ws) : strings_Fields.f (bs l) = some (ws.map fun l => bs l) := by
  unfold strings_Fields.f
  rw [if_pos]
  · show some ((Lib.fields l).map fun l => (⟨l.toArray⟩ : ByteArray)) = _
    rw [hf]
  · refine ⟨by rw [bs_size]; exact hl, ?_⟩
    show (l.all fun b => decide (b.toNat < 128)) = true
    rw [List.all_eq_true]
    intro b hb
    simpa using h b hb

theorem element_text_f (s : ByteArray) (x u : Int) (hs : s.size ≤ 1000) (hx0 : -9223372036854775808 ≤ x) (hx1 : x ≤ 9223372036854775807) (hu0 : -9223372036854775808 ≤ u) (hu1 : u ≤ 9223372036854775807) :
    element_Text.f s x u = some (bs (s.toList ++ [32] ++ textOf x ++ (if u = 100 then [] else [32] ++ (120 :: textOf u)))) := by
  have hsl : s.toList.length = s.size := by rw [Lib.toList_data, data_length]
  have hl1 := text_len x hx0 hx1
  have hl2 := text_len u hu0 hu1
  have e1 : s ++ (⟨#[32]⟩ : ByteArray) = bs (s.toList ++ [32]) := (congrArg (fun z => z ++ (⟨#[32]⟩ : ByteArray)) (bs_eta s).symm).trans (ba_append s.toList [32])
  have e2 : bs (s.toList ++ [32]) ++ bs (textOf x) = bs (s.toList ++ [32] ++ textOf x) := ba_append _ _
  have e3 : (⟨#[32, 120]⟩ : ByteArray) ++ bs (textOf u) = bs ([32, 120] ++ textOf u) := ba_append [32, 120] _
  have e4 : bs (s.toList ++ [32] ++ textOf x) ++ bs ([32, 120] ++ textOf u) = bs (s.toList ++ [32] ++ textOf x ++ ([32, 120] ++ textOf u)) := ba_append _ _
  unfold element_Text.f
  rw [if_pos (by omega), text_f x hx0 hx1, Option.bind_some, e1, bs_size, show (⟨(textOf x).toArray⟩ : ByteArray) = bs (textOf x) from rfl, bs_size, if_pos (by simp only [List.length_append, List.length_cons, List.length_nil]; omega), e2]
  by_cases c : u = 100
  · rw [if_pos c, if_pos c, List.append_nil]
  · rw [if_neg c, if_neg c, text_f u hu0 hu1, Option.bind_some, show (⟨(textOf u).toArray⟩ : ByteArray) = bs (textOf u) from rfl, bs_size, if_pos (by omega), e3, bs_size, bs_size, if_pos (by simp only [List.length_append, List.length_cons, List.length_nil]; omega), e4]
    rfl

theorem elementTexts_true (s : ByteArray) (x u : Int) (g : ok48 ⟨s, x, u⟩) : ∃ k, stipendlaw11_ElementTexts.f k s x u = some true := by
  obtain ⟨_, gx, gu⟩ := g
  have hgx : -9223372036854775808 ≤ x ∧ x ≤ 9223372036854775807 := by have := gx; simp [okI, Lit.wf] at this; exact this
  have hgu : -9223372036854775808 ≤ u ∧ u ≤ 9223372036854775807 := by have := gu; simp [okI, Lit.wf] at this; exact this
  apply Ev.get
  unfold stipendlaw11_ElementTexts.f
  refine Ev.bindc (a := true) rfl (Ev.pos rfl ?_)
  have hj : Ev (fun k => stipendlaw11_ElementTexts.j0 k true s x u) true := by
    refine Ev.shift (fun k => by rw [stipendlaw11_ElementTexts.j0]) ?_
    exact Ev.pos rfl Ev.now
  obtain ⟨r, hv, _⟩ := value_ev s x u
  refine Ev.bind hv ?_
  by_cases ok : okAmt x = true ∧ ¬(u < 0 ∨ 100000 < u) ∧ okAmt r = true
  · obtain ⟨hx, hu, hr⟩ := ok
    have e : worthOf x u r = (r, 0) := by unfold worthOf; rw [if_pos hx, if_neg hu, if_pos hr]
    rw [e]
    refine Ev.pos rfl ?_
    by_cases hbig : s.size ≤ 1000000
    · refine Ev.bind (name_ev s hbig) ?_
      by_cases hn : nameOf s.toList = true
      · rw [hn]
        obtain ⟨n1, n2, n3⟩ := name_wb _ hn
        have hsl : s.toList.length = s.size := by rw [Lib.toList_data, data_length]
        obtain ⟨t1, t2⟩ := text_wb x
        obtain ⟨v1, v2⟩ := text_wb u
        have hlx := text_len x hgx.1 hgx.2
        have hlu := text_len u hgu.1 hgu.2
        have px : parseOf (textOf x) = (x, 0) := (parse_text x hgx.1 hgx.2).trans (if_pos hx)
        have hou : okAmt u = true := (okAmt_iff u).2 (by omega)
        have pu : parseOf (textOf u) = (u, 0) := (parse_text u hgu.1 hgu.2).trans (if_pos hou)
        refine Ev.shift (fun k => by rw [stipendlaw11_ElementTexts.j0]) ?_
        refine Ev.neg (by decide) (Ev.bindc (element_text_f s x u (by omega) hgx.1 hgx.2 hgu.1 hgu.2) ?_)
        by_cases c : u = 100
        · rw [if_pos c, List.append_nil]
          have hf := fields_f _ (fun y hy => by
            simp only [List.mem_append, List.mem_cons, List.not_mem_nil, or_false] at hy
            rcases hy with (hy | hy) | hy
            · exact (n1 y hy).2
            · subst hy; decide
            · exact (t1 y hy).2) (by simp only [List.length_append, List.length_cons, List.length_nil]; omega) _ (fields_two s.toList (textOf x) n2 t2 n1 t1)
          refine Ev.bindc hf (Ev.bind (eparse_ev _ (by simp) (fun w hw => ?_)) ?_)
          · simp only [List.map_cons, List.map_nil, List.mem_cons, List.not_mem_nil, or_false] at hw
            rcases hw with rfl | rfl
            · rw [bs_size]; omega
            · rw [bs_size]; omega
          · have ee : elemOf [bs s.toList, bs (textOf x)] = (bs s.toList, x, 100, 0) := by
              simp only [elemOf, bs_toList, hn, if_true, px]
            rw [show ([s.toList, textOf x].map fun l => bs l) = [bs s.toList, bs (textOf x)] from rfl, ee]
            refine Ev.pos rfl (Ev.const ?_)
            rw [c, bs_eta]
            simp
        · rw [if_neg c]
          have h3 : ∀ y ∈ (120 :: textOf u : List UInt8), wb y := fun y hy => by
            rcases List.mem_cons.1 hy with hy | hy
            · subst hy; exact wb_of (by decide) (by decide)
            · exact v1 y hy
          have hf := fields_f _ (fun y hy => by
            simp only [List.mem_append, List.mem_cons, List.not_mem_nil, or_false] at hy
            rcases hy with ((hy | hy) | hy) | hy | hy | hy
            · exact (n1 y hy).2
            · subst hy; decide
            · exact (t1 y hy).2
            · subst hy; decide
            · subst hy; decide
            · exact (v1 y hy).2) (by simp only [List.length_append, List.length_cons, List.length_nil]; omega) _ (fields_three s.toList (textOf x) (120 :: textOf u) n2 t2 (by simp) n1 t1 h3)
          refine Ev.bindc hf (Ev.bind (eparse_ev _ (by simp) (fun w hw => ?_)) ?_)
          · simp only [List.map_cons, List.map_nil, List.mem_cons, List.not_mem_nil, or_false] at hw
            rcases hw with rfl | rfl | rfl
            · rw [bs_size]; omega
            · rw [bs_size]; omega
            · rw [bs_size]; simp only [List.length_cons]; omega
          · have ee : elemOf [bs s.toList, bs (textOf x), bs (120 :: textOf u)] = (bs s.toList, x, u, 0) := by
              simp only [elemOf, bs_toList, hn, if_true, px]
              unfold thirdOf
              simp only [cutX, if_true, pu]
              rw [if_neg hu]
            rw [show ([s.toList, textOf x, 120 :: textOf u].map fun l => bs l) = [bs s.toList, bs (textOf x), bs (120 :: textOf u)] from rfl, ee]
            refine Ev.pos rfl (Ev.const ?_)
            rw [bs_eta]
            simp
      · rw [Bool.eq_false_iff.2 hn]
        exact hj
    · have hbigf : Ev (fun k => word_Name.f k s) false := by
        unfold word_Name.f
        have hsl : s.toList.length = s.size := by rw [Lib.toList_data, data_length]
        have hne : s.toList ≠ [] := fun h => by rw [h] at hsl; simp at hsl; omega
        refine Ev.neg hne (Ev.shift (fun k => by rw [word_Name.j0]) ?_)
        exact Ev.pos (by simp; omega) Ev.now
      exact Ev.bind hbigf hj
  · have e : ∃ a b, worthOf x u r = (a, b) ∧ b ≠ 0 := by
      unfold worthOf
      by_cases c1 : okAmt x = true
      · rw [if_pos c1]
        by_cases c2 : u < 0 ∨ 100000 < u
        · rw [if_pos c2]; exact ⟨_, _, rfl, by decide⟩
        · rw [if_neg c2]
          by_cases c3 : okAmt r = true
          · exact absurd ⟨c1, c2, c3⟩ ok
          · rw [if_neg c3]; exact ⟨_, _, rfl, by decide⟩
      · rw [if_neg c1]; exact ⟨_, _, rfl, by decide⟩
    obtain ⟨a, b, e, hb⟩ := e
    rw [e]
    exact Ev.neg hb hj
end Go.Proofs.YtmocphafkimdpaaDoor.P
