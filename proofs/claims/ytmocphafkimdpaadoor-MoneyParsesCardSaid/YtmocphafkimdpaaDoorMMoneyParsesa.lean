/- A part of the proof of MoneyParses's card: 'MoneyParses' answers true for every input (the conditions: those of the given statement alone). Merged by a program (wip/merge.py) out of: GPText. -/
import Derived.Test.YtmocphafkimdpaaDoorBMoneyj
import Derived.Test.YtmocphafkimdpaaDoorBMoneya

/- What money.Text writes, money.Parse reads. -/
namespace Go.Proofs.YtmocphafkimdpaaDoor.P
open Go.RowKit Go.Proofs.YtmocphafkimdpaaDoorW.PrintWords Go.Proofs.YtmocphafkimdpaaDoorW.PrintLast Go.Proofs.YtmocphafkimdpaaDoorW.PrintMore
set_option linter.unusedVariables false

theorem dgN_all : ∀ d : Fin 10, (UInt8.ofNat (48 + d.val)).toNat = 48 + d.val := by decide
theorem dgN (d : Nat) (h : d < 10) : (UInt8.ofNat (48 + d)).toNat = 48 + d := dgN_all ⟨d, h⟩
theorem dig_dg (d : Nat) (h : d < 10) : dig (UInt8.ofNat (48 + d)) = true := by
  rw [dig_iff, dgN d h]; omega
theorem dec_step (q : Nat) (h : ¬q < 10) : Lib.decDigits q = Lib.decDigits (q / 10) ++ [UInt8.ofNat (48 + q % 10)] := by
  rw [Lib.decDigits, dif_neg h]
theorem valFrom_snoc (l : List UInt8) (c : UInt8) : ∀ n, valFrom n (l ++ [c]) = 10 * valFrom n l + (c.toNat - 48) := by
  induction l with
  | nil => intro n; rfl
  | cons a t ih => intro n; exact ih _
theorem dec_facts (q : Nat) : (Lib.decDigits q).all dig = true ∧ valFrom 0 (Lib.decDigits q) = q ∧ (0 < q → ∃ c t, Lib.decDigits q = c :: t ∧ c.toNat ≠ 48) ∧ Lib.decDigits q ≠ [] := by
  induction q using Nat.strongRecOn with
  | _ q ih =>
    by_cases h : q < 10
    · rw [dec_small q h]
      refine ⟨by simp only [List.all_cons, List.all_nil, Bool.and_true]; exact dig_dg q h, ?_, fun h0 => ⟨_, [], rfl, by rw [dgN q h]; omega⟩, by simp⟩
      show 10 * 0 + ((UInt8.ofNat (48 + q)).toNat - 48) = q
      rw [dgN q h]; omega
    · obtain ⟨h1, h2, h3, h4⟩ := ih (q / 10) (by omega)
      have hm : q % 10 < 10 := Nat.mod_lt _ (by decide)
      rw [dec_step q h]
      refine ⟨by simp only [List.all_append, h1, Bool.true_and, List.all_cons, List.all_nil, Bool.and_true]; exact dig_dg _ hm, ?_, fun _ => ?_, by simp⟩
      · rw [valFrom_snoc, h2, dgN _ hm]; omega
      · obtain ⟨c, t, e, hc⟩ := h3 (by omega)
        exact ⟨c, t ++ [_], by rw [e]; rfl, hc⟩
theorem dec_len_le : ∀ (m q : Nat), q < 10 ^ (m + 1) → (Lib.decDigits q).length ≤ m + 1 := by
  intro m
  induction m with
  | zero =>
    intro q h
    rw [dec_small q (by simpa using h)]
    simp
  | succ m ih =>
    intro q h
    by_cases h1 : q < 10
    · rw [dec_small q h1]; simp
    · rw [dec_step q h1]
      have := ih (q / 10) (by rw [Nat.pow_succ] at h; omega)
      simp
      omega
theorem wholeOk_head (c : UInt8) (t : List UInt8) (h : c.toNat ≠ 48) : wholeOk (c :: t) = true := by
  cases t <;> simp [wholeOk, h]
theorem dec_whole (q : Nat) : wholeOk (Lib.decDigits q) = true := by
  by_cases h : q < 10
  · rw [dec_small q h]; rfl
  · obtain ⟨_, _, h3, _⟩ := dec_facts q
    obtain ⟨c, t, e, hc⟩ := h3 (by omega)
    rw [e]; exact wholeOk_head c t hc

/-- The digits of a text, without its sign. -/
def bodyText (n : Nat) : List UInt8 := Lib.decDigits (n / 100) ++ [46, UInt8.ofNat (48 + n % 100 / 10), UInt8.ofNat (48 + n % 10)]
theorem textOf_body (x : Int) : textOf x = (if x < 0 then [45] else []) ++ bodyText x.natAbs := by
  unfold textOf bodyText
  simp
theorem part_text (neg : Bool) (n : Nat) (hn : neg = true → 0 < n) : partOf neg (Lib.decDigits (n / 100)) (n % 100) = if okAmt (sgn neg * (n : Int)) = true then (sgn neg * (n : Int), 0) else (0, 10) := by
  obtain ⟨h1, h2, h3, h4⟩ := dec_facts (n / 100)
  unfold partOf
  rw [h1, h2, dec_whole, Bool.true_and, Bool.true_and]
  rw [show n / 100 * 100 + n % 100 = n by omega]
  by_cases c : 12 < (Lib.decDigits (n / 100)).length
  · have hq : ¬n / 100 < 10 ^ 12 := fun h => by have := dec_len_le 11 (n / 100) h; omega
    have hw : wholeOk ((Lib.decDigits (n / 100)).take 12) = true := by
      obtain ⟨c, t, e, hc⟩ := h3 (by omega)
      rw [e]
      exact wholeOk_head c _ hc
    rw [if_pos c, if_pos hw, if_neg]
    rw [okAmt_iff]
    cases neg <;> simp [sgn] <;> omega
  · rw [if_neg c, if_pos rfl, if_neg]
    intro h
    have := hn h.1
    omega
theorem body_text (neg : Bool) (n : Nat) (h : n < 10000000000000000000) (hn : neg = true → 0 < n) : bodyOf neg (bodyText n) = if okAmt (sgn neg * (n : Int)) = true then (sgn neg * (n : Int), 0) else (0, 10) := by
  have hl := dec_len_le 16 (n / 100) (by omega)
  have hne := (dec_facts (n / 100)).2.2.2
  have hpos : 0 < (Lib.decDigits (n / 100)).length := List.length_pos_iff.2 hne
  rw [← part_text neg n hn]
  unfold bodyOf bodyText
  generalize Lib.decDigits (n / 100) = D at hl hpos ⊢
  have e1 : (D ++ [46, UInt8.ofNat (48 + n % 100 / 10), UInt8.ofNat (48 + n % 10)]).length = D.length + 3 := by simp
  rw [e1]
  have g0 : (D ++ [46, UInt8.ofNat (48 + n % 100 / 10), UInt8.ofNat (48 + n % 10)])[D.length + 3 - 3]? = some 46 := by
    rw [show D.length + 3 - 3 = D.length by omega]; simp
  have g1 : (D ++ [46, UInt8.ofNat (48 + n % 100 / 10), UInt8.ofNat (48 + n % 10)]).getD (D.length + 3 - 2) 0 = UInt8.ofNat (48 + n % 100 / 10) := by
    rw [show D.length + 3 - 2 = D.length + 1 by omega, List.getD_eq_getElem?_getD, List.getElem?_append_right (by omega), show D.length + 1 - D.length = 1 by omega]; rfl
  have g2 : (D ++ [46, UInt8.ofNat (48 + n % 100 / 10), UInt8.ofNat (48 + n % 10)]).getD (D.length + 3 - 1) 0 = UInt8.ofNat (48 + n % 10) := by
    rw [show D.length + 3 - 1 = D.length + 2 by omega, List.getD_eq_getElem?_getD, List.getElem?_append_right (by omega), show D.length + 2 - D.length = 2 by omega]; rfl
  rw [g1, g2, if_neg (by omega), if_pos ⟨by omega, g0⟩, if_pos ⟨dig_dg _ (by omega), dig_dg _ (by omega)⟩, dgN _ (by omega), dgN _ (by omega)]
  rw [show D.length + 3 - 3 = D.length by omega, List.take_left' rfl]
  congr 1
  omega
theorem parse_text (x : Int) (h0 : -9223372036854775808 ≤ x) (h1 : x ≤ 9223372036854775807) : parseOf (textOf x) = if okAmt x = true then (x, 0) else (0, 10) := by
  rw [textOf_body]
  by_cases hx : x < 0
  · rw [if_pos hx]
    show bodyOf true (bodyText x.natAbs) = _
    rw [body_text true x.natAbs (by omega) (fun _ => by omega)]
    rw [show sgn true * (x.natAbs : Int) = x by simp [sgn]; omega]
  · rw [if_neg hx, List.nil_append]
    have hd : ∃ c t, bodyText x.natAbs = c :: t ∧ c ≠ 45 := by
      obtain ⟨ha, _, _, hne⟩ := dec_facts (x.natAbs / 100)
      unfold bodyText
      cases e : Lib.decDigits (x.natAbs / 100) with
      | nil => exact absurd e hne
      | cons c t =>
        refine ⟨c, _, rfl, fun h => ?_⟩
        rw [e] at ha
        simp only [List.all_cons, Bool.and_eq_true] at ha
        have := (dig_iff c).1 ha.1
        rw [h] at this
        exact absurd this.1 (by decide)
    have hp : parseOf (bodyText x.natAbs) = bodyOf false (bodyText x.natAbs) := by
      obtain ⟨c, t, e, hc⟩ := hd
      rw [e]
      unfold parseOf
      split
      · rename_i h; injection h with h; exact absurd h hc
      · rfl
    rw [hp, body_text false x.natAbs (by omega) (fun h => by cases h)]
    rw [show sgn false * (x.natAbs : Int) = x by simp [sgn]; omega]
theorem text_len (x : Int) (h0 : -9223372036854775808 ≤ x) (h1 : x ≤ 9223372036854775807) : (textOf x).length ≤ 30 := by
  have := dec_len_le 16 (x.natAbs / 100) (by omega)
  rw [textOf_body]
  unfold bodyText
  split <;> simp <;> omega
end Go.Proofs.YtmocphafkimdpaaDoor.P
