/- A part of the proof of ShareLines's card: 'ShareLines' answers true for every input (the conditions: those of the given statement alone). Merged by a program (wip/merge.py) out of: GText, GPText, Pf55, GLines, GOpenW, GFloatA, GFloat, GPair. -/
import Derived.Test.YtmocphafkimdpaaDoorMShareLinesd
import Derived.Test.YtmocphafkimdpaaDoorMShareLinesa
import Derived.SizedLaws
import Derived.Laws.FloatArith
import Derived.Laws.ComplexArith
import Derived.WalkLawsBesides
import Derived.Lib.Hide
import Derived.LoopTactic
import Derived.Outline

/- money.Text's text, as a list of bytes. -/
namespace Go.Proofs.YtmocphafkimdpaaDoor.P
open Go.RowKit Go.Proofs.YtmocphafkimdpaaDoorW.PrintWords Go.Proofs.YtmocphafkimdpaaDoorW.PrintLast Go.Proofs.YtmocphafkimdpaaDoorW.PrintMore

theorem abs_f (x : Int) (h0 : -9223372036854775808 ≤ x) (h1 : x ≤ 9223372036854775807) : money_Abs.f x = some (x.natAbs : Int) := by
 unfold money_Abs.f
 rw [IntKind.wrap_u64, IntKind.wrap_u64, IntKind.wrap_u64]
 unfold wrap64
 split
 ·congr 1; omega
 ·congr 1; omega

theorem dec_small (n : Nat) (h : n < 10) : Lib.decDigits n = [UInt8.ofNat (48 + n)] := by
 rw [Lib.decDigits, dif_pos h]
theorem dec_two (n : Nat) (h0 : 10 ≤ n) (h : n < 100) : Lib.decDigits n = [UInt8.ofNat (48 + n / 10), UInt8.ofNat (48 + n % 10)] := by
 rw [Lib.decDigits, dif_neg (by omega), dec_small (n / 10) (by omega)]
 rfl

/-- An amount as it is written: whole coins, a point, two digits. -/
def textOf (x : Int) : List UInt8 := (if x < 0 then [45] else []) ++ Lib.decDigits (x.natAbs / 100) ++ [46] ++ [UInt8.ofNat (48 + x.natAbs % 100 / 10), UInt8.ofNat (48 + x.natAbs % 10)]

theorem dec_len (n : Nat) (h : n < 18446744073709551616) : (Lib.decDigits n).length ≤ 20 := by
 rw [Lib.decDigits_length]
 by_cases h0 : n = 0
 ·subst h0
  rw [Lib.nDigits_small (by omega)]; omega
 ·have := Lib.numDigits_eq n (by omega) h
  split at this <;> omega

theorem ba_append (a b : List UInt8) : (⟨a.toArray⟩ : ByteArray) ++ (⟨b.toArray⟩ : ByteArray) = ⟨(a ++ b).toArray⟩ := by
 apply ByteArray.ext
 simp

theorem ba_size (a : List UInt8) : (⟨a.toArray⟩ : ByteArray).size = a.length := by
 simp [ByteArray.size]

theorem fmt_f (n : Nat) (h : n < 18446744073709551616) : strconv_FormatUint_82.f (n : Int) 10 = some ⟨(Lib.decDigits n).toArray⟩ := by
 unfold strconv_FormatUint_82.f
 rw [if_pos ⟨rfl, by omega, by omega⟩, Int.toNat_natCast]

theorem text_e1 (n : Nat) (hn : n < 18446744073709551616) : IntKind.u64.wrap (Int.tdiv (n : Int) 100) = ((n / 100 : Nat) : Int) := by
 rw [IntKind.wrap_u64, Int.tdiv_eq_ediv_of_nonneg (by omega)]; omega
theorem text_e2 (n : Nat) : Int.tmod (n : Int) 100 = ((n % 100 : Nat) : Int) := by
 rw [Int.tmod_eq_emod_of_nonneg (by omega)]; omega

/-- The text's making, the two halves' digits given. -/
theorem text_make (x : Int) (A : List UInt8) (m : Nat) (hA : A.length ≤ 20) (hm2 : m < 100) (l2 : (Lib.decDigits m).length ≤ 20) :
  (if (⟨A.toArray⟩ : ByteArray).size + 1 ≤ 9223372036854775807 then (if (m : Int) < 10 then (if ((⟨A.toArray⟩ : ByteArray) ++ (⟨([46] : List UInt8).toArray⟩ : ByteArray)).size + 1 ≤ 9223372036854775807 then ((some (⟨(Lib.decDigits m).toArray⟩ : ByteArray)).bind fun t194 => (if (((⟨A.toArray⟩ : ByteArray) ++ (⟨([46] : List UInt8).toArray⟩ : ByteArray)) ++ (⟨([48] : List UInt8).toArray⟩ : ByteArray)).size + t194.size ≤ 9223372036854775807 then (if x < 0 then (if 1 + ((((⟨A.toArray⟩ : ByteArray) ++ (⟨([46] : List UInt8).toArray⟩ : ByteArray)) ++ (⟨([48] : List UInt8).toArray⟩ : ByteArray)) ++ t194).size ≤ 9223372036854775807 then (some ((⟨([45] : List UInt8).toArray⟩ : ByteArray) ++ ((((⟨A.toArray⟩ : ByteArray) ++ (⟨([46] : List UInt8).toArray⟩ : ByteArray)) ++ (⟨([48] : List UInt8).toArray⟩ : ByteArray)) ++ t194))) else none) else (some ((((⟨A.toArray⟩ : ByteArray) ++ (⟨([46] : List UInt8).toArray⟩ : ByteArray)) ++ (⟨([48] : List UInt8).toArray⟩ : ByteArray)) ++ t194))) else none)) else none) else ((some (⟨(Lib.decDigits m).toArray⟩ : ByteArray)).bind fun t195 => (if ((⟨A.toArray⟩ : ByteArray) ++ (⟨([46] : List UInt8).toArray⟩ : ByteArray)).size + t195.size ≤ 9223372036854775807 then (if x < 0 then (if 1 + (((⟨A.toArray⟩ : ByteArray) ++ (⟨([46] : List UInt8).toArray⟩ : ByteArray)) ++ t195).size ≤ 9223372036854775807 then (some ((⟨([45] : List UInt8).toArray⟩ : ByteArray) ++ (((⟨A.toArray⟩ : ByteArray) ++ (⟨([46] : List UInt8).toArray⟩ : ByteArray)) ++ t195))) else none) else (some (((⟨A.toArray⟩ : ByteArray) ++ (⟨([46] : List UInt8).toArray⟩ : ByteArray)) ++ t195))) else none))) else none) = some ⟨((if x < 0 then [45] else []) ++ A ++ [46] ++ [UInt8.ofNat (48 + m / 10), UInt8.ofNat (48 + m % 10)]).toArray⟩ := by
 simp only [Option.bind_some, ba_append, ba_size, List.length_append, List.length_cons, List.length_nil]
 rw [if_pos (by omega)]
 by_cases hm : m < 10
 ·have d1 : m / 10 = 0 := by omega
  have d2 : m % 10 = m := by omega
  rw [if_pos (by omega), if_pos (by omega), if_pos (by omega), d1, d2, dec_small m hm]
  by_cases hx : x < 0
  ·rw [if_pos hx, if_pos (by simp only [List.length_cons, List.length_nil]; omega), if_pos hx]
   simp
  ·rw [if_neg hx, if_neg hx]
   simp
 ·rw [if_neg (by omega), if_pos (by omega), dec_two m (by omega) hm2]
  by_cases hx : x < 0
  ·rw [if_pos hx, if_pos (by simp only [List.length_cons, List.length_nil]; omega), if_pos hx]
   simp
  ·rw [if_neg hx, if_neg hx]
   simp

theorem text_f (x : Int) (h0 : -9223372036854775808 ≤ x) (h1 : x ≤ 9223372036854775807) : money_Text.f x = some ⟨(textOf x).toArray⟩ := by
 have hn : x.natAbs < 18446744073709551616 := by omega
 unfold money_Text.f
 rw [abs_f x h0 h1, Option.bind_some, text_e1 _ hn, text_e2, fmt_f _ (by omega), fmt_f _ (by omega), Option.bind_some]
 have e3 : x.natAbs % 10 = x.natAbs % 100 % 10 := by omega
 unfold textOf
 rw [e3]
 exact text_make x _ _ (dec_len _ (by omega)) (Nat.mod_lt _ (by decide)) (dec_len _ (by omega))

end Go.Proofs.YtmocphafkimdpaaDoor.P


/- What money.Text writes, money.Parse reads. -/
namespace Go.Proofs.YtmocphafkimdpaaDoor.P
open Go.RowKit Go.Proofs.YtmocphafkimdpaaDoorW.PrintWords Go.Proofs.YtmocphafkimdpaaDoorW.PrintLast Go.Proofs.YtmocphafkimdpaaDoorW.PrintMore
set_option linter.unusedVariables false

theorem dgN_all : ∀ d : Fin 10, (UInt8.ofNat (48 + d.val)).toNat = 48 + d.val := by decide
theorem dgN (d : Nat) (h : d < 10) : (UInt8.ofNat (48 + d)).toNat = 48 + d := dgN_all ⟨d, h⟩
theorem dig_dg (d : Nat) (h : d < 10) : dig (UInt8.ofNat (48 + d)) = true := by
 rw [dig_iff, dgN d h]; omega
theorem dec_step (q : Nat) (h : ¬q < 10) : Lib.decDigits q = Lib.decDigits (q / 10) ++ [UInt8.ofNat (48 + q % 10)] := by
 rw [Lib.decDigits, dif_neg h]
theorem valFrom_snoc (l : List UInt8) (c : UInt8) : ∀ n, valFrom n (l ++ [c]) = 10 * valFrom n l + (c.toNat - 48) := by
 induction l with
 | nil => intro n; rfl
 | cons a t ih => intro n; exact ih _
theorem dec_facts (q : Nat) : (Lib.decDigits q).all dig = true ∧ valFrom 0 (Lib.decDigits q) = q ∧ (0 < q → ∃ c t, Lib.decDigits q = c :: t ∧ c.toNat ≠ 48) ∧ Lib.decDigits q ≠ [] := by
 induction q using Nat.strongRecOn with
 | _ q ih =>
  by_cases h : q < 10
  ·rw [dec_small q h]
   refine ⟨by simp only [List.all_cons, List.all_nil, Bool.and_true]; exact dig_dg q h, ?_, fun h0 => ⟨_, [], rfl, by rw [dgN q h]; omega⟩, by simp⟩
   show 10 * 0 + ((UInt8.ofNat (48 + q)).toNat - 48) = q
   rw [dgN q h]; omega
  ·obtain ⟨h1, h2, h3, h4⟩ := ih (q / 10) (by omega)
   have hm : q % 10 < 10 := Nat.mod_lt _ (by decide)
   rw [dec_step q h]
   refine ⟨by simp only [List.all_append, h1, Bool.true_and, List.all_cons, List.all_nil, Bool.and_true]; exact dig_dg _ hm, ?_, fun _ => ?_, by simp⟩
   ·rw [valFrom_snoc, h2, dgN _ hm]; omega
   ·obtain ⟨c, t, e, hc⟩ := h3 (by omega)
    exact ⟨c, t ++ [_], by rw [e]; rfl, hc⟩
theorem dec_len_le : ∀ (m q : Nat), q < 10 ^ (m + 1) → (Lib.decDigits q).length ≤ m + 1 := by
 intro m
 induction m with
 | zero =>
  intro q h
  rw [dec_small q (by simpa using h)]
  simp
 | succ m ih =>
  intro q h
  by_cases h1 : q < 10
  ·rw [dec_small q h1]; simp
  ·rw [dec_step q h1]
   have := ih (q / 10) (by rw [Nat.pow_succ] at h; omega)
   simp
   omega
theorem wholeOk_head (c : UInt8) (t : List UInt8) (h : c.toNat ≠ 48) : wholeOk (c :: t) = true := by
 cases t <;> simp [wholeOk, h]
theorem dec_whole (q : Nat) : wholeOk (Lib.decDigits q) = true := by
 by_cases h : q < 10
 ·rw [dec_small q h]; rfl
 ·obtain ⟨_, _, h3, _⟩ := dec_facts q
  obtain ⟨c, t, e, hc⟩ := h3 (by omega)
  rw [e]; exact wholeOk_head c t hc

/-- The digits of a text, without its sign. -/
def bodyText (n : Nat) : List UInt8 := Lib.decDigits (n / 100) ++ [46, UInt8.ofNat (48 + n % 100 / 10), UInt8.ofNat (48 + n % 10)]
theorem textOf_body (x : Int) : textOf x = (if x < 0 then [45] else []) ++ bodyText x.natAbs := by
 unfold textOf bodyText
 simp
theorem part_text (neg : Bool) (n : Nat) (hn : neg = true → 0 < n) : partOf neg (Lib.decDigits (n / 100)) (n % 100) = if okAmt (sgn neg * (n : Int)) = true then (sgn neg * (n : Int), 0) else (0, 10) := by
 obtain ⟨h1, h2, h3, h4⟩ := dec_facts (n / 100)
 unfold partOf
 rw [h1, h2, dec_whole, Bool.true_and, Bool.true_and]
 rw [show n / 100 * 100 + n % 100 = n by omega]
 by_cases c : 12 < (Lib.decDigits (n / 100)).length
 ·have hq : ¬n / 100 < 10 ^ 12 := fun h => by have := dec_len_le 11 (n / 100) h; omega
  have hw : wholeOk ((Lib.decDigits (n / 100)).take 12) = true := by
   obtain ⟨c, t, e, hc⟩ := h3 (by omega)
   rw [e]
   exact wholeOk_head c _ hc
  rw [if_pos c, if_pos hw, if_neg]
  rw [okAmt_iff]
  cases neg <;> simp [sgn] <;> omega
 ·rw [if_neg c, if_pos rfl, if_neg]
  intro h
  have := hn h.1
  omega
theorem body_text (neg : Bool) (n : Nat) (h : n < 10000000000000000000) (hn : neg = true → 0 < n) : bodyOf neg (bodyText n) = if okAmt (sgn neg * (n : Int)) = true then (sgn neg * (n : Int), 0) else (0, 10) := by
 have hl := dec_len_le 16 (n / 100) (by omega)
 have hne := (dec_facts (n / 100)).2.2.2
 have hpos : 0 < (Lib.decDigits (n / 100)).length := List.length_pos_iff.2 hne
 rw [← part_text neg n hn]
 unfold bodyOf bodyText
 generalize Lib.decDigits (n / 100) = D at hl hpos ⊢
 have e1 : (D ++ [46, UInt8.ofNat (48 + n % 100 / 10), UInt8.ofNat (48 + n % 10)]).length = D.length + 3 := by simp
 rw [e1]
 have g0 : (D ++ [46, UInt8.ofNat (48 + n % 100 / 10), UInt8.ofNat (48 + n % 10)])[D.length + 3 - 3]? = some 46 := by
  rw [show D.length + 3 - 3 = D.length by omega]; simp
 have g1 : (D ++ [46, UInt8.ofNat (48 + n % 100 / 10), UInt8.ofNat (48 + n % 10)]).getD (D.length + 3 - 2) 0 = UInt8.ofNat (48 + n % 100 / 10) := by
  rw [show D.length + 3 - 2 = D.length + 1 by omega, List.getD_eq_getElem?_getD, List.getElem?_append_right (by omega), show D.length + 1 - D.length = 1 by omega]; rfl
 have g2 : (D ++ [46, UInt8.ofNat (48 + n % 100 / 10), UInt8.ofNat (48 + n % 10)]).getD (D.length + 3 - 1) 0 = UInt8.ofNat (48 + n % 10) := by
  rw [show D.length + 3 - 1 = D.length + 2 by omega, List.getD_eq_getElem?_getD, List.getElem?_append_right (by omega), show D.length + 2 - D.length = 2 by omega]; rfl
 rw [g1, g2, if_neg (by omega), if_pos ⟨by omega, g0⟩, if_pos ⟨dig_dg _ (by omega), dig_dg _ (by omega)⟩, dgN _ (by omega), dgN _ (by omega)]
 rw [show D.length + 3 - 3 = D.length by omega, List.take_left' rfl]
 congr 1
 omega
theorem parse_text (x : Int) (h0 : -9223372036854775808 ≤ x) (h1 : x ≤ 9223372036854775807) : parseOf (textOf x) = if okAmt x = true then (x, 0) else (0, 10) := by
 rw [textOf_body]
 by_cases hx : x < 0
 ·rw [if_pos hx]
  show bodyOf true (bodyText x.natAbs) = _
  rw [body_text true x.natAbs (by omega) (fun _ => by omega)]
  rw [show sgn true * (x.natAbs : Int) = x by simp [sgn]; omega]
 ·rw [if_neg hx, List.nil_append]
  have hd : ∃ c t, bodyText x.natAbs = c :: t ∧ c ≠ 45 := by
   obtain ⟨ha, _, _, hne⟩ := dec_facts (x.natAbs / 100)
   unfold bodyText
   cases e : Lib.decDigits (x.natAbs / 100) with
   | nil => exact absurd e hne
   | cons c t =>
    refine ⟨c, _, rfl, fun h => ?_⟩
    rw [e] at ha
    simp only [List.all_cons, Bool.and_eq_true] at ha
    have := (dig_iff c).1 ha.1
    rw [h] at this
    exact absurd this.1 (by decide)
  have hp : parseOf (bodyText x.natAbs) = bodyOf false (bodyText x.natAbs) := by
   obtain ⟨c, t, e, hc⟩ := hd
   rw [e]
   unfold parseOf
   split
   ·rename_i h; injection h with h; exact absurd h hc
   ·rfl
  rw [hp, body_text false x.natAbs (by omega) (fun h => by cases h)]
  rw [show sgn false * (x.natAbs : Int) = x by simp [sgn]; omega]
theorem text_len (x : Int) (h0 : -9223372036854775808 ≤ x) (h1 : x ≤ 9223372036854775807) : (textOf x).length ≤ 30 := by
 have := dec_len_le 16 (x.natAbs / 100) (by omega)
 rw [textOf_body]
 unfold bodyText
 split <;> simp <;> omega
end Go.Proofs.YtmocphafkimdpaaDoor.P


-- written by a program (a patched copy of the kit's print: wip/mkprint.py); Lean checks it
namespace Go.Proofs.YtmocphafkimdpaaDoor.P
open Go.RowKit Go.Proofs.YtmocphafkimdpaaDoorW.PrintWords Go.Proofs.YtmocphafkimdpaaDoorW.PrintLast Go.Proofs.YtmocphafkimdpaaDoorW.PrintMore
attribute [local go_sem] max2_int min2_int max_two min_two max_three min_three max_four min_four   -- for this text's walks alone
set_option linter.unusedVariables false
set_option linter.unusedSimpArgs false

/-! ### share_Lines: function 55 -/
def share_Lines.l0 : Nat → List ByteArray → List (S29) → Int → Int → List (List (S222)) → List (S97) → List (S89) → Int → Int → Option (List ByteArray)
 | 0, _, _, _, _, _, _, _, _, _ => none
 | k + 1, x5, x14, x15, x16, x197000, x197001, x197002, x197003, x197004 => if x16 < x15 then (if 0 ≤ x16 then (if x16 < (x14.length : Int) then (if x16 < (x197001.length : Int) then (if ((rd_T97 x197001 x16).f0).size + 1 ≤ 9223372036854775807 then ((money_Text.f ((rd_T29 x14 x16).f0)).bind fun t200 => (if (((rd_T97 x197001 x16).f0) ++ (⟨#[32]⟩ : ByteArray)).size + t200.size ≤ 9223372036854775807 then (if ((((rd_T97 x197001 x16).f0) ++ (⟨#[32]⟩ : ByteArray)) ++ t200).size + 1 ≤ 9223372036854775807 then ((money_Text.f ((rd_T29 x14 x16).f1)).bind fun t201 => (if (((((rd_T97 x197001 x16).f0) ++ (⟨#[32]⟩ : ByteArray)) ++ t200) ++ (⟨#[32]⟩ : ByteArray)).size + t201.size ≤ 9223372036854775807 then (if x5.length < 8796093022208 then (share_Lines.l0 k (x5 ++ [(((((rd_T97 x197001 x16).f0) ++ (⟨#[32]⟩ : ByteArray)) ++ t200) ++ (⟨#[32]⟩ : ByteArray)) ++ t201]) x14 x15 (wrap64 (x16 + 1)) x197000 x197001 x197002 x197003 x197004) else (none)) else (none))) else (none)) else (none))) else (none)) else (none)) else (none)) else (none)) else (some x5)
def share_Lines.f (k : Nat) (l0_0 : List (List (S222))) (l0_1 : List (S97)) (l0_2 : List (S89)) (a0_3 : Int) (a0_4 : Int) (l1 : List (S29)) : Option (List ByteArray) := if (l1.length : Int) = (l0_1.length : Int) then (share_Lines.l0 k ([] : List ByteArray) l1 (l1.length : Int) 0 l0_0 l0_1 l0_2 a0_3 a0_4) else (some ([] : List ByteArray))
theorem share_Lines.mono_l : ∀ k, (∀ y0 y1 y2 y3 y4 y5 y6 y7 y8, LeO (share_Lines.l0 k y0 y1 y2 y3 y4 y5 y6 y7 y8) (share_Lines.l0 (k + 1) y0 y1 y2 y3 y4 y5 y6 y7 y8))
 | 0 => fun _ _ _ _ _ _ _ _ _ r h => by simp [share_Lines.l0] at h
 | k + 1 => by
  have ih0 := share_Lines.mono_l k
  ·intro y0 y1 y2 y3 y4 y5 y6 y7 y8
   unfold share_Lines.l0
   repeat' first
   | (with_reducible exact ih0 _ _ _ _ _ _ _ _ _)
   | (with_reducible exact LeO.refl _)
   | (with_reducible exact LeO.none _)
   | (with_reducible refine LeO.ite ?_ ?_)
   | (with_reducible refine LeO.bind ?_ (fun _ => ?_))
   | exact ih0 _ _ _ _ _ _ _ _ _
   | exact LeO.none _
   | refine LeO.ite ?_ ?_
   | refine LeO.bind ?_ (fun _ => ?_)
theorem share_Lines.mono : ∀ a0 a1 a2 a3 a4 a5 k, LeO (share_Lines.f k a0 a1 a2 a3 a4 a5) (share_Lines.f (k + 1) a0 a1 a2 a3 a4 a5) := by
 intro a0 a1 a2 a3 a4 a5 k
 have ih0 := share_Lines.mono_l k
 unfold share_Lines.f
 repeat' first
   | (with_reducible exact ih0 _ _ _ _ _ _ _ _ _)
   | (with_reducible exact LeO.refl _)
   | (with_reducible exact LeO.none _)
   | (with_reducible refine LeO.ite ?_ ?_)
   | (with_reducible refine LeO.bind ?_ (fun _ => ?_))
   | exact ih0 _ _ _ _ _ _ _ _ _
   | exact LeO.none _
   | refine LeO.ite ?_ ?_
   | refine LeO.bind ?_ (fun _ => ?_)
def share_Lines.T7 : Bool × List (List Nat × List Nat) := (true, [([], []), ([], []), ([1], [1]), ([], []), ([2, 3], [2, 3]), ([4], [4]), ([5], [5]), ([6], [6]), ([], []), ([8], [8]), ([9], [9]), ([7, 10], [7, 10]), ([11], [11]), ([], []), ([13], [13]), ([14, 10], [14]), ([12, 15], [12, 15]), ([16], [16]), ([0, 17, 15], [0, 17]), ([18, 18, 0, 1, 2, 3, 4, 5, 6, 7, 8, 9, 10, 11, 12, 13, 14, 15, 16, 17, 18], [0, 18])])
def share_Lines.B7 : List Nat := [0, 0, 2, 0, 14, 30, 62, 126, 0, 256, 768, 2046, 4094, 0, 8192, 26368, 65534, 131070, 262143, 524287]
theorem share_Lines.tab7 : rtab .any (opsOf Tryd.f55 7) = share_Lines.T7 := by kernel_rfl
theorem share_Lines.bits7 : waitsOk share_Lines.T7.2 share_Lines.B7 = true := by kernel_rfl
set_option maxHeartbeats 8000000 in
set_option maxRecDepth 100000 in
theorem share_Lines.calls (k : Nat) (A0_0 : Option Addr) (c0_0 : Nat) (l0_0 : List (List (S222))) (A0_1 : Option Addr) (c0_1 : Nat) (l0_1 : List (S97)) (A0_2 : Option Addr) (c0_2 : Nat) (l0_2 : List (S89)) (a0_3 : Int) (a0_4 : Int) (A1 : Option Addr) (c1 : Nat) (l1 : List (S29)) (r : List ByteArray) (w : World) (hr0_0 : Kd.C (Kd.slice 222 k222) w A0_0 l0_0.length l0_0) (hc0_0 : l0_0.length ≤ c0_0) (hr0_1 : Kd.C k97 w A0_1 l0_1.length l0_1) (hc0_1 : l0_1.length ≤ c0_1) (hr0_2 : Kd.C k89 w A0_2 l0_2.length l0_2) (hc0_2 : l0_2.length ≤ c0_2) (hr1 : Kd.C k29 w A1 l1.length l1) (hc1 : l1.length ≤ c1) (h : share_Lines.f k l0_0 l0_1 l0_2 a0_3 a0_4 l1 = some r) (hG : GTab w := by first | exact GTab.below HG.out (by repeat (first | (with_reducible first | exact HB.out | apply below_alloc | apply pw_below_drewN | apply below_drew1 | apply below_drew) | exact HB.out)) | exact HG.out) :
  Calls Tryd.prog 55 #[.agg #[.slice A0_0 l0_0.length c0_0, .slice A0_1 l0_1.length c0_1, .slice A0_2 l0_2.length c0_2, .int .i64 a0_3, .int .i64 a0_4], .slice A1 l1.length c1] w fun e w' => ∃ v0_ : Value, e = .returned (v0_) ∧ Kd.R Kd.string 9 w' w.heap.size (fun _ => True) v0_ r ∧ Below w.heap.size w w' := by
 have hu86 := Tryd.underlying86
 have hu29 := Tryd.underlying29
 have HG := Aside0.mk hG; clear hG
 have HR0_0 := Aside0.mk hr0_0
 have HC0_0 := Aside0.mk hc0_0
 clear hr0_0 hc0_0
 have HR0_1 := Aside0.mk hr0_1
 have HC0_1 := Aside0.mk hc0_1
 clear hr0_1 hc0_1
 have HR0_2 := Aside0.mk hr0_2
 have HC0_2 := Aside0.mk hc0_2
 clear hr0_2 hc0_2
 have HR1 := Aside0.mk hr1
 have HC1 := Aside0.mk hc1
 clear hr1 hc1
 have HB := Aside0.mk (Below.refl w.heap.size w)
 have H : (if (l1.length : Int) = (l0_1.length : Int) then (share_Lines.l0 k ([] : List ByteArray) l1 (l1.length : Int) 0 l0_0 l0_1 l0_2 a0_3 a0_4) else (some ([] : List ByteArray))) = some r := h
 clear h
 by_cases c3 : (l1.length : Int) = (l0_1.length : Int)
 ·rw [if_pos c3] at H
  have c3b0 : ((l1.length : Int) == (l0_1.length : Int)) = true := beq_iff_eq.mpr c3
  have c3b1 : ((l1.length : Int) != (l0_1.length : Int)) = false := bne_eq_false_iff_eq.mpr c3
  have c3b2 : (l1.length == l0_1.length) = true := by first | simpa using c3 | (simp at c3 ⊢; omega)
  clear c3
  have H' := Aside0.mk H
  clear H
  go_enter Tryd.func55, Tryd.ntmps55
  go_wp2_with (first | ((with_reducible refine gate_dst (N := 2) rfl ?_); refine box_event ?hg (N := 2) ?hd (cs := #[.slice A0_0 l0_0.length c0_0, .slice A0_1 l0_1.length c0_1, .slice A0_2 l0_2.length c0_2, .int .i64 a0_3, .int .i64 a0_4]) (t := 86) ?hr ?_; (case hd => rfl); (case hg => rfl); (case hr => first | (go_simp; done) | (go_simp; rfl)); intro gb196 hg w4 hbox hb; have n0_ := Aside0.mk (below_step (by repeat (first | (with_reducible first | exact HB.out | apply below_alloc | apply pw_below_drewN | apply below_drew1) | exact HB.out)) hb); have n1_ := Aside0.mk (hbox); have n2_ := Aside0.mk ((by rw [hg]; exact (below_size (by repeat (first | (with_reducible first | exact HB.out | apply below_alloc | apply pw_below_drewN | apply below_drew1) | exact HB.out))) : w.heap.size ≤ gb196)); have n3_ := Aside0.mk ((by rw [hg]; exact (below_size (by repeat (first | (with_reducible first | exact HB.out | apply below_alloc | apply pw_below_drewN | apply below_drew1) | exact HB.out))) : w.heap.size ≤ gb196)); clear HB; have HB := n0_; have BK196 := n1_; have GW196 := n2_; have GE196 := n3_; clear n0_ n1_ n2_ n3_; clear hb hbox hg; have hcz5_0 : w4.cell? ⟨gb196, 0, none⟩ = some (.slice A0_0 l0_0.length c0_0) := (blk_cell BK196.out 0).trans rfl; have hcz5_1 : w4.cell? ⟨gb196, 1, none⟩ = some (.slice A0_1 l0_1.length c0_1) := (blk_cell BK196.out 1).trans rfl; have hcz5_2 : w4.cell? ⟨gb196, 2, none⟩ = some (.slice A0_2 l0_2.length c0_2) := (blk_cell BK196.out 2).trans rfl; have hcz5_3 : w4.cell? ⟨gb196, 3, none⟩ = some (.int .i64 a0_3) := (blk_cell BK196.out 3).trans rfl; have hcz5_4 : w4.cell? ⟨gb196, 4, none⟩ = some (.int .i64 a0_4) := (blk_cell BK196.out 4).trans rfl; have hfz5_0 := blk_frozen BK196.out 0; have hfz5_1 := blk_frozen BK196.out 1; have hfz5_2 := blk_frozen BK196.out 2; have hfz5_3 := blk_frozen BK196.out 3; have hfz5_4 := blk_frozen BK196.out 4))
  go_loopg [5, 16] k (fun kq v5 v16 w' => ∃ (x5_1 : List ByteArray) (x16_1 : Int), v16 = .int .i64 x16_1 ∧ Aside0 (share_Lines.l0 kq x5_1 l1 (l1.length : Int) x16_1 l0_0 l0_1 l0_2 a0_3 a0_4 = some r) ∧ Aside0 (kq ≤ k) ∧ Aside0 (Kd.R Kd.string 9 w' w.heap.size (fun _ => True) v5 x5_1) ∧ Aside0 (w'.heap[gb196]? = some (.cells #[(.slice A0_0 l0_0.length c0_0), (.slice A0_1 l0_1.length c0_1), (.slice A0_2 l0_2.length c0_2), .int .i64 a0_3, .int .i64 a0_4] 86 (0, 0))) ∧ Aside0 (Below w.heap.size w w'))
  case atStart => exact ⟨(([] : List ByteArray)), (0), (by first | rfl | (simp; done) | (simp [*]; done)), H', ⟨Nat.le_refl _⟩, ⟨by first | exact Kd.R_nil _ _ _ _ _ | exact Kd.N_nil _ _ _ _ _ | exact Kd.V_nil _ _ _ _ _ | exact Kd.Q_nil _ _ _ _ _ | exact Kd.S_nil _ _ _ _ _⟩, ⟨by (with_reducible repeat (first | refine blk_drewN ?_ _ | refine blk_drew ?_ | refine blk_alloc ?_ _)); exact BK196.out⟩, ⟨by repeat (first | (with_reducible first | exact HB.out | apply below_alloc | apply pw_below_drewN | apply below_drew1 | refine below_set ?_ GE196.out) | exact HB.out)⟩⟩
  case round =>
   clear H'
   try clear c1; try clear p2; try clear c3; try clear c3b0; try clear c3b1; try clear c3b2; try clear c5; try clear hcz5_0; try clear hcz5_1; try clear hcz5_2; try clear hcz5_3; try clear hcz5_4; try clear hfz5_0; try clear hfz5_1; try clear hfz5_2; try clear hfz5_3; try clear hfz5_4
   obtain ⟨x5_1, x16_1, rfl, HA, HK1, HO_5, BK196, HB⟩ := hrel
   cases gk with
   | zero => exact absurd HA.out (by simp [share_Lines.l0])
   | succ k1 =>
    have H := HA.out
    clear HA
    simp only [share_Lines.l0] at H
    by_cases c6 : x16_1 < (l1.length : Int)
    ·rw [if_pos c6] at H
     have c6b0 : decide (x16_1 < (l1.length : Int)) = true := decide_eq_true c6
     clear c6
     by_cases c7 : 0 ≤ x16_1
     ·rw [if_pos c7] at H
      have c7b0 : decide (0 ≤ x16_1) = true := decide_eq_true c7
      clear c7
      by_cases c8 : x16_1 < (l1.length : Int)
      ·rw [if_pos c8] at H
       have c8b0 : decide (x16_1 < (l1.length : Int)) = true := decide_eq_true c8
       clear c8
       by_cases c9 : x16_1 < (l0_1.length : Int)
       ·rw [if_pos c9] at H
        have c9b0 : decide (x16_1 < (l0_1.length : Int)) = true := decide_eq_true c9
        clear c9
        by_cases c10 : ((rd_T97 l0_1 x16_1).f0).size + 1 ≤ 9223372036854775807
        ·rw [if_pos c10] at H
         have c10b0 := eq_true c10
         have c10b1 : decide (((rd_T97 l0_1 x16_1).f0).size + 1 ≤ 9223372036854775807) = true := decide_eq_true c10
         try have c10b2 : (9223372036854775807 < ((rd_T97 l0_1 x16_1).f0).size + 1) = False := eq_false (Nat.not_lt.2 c10)
         (try (have c10s := c10b2; simp only [ByteArray.size_append] at c10s))
         replace H := Option.bind_eq_some_iff.mp H
         obtain ⟨t200, A110, H⟩ := H
         replace H : (if (((rd_T97 l0_1 x16_1).f0) ++ (⟨#[32]⟩ : ByteArray)).size + t200.size ≤ 9223372036854775807 then (if ((((rd_T97 l0_1 x16_1).f0) ++ (⟨#[32]⟩ : ByteArray)) ++ t200).size + 1 ≤ 9223372036854775807 then ((money_Text.f ((rd_T29 l1 x16_1).f1)).bind fun t201 => (if (((((rd_T97 l0_1 x16_1).f0) ++ (⟨#[32]⟩ : ByteArray)) ++ t200) ++ (⟨#[32]⟩ : ByteArray)).size + t201.size ≤ 9223372036854775807 then (if x5_1.length < 8796093022208 then (share_Lines.l0 k1 (x5_1 ++ [(((((rd_T97 l0_1 x16_1).f0) ++ (⟨#[32]⟩ : ByteArray)) ++ t200) ++ (⟨#[32]⟩ : ByteArray)) ++ t201]) l1 (l1.length : Int) (wrap64 (x16_1 + 1)) l0_0 l0_1 l0_2 a0_3 a0_4) else (none)) else (none))) else (none)) else (none)) = some r := H
         have A11 := Aside0.mk A110
         clear A110
         by_cases c12 : (((rd_T97 l0_1 x16_1).f0) ++ (⟨#[32]⟩ : ByteArray)).size + t200.size ≤ 9223372036854775807
         ·rw [if_pos c12] at H
          have c12b0 := eq_true c12
          have c12b1 : decide ((((rd_T97 l0_1 x16_1).f0) ++ (⟨#[32]⟩ : ByteArray)).size + t200.size ≤ 9223372036854775807) = true := decide_eq_true c12
          try have c12b2 : (9223372036854775807 < (((rd_T97 l0_1 x16_1).f0) ++ (⟨#[32]⟩ : ByteArray)).size + t200.size) = False := eq_false (Nat.not_lt.2 c12)
          (try (have c12s := c12b2; simp only [ByteArray.size_append, show (⟨#[32]⟩ : ByteArray).size = 1 from rfl] at c12s))
          by_cases c13 : ((((rd_T97 l0_1 x16_1).f0) ++ (⟨#[32]⟩ : ByteArray)) ++ t200).size + 1 ≤ 9223372036854775807
          ·rw [if_pos c13] at H
           have c13b0 := eq_true c13
           have c13b1 : decide (((((rd_T97 l0_1 x16_1).f0) ++ (⟨#[32]⟩ : ByteArray)) ++ t200).size + 1 ≤ 9223372036854775807) = true := decide_eq_true c13
           try have c13b2 : (9223372036854775807 < ((((rd_T97 l0_1 x16_1).f0) ++ (⟨#[32]⟩ : ByteArray)) ++ t200).size + 1) = False := eq_false (Nat.not_lt.2 c13)
           (try (have c13s := c13b2; simp only [ByteArray.size_append, show (⟨#[32]⟩ : ByteArray).size = 1 from rfl] at c13s))
           replace H := Option.bind_eq_some_iff.mp H
           obtain ⟨t201, A140, H⟩ := H
           replace H : (if (((((rd_T97 l0_1 x16_1).f0) ++ (⟨#[32]⟩ : ByteArray)) ++ t200) ++ (⟨#[32]⟩ : ByteArray)).size + t201.size ≤ 9223372036854775807 then (if x5_1.length < 8796093022208 then (share_Lines.l0 k1 (x5_1 ++ [(((((rd_T97 l0_1 x16_1).f0) ++ (⟨#[32]⟩ : ByteArray)) ++ t200) ++ (⟨#[32]⟩ : ByteArray)) ++ t201]) l1 (l1.length : Int) (wrap64 (x16_1 + 1)) l0_0 l0_1 l0_2 a0_3 a0_4) else (none)) else (none)) = some r := H
           have A14 := Aside0.mk A140
           clear A140
           by_cases c15 : (((((rd_T97 l0_1 x16_1).f0) ++ (⟨#[32]⟩ : ByteArray)) ++ t200) ++ (⟨#[32]⟩ : ByteArray)).size + t201.size ≤ 9223372036854775807
           ·rw [if_pos c15] at H
            have c15b0 := eq_true c15
            have c15b1 : decide ((((((rd_T97 l0_1 x16_1).f0) ++ (⟨#[32]⟩ : ByteArray)) ++ t200) ++ (⟨#[32]⟩ : ByteArray)).size + t201.size ≤ 9223372036854775807) = true := decide_eq_true c15
            try have c15b2 : (9223372036854775807 < (((((rd_T97 l0_1 x16_1).f0) ++ (⟨#[32]⟩ : ByteArray)) ++ t200) ++ (⟨#[32]⟩ : ByteArray)).size + t201.size) = False := eq_false (Nat.not_lt.2 c15)
            (try (have c15s := c15b2; simp only [ByteArray.size_append, show (⟨#[32]⟩ : ByteArray).size = 1 from rfl] at c15s))
            by_cases c16 : x5_1.length < 8796093022208
            ·rw [if_pos c16] at H
             have LMc16 := Aside0.mk c16
             clear c16
             obtain ⟨y202, hy202⟩ : ∃ y_ : List ByteArray, y_ = (x5_1 ++ [(((((rd_T97 l0_1 x16_1).f0) ++ (⟨#[32]⟩ : ByteArray)) ++ t200) ++ (⟨#[32]⟩ : ByteArray)) ++ t201]) := ⟨_, rfl⟩
             replace H : (share_Lines.l0 k1 y202 l1 (l1.length : Int) (wrap64 (x16_1 + 1)) l0_0 l0_1 l0_2 a0_3 a0_4) = some r := by first | (rw [hy202]; with_reducible exact H) | (have H2_ := (Option.bind_some _ _).symm.trans H; rw [hy202]; with_reducible exact H2_) | (have H2_ := (Option.bind_some _ _).symm.trans H; with_reducible exact H2_) | with_reducible exact H | (rw [hy202]; exact H) | exact H
             have Ny202 := Aside0.mk hy202
             clear hy202
             have H' := Aside0.mk H
             clear H
             have p197 : 0 ≤ (x16_1 : Int) := of_decide_eq_true (by first | (with_reducible assumption) | assumption)
             have q197 : x16_1 < (l1.length : Int) := of_decide_eq_true (by first | (with_reducible assumption) | assumption)
             obtain ⟨ad197, e197, hx197_0, hx197_1⟩ := at_T29 HR1.out x16_1 p197 q197
             cases e197
             replace hx197_0 := (HB.out.cell (World.block_lt_of_cell? w _ hx197_0)).trans hx197_0
             replace hx197_1 := (HB.out.cell (World.block_lt_of_cell? w _ hx197_1)).trans hx197_1
             replace p197 := eq_true p197
             replace q197 := eq_true q197
             try go_wp2_with (first | ((with_reducible refine gate_dst (N := 7) rfl ?_); refine box_event ?hg (N := 7) ?hd (cs := #[.int .i64 0, .int .i64 0]) (t := 29) ?hr ?_; (case hd => rfl); (case hg => rfl); (case hr => first | (go_simp; done) | (go_simp; rfl)); intro gb198 hg w17 hbox hb; have n0_ := Aside0.mk (Kd.R_below (by (with_reducible repeat (first | apply Kd.R_alloc | apply Kd.R_drewN | apply Kd.R_drew)); exact HO_5.out) hb); have n1_ := Aside0.mk (blk_below (g := gb196) (o := .cells #[.slice A0_0 l0_0.length c0_0, .slice A0_1 l0_1.length c0_1, .slice A0_2 l0_2.length c0_2, .int .i64 a0_3, .int .i64 a0_4] 86 (0, 0)) (by (with_reducible repeat (first | refine blk_drewN ?_ _ | refine blk_drew ?_ | refine blk_alloc ?_ _)); exact BK196.out) hb); have n2_ := Aside0.mk (below_step (by repeat (first | (with_reducible first | exact HB.out | apply below_alloc | apply pw_below_drewN | apply below_drew1 | refine below_set ?_ GE196.out) | exact HB.out)) hb); have n3_ := Aside0.mk (hbox); have n4_ := Aside0.mk ((by rw [hg]; exact (below_size (by repeat (first | (with_reducible first | exact HB.out | apply below_alloc | apply pw_below_drewN | apply below_drew1 | refine below_set ?_ GE196.out) | exact HB.out))) : w.heap.size ≤ gb198)); have n5_ := Aside0.mk ((by rw [hg]; exact (below_size (by repeat (first | (with_reducible first | exact HB.out | apply below_alloc | apply pw_below_drewN | apply below_drew1 | refine below_set ?_ GE196.out) | exact HB.out))) : w.heap.size ≤ gb198)); have n6_ := Aside0.mk ((by rw [hg]; exact Nat.ne_of_lt (blk_lt (g := gb196) (o := .cells #[.slice A0_0 l0_0.length c0_0, .slice A0_1 l0_1.length c0_1, .slice A0_2 l0_2.length c0_2, .int .i64 a0_3, .int .i64 a0_4] 86 (0, 0)) (by (with_reducible repeat (first | refine blk_drewN ?_ _ | refine blk_drew ?_ | refine blk_alloc ?_ _)); exact BK196.out)) : gb196 ≠ gb198)); have n7_ := Aside0.mk ((by rw [hg]; exact Nat.ne_of_gt (blk_lt (g := gb196) (o := .cells #[.slice A0_0 l0_0.length c0_0, .slice A0_1 l0_1.length c0_1, .slice A0_2 l0_2.length c0_2, .int .i64 a0_3, .int .i64 a0_4] 86 (0, 0)) (by (with_reducible repeat (first | refine blk_drewN ?_ _ | refine blk_drew ?_ | refine blk_alloc ?_ _)); exact BK196.out)) : gb198 ≠ gb196)); clear HO_5; clear BK196; clear HB; have HO_5 := n0_; have BK196 := n1_; have HB := n2_; have BK198 := n3_; have GW198 := n4_; have GE198 := n5_; have NB196_198 := n6_; have NB198_196 := n7_; clear n0_ n1_ n2_ n3_ n4_ n5_ n6_ n7_; clear hb hbox hg; have hnb18 := NB198_196.out; have hnc18 := NB196_198.out; have hcz19_0 : w17.cell? ⟨gb198, 0, none⟩ = some (.int .i64 0) := (blk_cell BK198.out 0).trans rfl; have hcz19_1 : w17.cell? ⟨gb198, 1, none⟩ = some (.int .i64 0) := (blk_cell BK198.out 1).trans rfl; have hfz19_0 := blk_frozen BK198.out 0; have hfz19_1 := blk_frozen BK198.out 1))
             have n0_ : Aside0 (Kd.R Kd.string 9 ((w17.setCell ⟨gb198, 0, none⟩ (.int .i64 ((rd_T29 l1 x16_1).f0))).setCell ⟨gb198, 1, none⟩ (.int .i64 ((rd_T29 l1 x16_1).f1))) w.heap.size (fun _ => True) u5 x5_1) := ⟨by (with_reducible repeat (first | apply Kd.R_alloc | apply Kd.R_drewN | apply Kd.R_drew)); exact Kd.R_mono (Kd.R_far (p := ⟨gb198, 1, none⟩) (Kd.R_far (p := ⟨gb198, 0, none⟩) (Kd.R_types HO_5.out BK198.out (by decide)) (fun _ hk => hk.2) (.int .i64 ((rd_T29 l1 x16_1).f0))) (fun _ hk => hk.2) (.int .i64 ((rd_T29 l1 x16_1).f1))) (fun _ hk => trivial)⟩
             have n1_ : Aside0 (((w17.setCell ⟨gb198, 0, none⟩ (.int .i64 ((rd_T29 l1 x16_1).f0))).setCell ⟨gb198, 1, none⟩ (.int .i64 ((rd_T29 l1 x16_1).f1))).heap[gb196]? = some (.cells #[.slice A0_0 l0_0.length c0_0, .slice A0_1 l0_1.length c0_1, .slice A0_2 l0_2.length c0_2, .int .i64 a0_3, .int .i64 a0_4] 86 (0, 0))) := ⟨by (with_reducible repeat (first | refine blk_drewN ?_ _ | refine blk_drew ?_ | refine blk_alloc ?_ _)); refine blk_far ?_ NB196_198.out _; (with_reducible repeat (first | refine blk_drewN ?_ _ | refine blk_drew ?_ | refine blk_alloc ?_ _)); refine blk_far ?_ NB196_198.out _; (with_reducible repeat (first | refine blk_drewN ?_ _ | refine blk_drew ?_ | refine blk_alloc ?_ _)); exact BK196.out⟩
             have n2_ : Aside0 (((w17.setCell ⟨gb198, 0, none⟩ (.int .i64 ((rd_T29 l1 x16_1).f0))).setCell ⟨gb198, 1, none⟩ (.int .i64 ((rd_T29 l1 x16_1).f1))).heap[gb198]? = some (.cells #[.int .i64 ((rd_T29 l1 x16_1).f0), .int .i64 ((rd_T29 l1 x16_1).f1)] 29 (0, 0))) := ⟨by (with_reducible repeat (first | refine blk_drewN ?_ _ | refine blk_drew ?_ | refine blk_alloc ?_ _)); refine blk_put (cs := #[.int .i64 ((rd_T29 l1 x16_1).f0), .int .i64 0]) ?_ 1 _ rfl; (with_reducible repeat (first | refine blk_drewN ?_ _ | refine blk_drew ?_ | refine blk_alloc ?_ _)); refine blk_put (cs := #[.int .i64 0, .int .i64 0]) ?_ 0 _ rfl; (with_reducible repeat (first | refine blk_drewN ?_ _ | refine blk_drew ?_ | refine blk_alloc ?_ _)); exact BK198.out⟩
             have n3_ : Aside0 (Below w.heap.size w ((w17.setCell ⟨gb198, 0, none⟩ (.int .i64 ((rd_T29 l1 x16_1).f0))).setCell ⟨gb198, 1, none⟩ (.int .i64 ((rd_T29 l1 x16_1).f1)))) := ⟨by repeat (first | (with_reducible first | exact HB.out | apply below_alloc | apply pw_below_drewN | apply below_drew1 | refine below_set ?_ GE196.out | refine below_set ?_ GE198.out) | exact HB.out)⟩
             (try clear HO_5)
             (try clear BK196)
             (try clear BK198)
             (try clear HB)
             generalize ((w17.setCell ⟨gb198, 0, none⟩ (.int .i64 ((rd_T29 l1 x16_1).f0))).setCell ⟨gb198, 1, none⟩ (.int .i64 ((rd_T29 l1 x16_1).f1))) = w20 at n0_ n1_ n2_ n3_ ⊢
             have HO_5 := n0_
             have BK196 := n1_
             have BK198 := n2_
             have HB := n3_
             clear n0_ n1_ n2_ n3_
             have n0_ := Aside0.mk (Kd.R_drew HO_5.out)
             have n1_ := Aside0.mk (blk_drew BK196.out)
             have n2_ := Aside0.mk (blk_drew BK198.out)
             have n3_ := Aside0.mk (below_drew1 HB.out)
             clear HO_5
             clear BK196
             clear BK198
             clear HB
             have HO_5 := n0_
             have BK196 := n1_
             have BK198 := n2_
             have HB := n3_
             clear n0_ n1_ n2_ n3_
             have p199 : 0 ≤ (x16_1 : Int) := of_decide_eq_true (by first | (with_reducible assumption) | assumption)
             have q199 : x16_1 < (l0_1.length : Int) := of_decide_eq_true (by first | (with_reducible assumption) | assumption)
             obtain ⟨ad199, A199_2, c199_2, e199, hx199_0, hx199_1, hx199_2, hx199_3, hx199_4, hx199_5, hl199_2, hi199_2⟩ := at_T97 HR0_1.out x16_1 p199 q199
             have hw199_5 := hx199_5
             have hw199_4 := hx199_4
             have hw199_3 := hx199_3
             have hw199_2 := hx199_2
             have hw199_1 := hx199_1
             have hw199_0 := hx199_0
             cases e199
             replace hx199_0 := (HB.out.cell (World.block_lt_of_cell? w _ hx199_0)).trans hx199_0
             replace hx199_1 := (HB.out.cell (World.block_lt_of_cell? w _ hx199_1)).trans hx199_1
             replace hx199_2 := (HB.out.cell (World.block_lt_of_cell? w _ hx199_2)).trans hx199_2
             replace hx199_3 := (HB.out.cell (World.block_lt_of_cell? w _ hx199_3)).trans hx199_3
             replace hx199_4 := (HB.out.cell (World.block_lt_of_cell? w _ hx199_4)).trans hx199_4
             replace hx199_5 := (HB.out.cell (World.block_lt_of_cell? w _ hx199_5)).trans hx199_5
             have HR199_2 := Aside0.mk hi199_2
             have HC199_2 := Aside0.mk hl199_2
             clear hi199_2 hl199_2
             replace p199 := eq_true p199
             replace q199 := eq_true q199
             refine start_ (n := 20) (S := fun w' => w'.cell? ⟨gb196, 0, none⟩ = some (.slice A0_0 l0_0.length c0_0) ∧ w'.cell? ⟨gb196, 1, none⟩ = some (.slice (some ad199) l0_1.length c0_1) ∧ w'.cell? ⟨gb196, 2, none⟩ = some (.slice A0_2 l0_2.length c0_2) ∧ w'.cell? ⟨gb196, 3, none⟩ = some (.int .i64 a0_3) ∧ w'.cell? ⟨gb196, 4, none⟩ = some (.int .i64 a0_4) ∧ w'.cell? ⟨gb198, 0, none⟩ = some (.int .i64 ((rd_T29 l1 x16_1).f0)) ∧ w'.cell? ⟨gb198, 1, none⟩ = some (.int .i64 ((rd_T29 l1 x16_1).f1)) ∧ w'.cell? (ad199.add ((x16_1).toNat * 6)) = some (.string ((rd_T97 l0_1 x16_1).f0)) ∧ w'.cell? ⟨(ad199.add ((x16_1).toNat * 6)).block, (ad199.add ((x16_1).toNat * 6)).off + 1, none⟩ = some (.int .i64 ((rd_T97 l0_1 x16_1).f1)) ∧ w'.cell? ⟨(ad199.add ((x16_1).toNat * 6)).block, (ad199.add ((x16_1).toNat * 6)).off + 2, none⟩ = some (.slice A199_2 ((rd_T97 l0_1 x16_1).f2).length c199_2) ∧ w'.cell? ⟨(ad199.add ((x16_1).toNat * 6)).block, (ad199.add ((x16_1).toNat * 6)).off + 3, none⟩ = some (.int .i64 ((rd_T97 l0_1 x16_1).f3)) ∧ w'.cell? ⟨(ad199.add ((x16_1).toNat * 6)).block, (ad199.add ((x16_1).toNat * 6)).off + 4, none⟩ = some (.int .i64 ((rd_T97 l0_1 x16_1).f4)) ∧ w'.cell? ⟨(ad199.add ((x16_1).toNat * 6)).block, (ad199.add ((x16_1).toNat * 6)).off + 5, none⟩ = some (.int .i64 ((rd_T97 l0_1 x16_1).f5))) (ds := []) #[false, false, false, false, false, false, false, false, false, false, false, false, false, false, false, false, false, false, false, false] (by kernel_rfl) rfl rfl ⟨(blk_cell BK196.out 0).trans rfl, (blk_cell BK196.out 1).trans rfl, (blk_cell BK196.out 2).trans rfl, (blk_cell BK196.out 3).trans rfl, (blk_cell BK196.out 4).trans rfl, (blk_cell BK198.out 0).trans rfl, (blk_cell BK198.out 1).trans rfl, ((HB.out.cell (World.block_lt_of_cell? w _ hw199_0)).trans hw199_0), ((HB.out.cell (World.block_lt_of_cell? w _ hw199_1)).trans hw199_1), ((HB.out.cell (World.block_lt_of_cell? w _ hw199_2)).trans hw199_2), ((HB.out.cell (World.block_lt_of_cell? w _ hw199_3)).trans hw199_3), ((HB.out.cell (World.block_lt_of_cell? w _ hw199_4)).trans hw199_4), ((HB.out.cell (World.block_lt_of_cell? w _ hw199_5)).trans hw199_5)⟩ (fun hHeld => ?_); refine with_tabW share_Lines.tab7 share_Lines.bits7 (fun HT_ HW_ => ?_)
             generalize w20.drew = w21 at HO_5 BK196 BK198 HB HR199_2 hx199_0 hx199_1 hx199_2 hx199_3 hx199_4 hx199_5 hHeld ⊢
             refine pure_ (i := 0) (N := some 21) (v := ?_) (a' := ?_) #[true, false, false, false, false, false, false, false, false, false, false, false, false, false, false, false, false, false, false, false] rfl rfl (any_of HT_.out (by kernel_rfl)) (fun _ _ _ h => h) (Or.inl ⟨by rfl, ?_⟩) ?_ ?_
             rotate_left
             ·intro w'
              go_simp
              with_reducible rfl
             rotate_left
             ·simp only [Act.put, List.setIfInBounds_toArray, List.set_cons_zero, List.set_cons_succ, i64_w, i32_w]
              rfl
             refine pure_ (i := 1) (N := some 22) (v := ?_) (a' := ?_) #[true, true, false, false, false, false, false, false, false, false, false, false, false, false, false, false, false, false, false, false] rfl rfl (any_of HT_.out (by kernel_rfl)) (fun _ _ _ h => h) (Or.inl ⟨by rfl, ?_⟩) ?_ ?_
             rotate_left
             ·intro w'
              go_simp
              with_reducible rfl
             rotate_left
             ·simp only [Act.put, List.setIfInBounds_toArray, List.set_cons_zero, List.set_cons_succ, i64_w, i32_w]
              rfl
             refine pure_ (i := 3) (N := some 24) (v := ?_) (a' := ?_) #[true, true, false, true, false, false, false, false, false, false, false, false, false, false, false, false, false, false, false, false] rfl rfl (any_of HT_.out (by kernel_rfl)) (fun _ _ _ h => h) (Or.inl ⟨by rfl, ?_⟩) ?_ ?_
             rotate_left
             ·intro w'
              go_simp
              with_reducible rfl
             rotate_left
             ·simp only [Act.put, List.setIfInBounds_toArray, List.set_cons_zero, List.set_cons_succ, i64_w, i32_w]
              rfl
             refine pure_ (i := 8) (N := some 29) (v := ?_) (a' := ?_) #[true, true, false, true, false, false, false, false, true, false, false, false, false, false, false, false, false, false, false, false] rfl rfl (any_of HT_.out (by kernel_rfl)) (fun _ _ _ h => h) (Or.inl ⟨by rfl, ?_⟩) ?_ ?_
             rotate_left
             ·intro w'
              go_simp
              with_reducible rfl
             rotate_left
             ·simp only [Act.put, List.setIfInBounds_toArray, List.set_cons_zero, List.set_cons_succ, i64_w, i32_w]
              rfl
             refine pure_ (i := 13) (N := some 34) (v := ?_) (a' := ?_) #[true, true, false, true, false, false, false, false, true, false, false, false, false, true, false, false, false, false, false, false] rfl rfl (any_of HT_.out (by kernel_rfl)) (fun _ _ _ h => h) (Or.inl ⟨by rfl, ?_⟩) ?_ ?_
             rotate_left
             ·intro w'
              go_simp
              with_reducible rfl
             rotate_left
             ·simp only [Act.put, List.setIfInBounds_toArray, List.set_cons_zero, List.set_cons_succ, i64_w, i32_w]
              rfl
             refine take_ (i := 2) (N := some 23) (v := ?_) (a' := ?_) #[true, true, true, true, false, false, false, false, true, false, false, false, false, true, false, false, false, false, false, false] rfl rfl (take_ofW HT_.out HW_.out (by kernel_rfl)) (fun _ _ _ h => h) (Or.inl ⟨by rfl, ?_⟩) hHeld ?_ ?_
             rotate_left
             ·rintro w' ⟨s0, s1, s2, s3, s4, s5, s6, s7, s8, s9, s10, s11, s12⟩
              go_simp
              with_reducible rfl
             rotate_left
             ·simp only [Act.put, List.setIfInBounds_toArray, List.set_cons_zero, List.set_cons_succ, i64_w, i32_w]
              rfl
             refine pure_ (i := 4) (N := some 25) (v := ?_) (a' := ?_) #[true, true, true, true, true, false, false, false, true, false, false, false, false, true, false, false, false, false, false, false] rfl rfl (any_of HT_.out (by kernel_rfl)) (fun _ _ _ h => h) (Or.inl ⟨by rfl, ?_⟩) ?_ ?_
             rotate_left
             ·intro w'
              go_simp
              with_reducible rfl
             rotate_left
             ·simp only [Act.put, List.setIfInBounds_toArray, List.set_cons_zero, List.set_cons_succ, i64_w, i32_w]
              rfl
             refine pure_ (i := 5) (N := some 26) (v := ?_) (a' := ?_) #[true, true, true, true, true, true, false, false, true, false, false, false, false, true, false, false, false, false, false, false] rfl rfl (any_of HT_.out (by kernel_rfl)) (fun _ _ _ h => h) (Or.inl ⟨by rfl, ?_⟩) ?_ ?_
             rotate_left
             ·intro w'
              go_simp
              with_reducible rfl
             rotate_left
             ·simp only [Act.put, List.setIfInBounds_toArray, List.set_cons_zero, List.set_cons_succ, i64_w, i32_w]
              rfl
             refine take_ (i := 6) (N := some 27) (v := ?_) (a' := ?_) #[true, true, true, true, true, true, true, false, true, false, false, false, false, true, false, false, false, false, false, false] rfl rfl (take_ofW HT_.out HW_.out (by kernel_rfl)) (fun _ _ _ h => h) (Or.inl ⟨by rfl, ?_⟩) hHeld ?_ ?_
             rotate_left
             ·rintro w' ⟨s0, s1, s2, s3, s4, s5, s6, s7, s8, s9, s10, s11, s12⟩
              go_simp
              with_reducible rfl
             rotate_left
             ·simp only [Act.put, List.setIfInBounds_toArray, List.set_cons_zero, List.set_cons_succ, i64_w, i32_w]
              rfl
             refine pure_ (i := 7) (N := some 28) (v := ?_) (a' := ?_) #[true, true, true, true, true, true, true, true, true, false, false, false, false, true, false, false, false, false, false, false] rfl rfl (any_of HT_.out (by kernel_rfl)) (fun _ _ _ h => h) (Or.inl ⟨by rfl, ?_⟩) ?_ ?_
             rotate_left
             ·intro w'
              go_simp
              with_reducible rfl
             rotate_left
             ·simp only [Act.put, List.setIfInBounds_toArray, List.set_cons_zero, List.set_cons_succ, i64_w, i32_w]
              rfl
             refine take_ (i := 9) (N := some 30) (v := ?_) (a' := ?_) #[true, true, true, true, true, true, true, true, true, true, false, false, false, true, false, false, false, false, false, false] rfl rfl (take_ofW HT_.out HW_.out (by kernel_rfl)) (fun _ _ _ h => h) (Or.inl ⟨by rfl, ?_⟩) hHeld ?_ ?_
             rotate_left
             ·rintro w' ⟨s0, s1, s2, s3, s4, s5, s6, s7, s8, s9, s10, s11, s12⟩
              go_simp
              with_reducible rfl
             rotate_left
             ·simp only [Act.put, List.setIfInBounds_toArray, List.set_cons_zero, List.set_cons_succ, i64_w, i32_w]
              rfl
             refine take_ (i := 14) (N := some 35) (v := ?_) (a' := ?_) #[true, true, true, true, true, true, true, true, true, true, false, false, false, true, true, false, false, false, false, false] rfl rfl (take_ofW HT_.out HW_.out (by kernel_rfl)) (fun _ _ _ h => h) (Or.inl ⟨by rfl, ?_⟩) hHeld ?_ ?_
             rotate_left
             ·rintro w' ⟨s0, s1, s2, s3, s4, s5, s6, s7, s8, s9, s10, s11, s12⟩
              go_simp
              with_reducible rfl
             rotate_left
             ·simp only [Act.put, List.setIfInBounds_toArray, List.set_cons_zero, List.set_cons_succ, i64_w, i32_w]
              rfl
             refine one_ (i := 10) (N := some 31) #[true, true, true, true, true, true, true, true, true, true, true, false, false, true, true, false, false, false, false, false] rfl rfl (one_of HT_.out (by kernel_rfl)) (by decide) (fun K hK => ?_)
             refine goes_ Tryd.func39 (by kernel_rfl) rfl #[.int .i64 ((rd_T29 l1 x16_1).f0)] (by rfl) rfl rfl (by (try simp only [List.map_toArray, List.map_cons, List.map_nil]); first | done | rfl | (simp only [List.length_drop, List.length_take]; rfl)) ?_
             with_reducible refine (money_Text.calls ((rd_T29 l1 x16_1).f0) t200 _ A11.out).mono ?_
             rintro e w22 ⟨rfl, hb⟩
             refine ⟨_, rfl, ?_⟩
             have n0_ := Aside0.mk (Kd.R_below (by (with_reducible repeat (first | apply Kd.R_alloc | apply Kd.R_drewN | apply Kd.R_drew)); exact HO_5.out) hb)
             have n1_ := Aside0.mk (blk_below (g := gb196) (o := .cells #[.slice A0_0 l0_0.length c0_0, .slice (some ad199) l0_1.length c0_1, .slice A0_2 l0_2.length c0_2, .int .i64 a0_3, .int .i64 a0_4] 86 (0, 0)) (by (with_reducible repeat (first | refine blk_drewN ?_ _ | refine blk_drew ?_ | refine blk_alloc ?_ _)); exact BK196.out) hb)
             have n2_ := Aside0.mk (blk_below (g := gb198) (o := .cells #[.int .i64 ((rd_T29 l1 x16_1).f0), .int .i64 ((rd_T29 l1 x16_1).f1)] 29 (0, 0)) (by (with_reducible repeat (first | refine blk_drewN ?_ _ | refine blk_drew ?_ | refine blk_alloc ?_ _)); exact BK198.out) hb)
             have n3_ := Aside0.mk (below_step (by repeat (first | (with_reducible first | exact HB.out | apply below_alloc | apply pw_below_drewN | apply below_drew1 | refine below_set ?_ GE196.out | refine below_set ?_ GE198.out) | exact HB.out)) hb)
             clear HO_5
             clear BK196
             clear BK198
             clear HB
             have HO_5 := n0_
             have BK196 := n1_
             have BK198 := n2_
             have HB := n3_
             clear n0_ n1_ n2_ n3_
             (try clear hb)
             (try clear hb2)
             (try clear hk)
             (try clear hi)
             refine hK.out _ _ ⟨(blk_cell BK196.out 0).trans rfl, (blk_cell BK196.out 1).trans rfl, (blk_cell BK196.out 2).trans rfl, (blk_cell BK196.out 3).trans rfl, (blk_cell BK196.out 4).trans rfl, (blk_cell BK198.out 0).trans rfl, (blk_cell BK198.out 1).trans rfl, ((HB.out.cell (World.block_lt_of_cell? w _ hw199_0)).trans hw199_0), ((HB.out.cell (World.block_lt_of_cell? w _ hw199_1)).trans hw199_1), ((HB.out.cell (World.block_lt_of_cell? w _ hw199_2)).trans hw199_2), ((HB.out.cell (World.block_lt_of_cell? w _ hw199_3)).trans hw199_3), ((HB.out.cell (World.block_lt_of_cell? w _ hw199_4)).trans hw199_4), ((HB.out.cell (World.block_lt_of_cell? w _ hw199_5)).trans hw199_5)⟩ (fun hHeld => ?_)
             clear hK K
             refine norm_ (a' := ?_) ?_ ?_
             rotate_left
             ·show Act.put _ (some 31) _ = _
              simp only [Act.put, List.setIfInBounds_toArray, List.set_cons_zero, List.set_cons_succ, i64_w, i32_w]
              rfl
             refine pure_ (i := 11) (N := some 32) (v := ?_) (a' := ?_) #[true, true, true, true, true, true, true, true, true, true, true, true, false, true, true, false, false, false, false, false] rfl rfl (any_of HT_.out (by kernel_rfl)) (fun _ _ _ h => h) (Or.inl ⟨by rfl, ?_⟩) ?_ ?_
             rotate_left
             ·intro w'
              go_simp
              with_reducible rfl
             rotate_left
             ·simp only [Act.put, List.setIfInBounds_toArray, List.set_cons_zero, List.set_cons_succ, i64_w, i32_w]
              rfl
             refine pure_ (i := 12) (N := some 33) (v := ?_) (a' := ?_) #[true, true, true, true, true, true, true, true, true, true, true, true, true, true, true, false, false, false, false, false] rfl rfl (any_of HT_.out (by kernel_rfl)) (fun _ _ _ h => h) (Or.inl ⟨by rfl, ?_⟩) ?_ ?_
             rotate_left
             ·intro w'
              go_simp
              with_reducible rfl
             rotate_left
             ·simp only [Act.put, List.setIfInBounds_toArray, List.set_cons_zero, List.set_cons_succ, i64_w, i32_w]
              rfl
             refine one_ (i := 15) (N := some 36) #[true, true, true, true, true, true, true, true, true, true, true, true, true, true, true, true, false, false, false, false] rfl rfl (one_of HT_.out (by kernel_rfl)) (by decide) (fun K hK => ?_)
             refine goes_ Tryd.func39 (by kernel_rfl) rfl #[.int .i64 ((rd_T29 l1 x16_1).f1)] (by rfl) rfl rfl (by (try simp only [List.map_toArray, List.map_cons, List.map_nil]); first | done | rfl | (simp only [List.length_drop, List.length_take]; rfl)) ?_
             with_reducible refine (money_Text.calls ((rd_T29 l1 x16_1).f1) t201 _ A14.out).mono ?_
             rintro e w23 ⟨rfl, hb⟩
             refine ⟨_, rfl, ?_⟩
             have n0_ := Aside0.mk (Kd.R_below (by (with_reducible repeat (first | apply Kd.R_alloc | apply Kd.R_drewN | apply Kd.R_drew)); exact HO_5.out) hb)
             have n1_ := Aside0.mk (blk_below (g := gb196) (o := .cells #[.slice A0_0 l0_0.length c0_0, .slice (some ad199) l0_1.length c0_1, .slice A0_2 l0_2.length c0_2, .int .i64 a0_3, .int .i64 a0_4] 86 (0, 0)) (by (with_reducible repeat (first | refine blk_drewN ?_ _ | refine blk_drew ?_ | refine blk_alloc ?_ _)); exact BK196.out) hb)
             have n2_ := Aside0.mk (blk_below (g := gb198) (o := .cells #[.int .i64 ((rd_T29 l1 x16_1).f0), .int .i64 ((rd_T29 l1 x16_1).f1)] 29 (0, 0)) (by (with_reducible repeat (first | refine blk_drewN ?_ _ | refine blk_drew ?_ | refine blk_alloc ?_ _)); exact BK198.out) hb)
             have n3_ := Aside0.mk (below_step (by repeat (first | (with_reducible first | exact HB.out | apply below_alloc | apply pw_below_drewN | apply below_drew1 | refine below_set ?_ GE196.out | refine below_set ?_ GE198.out) | exact HB.out)) hb)
             clear HO_5
             clear BK196
             clear BK198
             clear HB
             have HO_5 := n0_
             have BK196 := n1_
             have BK198 := n2_
             have HB := n3_
             clear n0_ n1_ n2_ n3_
             (try clear hb)
             (try clear hb2)
             (try clear hk)
             (try clear hi)
             refine hK.out _ _ ⟨(blk_cell BK196.out 0).trans rfl, (blk_cell BK196.out 1).trans rfl, (blk_cell BK196.out 2).trans rfl, (blk_cell BK196.out 3).trans rfl, (blk_cell BK196.out 4).trans rfl, (blk_cell BK198.out 0).trans rfl, (blk_cell BK198.out 1).trans rfl, ((HB.out.cell (World.block_lt_of_cell? w _ hw199_0)).trans hw199_0), ((HB.out.cell (World.block_lt_of_cell? w _ hw199_1)).trans hw199_1), ((HB.out.cell (World.block_lt_of_cell? w _ hw199_2)).trans hw199_2), ((HB.out.cell (World.block_lt_of_cell? w _ hw199_3)).trans hw199_3), ((HB.out.cell (World.block_lt_of_cell? w _ hw199_4)).trans hw199_4), ((HB.out.cell (World.block_lt_of_cell? w _ hw199_5)).trans hw199_5)⟩ (fun hHeld => ?_)
             clear hK K
             refine norm_ (a' := ?_) ?_ ?_
             rotate_left
             ·show Act.put _ (some 36) _ = _
              simp only [Act.put, List.setIfInBounds_toArray, List.set_cons_zero, List.set_cons_succ, i64_w, i32_w]
              rfl
             refine pure_ (i := 16) (N := some 37) (v := ?_) (a' := ?_) #[true, true, true, true, true, true, true, true, true, true, true, true, true, true, true, true, true, false, false, false] rfl rfl (any_of HT_.out (by kernel_rfl)) (fun _ _ _ h => h) (Or.inl ⟨by rfl, ?_⟩) ?_ ?_
             rotate_left
             ·intro w'
              go_simp
              with_reducible rfl
             rotate_left
             ·simp only [Act.put, List.setIfInBounds_toArray, List.set_cons_zero, List.set_cons_succ, i64_w, i32_w]
              rfl
             refine one_ (i := 17) (N := some 38) #[true, true, true, true, true, true, true, true, true, true, true, true, true, true, true, true, true, true, false, false] rfl rfl (one_of HT_.out (by kernel_rfl)) (by decide) (fun K hK => ?_)
             refine value_ (w1 := ?_) (v := ?_) (by rfl) rfl ?_ ?_
             rotate_left 2
             ·go_simp
              constructor
              ·rfl
              ·rfl
             refine hK.out _ _ ⟨(blk_cell (blk_alloc BK196.out _) 0).trans rfl, (blk_cell (blk_alloc BK196.out _) 1).trans rfl, (blk_cell (blk_alloc BK196.out _) 2).trans rfl, (blk_cell (blk_alloc BK196.out _) 3).trans rfl, (blk_cell (blk_alloc BK196.out _) 4).trans rfl, (blk_cell (blk_alloc BK198.out _) 0).trans rfl, (blk_cell (blk_alloc BK198.out _) 1).trans rfl, (World.cell?_alloc_lt _ _ _ (World.block_lt_of_cell? _ _ (((HB.out.cell (World.block_lt_of_cell? w _ hw199_0)).trans hw199_0)))).trans (((HB.out.cell (World.block_lt_of_cell? w _ hw199_0)).trans hw199_0)), (World.cell?_alloc_lt _ _ _ (World.block_lt_of_cell? _ _ (((HB.out.cell (World.block_lt_of_cell? w _ hw199_1)).trans hw199_1)))).trans (((HB.out.cell (World.block_lt_of_cell? w _ hw199_1)).trans hw199_1)), (World.cell?_alloc_lt _ _ _ (World.block_lt_of_cell? _ _ (((HB.out.cell (World.block_lt_of_cell? w _ hw199_2)).trans hw199_2)))).trans (((HB.out.cell (World.block_lt_of_cell? w _ hw199_2)).trans hw199_2)), (World.cell?_alloc_lt _ _ _ (World.block_lt_of_cell? _ _ (((HB.out.cell (World.block_lt_of_cell? w _ hw199_3)).trans hw199_3)))).trans (((HB.out.cell (World.block_lt_of_cell? w _ hw199_3)).trans hw199_3)), (World.cell?_alloc_lt _ _ _ (World.block_lt_of_cell? _ _ (((HB.out.cell (World.block_lt_of_cell? w _ hw199_4)).trans hw199_4)))).trans (((HB.out.cell (World.block_lt_of_cell? w _ hw199_4)).trans hw199_4)), (World.cell?_alloc_lt _ _ _ (World.block_lt_of_cell? _ _ (((HB.out.cell (World.block_lt_of_cell? w _ hw199_5)).trans hw199_5)))).trans (((HB.out.cell (World.block_lt_of_cell? w _ hw199_5)).trans hw199_5))⟩ (fun hHeld => ?_)
             clear hK K
             refine norm_ (a' := ?_) ?_ ?_
             rotate_left
             ·show Act.put _ (some 38) _ = _
              simp only [Act.put, List.setIfInBounds_toArray, List.set_cons_zero, List.set_cons_succ, i64_w, i32_w]
              rfl
             refine one_ (i := 18) (N := some 39) #[true, true, true, true, true, true, true, true, true, true, true, true, true, true, true, true, true, true, true, false] rfl rfl (one_of HT_.out (by kernel_rfl)) (by decide) (fun K hK => ?_)
             refine Kd.R_append_step Kd.string (w0 := w) w.heap.size (by rfl) (.tmp 21) (.tmp 38) 65 9 (.string ⟨#[]⟩) 16 rfl Tryd.underlying65 info9 rfl (by decide) (by omega) u5 x5_1 ((((((rd_T97 l0_1 x16_1).f0) ++ (⟨#[32]⟩ : ByteArray)) ++ t200) ++ (⟨#[32]⟩ : ByteArray)) ++ t201) [.string ((((((rd_T97 l0_1 x16_1).f0) ++ (⟨#[32]⟩ : ByteArray)) ++ t200) ++ (⟨#[32]⟩ : ByteArray)) ++ t201)] (fun _ => True) (fun _ => False) rfl rfl ?aP (fun _ hk => hk.elim) ?aF ?aO ?aB ?aS ?aL ?_
             (case aP => exact rfl)
             (case aB => exact (by repeat (first | (with_reducible first | exact HB.out | apply below_alloc | apply pw_below_drewN | apply below_drew1 | refine below_set ?_ GE196.out | refine below_set ?_ GE198.out) | exact HB.out)))
             (case aF => exact (fun _ _ => trivial))
             (case aO => exact (by (with_reducible repeat (first | apply Kd.R_alloc | apply Kd.R_drewN | apply Kd.R_drew)); exact HO_5.out))
             (case aS => exact (below_size (by repeat (first | (with_reducible first | exact HB.out | apply below_alloc | apply pw_below_drewN | apply below_drew1 | refine below_set ?_ GE196.out | refine below_set ?_ GE198.out) | exact HB.out))))
             (case aL => have := LMc16.out; omega)
             intro v203 w24 ho hb hg hat
             rw [← Ny202.out] at ho
             have n0_ := Aside0.mk (blk_grown (g := gb196) (o := .cells #[.slice A0_0 l0_0.length c0_0, .slice (some ad199) l0_1.length c0_1, .slice A0_2 l0_2.length c0_2, .int .i64 a0_3, .int .i64 a0_4] 86 (0, 0)) (by (with_reducible repeat (first | refine blk_drewN ?_ _ | refine blk_drew ?_ | refine blk_alloc ?_ _)); exact BK196.out) hg (Kd.R_ne HO_5.out BK196.out (by decide)))
             have n1_ := Aside0.mk (blk_grown (g := gb198) (o := .cells #[.int .i64 ((rd_T29 l1 x16_1).f0), .int .i64 ((rd_T29 l1 x16_1).f1)] 29 (0, 0)) (by (with_reducible repeat (first | refine blk_drewN ?_ _ | refine blk_drew ?_ | refine blk_alloc ?_ _)); exact BK198.out) hg (Kd.R_ne HO_5.out BK198.out (by decide)))
             have n2_ := Aside0.mk (hb)
             have n3_ := Aside0.mk (ho)
             clear BK196
             clear BK198
             clear HB
             clear HO_5
             have BK196 := n0_
             have BK198 := n1_
             have HB := n2_
             have HO204 := n3_
             clear n0_ n1_ n2_ n3_
             clear ho hb hg hat
             refine hK.out _ _ ⟨(blk_cell BK196.out 0).trans rfl, (blk_cell BK196.out 1).trans rfl, (blk_cell BK196.out 2).trans rfl, (blk_cell BK196.out 3).trans rfl, (blk_cell BK196.out 4).trans rfl, (blk_cell BK198.out 0).trans rfl, (blk_cell BK198.out 1).trans rfl, ((HB.out.cell (World.block_lt_of_cell? w _ hw199_0)).trans hw199_0), ((HB.out.cell (World.block_lt_of_cell? w _ hw199_1)).trans hw199_1), ((HB.out.cell (World.block_lt_of_cell? w _ hw199_2)).trans hw199_2), ((HB.out.cell (World.block_lt_of_cell? w _ hw199_3)).trans hw199_3), ((HB.out.cell (World.block_lt_of_cell? w _ hw199_4)).trans hw199_4), ((HB.out.cell (World.block_lt_of_cell? w _ hw199_5)).trans hw199_5)⟩ (fun hHeld => ?_)
             clear hK K
             refine norm_ (a' := ?_) ?_ ?_
             rotate_left
             ·show Act.put _ (some 39) _ = _
              simp only [Act.put, List.setIfInBounds_toArray, List.set_cons_zero, List.set_cons_succ, i64_w, i32_w]
              rfl
             refine pure_ (i := 19) (N := some 5) (v := ?_) (a' := ?_) #[true, true, true, true, true, true, true, true, true, true, true, true, true, true, true, true, true, true, true, true] rfl rfl (any_of HT_.out (by kernel_rfl)) (fun _ _ _ h => h) (Or.inl ⟨by rfl, ?_⟩) ?_ ?_
             rotate_left
             ·intro w'
              go_simp
              with_reducible rfl
             rotate_left
             ·simp only [Act.put, List.setIfInBounds_toArray, List.set_cons_zero, List.set_cons_succ, i64_w, i32_w]
              rfl
             refine done_ (done_of HT_.out (by kernel_rfl)) ?_
             try go_wp2
             go_roundg k1
             case measure => have := HK1.out; omega
             case rel => exact ⟨(y202), (wrap64 (x16_1 + 1)), (by first | rfl | (simp; done) | (simp [*]; done)), H', ⟨by have := HK1.out; omega⟩, ⟨by (with_reducible repeat (first | apply Kd.R_alloc | apply Kd.R_drewN | apply Kd.R_drew)); exact HO204.out⟩, ⟨by (with_reducible repeat (first | refine blk_drewN ?_ _ | refine blk_drew ?_ | refine blk_alloc ?_ _)); exact BK196.out⟩, ⟨by repeat (first | (with_reducible first | exact HB.out | apply below_alloc | apply pw_below_drewN | apply below_drew1 | refine below_set ?_ GE196.out | refine below_set ?_ GE198.out) | exact HB.out)⟩⟩
            ·rw [if_neg c16] at H
             exact absurd H (by simp)
           ·rw [if_neg c15] at H
            exact absurd H (by simp)
          ·rw [if_neg c13] at H
           exact absurd H (by simp)
         ·rw [if_neg c12] at H
          exact absurd H (by simp)
        ·rw [if_neg c10] at H
         exact absurd H (by simp)
       ·rw [if_neg c9] at H
        exact absurd H (by simp)
      ·rw [if_neg c8] at H
       exact absurd H (by simp)
     ·rw [if_neg c7] at H
      exact absurd H (by simp)
    ·rw [if_neg c6] at H
     have c6b0 : decide (x16_1 < (l1.length : Int)) = false := decide_eq_false c6
     clear c6
     obtain rfl := Option.some.inj H
     go_wp2
     go_ret
     exact ⟨_, by first | rfl | (simp [errW_none, errW_some] <;> rfl) | (simp [*, errW_none, errW_some] <;> rfl), by (with_reducible repeat (first | apply Kd.R_alloc | apply Kd.R_drewN | apply Kd.R_drew)); exact HO_5.out, by repeat (first | (with_reducible first | exact HB.out | apply below_alloc | apply pw_below_drewN | apply below_drew1 | refine below_set ?_ GE196.out) | exact HB.out)⟩
 ·rw [if_neg c3] at H
  have c3b0 : ((l1.length : Int) == (l0_1.length : Int)) = false := beq_eq_false_iff_ne.mpr c3
  have c3b1 : ((l1.length : Int) != (l0_1.length : Int)) = true := bne_iff_ne.mpr c3
  have c3b2 : (l1.length == l0_1.length) = false := by first | simpa using c3 | (simp at c3 ⊢; omega)
  obtain rfl := Option.some.inj H
  go_enter Tryd.func55, Tryd.ntmps55
  go_wp2_with (first | ((with_reducible refine gate_dst (N := 2) rfl ?_); refine box_event ?hg (N := 2) ?hd (cs := #[.slice A0_0 l0_0.length c0_0, .slice A0_1 l0_1.length c0_1, .slice A0_2 l0_2.length c0_2, .int .i64 a0_3, .int .i64 a0_4]) (t := 86) ?hr ?_; (case hd => rfl); (case hg => rfl); (case hr => first | (go_simp; done) | (go_simp; rfl)); intro gb196 hg w25 hbox hb; have n0_ := Aside0.mk (below_step (by repeat (first | (with_reducible first | exact HB.out | apply below_alloc | apply pw_below_drewN | apply below_drew1) | exact HB.out)) hb); have n1_ := Aside0.mk (hbox); have n2_ := Aside0.mk ((by rw [hg]; exact (below_size (by repeat (first | (with_reducible first | exact HB.out | apply below_alloc | apply pw_below_drewN | apply below_drew1) | exact HB.out))) : w.heap.size ≤ gb196)); have n3_ := Aside0.mk ((by rw [hg]; exact (below_size (by repeat (first | (with_reducible first | exact HB.out | apply below_alloc | apply pw_below_drewN | apply below_drew1) | exact HB.out))) : w.heap.size ≤ gb196)); clear HB; have HB := n0_; have BK196 := n1_; have GW196 := n2_; have GE196 := n3_; clear n0_ n1_ n2_ n3_; clear hb hbox hg; have hcz26_0 : w25.cell? ⟨gb196, 0, none⟩ = some (.slice A0_0 l0_0.length c0_0) := (blk_cell BK196.out 0).trans rfl; have hcz26_1 : w25.cell? ⟨gb196, 1, none⟩ = some (.slice A0_1 l0_1.length c0_1) := (blk_cell BK196.out 1).trans rfl; have hcz26_2 : w25.cell? ⟨gb196, 2, none⟩ = some (.slice A0_2 l0_2.length c0_2) := (blk_cell BK196.out 2).trans rfl; have hcz26_3 : w25.cell? ⟨gb196, 3, none⟩ = some (.int .i64 a0_3) := (blk_cell BK196.out 3).trans rfl; have hcz26_4 : w25.cell? ⟨gb196, 4, none⟩ = some (.int .i64 a0_4) := (blk_cell BK196.out 4).trans rfl; have hfz26_0 := blk_frozen BK196.out 0; have hfz26_1 := blk_frozen BK196.out 1; have hfz26_2 := blk_frozen BK196.out 2; have hfz26_3 := blk_frozen BK196.out 3; have hfz26_4 := blk_frozen BK196.out 4))
  go_ret
  exact ⟨_, by first | rfl | (simp [errW_none, errW_some] <;> rfl) | (simp [*, errW_none, errW_some] <;> rfl), by first | exact Kd.R_nil _ _ _ _ _ | exact Kd.N_nil _ _ _ _ _ | exact Kd.V_nil _ _ _ _ _ | exact Kd.Q_nil _ _ _ _ _ | exact Kd.S_nil _ _ _ _ _, by repeat (first | (with_reducible first | exact HB.out | apply below_alloc | apply pw_below_drewN | apply below_drew1 | refine below_set ?_ GE196.out) | exact HB.out)⟩

end Go.Proofs.YtmocphafkimdpaaDoor.P


/- A contribution's line of three words, and that word.Cut cuts it into these; share.Lines, told of lists. -/
namespace Go.Proofs.YtmocphafkimdpaaDoor.P
open Go.RowKit Go.Proofs.YtmocphafkimdpaaDoorW.PrintWords Go.Proofs.YtmocphafkimdpaaDoorW.PrintLast Go.Proofs.YtmocphafkimdpaaDoorW.PrintMore
set_option linter.unusedVariables false
set_option linter.unusedSimpArgs false

/-- A byte of a word without quotes, as the lines here have them. -/
def plB (c : UInt8) : Prop := plainB (c.toNat : Int) = true
theorem plB_of {c : UInt8} (h : 36 ≤ c.toNat) (h2 : c.toNat < 127) : plB c := by
 unfold plB plainB
 have h1 : (32 : Int) < (c.toNat : Int) := by omega
 have h3 : (c.toNat : Int) < 127 := by omega
 have h4 : ¬(c.toNat : Int) = 34 := by omega
 have h5 : ¬(c.toNat : Int) = 35 := by omega
 simp [h1, h3, h4, h5]
theorem plB_ne {c : UInt8} (h : plB c) : ¬(c.toNat : Int) = 35 ∧ ¬(c.toNat : Int) = 32 ∧ ¬(c.toNat : Int) = 34 := by
 unfold plB plainB at h
 simp only [Bool.and_eq_true, decide_eq_true_eq, bne_iff_ne, ne_eq] at h
 obtain ⟨⟨⟨h1, h2⟩, h3⟩, h4⟩ := h
 exact ⟨h4, by omega, h3⟩

theorem cut_within (rest : List UInt8) (out : List ByteArray) : ∀ (wd acc : List UInt8), (∀ c ∈ wd, plB c) → cutS (.within acc) out (wd ++ rest) = cutS (.within (acc ++ wd)) out rest
 | [], acc, _ => by simp
 | c :: t, acc, h => by
  have hc : plainB (c.toNat : Int) = true := h c (by simp)
  rw [List.cons_append]
  simp only [cutS]
  rw [if_pos hc, cut_within rest out t _ (fun x hx => h x (List.mem_cons_of_mem _ hx))]
  simp
theorem cut_word (wd : List UInt8) (hn : wd ≠ []) (h : ∀ c ∈ wd, plB c) (out : List ByteArray) (ho : ¬out.length = 32) (rest : List UInt8) : cutS .between out (wd ++ rest) = cutS (.within wd) out rest := by
 match wd, hn, h with
 | c :: t, _, h =>
  have hc : plB c := h c (by simp)
  obtain ⟨n1, n2, n3⟩ := plB_ne hc
  rw [List.cons_append]
  simp only [cutS]
  have hc2 : plainB (c.toNat : Int) = true := hc
  rw [if_neg n1, if_neg n2, if_neg ho, if_neg n3, if_pos hc2, cut_within rest out t _ (fun x hx => h x (List.mem_cons_of_mem _ hx))]
  rfl
theorem cut_space (acc : List UInt8) (out : List ByteArray) (rest : List UInt8) : cutS (.within acc) out (32 :: rest) = cutS .between (out ++ [bs acc]) rest := by
 simp only [cutS]
 rw [if_neg (by decide), if_pos (by decide)]
theorem cut_three (a b c : List UInt8) (ha : a ≠ []) (hb : b ≠ []) (hc : c ≠ []) (pa : ∀ x ∈ a, plB x) (pb : ∀ x ∈ b, plB x) (pc : ∀ x ∈ c, plB x) :
  cutS .between [] (a ++ (32 :: (b ++ (32 :: c)))) = ([bs a, bs b, bs c], 0) := by
 rw [cut_word a ha pa [] (by decide), cut_space, cut_word b hb pb _ (by simp), cut_space]
 have h := cut_word c hc pc ([] ++ [bs a] ++ [bs b]) (by simp) []
 rw [List.append_nil] at h
 rw [h]
 rfl

theorem text_pl (x : Int) : (∀ c ∈ textOf x, plB c) ∧ textOf x ≠ [] := by
 rw [textOf_body]
 obtain ⟨h1, _, _, _⟩ := dec_facts (x.natAbs / 100)
 constructor
 ·intro c hc
  rcases List.mem_append.1 hc with hc | hc
  ·split at hc
   ·simp at hc; subst hc; exact plB_of (by decide) (by decide)
   ·simp at hc
  ·unfold bodyText at hc
   rcases List.mem_append.1 hc with hc | hc
   ·have := (dig_iff c).1 (List.all_eq_true.1 h1 c hc)
    exact plB_of (by omega) (by omega)
   ·simp only [List.mem_cons, List.not_mem_nil, or_false] at hc
    rcases hc with rfl | rfl | rfl
    ·exact plB_of (by decide) (by decide)
    ·have := dgN (x.natAbs % 100 / 10) (by omega); exact plB_of (by omega) (by omega)
    ·have := dgN (x.natAbs % 10) (by omega); exact plB_of (by omega) (by omega)
 ·unfold bodyText
  simp
theorem name_pl (l : List UInt8) (h : nameOf l = true) : (∀ c ∈ l, plB c) ∧ l ≠ [] ∧ l.length ≤ 16 := by
 match l, h with
 | c :: t, h =>
  simp only [nameOf, Bool.and_eq_true, decide_eq_true_eq] at h
  obtain ⟨⟨h1, h2⟩, h3⟩ := h
  refine ⟨fun x hx => ?_, by simp, by simp only [List.length_cons]; omega⟩
  have hs : ∀ y, small y = true → plB y := fun y hy => by
   simp only [small, Bool.and_eq_true, decide_eq_true_eq] at hy
   exact plB_of (by omega) (by omega)
  rcases List.mem_cons.1 hx with hx | hx
  ·subst hx; exact hs _ h2
  ·have := List.all_eq_true.1 h3 x hx
   simp only [Bool.or_eq_true, decide_eq_true_eq] at this
   rcases this with (h | h) | h
   ·exact hs _ h
   ·have := (dig_iff x).1 h; exact plB_of (by omega) (by omega)
   ·exact plB_of (by omega) (by omega)
theorem name_any (s : ByteArray) : Ev (fun k => word_Name.f k s) (nameOf s.toList) := by
 by_cases hl : s.size ≤ 1000000
 ·exact name_ev s hl
 ·have hls : s.toList.length = s.size := toList_size s
  unfold word_Name.f
  refine Ev.neg (fun h => by rw [h] at hls; simp at hls; omega) (Ev.shift (fun k => by rw [word_Name.j0]) ?_)
  refine (Ev.pos (by simp; omega) Ev.now).res ?_
  cases hh : s.toList with
  | nil => rfl
  | cons c t =>
   rw [hh] at hls
   simp at hls
   simp [nameOf]
   intro h2; omega

/-- A contribution's line. -/
def lineOf (c : S97) (s : S29) : ByteArray := ((((c.f0 ++ (⟨#[32]⟩ : ByteArray)) ++ bs (textOf s.f0)) ++ (⟨#[32]⟩ : ByteArray)) ++ bs (textOf s.f1))
theorem lineOf_bs (c : S97) (s : S29) : lineOf c s = bs (c.f0.toList ++ (32 :: (textOf s.f0 ++ (32 :: textOf s.f1)))) := by
 have e1 : c.f0 ++ (⟨#[32]⟩ : ByteArray) = bs (c.f0.toList ++ [32]) := (congrArg (fun z => z ++ (⟨#[32]⟩ : ByteArray)) (bs_eta c.f0).symm).trans (ba_append c.f0.toList [32])
 have e2 : bs (c.f0.toList ++ [32]) ++ bs (textOf s.f0) = bs (c.f0.toList ++ [32] ++ textOf s.f0) := ba_append _ _
 have e3 : bs (c.f0.toList ++ [32] ++ textOf s.f0) ++ (⟨#[32]⟩ : ByteArray) = bs (c.f0.toList ++ [32] ++ textOf s.f0 ++ [32]) := ba_append _ _
 have e4 : bs (c.f0.toList ++ [32] ++ textOf s.f0 ++ [32]) ++ bs (textOf s.f1) = bs (c.f0.toList ++ [32] ++ textOf s.f0 ++ [32] ++ textOf s.f1) := ba_append _ _
 unfold lineOf
 rw [e1, e2, e3, e4]
 simp only [List.append_assoc, List.cons_append, List.nil_append]
theorem line_cut (c : S97) (s : S29) (hn : nameOf c.f0.toList = true) (hs : okSh s = true) : word_Cut.f (lineOf c s) = some ([c.f0, bs (textOf s.f0), bs (textOf s.f1)], 0) := by
 obtain ⟨p1, q1, r1⟩ := name_pl _ hn
 obtain ⟨p2, q2⟩ := text_pl s.f0
 obtain ⟨p3, q3⟩ := text_pl s.f1
 have hok := (okSh_iff s).1 hs
 have l2 := text_len s.f0 (by omega) (by omega)
 have l3 := text_len s.f1 (by omega) (by omega)
 have e := lineOf_bs c s
 have hcut := cut_three c.f0.toList (textOf s.f0) (textOf s.f1) q1 q2 q3 p1 p2 p3
 rw [bs_eta] at hcut
 have hlen : (c.f0.toList ++ (32 :: (textOf s.f0 ++ (32 :: textOf s.f1)))).length ≤ 512 := by simp only [List.length_append, List.length_cons]; omega
 generalize c.f0.toList ++ (32 :: (textOf s.f0 ++ (32 :: textOf s.f1))) = L at e hcut hlen
 unfold word_Cut.f
 rw [e, bs_size, bs_toList, if_neg (by omega), hcut]

theorem rdt97 {xs : List S97} {i : Nat} {x : S97} (h : xs[i]? = some x) : rd_T97 xs (i : Int) = x := by
 unfold rd_T97
 rw [List.getD_eq_getElem?_getD, Int.toNat_natCast, h]
 rfl
theorem rdo {α : Type} {d : α} {xs : List α} {i : Nat} {x : α} (h : xs[i]? = some x) : rdOf d xs (i : Int) = x := by
 unfold rdOf
 rw [List.getD_eq_getElem?_getD, Int.toNat_natCast, h]
 rfl

theorem lines_l0 (a : List (List S222)) (b : List S97) (ks : List S89) (p q : Int) (l : List S29) (hl : l.length ≤ 30) (hbl : b.length = l.length) (hb : ∀ c ∈ b, c.f0.size ≤ reachBytes) (hok : ∀ s ∈ l, okSh s = true) :
  ∀ (t : List S29) (u : List S97) (i : Nat) (acc : List ByteArray), l.drop i = t → b.drop i = u → i ≤ l.length → acc.length = i → Ev (fun k => share_Lines.l0 k acc l (l.length : Int) (i : Int) a b ks p q) (acc ++ List.zipWith lineOf u t)
 | [], u, i, acc, h, hu, hi, ha => by
  have : l.length ≤ i := by simpa using h
  refine Ev.shift (fun k => by rw [share_Lines.l0]) ?_
  refine (Ev.neg (by omega) Ev.now).res ?_
  rw [List.zipWith_nil_right, List.append_nil]
 | s :: t, u, i, acc, h, hu, hi, ha => by
  obtain ⟨h1, h2, h3⟩ := drop_cons_get h
  match u, hu with
  | [], hu =>
   have : b.length ≤ i := by simpa using hu
   omega
  | c :: u, hu =>
   obtain ⟨g1, g2, g3⟩ := drop_cons_get hu
   have hs := (okSh_iff s).1 (hok s (List.mem_of_getElem? h1))
   have hc := hb c (List.mem_of_getElem? g1)
   have hml : reachBytes ≤ 1000000000000000 := by decide
   have l2 := text_len s.f0 (by omega) (by omega)
   have l3 := text_len s.f1 (by omega) (by omega)
   have z1 : (c.f0 ++ (⟨#[32]⟩ : ByteArray)).size = c.f0.size + 1 := by rw [ByteArray.size_append]; rfl
   have z2 : (bs (textOf s.f0)).size = (textOf s.f0).length := bs_size _
   have z3 : (bs (textOf s.f1)).size = (textOf s.f1).length := bs_size _
   refine Ev.shift (fun k => by rw [share_Lines.l0]) ?_
   refine Ev.pos (by omega) (Ev.pos (by omega) (Ev.pos (by omega) (Ev.pos (by omega) ?_)))
   rw [rdt h1, rdt97 g1]
   refine Ev.pos (by omega) ?_
   refine Ev.bindc (a := bs (textOf s.f0)) (text_f s.f0 (by omega) (by omega)) ?_
   refine Ev.pos (by rw [z1, z2]; omega) (Ev.pos (by rw [ByteArray.size_append, z1, z2]; omega) ?_)
   refine Ev.bindc (a := bs (textOf s.f1)) (text_f s.f1 (by omega) (by omega)) ?_
   refine Ev.pos ?_ (Ev.pos (by omega) ?_)
   ·rw [ByteArray.size_append, ByteArray.size_append, z1, z2, z3]
    show c.f0.size + 1 + (textOf s.f0).length + 1 + (textOf s.f1).length ≤ 9223372036854775807
    omega
   ·rw [show wrap64 ((i : Int) + 1) = ((i + 1 : Nat) : Int) by rw [w64 (by omega) (by omega)]; rfl]
    refine (lines_l0 a b ks p q l hl hbl hb hok t u (i + 1) _ h2 g2 (by omega) (by simp; omega)).res ?_
    rw [List.zipWith_cons_cons, List.append_assoc]
    rfl
theorem lines_ev (a : List (List S222)) (b : List S97) (ks : List S89) (p q : Int) (l : List S29) (hl : l.length ≤ 30) (hb : ∀ c ∈ b, c.f0.size ≤ reachBytes) (hok : ∀ s ∈ l, okSh s = true) :
  Ev (fun k => share_Lines.f k a b ks p q l) (if l.length = b.length then List.zipWith lineOf b l else []) := by
 unfold share_Lines.f
 by_cases c : l.length = b.length
 ·refine Ev.res ?_ (if_pos c).symm
  exact Ev.pos (by omega) (lines_l0 a b ks p q l hl c.symm hb hok l b 0 [] rfl rfl (Nat.zero_le _) rfl)
 ·refine Ev.res ?_ (if_neg c).symm
  exact Ev.neg (by omega) Ev.now
end Go.Proofs.YtmocphafkimdpaaDoor.P


/- A table that is read as an argument: as GOpen tells it, and each name in it takes no more than the form's reach. -/
namespace Go.Proofs.YtmocphafkimdpaaDoor.P
open Go.RowKit Go.Proofs.YtmocphafkimdpaaDoorW.PrintWords Go.Proofs.YtmocphafkimdpaaDoorW.PrintLast Go.Proofs.YtmocphafkimdpaaDoorW.PrintMore

/-- As 'Opens', of a datum of which every part takes no more than the reach. -/
def OpensW (P : Program) (T : TypeId) {α : Type} (d : Kd α) (G : α → Prop) : Prop :=
 ∀ (H : Type) (enc : TypeId × Value → H) (w : World) (base : Nat) (spare : Nat → Bool) (held : Bool) (fuel : Nat) (cs : List Value) (x : DataW H × List MemPlace),
  DataW.trod enc P w base spare held fuel T cs = some x → (∀ n ∈ x.1.weights P T, n ≤ reachBytes) → ∃ a, d.K w a cs ∧ G a
def OpensFW (P : Program) (n : Nat) (fs : List Field) (off : Nat) {α : Type} (d : Kd α) (G : α → Prop) : Prop :=
 ∀ (H : Type) (enc : TypeId × Value → H) (w : World) (base : Nat) (spare : Nat → Bool) (held : Bool) (fuel : Nat) (cs : List Value), cs.length = n →
  (∀ f, f ∈ fs → ∃ y, DataW.trod enc P w base spare held fuel f.type ((cs.drop f.offset).take (P.cellsOf f.type)) = some y ∧ ∀ n ∈ y.1.weights P f.type, n ≤ reachBytes) → ∃ a, d.K w a (cs.drop off) ∧ G a

theorem OpensW.of {P : Program} {T : TypeId} {α : Type} {d : Kd α} {G : α → Prop} (h : Opens P T d G) : OpensW P T d G :=
 fun H enc w base spare held fuel cs x hx _ => h H enc w base spare held fuel cs x hx
theorem opensW_string {P : Program} {T : TypeId} (ht : P.underlying T = some .string) : OpensW P T Kd.string (fun s => s.size ≤ reachBytes) := by
 intro H enc w base spare held fuel cs x h hw
 obtain ⟨s, rfl, rfl, _⟩ := DataW.trod_string ht h
 exact ⟨s, rfl, hw _ (by simp [DataW.weights])⟩
theorem opensW_iso {P : Program} {T : TypeId} {α β : Type} {d : Kd α} {G : α → Prop} (h : OpensW P T d G) (f : β → α) (g : α → β) (hfg : ∀ a, f (g a) = a) : OpensW P T (Kd.iso d f) (fun b => G (f b)) := by
 intro H enc w base spare held fuel cs x hx hw
 obtain ⟨a, ha, hg⟩ := h H enc w base spare held fuel cs x hx hw
 exact ⟨g a, by show d.K w (f (g a)) cs; rw [hfg]; exact ha, by show G (f (g a)); rw [hfg]; exact hg⟩
theorem opensFW_one {P : Program} {n : Nat} {f : Field} {α : Type} {d : Kd α} {G : α → Prop} (off : Nat) (h : OpensW P f.type d G) (ho : f.offset = off) (hn : off + P.cellsOf f.type = n) : OpensFW P n [f] off d G := by
 intro H enc w base spare held fuel cs hl hf
 subst ho
 obtain ⟨y, hy, hw⟩ := hf f (by simp)
 have e : (cs.drop f.offset).take (P.cellsOf f.type) = cs.drop f.offset := List.take_of_length_le (by rw [List.length_drop]; omega)
 rw [e] at hy
 exact h H enc w base spare held fuel _ _ hy hw
theorem opensFW_cons {P : Program} {n off : Nat} {f : Field} {fs : List Field} {α β : Type} {d : Kd α} {d' : Kd β} {G : α → Prop} {G' : β → Prop} (off' : Nat) (h : OpensW P f.type d G) (ho : f.offset = off) (he : off + P.cellsOf f.type = off') (hs : OpensFW P n fs off' d' G') :
  OpensFW P n (f :: fs) off (Kd.pair d d') (fun x => G x.1 ∧ G' x.2) := by
 intro H enc w base spare held fuel cs hl hf
 subst ho he
 obtain ⟨y, hy, hw⟩ := hf f (by simp)
 obtain ⟨a, ha, hg⟩ := h H enc w base spare held fuel _ _ hy hw
 obtain ⟨b, hb, hg'⟩ := hs H enc w base spare held fuel cs hl (fun f' hf' => hf f' (List.mem_cons_of_mem _ hf'))
 refine ⟨(a, b), ⟨_, _, ?_, ha, hb⟩, hg, hg'⟩
 rw [← List.drop_drop, List.take_append_drop]
theorem opensW_struct {P : Program} {T : TypeId} {fs : Array Field} {α : Type} {d : Kd α} {G : α → Prop} (ht : P.underlying T = some (.struct fs)) (h : OpensFW P (P.cellsOf T) fs.toList 0 d G) : OpensW P T d G := by
 intro H enc w base spare held fuel cs x hx hw
 obtain ⟨xs, n, _, rfl, hl, hlen, hf⟩ := DataW.trod_struct ht hx
 obtain ⟨a, ha, hg⟩ := h H enc w base spare held n cs hl (fun f hf' => by
  obtain ⟨i, hi⟩ := List.mem_iff_getElem?.1 hf'
  have h1 := hf i f (by simpa using hi)
  have hlt : i < xs.length := by
   have h2 : i < fs.toList.length := by
    obtain ⟨h3, _⟩ := List.getElem?_eq_some_iff.1 hi
    exact h3
   simp at h2
   omega
  rw [List.getElem?_eq_getElem hlt] at h1
  refine ⟨_, h1, fun n hn => hw n ?_⟩
  simp only [DataW.weights, ht]
  exact DataW.weights_mem_each (j := i) (t := f.type) (d := xs[i].1) (by rw [List.getElem?_map, hi]; rfl) (by rw [List.getElem?_map, List.getElem?_eq_getElem hlt]; rfl) n hn)
 exact ⟨a, by simpa using ha, hg⟩

theorem weightsAll_mem {H : Type} {P : Program} {e : TypeId} {n : Nat} {d : DataW H} (hn : n ∈ d.weights P e) : ∀ {ds : List (DataW H)}, d ∈ ds → n ∈ DataW.weightsAll P e ds
 | d0 :: ds, hd => by
  simp only [DataW.weightsAll, List.mem_append]
  rcases List.mem_cons.1 hd with rfl | hd
  ·exact Or.inl hn
  ·exact Or.inr (weightsAll_mem hn hd)
theorem opensW_slice {P : Program} {T e : TypeId} {α : Type} {d : Kd α} {G : α → Prop} (ht : P.underlying T = some (.slice e)) (he : OpensW P e d G) (hc : P.cellsOf e = d.sz) :
  OpensW P T (Kd.slice e d) (fun l => l.length ≤ maxLen ∧ ∀ x ∈ l, G x) := by
 intro H enc w base spare held fuel cs x hx hw
 rcases Go.Deep.open_slice ht hx with ⟨rfl, _⟩ | ⟨a, len, cap, m, n, D, Pl, rfl, hb, hl, hm, hmm, rfl, hi⟩
 ·exact ⟨[], ⟨none, 0, rfl, Nat.le_refl _, rfl, by simp, fun h => absurd h (by simp)⟩, by simp, by simp⟩
 ·have hle : len ≤ m := by rw [hmm]; split <;> omega
  have hall : ∀ i, i < len → ∃ p : α × List Value, w.cells? base (a.add (i * P.cellsOf e)) (P.cellsOf e) = some p.2 ∧ d.K w p.1 p.2 ∧ G p.1 := fun i hlt => by
   obtain ⟨cs', h1, h2⟩ := hi i (by omega)
   obtain ⟨y, hy, hg⟩ := he H enc w base spare held n cs' _ h2 (fun k hk => hw k (by
    simp only [DataW.weights, ht, List.mem_cons, List.mem_append]
    exact Or.inr (Or.inl (weightsAll_mem hk (List.mem_map.2 ⟨i, List.mem_range.2 hlt, rfl⟩)))))
   exact ⟨(y, cs'), h1, hy, hg⟩
  have hex := gather (n := len) (p := fun i (p : α × List Value) => w.cells? base (a.add (i * P.cellsOf e)) (P.cellsOf e) = some p.2 ∧ d.K w p.1 p.2 ∧ G p.1) hall
  obtain ⟨q, hq, hp⟩ := hex
  refine ⟨q.map (·.1), ⟨some a, cap, by simp [hq], by simp [hq]; exact hl, rfl, ?_, fun _ => ⟨a, rfl, fun j p hj => ?_⟩⟩, by simp [hq]; exact Nat.le_trans hl hm, ?_⟩
  ·simp [hq]
   have : maxLen = 9223372036854775807 := by decide
   omega
  ·rw [List.getElem?_map, Option.map_eq_some_iff] at hj
   obtain ⟨p', hj, rfl⟩ := hj
   obtain ⟨h1, h2, h3⟩ := hp j p' hj
   obtain ⟨_, hlen, hcell⟩ := World.cells?_some h1
   refine ⟨p'.2, d.K_len h2, h2, fun i u hu => ?_⟩
   have hilt : i < P.cellsOf e := by
    obtain ⟨h4, _⟩ := List.getElem?_eq_some_iff.1 hu
    omega
   have := hcell i hilt
   rw [hu, Go.Deep.add_add, hc] at this
   exact this
  ·intro y hy
   obtain ⟨p, hpm, rfl⟩ := List.mem_map.1 hy
   obtain ⟨i, hi⟩ := List.mem_iff_getElem?.1 hpm
   exact (hp i p hi).2.2

def ok97w (x : S97) : Prop := x.f0.size ≤ reachBytes ∧ okI x.f1 ∧ okL ok222 x.f2 ∧ okI x.f3 ∧ okI x.f4 ∧ okI x.f5
theorem o97w : OpensW Tryd.prog 97 k97 ok97w :=
 opensW_iso (opensW_struct Tryd.underlying97 (opensFW_cons 1 (opensW_string Tryd.underlying9) rfl (by kernel_rfl) (opensFW_cons 2 (.of o3) rfl (by kernel_rfl) (opensFW_cons 3 (.of o95) rfl (by kernel_rfl) (opensFW_cons 4 (.of o2) rfl (by kernel_rfl) (opensFW_cons 5 (.of o2) rfl (by kernel_rfl) (opensFW_one 5 (.of o3) rfl (by kernel_rfl)))))))) _ (fun a => ⟨a.1, a.2.1, a.2.2.1, a.2.2.2.1, a.2.2.2.2.1, a.2.2.2.2.2⟩) (fun _ => rfl)
theorem o83w : OpensW Tryd.prog 83 (Kd.slice 97 k97) (okL ok97w) := opensW_slice Tryd.underlying83 o97w oc97
/-- As ok86; the contributions' names take no more than the reach. -/
def ok86w (x : List (List S222) × List S97 × List S89 × Int × Int) : Prop := okL (okL ok222) x.1 ∧ okL ok97w x.2.1 ∧ okL ok89 x.2.2.1 ∧ okI x.2.2.2.1 ∧ okI x.2.2.2.2
set_option maxRecDepth 20000 in
theorem o86w : OpensW Tryd.prog 86 k86 ok86w :=
 opensW_struct Tryd.underlying86 (opensFW_cons 1 (.of o82) rfl (by kernel_rfl) (opensFW_cons 2 o83w rfl (by kernel_rfl) (opensFW_cons 3 (.of o84) rfl (by kernel_rfl) (opensFW_cons 4 (.of o3) rfl (by kernel_rfl) (opensFW_one 4 (.of o3) rfl (by kernel_rfl))))))
end Go.Proofs.YtmocphafkimdpaaDoor.P


/- Plain laws of doubles that stand for whole numbers: what is written of a whole number below 2^53 is read as it. -/
namespace Go.Proofs.YtmocphafkimdpaaDoor.P
open Ieee

/-- A magnitude with its sign. -/
def mval (s : Bool) (m : Nat) : Int := if s then -(m : Int) else (m : Int)

theorem signed_eq (s : Bool) (m u : Nat) : signed s m u = mval s m * (2 : Int) ^ u := by
 unfold signed mval
 cases s
 ·simp [Nat.shiftLeft_eq]
 ·simp [Nat.shiftLeft_eq, Int.neg_mul]

/-- The bits of a double that stands for the whole number n. -/
def IsInt (b : Nat) (n : Int) : Prop := b < 2 ^ 64 ∧ ∃ s m e, double.read b = .number s m e ∧ -1074 ≤ e ∧ mval s m * (2 : Int) ^ (e + 1074).toNat = n * (2 : Int) ^ 1074

theorem two_pow_pos' (k : Nat) : (0 : Int) < 2 ^ k := Int.pow_pos (by decide)

/-- The bits of a whole number. -/
def fl (n : Int) : Nat := FloatKind.f64.nearest n

theorem read_word (s : Bool) (r : Nat) (hr : r < 9223372036854775808) : double.read (double.word s r) =
  if r < 4503599627370496 then .number s r (-1074)
  else if r < 9218868437227405312 then .number s (4503599627370496 + r % 4503599627370496) (-1074 + (r / 4503599627370496 - 1 : Nat))
  else if r = 9218868437227405312 then .infinity s
  else .nan s (r - 9218868437227405312) := by
 have hw : double.signWeight = 9223372036854775808 := rfl
 have h1 : (double.word s r / double.signWeight % 2 == 1) = s := by
  unfold Format.word
  rw [hw]
  cases s
  ·have : r / 9223372036854775808 = 0 := Nat.div_eq_of_lt hr
   simp [this]
  ·have : (9223372036854775808 + r) / 9223372036854775808 = 1 := by omega
   simp [this]
 have h2 : double.word s r % double.signWeight = r := by
  unfold Format.word
  rw [hw]
  cases s
  ·simpa using Nat.mod_eq_of_lt hr
  ·simp only [if_true]
   omega
 unfold Format.read
 simp only [h1, h2]
 rfl

theorem word_lt64 (s : Bool) (r : Nat) (hr : r < 9223372036854775808) : double.word s r < 18446744073709551616 := by
 have hw : double.signWeight = 9223372036854775808 := rfl
 unfold Format.word
 rw [hw]
 cases s
 ·simp; omega
 ·simp only [if_true]; omega

theorem rung_min (L kept : Nat) (hL : L < 53) (hk : kept < 9007199254740992) : min ((L + 1022) * 4503599627370496 + kept) 9218868437227405312 = (L + 1022) * 4503599627370496 + kept :=
 Nat.min_eq_left (by omega)
theorem rung_lt (L kept : Nat) (hL : L < 53) (hk : kept < 9007199254740992) : (L + 1022) * 4503599627370496 + kept < 9223372036854775808 := by omega
theorem rung_inf (L kept : Nat) (hL : L < 53) (hk : kept < 9007199254740992) : (L + 1022) * 4503599627370496 + kept < 9218868437227405312 := by omega
theorem rung_norm (L kept : Nat) : ¬ (L + 1022) * 4503599627370496 + kept < 4503599627370496 := by omega
theorem rung_div (L kept : Nat) (h1 : 4503599627370496 ≤ kept) (hk : kept < 9007199254740992) : ((L + 1022) * 4503599627370496 + kept) / 4503599627370496 = L + 1023 := by omega
theorem rung_mod (L kept : Nat) (h1 : 4503599627370496 ≤ kept) (hk : kept < 9007199254740992) : ((L + 1022) * 4503599627370496 + kept) % 4503599627370496 = kept - 4503599627370496 := by omega

theorem isInt_fl (n : Int) (h : n.natAbs < 9007199254740992) : IsInt (fl n) n := by
 have hfl : fl n = double.nearest (decide (n < 0)) n.natAbs 0 := rfl
 have hl : double.leastPlace = -1074 := rfl
 by_cases h0 : n = 0
 ·subst h0
  exact ⟨by decide, false, 0, -1074, by decide, by omega, by rw [Int.zero_mul]; rfl⟩
 ·have hm0 : n.natAbs ≠ 0 := by omega
  have hL : n.natAbs.log2 < 53 := (Nat.log2_lt hm0).2 (show n.natAbs < 2 ^ 53 from h)
  have hlo : 2 ^ n.natAbs.log2 ≤ n.natAbs := Nat.log2_self_le hm0
  have hhi : n.natAbs < 2 ^ (n.natAbs.log2 + 1) := Nat.lt_log2_self
  rw [hfl]
  unfold Format.nearest
  rw [if_neg hm0]
  have hlast : max (0 + (n.natAbs.log2 : Int) - (double.fractionBits : Int)) double.leastPlace = (n.natAbs.log2 : Int) - 52 := by
   rw [hl]
   show max (0 + (n.natAbs.log2 : Int) - 52) (-1074) = _
   omega
  simp only [hlast]
  generalize hLe : n.natAbs.log2 = L at *
  have e1 : (0 - ((L : Int) - 52)).toNat = 52 - L := by omega
  have e2 : (((L : Int) - 52) - 0).toNat = 0 := by omega
  have e3 : (((L : Int) - 52) - double.leastPlace).toNat = L + 1022 := by rw [hl]; omega
  rw [e1, e2, e3]
  have hcut : Toward.even.cut (decide (n < 0)) (n.natAbs <<< (52 - L)) 0 = n.natAbs * 2 ^ (52 - L) := by
   simp [Toward.cut, Nat.shiftLeft_eq, Nat.mod_one]
  rw [hcut]
  generalize hkept : n.natAbs * 2 ^ (52 - L) = kept
  have hk1 : 4503599627370496 ≤ kept := by
   rw [← hkept]
   have h3 : 2 ^ L * 2 ^ (52 - L) ≤ n.natAbs * 2 ^ (52 - L) := Nat.mul_le_mul_right _ hlo
   rw [← Nat.pow_add, show L + (52 - L) = 52 by omega] at h3
   exact h3
  have hk2 : kept < 9007199254740992 := by
   rw [← hkept]
   have h3 : n.natAbs * 2 ^ (52 - L) < 2 ^ (L + 1) * 2 ^ (52 - L) := Nat.mul_lt_mul_of_pos_right hhi (Nat.two_pow_pos _)
   rw [← Nat.pow_add, show L + 1 + (52 - L) = 53 by omega] at h3
   exact h3
  have hb : double.binade = 4503599627370496 := rfl
  have hi : double.infRung = 9218868437227405312 := rfl
  rw [hb, hi]
  rw [rung_min L kept hL hk2]
  have hr63 := rung_lt L kept hL hk2
  refine ⟨word_lt64 _ _ hr63, decide (n < 0), kept, (L : Int) - 52, ?_, by omega, ?_⟩
  ·rw [read_word _ _ hr63, if_neg (rung_norm L kept), if_pos (rung_inf L kept hL hk2), rung_div L kept hk1 hk2, rung_mod L kept hk1 hk2]
   have g1 : 4503599627370496 + (kept - 4503599627370496) = kept := Nat.add_sub_cancel' hk1
   have g2 : (-1074 : Int) + ((L + 1023 - 1 : Nat) : Int) = (L : Int) - 52 := by omega
   rw [g1, g2]
  ·have e4 : ((L : Int) - 52 + 1074).toNat = L + 1022 := by omega
   rw [e4, ← hkept]
   have hsum : (2 : Int) ^ (52 - L) * 2 ^ (L + 1022) = 2 ^ 1074 := (Int.pow_add 2 _ _).symm.trans (congrArg (fun x => (2 : Int) ^ x) (by omega))
   have hv : mval (decide (n < 0)) (n.natAbs * 2 ^ (52 - L)) = n * 2 ^ (52 - L) := by
    unfold mval
    by_cases hneg : n < 0
    ·have h5 : -((n.natAbs : Nat) : Int) = n := by omega
     simp only [hneg, decide_true, if_true]
     rw [Int.natCast_mul, Int.natCast_pow, ← Int.neg_mul, h5]
     rfl
    ·have h5 : ((n.natAbs : Nat) : Int) = n := by omega
     simp only [hneg, decide_false]
     rw [if_neg (by simp), Int.natCast_mul, Int.natCast_pow, h5]
     rfl
   rw [hv, Int.mul_assoc, hsum]

theorem word_of (b : Nat) (h : b < 18446744073709551616) : ∃ s r, b = double.word s r ∧ r < 9223372036854775808 := by
 have hw : double.signWeight = 9223372036854775808 := rfl
 by_cases hb : b < 9223372036854775808
 ·exact ⟨false, b, by simp [Format.word], hb⟩
 ·exact ⟨true, b - 9223372036854775808, by simp only [Format.word, if_true, hw]; omega, by omega⟩

end Go.Proofs.YtmocphafkimdpaaDoor.P


/- Plain laws of doubles that stand for whole numbers: order, cutting and the sign are the whole numbers'. -/
namespace Go.Proofs.YtmocphafkimdpaaDoor.P
open Ieee

theorem compare_scale (a b c d K L : Int) (hK : 0 < K) (hL : 0 < L) (h1 : c * L = a * K) (h2 : d * L = b * K) : compare a b = compare c d := by
 have lt_iff : a < b ↔ c < d := by
  constructor
  ·intro h
   have : a * K < b * K := Int.mul_lt_mul_of_pos_right h hK
   rw [← h1, ← h2] at this
   exact Int.lt_of_mul_lt_mul_right this (by omega)
  ·intro h
   have : c * L < d * L := Int.mul_lt_mul_of_pos_right h hL
   rw [h1, h2] at this
   exact Int.lt_of_mul_lt_mul_right this (by omega)
 have eq_iff : a = b ↔ c = d := by
  constructor
  ·intro h
   subst h
   have : c * L = d * L := by rw [h1, h2]
   exact Int.eq_of_mul_eq_mul_right (by omega) this
  ·intro h
   subst h
   have : a * K = b * K := by rw [← h1, ← h2]
   exact Int.eq_of_mul_eq_mul_right (by omega) this
 show (if a < b then Ordering.lt else if a = b then Ordering.eq else Ordering.gt) = (if c < d then Ordering.lt else if c = d then Ordering.eq else Ordering.gt)
 simp only [lt_iff, eq_iff]

theorem order_int {b c : Nat} {n k : Int} (hb : IsInt b n) (hc : IsInt c k) : double.order b c = some (compare n k) := by
 obtain ⟨_, s, m, e, hr, he, hv⟩ := hb
 obtain ⟨_, t, m', e', hr', he', hv'⟩ := hc
 unfold Format.order
 rw [hr, hr']
 simp only [Datum.order]
 congr 1
 symm
 rw [signed_eq, signed_eq]
 refine compare_scale n k _ _ (2 ^ 1074) (2 ^ (min e e' + 1074).toNat) (two_pow_pos' _) (two_pow_pos' _) ?_ ?_
 ·rw [Int.mul_assoc, ← Int.pow_add, ← hv]
  congr 2
  omega
 ·rw [Int.mul_assoc, ← Int.pow_add, ← hv']
  congr 2
  omega

theorem cut_zero (n drop : Nat) (neg : Bool) : Toward.zero.cut neg n drop = n / (1 <<< min drop (n.log2 + 2)) := by
 simp [Toward.cut]

theorem toInt_int {b : Nat} {n : Int} (hb : IsInt b n) : (double.read b).toInt .zero = some n := by
 obtain ⟨_, s, m, e, hr, he, hv⟩ := hb
 rw [hr]
 simp only [Datum.toInt, Datum.integral, cut_zero]
 rw [signed_eq, Int.pow_zero, Int.mul_one]
 congr 1
 by_cases h0 : 0 ≤ e
 ·obtain ⟨u, rfl⟩ := Int.eq_ofNat_of_zero_le h0
  have h1 : (-(u : Int)).toNat = 0 := by omega
  have h2 : ((u : Int) + 1074).toNat = u + 1074 := by omega
  rw [h1, Nat.zero_min, Int.toNat_natCast]
  rw [h2, Int.pow_add, ← Int.mul_assoc] at hv
  have h3 : mval s m * 2 ^ u = n := Int.eq_of_mul_eq_mul_right (Int.ne_of_gt (two_pow_pos' 1074)) hv
  rw [← h3]
  simp only [Nat.shiftLeft_eq]
  unfold mval
  cases s <;> simp [Int.neg_mul]
 ·obtain ⟨d, rfl⟩ : ∃ d : Nat, e = -(d : Int) := ⟨(-e).toNat, by omega⟩
  have hd1 : 0 < d := by omega
  have hd2 : d ≤ 1074 := by omega
  have h1 : (- -(d : Int)).toNat = d := by omega
  have h2 : (-(d : Int) + 1074).toNat = 1074 - d := by omega
  have h4 : (-(d : Int)).toNat = 0 := by omega
  rw [h1, h4, Nat.shiftLeft_zero]
  have h5 : (2 : Int) ^ 1074 = 2 ^ d * 2 ^ (1074 - d) := by rw [← Int.pow_add]; congr 1; omega
  rw [h2, h5, ← Int.mul_assoc] at hv
  have h3 : mval s m = n * 2 ^ d := Int.eq_of_mul_eq_mul_right (Int.ne_of_gt (two_pow_pos' _)) hv
  have hm : m = n.natAbs * 2 ^ d := by
   have := congrArg Int.natAbs h3
   rw [Int.natAbs_mul, Int.natAbs_pow] at this
   have e1 : (mval s m).natAbs = m := by unfold mval; cases s <;> simp
   rw [e1] at this
   exact this
  by_cases hn : n = 0
  ·subst hn
   have : m = 0 := by simpa using hm
   subst this
   simp [mval]
  ·have hna : 1 ≤ n.natAbs := by omega
   have hlog : d ≤ m.log2 := by
    have : 2 ^ d ≤ m := by rw [hm]; exact Nat.le_mul_of_pos_left _ hna
    exact (Nat.le_log2 (by have := Nat.two_pow_pos d; omega)).2 this
   have hmin : min d (m.log2 + 2) = d := by omega
   rw [hmin]
   have hq : m / (1 <<< d) = n.natAbs := by
    rw [Nat.one_shiftLeft, hm]
    exact Nat.mul_div_cancel _ (Nat.two_pow_pos d)
   rw [hq]
   unfold mval at h3 ⊢
   have hp := two_pow_pos' d
   cases s
   ·have : 0 ≤ n := by
     apply Classical.byContradiction
     intro hneg
     have : n * 2 ^ d < 0 := Int.mul_neg_of_neg_of_pos (by omega) hp
     simp at h3
     omega
    simp
    omega
   ·have : n ≤ 0 := by
     apply Classical.byContradiction
     intro hneg
     have : 0 < n * 2 ^ d := Int.mul_pos (by omega) hp
     simp at h3
     omega
    simp
    omega

theorem xor_low0 (r : Nat) (h : r < 2 ^ 63) : r ^^^ 2 ^ 63 = 2 ^ 63 + r := by
 apply Nat.eq_of_testBit_eq
 intro i
 rw [Nat.testBit_xor, Nat.testBit_two_pow]
 by_cases hi : i = 63
 ·subst hi
  rw [Nat.testBit_lt_two_pow h, Nat.testBit_two_pow_add_eq, Nat.testBit_lt_two_pow h]
  simp
 ·by_cases hlt : i < 63
  ·rw [Nat.testBit_two_pow_add_gt hlt]
   simp [Ne.symm hi]
  ·have h1 : r < 2 ^ i := Nat.lt_of_lt_of_le h (Nat.pow_le_pow_right (by decide) (by omega))
   have h2 : 2 ^ 63 + r < 2 ^ i := by
    have h3 : 2 ^ 64 ≤ 2 ^ i := Nat.pow_le_pow_right (by decide) (by omega)
    have h4 : 2 ^ 63 + r < 2 ^ 64 := by omega
    exact Nat.lt_of_lt_of_le h4 h3
   rw [Nat.testBit_lt_two_pow h1, Nat.testBit_lt_two_pow h2]
   simp [Ne.symm hi]

theorem xor_low (r : Nat) (h : r < 9223372036854775808) : r ^^^ 9223372036854775808 = 9223372036854775808 + r := xor_low0 r h

theorem neg_word (s : Bool) (r : Nat) (hr : r < 9223372036854775808) : Op.negFloat .f64 (double.word s r) = double.word (!s) r := by
 have hw : double.signWeight = 9223372036854775808 := rfl
 have hp : 2 ^ (FloatKind.f64.format.exponentBits + FloatKind.f64.format.fractionBits) = 9223372036854775808 := by decide
 unfold Op.negFloat Format.word
 rw [hp, hw]
 cases s
 ·simp only [Bool.not_false, if_true]
  rw [if_neg (by simp)]
  exact xor_low r hr
 ·simp only [Bool.not_true, if_true]
  rw [if_neg (by simp), ← xor_low r hr, Nat.xor_assoc, Nat.xor_self, Nat.xor_zero]

theorem isInt_neg {b : Nat} {n : Int} (h : IsInt b n) : IsInt (Op.negFloat .f64 b) (-n) := by
 obtain ⟨hb, s, m, e, hr, he, hv⟩ := h
 obtain ⟨t, r, rfl, hr63⟩ := word_of b hb
 rw [neg_word t r hr63]
 refine ⟨word_lt64 _ _ hr63, !s, m, e, ?_, he, ?_⟩
 ·rw [read_word _ _ hr63] at hr ⊢
  by_cases h1 : r < 4503599627370496
  ·rw [if_pos h1] at hr ⊢
   injection hr with a1 a2 a3
   rw [a1, a2, a3]
  ·rw [if_neg h1] at hr ⊢
   by_cases h2 : r < 9218868437227405312
   ·rw [if_pos h2] at hr ⊢
    injection hr with a1 a2 a3
    rw [a1, a2, a3]
   ·rw [if_neg h2] at hr
    by_cases h3 : r = 9218868437227405312
    ·rw [if_pos h3] at hr
     cases hr
    ·rw [if_neg h3] at hr
     cases hr
 ·have : mval (!s) m = -mval s m := by unfold mval; cases s <;> simp
  rw [this, Int.neg_mul, hv, Int.neg_mul]

theorem isInt_hi : IsInt 4845873199050653696 9007199254740992 := ⟨by decide, false, 4503599627370496, 1, by decide, by decide, by decide +kernel⟩
theorem isInt_lo : IsInt 14069245235905429504 (-9007199254740992) := ⟨by decide, true, 4503599627370496, 1, by decide, by decide, by decide +kernel⟩

end Go.Proofs.YtmocphafkimdpaaDoor.P


/- The pairs of package pair at whole numbers below 2^53: what pair.Of, Right, Sides, Add and Sub answer. -/
namespace Go.Proofs.YtmocphafkimdpaaDoor.P
open Go.RowKit Go.Proofs.YtmocphafkimdpaaDoorW.PrintWords Go.Proofs.YtmocphafkimdpaaDoorW.PrintLast Go.Proofs.YtmocphafkimdpaaDoorW.PrintMore

theorem cmp_gt {a b : Int} (h : b < a) : compare a b = Ordering.gt := by
 show (if a < b then Ordering.lt else if a = b then Ordering.eq else Ordering.gt) = _
 rw [if_neg (by omega), if_neg (by omega)]
theorem cmp_lt {a b : Int} (h : a < b) : compare a b = Ordering.lt := by
 show (if a < b then Ordering.lt else if a = b then Ordering.eq else Ordering.gt) = _
 rw [if_pos h]
theorem cmp_eq (a : Int) : compare a a = Ordering.eq := by
 show (if a < a then Ordering.lt else if a = a then Ordering.eq else Ordering.gt) = _
 rw [if_neg (by omega), if_pos rfl]

theorem toIntVal_int {b : Nat} {n : Int} (hb : IsInt b n) (h : n.natAbs < 9007199254740992) : floatToIntVal .f64 b .i64 = some n := by
 unfold floatToIntVal
 have : (FloatKind.f64.decode b).toInt .zero = some n := toInt_int hb
 rw [this]
 have h1 : IntKind.i64.min = -9223372036854775808 := by decide
 have h2 : IntKind.i64.max = 9223372036854775807 := by decide
 simp only [h1, h2]
 rw [if_pos (by omega)]

theorem convert_int {b : Nat} {n : Int} (hb : IsInt b n) (h : n.natAbs < 9007199254740992) (W : World) : (convert 106 2 (.float .f64 b)).run Tryd.prog W = .ok (.int .i64 n) W :=
 run_convert_float_int W 106 2 .f64 .i64 b n (by rw [Tryd.underlying106]; rfl) Tryd.underlying2 (toIntVal_int hb h)

theorem neg_complex (x y : Nat) (W : World) : (Op.unary .neg (.complex .f64 x y)).run Tryd.prog W = .ok (.complex .f64 (Op.negFloat .f64 x) (Op.negFloat .f64 y)) W := rfl

theorem whole_any (b : Nat) (n : Int) (hb : IsInt b n) (h : n.natAbs < 9007199254740992) (w : World) :
  Calls Tryd.prog 123 #[.float .f64 b] w fun e w' => e = .returned (.bool true) ∧ w = w' := by
 have h1 : FloatKind.f64.format.order b 14069245235905429504 = some .gt := by
  have := order_int hb isInt_lo
  rw [cmp_gt (by omega)] at this
  exact this
 have h2 : FloatKind.f64.format.order b 4845873199050653696 = some .lt := by
  have := order_int hb isInt_hi
  rw [cmp_lt (by omega)] at this
  exact this
 have h3 : FloatKind.f64.format.order b (floatOfInt .f64 n) = some .eq := by
  have := order_int hb (isInt_fl n h)
  rw [cmp_eq] at this
  exact this
 have hc := convert_int hb h
 clear hb h
 go_enter Tryd.func123, Tryd.ntmps123
 go_wp2
 go_ret
 exact ⟨rfl, rfl⟩

theorem right_any (x y : Nat) (n m : Int) (hx : IsInt x n) (hn : n.natAbs < 9007199254740992) (hy : IsInt y m) (hm : m.natAbs < 9007199254740992) (w : World) :
  Calls Tryd.prog 113 #[.complex .f64 x y] w fun e w' => e = .returned (.bool true) ∧ w = w' := by
 go_enter Tryd.func113, Tryd.ntmps113
 go_wp2_with fail
 refine (whole_any x n hx hn _).mono ?_
 rintro e w' ⟨rfl, rfl⟩
 go_wp2_with fail
 refine (whole_any y m hy hm _).mono ?_
 rintro e w' ⟨rfl, rfl⟩
 go_wp2_with fail
 go_ret
 exact ⟨rfl, rfl⟩

theorem of_any (a b : Int) (ha : a.natAbs < 9007199254740992) (hb : b.natAbs < 9007199254740992) (w : World) :
  Calls Tryd.prog 111 #[.int .i64 a, .int .i64 b] w fun e w' => e = .returned (.tuple #[.complex .f64 (fl a) (fl b), .int .i64 0]) ∧ w = w' := by
 have h1 : decide (9007199254740992 < a) = false := by simp; omega
 have h2 : decide (a < -9007199254740992) = false := by simp; omega
 have h3 : decide (9007199254740992 < b) = false := by simp; omega
 have h4 : decide (b < -9007199254740992) = false := by simp; omega
 clear ha hb
 go_enter Tryd.func111, Tryd.ntmps111
 go_wp2
 go_ret2
 exact ⟨rfl, rfl⟩

theorem sides_any (x y : Nat) (n m : Int) (hx : IsInt x n) (hn : n.natAbs < 9007199254740992) (hy : IsInt y m) (hm : m.natAbs < 9007199254740992) (w : World) :
  Calls Tryd.prog 103 #[.complex .f64 x y] w fun e w' => e = .returned (.tuple #[.int .i64 n, .int .i64 m, .int .i64 0]) ∧ w = w' := by
 have hc := convert_int hx hn
 have hc' := convert_int hy hm
 go_enter Tryd.func103, Tryd.ntmps103
 go_wp2_with (go_at_call 113; refine (right_any x y n m hx hn hy hm _).mono ?_; rintro e w' ⟨rfl, rfl⟩)
 go_ret3
 exact ⟨rfl, rfl⟩

theorem isInt_zero : IsInt 0 0 := isInt_fl 0 (by decide)

set_option maxHeartbeats 1000000 in
/-- pair.Add at two pairs. -/
theorem add_two (g cap : Nat) (x1 y1 x2 y2 : Nat) (n1 m1 n2 m2 : Int) (w : World)
  (hc0 : w.cell? ⟨g, 0, none⟩ = some (.complex .f64 x1 y1)) (hc1 : w.cell? ⟨g, 1, none⟩ = some (.complex .f64 x2 y2))
  (hx1 : IsInt x1 n1) (hy1 : IsInt y1 m1) (hx2 : IsInt x2 n2) (hy2 : IsInt y2 m2)
  (b1 : n1.natAbs < 1000000000000) (b2 : m1.natAbs < 1000000000000) (b3 : n2.natAbs < 1000000000000) (b4 : m2.natAbs < 1000000000000) :
  Calls Tryd.prog 112 #[.slice (some ⟨g, 0, none⟩) 2 cap] w fun e w' => e = .returned (.tuple #[.complex .f64 (fl (n1 + n2)) (fl (m1 + m2)), .int .i64 0]) ∧ w = w' := by
 have k0 := convert_int isInt_zero (by decide)
 have k1 := convert_int hx1 (by omega)
 have k2 := convert_int hy1 (by omega)
 have k3 := convert_int hx2 (by omega)
 have k4 := convert_int hy2 (by omega)
 have k5 := convert_int (isInt_fl n1 (by omega)) (by omega)
 have k6 := convert_int (isInt_fl m1 (by omega)) (by omega)
 have r1 := Lib.hid (fun w => right_any x1 y1 n1 m1 hx1 (by omega) hy1 (by omega) w)
 have r2 := Lib.hid (fun w => right_any x2 y2 n2 m2 hx2 (by omega) hy2 (by omega) w)
 have o1 := Lib.hid (fun w => of_any n1 m1 (by omega) (by omega) w)
 have o2 := Lib.hid (fun w => of_any (n1 + n2) (m1 + m2) (by omega) (by omega) w)
 clear hx1 hy1 hx2 hy2
 have c1 : -1000000000000 < n1 := by omega
 have c2 : n1 < 1000000000000 := by omega
 have c3 : -1000000000000 < m1 := by omega
 have c4 : m1 < 1000000000000 := by omega
 have c5 : -1000000000000 < n2 := by omega
 have c6 : n2 < 1000000000000 := by omega
 have c7 : -1000000000000 < m2 := by omega
 have c8 : m2 < 1000000000000 := by omega
 clear b1 b2 b3 b4
 go_enter Tryd.func112, Tryd.ntmps112
 go_wp2_with fail
 go_loop [4, 13] (fun s i => (s = .complex .f64 0 0 ∧ i = .int .i64 0) ∨ (s = .complex .f64 (fl n1) (fl m1) ∧ i = .int .i64 1) ∨ (s = .complex .f64 (fl (n1 + n2)) (fl (m1 + m2)) ∧ i = .int .i64 2)) (fun _ i => 3 - (intOf i).toNat)
 case atStart => exact .inl ⟨rfl, rfl⟩
 case round =>
  rcases hrel with ⟨rfl, rfl⟩ | ⟨rfl, rfl⟩ | ⟨rfl, rfl⟩
  ·go_wp2_with fail
   refine (r1.out _).mono ?_
   rintro e w' ⟨rfl, rfl⟩
   go_wp2_with fail
   refine (o1.out _).mono ?_
   rintro e w' ⟨rfl, rfl⟩
   go_wp2_with fail
   go_round
   case rel => exact .inr (.inl ⟨rfl, rfl⟩)
   case measure => simp [intOf]
  ·go_wp2_with fail
   refine (r2.out _).mono ?_
   rintro e w' ⟨rfl, rfl⟩
   go_wp2_with fail
   refine (o2.out _).mono ?_
   rintro e w' ⟨rfl, rfl⟩
   go_wp2_with fail
   go_round
   case rel => exact .inr (.inr ⟨rfl, rfl⟩)
   case measure => simp [intOf]
  ·go_wp2_with fail
   go_ret2
   exact ⟨rfl, rfl⟩

end Go.Proofs.YtmocphafkimdpaaDoor.P
