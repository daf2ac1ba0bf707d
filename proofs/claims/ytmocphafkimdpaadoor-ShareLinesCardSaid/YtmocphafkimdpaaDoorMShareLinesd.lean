/- A part of the proof of ShareLines's card: 'ShareLines' answers true for every input (the conditions: those of the given statement alone). Merged by a program (wip/merge.py) out of: GParse, Pf94, Pf95, GCut, Pf25, GRowsA, GShelf, GFmt, Pf61, Pf39. -/
import Derived.Test.YtmocphafkimdpaaDoorMShareLinesa
import Derived.Test.YtmocphafkimdpaaDoorMShareLinesc
import Derived.Lib.Bytes
import Derived.WalkMore
import Derived.Lib.Hide
import Derived.Shelf.Small.Bits
import Derived.Shelf.Strconv.Itoa0
import Derived.Shelf.Strconv.Itoa1
import Derived.Shelf.LaysM
import Derived.Shelf.Strconv.Itoa2
import Derived.Shelf.Bits.Mul64
import Derived.Test.YtmocphafkimdpaaDoorProg
import Derived.Lib.Walk
import Derived.Lib.ItoaMem
import Derived.WalkKit
import Derived.BigCall
import Derived.BigGuard

/- money.Parse and word.Name, told of lists of bytes. -/
namespace Go.Proofs.YtmocphafkimdpaaDoor.P
open Go.RowKit Go.Proofs.YtmocphafkimdpaaDoorW.PrintWords Go.Proofs.YtmocphafkimdpaaDoorW.PrintLast Go.Proofs.YtmocphafkimdpaaDoorW.PrintMore
set_option linter.unusedVariables false

abbrev bs (l : List UInt8) : ByteArray := ⟨l.toArray⟩
theorem bs_size (l : List UInt8) : (bs l).size = l.length := by simp [ByteArray.size]
theorem bs_toList (l : List UInt8) : (bs l).toList = l := by rw [Lib.toList_data]
theorem bs_eta (s : ByteArray) : bs s.toList = s := by
  rw [Lib.toList_data]
theorem bs_bt (l : List UInt8) (i : Nat) {c : UInt8} (h : l[i]? = some c) : bt (bs l) (i : Int) = (c.toNat : Int) := by
  obtain ⟨h1, h2⟩ := List.getElem?_eq_some_iff.1 h
  unfold bt
  rw [dif_pos (by rw [Int.toNat_natCast, bs_size]; exact h1)]
  congr 1
  subst h2
  simp [ByteArray.getElem_eq_getElem_data]
theorem bs_extract (l : List UInt8) (a b : Nat) : (bs l).extract a b = bs ((l.take b).drop a) := by
  apply ByteArray.ext
  simp [List.drop_take]

def dig (c : UInt8) : Bool := decide (48 ≤ c.toNat) && decide (c.toNat ≤ 57)
theorem dig_iff (c : UInt8) : dig c = true ↔ 48 ≤ c.toNat ∧ c.toNat ≤ 57 := by simp [dig]
theorem digit_f (c : UInt8) : money_digit.f (c.toNat : Int) = some (dig c) := by
  unfold money_digit.f dig
  by_cases h : 48 ≤ c.toNat
  · rw [if_pos (by omega)]
    congr 1
    simp only [h, decide_true, Bool.true_and, decide_eq_decide]
    omega
  · rw [if_neg (by omega)]
    simp [h]
/-- The number that digits write, behind n. -/
def valFrom (n : Nat) : List UInt8 → Nat
  | [] => n
  | c :: t => valFrom (10 * n + (c.toNat - 48)) t
def wholeOk (l : List UInt8) : Bool := match l with
  | [] => false
  | [_] => true
  | c :: _ => c.toNat != 48

theorem whole_end (n : Nat) (l : List UInt8) : Ev (fun (_ : Nat) => if l = ([] : List UInt8) then (some ((n : Int), false)) else (if (l.length : Int) = 1 then (some ((n : Int), true)) else (if 0 < (l.length : Int) then (some ((n : Int), ((bt (bs l) 0) != 48))) else none))) ((n : Int), wholeOk l) := by
  match l with
  | [] => exact Ev.pos rfl Ev.now
  | [c] => exact Ev.neg (by simp) (Ev.pos (by simp) Ev.now)
  | c :: d :: r =>
    refine Ev.neg (by simp) (Ev.neg (by simp only [List.length_cons]; omega) (Ev.pos (by simp only [List.length_cons]; omega) (Ev.const ?_)))
    have e : bt (bs (c :: d :: r)) 0 = (c.toNat : Int) := bs_bt (c :: d :: r) 0 rfl
    rw [e]
    simp only [wholeOk]
    congr 2
    rw [Bool.eq_iff_iff]
    simp only [bne_iff_ne, ne_eq]
    omega
theorem whole_l0_ev (l : List UInt8) (hl : l.length ≤ 12) : ∀ (t : List UInt8) (i n : Nat), l.drop i = t → i ≤ l.length → n < 10 ^ i →
    Ev (fun k => money_whole.l0 k (bs l) (n : Int) (l.length : Int) (i : Int)) (if t.all dig = true then ((valFrom n t : Nat), wholeOk l) else (0, false))
  | [], i, n, h, hi, hn => by
    clear hn
    have hi' : l.length ≤ i := by simpa using h
    refine Ev.shift (fun k => by rw [money_whole.l0]) ?_
    refine Ev.neg (by omega) ?_
    rw [bs_toList, bs_size]
    exact (whole_end n l).res (if_pos rfl).symm
  | c :: t, i, n, h, hi, hn => by
    obtain ⟨h1, h2, h3⟩ := drop_cons_get h
    have hp : 10 ^ i ≤ 10 ^ 11 := Nat.pow_le_pow_right (by decide) (by omega)
    refine Ev.shift (fun k => by rw [money_whole.l0]) ?_
    refine Ev.pos (by omega) (Ev.pos (by omega) (Ev.pos (by rw [bs_size]; omega) ?_))
    rw [bs_bt l i h1, digit_f]
    by_cases cd : dig c = true
    · have cd' := (dig_iff c).1 cd
      refine Ev.bindc rfl (Ev.pos cd ?_)
      rw [w64 (x := 10 * (n : Int)) (by omega) (by omega), w64 (x := (i : Int) + 1) (by omega) (by omega)]
      rw [show wrap64 (10 * (n : Int) + ((c.toNat : Int) - 48) % 256) = ((10 * n + (c.toNat - 48) : Nat) : Int) by rw [w64 (by omega) (by omega)]; omega]
      rw [show ((c :: t).all dig) = t.all dig by simp [cd]]
      exact whole_l0_ev l hl t (i + 1) _ h2 (by omega) (by rw [Nat.pow_succ]; omega)
    · refine Ev.bindc rfl (Ev.neg cd ?_)
      rw [if_neg (by simp [cd])]
      exact Ev.now
theorem whole_ev (l : List UInt8) (hl : l.length ≤ 12) : Ev (fun k => money_whole.f k (bs l)) (if l.all dig = true then ((valFrom 0 l : Nat), wholeOk l) else (0, false)) := by
  unfold money_whole.f
  rw [bs_size]
  exact whole_l0_ev l hl l 0 0 rfl (Nat.zero_le _) (by decide)

theorem digits_l0_ev (l : List UInt8) (hl : l.length ≤ 1000) : ∀ (t : List UInt8) (i : Nat), l.drop i = t → i ≤ l.length → Ev (fun k => money_digits.l0 k (bs l) (l.length : Int) (i : Int)) (t.all dig)
  | [], i, h, hi => by
    have hi' : l.length ≤ i := by simpa using h
    refine Ev.shift (fun k => by rw [money_digits.l0]) ?_
    exact Ev.neg (by omega) Ev.now
  | c :: t, i, h, hi => by
    obtain ⟨h1, h2, h3⟩ := drop_cons_get h
    refine Ev.shift (fun k => by rw [money_digits.l0]) ?_
    refine Ev.pos (by omega) (Ev.pos (by omega) (Ev.pos (by rw [bs_size]; omega) ?_))
    rw [bs_bt l i h1, digit_f]
    by_cases cd : dig c = true
    · refine Ev.bindc rfl (Ev.pos cd ?_)
      rw [w64 (x := (i : Int) + 1) (by omega) (by omega), show ((c :: t).all dig) = t.all dig by simp [cd]]
      exact digits_l0_ev l hl t (i + 1) h2 (by omega)
    · refine Ev.bindc rfl (Ev.neg cd ?_)
      rw [show ((c :: t).all dig) = false by simp [cd]]
      exact Ev.now
theorem digits_ev (l : List UInt8) (hl : l.length ≤ 1000) : Ev (fun k => money_digits.f k (bs l)) (l.all dig) := by
  unfold money_digits.f
  rw [bs_size]
  exact digits_l0_ev l hl l 0 rfl (Nat.zero_le _)

theorem valFrom_lt (t : List UInt8) : ∀ (n p : Nat), t.all dig = true → n < p → valFrom n t < p * 10 ^ t.length := by
  induction t with
  | nil =>
    intro n p _ h
    have e : valFrom n [] = n := rfl
    rw [e, List.length_nil, Nat.pow_zero, Nat.mul_one]
    exact h
  | cons c t ih =>
    intro n p ha h
    simp only [List.all_cons, Bool.and_eq_true] at ha
    have := (dig_iff c).1 ha.1
    have h2 := ih (10 * n + (c.toNat - 48)) (10 * p) ha.2 (by omega)
    have e : valFrom n (c :: t) = valFrom (10 * n + (c.toNat - 48)) t := rfl
    rw [e, List.length_cons, Nat.pow_succ, Nat.mul_comm (10 ^ t.length) 10, ← Nat.mul_assoc, Nat.mul_comm p 10]
    exact h2

theorem check_ev (x : Int) : Ev (fun k => money_check.f k x) (if okAmt x = true then (x, 0) else (0, 10)) := by
  unfold money_check.f
  refine Ev.bind (mright_ev [x] (by simp)) ?_
  by_cases c : okAmt x = true
  · rw [if_pos c]
    exact Ev.pos (by simp [c]) Ev.now
  · rw [if_neg c]
    exact Ev.neg (by simp [c]) Ev.now

def sgn (b : Bool) : Int := if b = true then -1 else 1
/-- What stands ahead of the point, the coins behind it, and the sign. -/
def partOf (neg : Bool) (l : List UInt8) (coins : Nat) : Int × Int :=
  if 12 < l.length then (if (l.all dig && wholeOk (l.take 12)) = true then (0, 10) else (0, 5))
  else if (l.all dig && wholeOk l) = true then
    (if neg = true ∧ valFrom 0 l = 0 ∧ coins = 0 then (0, 5)
     else if okAmt ((sgn neg) * ((valFrom 0 l * 100 + coins : Nat) : Int)) = true then ((sgn neg) * ((valFrom 0 l * 100 + coins : Nat) : Int), 0) else (0, 10))
  else (0, 5)
def bodyOf (neg : Bool) (l : List UInt8) : Int × Int :=
  if 20 < l.length then (0, 5)
  else if 3 < l.length ∧ l[l.length - 3]? = some 46 then
    (if dig (l.getD (l.length - 2) 0) = true ∧ dig (l.getD (l.length - 1) 0) = true then partOf neg (l.take (l.length - 3)) (((l.getD (l.length - 2) 0).toNat - 48) * 10 + ((l.getD (l.length - 1) 0).toNat - 48)) else (0, 5))
  else partOf neg l 0
def parseOf (l : List UInt8) : Int × Int := match l with
  | 45 :: t => bodyOf true t
  | l => bodyOf false l

theorem parse_j3_ev (neg : Bool) (l : List UInt8) (coins : Nat) (hc : coins < 100) (hl : l.length ≤ 20) : Ev (fun k => money_Parse.j3 k (bs l) (sgn neg) (coins : Int)) (partOf neg l coins) := by
  refine Ev.shift (fun k => by rw [money_Parse.j3]) ?_
  rw [bs_size]
  unfold partOf
  by_cases c : 12 < l.length
  · rw [if_pos c]
    refine Ev.pos (by omega) (Ev.pos (by decide) (Ev.pos (by omega) ?_))
    rw [bs_extract, List.drop_zero]
    refine Ev.bind (whole_ev (l.take 12) (by simp; omega)) ?_
    by_cases c1 : (l.take 12).all dig = true
    · rw [if_pos c1]
      by_cases c2 : wholeOk (l.take 12) = true
      · refine Ev.pos c2 (Ev.bind (digits_ev l (by omega)) ?_)
        rw [c2, Bool.and_true]
        by_cases c3 : l.all dig = true
        · exact (Ev.pos c3 Ev.now).res (if_pos c3).symm
        · exact (Ev.neg c3 Ev.now).res (if_neg c3).symm
      · rw [if_neg (by simp [c2])]
        exact Ev.neg c2 Ev.now
    · have : l.all dig = false := by
        rw [Bool.eq_false_iff]
        intro h
        refine c1 (List.all_eq_true.2 fun x hx => List.all_eq_true.1 h x (List.mem_of_mem_take hx))
      rw [if_neg c1, this]
      exact Ev.neg (by simp) Ev.now
  · rw [if_neg c]
    refine Ev.neg (by omega) (Ev.bind (whole_ev l (by omega)) ?_)
    by_cases c1 : l.all dig = true
    · rw [if_pos c1, c1, Bool.true_and]
      by_cases c2 : wholeOk l = true
      · rw [if_pos c2]
        refine Ev.pos c2 ?_
        have hv := valFrom_lt l 0 1 c1 (by decide)
        have hp : 10 ^ l.length ≤ 10 ^ 12 := Nat.pow_le_pow_right (by decide) (by omega)
        rw [Nat.one_mul] at hv
        generalize valFrom 0 l = v at hv ⊢
        have e1 : wrap64 ((wrap64 ((v : Int) * 100)) + (coins : Int)) = ((v * 100 + coins : Nat) : Int) := by
          rw [w64 (x := (v : Int) * 100) (by omega) (by omega), w64 (by omega) (by omega)]; omega
        rw [e1]
        have e2 : wrap64 ((sgn neg) * ((v * 100 + coins : Nat) : Int)) = (sgn neg) * ((v * 100 + coins : Nat) : Int) := by
          cases neg <;> exact w64 (by simp [sgn]; omega) (by simp [sgn]; omega)
        rw [e2]
        have hk : Ev (fun k => (money_check.f k ((sgn neg) * ((v * 100 + coins : Nat) : Int))).bind fun bt288 => some (bt288.1, bt288.2)) (if okAmt ((sgn neg) * ((v * 100 + coins : Nat) : Int)) = true then ((sgn neg) * ((v * 100 + coins : Nat) : Int), 0) else (0, 10)) :=
          Ev.bind (check_ev _) Ev.now
        cases neg with
        | false =>
          rw [if_neg (by simp)]
          exact Ev.neg (by simp [sgn]) hk
        | true =>
          refine Ev.pos (by simp [sgn]) ?_
          by_cases d1 : v = 0
          · refine Ev.pos (by omega) ?_
            by_cases d2 : coins = 0
            · rw [if_pos ⟨rfl, d1, d2⟩]
              exact Ev.pos (by omega) Ev.now
            · rw [if_neg (fun h => d2 h.2.2)]
              exact Ev.neg (by omega) hk
          · rw [if_neg (fun h => d1 h.2.1)]
            exact Ev.neg (by omega) hk
      · rw [if_neg c2]
        exact Ev.neg c2 Ev.now
    · rw [if_neg c1, show (l.all dig && wholeOk l) = false by simp [c1]]
      exact Ev.neg (by simp) Ev.now

theorem getD_some {l : List UInt8} {i : Nat} (h : i < l.length) : l[i]? = some (l.getD i 0) := by
  rw [List.getD_eq_getElem?_getD, List.getElem?_eq_getElem h, Option.getD_some]
theorem parse_j1_ev (neg : Bool) (l : List UInt8) (hl : l.length ≤ 1000000) : Ev (fun k => money_Parse.j1 k (bs l) (sgn neg)) (bodyOf neg l) := by
  refine Ev.shift (fun k => by rw [money_Parse.j1]) ?_
  rw [bs_size]
  unfold bodyOf
  by_cases c : 20 < l.length
  · rw [if_pos c]
    exact Ev.pos (by omega) Ev.now
  · rw [if_neg c]
    refine Ev.neg (by omega) ?_
    rw [w64 (x := (l.length : Int) - 3) (by omega) (by omega)]
    by_cases c1 : 3 < l.length
    · have e0 : (l.length : Int) - 3 = ((l.length - 3 : Nat) : Int) := by omega
      refine Ev.pos (by omega) (Ev.pos (by omega) (Ev.pos (by omega) ?_))
      rw [e0, bs_bt l (l.length - 3) (getD_some (by omega))]
      refine Ev.shift (fun k => by rw [money_Parse.j2]) ?_
      rw [bs_size]
      by_cases c2 : l[l.length - 3]? = some 46
      · rw [if_pos ⟨c1, c2⟩]
        have e46 : l.getD (l.length - 3) 0 = 46 := by rw [List.getD_eq_getElem?_getD, c2]; rfl
        refine Ev.pos (by rw [e46]; decide) ?_
        rw [show wrap64 (((l.length - 3 : Nat) : Int) + 1) = ((l.length - 2 : Nat) : Int) by rw [w64 (by omega) (by omega)]; omega, show wrap64 (((l.length - 3 : Nat) : Int) + 2) = ((l.length - 1 : Nat) : Int) by rw [w64 (by omega) (by omega)]; omega]
        refine Ev.pos (by omega) (Ev.pos (by omega) ?_)
        rw [bs_bt l (l.length - 2) (getD_some (by omega)), digit_f, bs_bt l (l.length - 1) (getD_some (by omega)), digit_f]
        by_cases d1 : dig (l.getD (l.length - 2) 0) = true
        · refine Ev.bindc rfl (Ev.pos d1 (Ev.pos (by omega) (Ev.pos (by omega) ?_)))
          by_cases d2 : dig (l.getD (l.length - 1) 0) = true
          · refine Ev.bindc rfl (Ev.pos d2 (Ev.pos (by omega) (Ev.pos (by omega) ?_)))
            rw [if_pos ⟨d1, d2⟩, bs_extract, List.drop_zero, Int.toNat_natCast]
            have d1' := (dig_iff _).1 d1
            have d2' := (dig_iff _).1 d2
            rw [show (((((l.getD (l.length - 2) 0).toNat : Int) - 48) % 256) * 10 + ((((l.getD (l.length - 1) 0).toNat : Int) - 48) % 256)) = ((((l.getD (l.length - 2) 0).toNat - 48) * 10 + ((l.getD (l.length - 1) 0).toNat - 48) : Nat) : Int) by omega]
            exact parse_j3_ev neg _ _ (by omega) (by simp; omega)
          · rw [if_neg (fun h => d2 h.2)]
            exact Ev.bindc rfl (Ev.neg d2 Ev.now)
        · rw [if_neg (fun h => d1 h.1)]
          exact Ev.bindc rfl (Ev.neg d1 Ev.now)
      · rw [if_neg (fun h => c2 h.2)]
        refine Ev.neg ?_ (parse_j3_ev neg l 0 (by decide) (by omega))
        intro h
        have h1 : ((l.getD (l.length - 3) 0).toNat : Int) = 46 := by simpa using h
        refine c2 ?_
        rw [getD_some (by omega)]
        congr 1
        exact UInt8.toNat_inj.1 (by show _ = 46; omega)
    · rw [if_neg (fun h => c1 h.1)]
      refine Ev.neg (by omega) ?_
      refine Ev.shift (fun k => by rw [money_Parse.j2]) ?_
      exact Ev.neg (by decide) (parse_j3_ev neg l 0 (by decide) (by omega))
theorem parse_bs_ev (l : List UInt8) (hl : l.length ≤ 1000000) : Ev (fun k => money_Parse.f k (bs l)) (parseOf l) := by
  unfold money_Parse.f
  rw [bs_size]
  match l, hl with
  | [], _ =>
    refine Ev.neg (by simp) (Ev.shift (fun k => by rw [money_Parse.j0]) (Ev.neg (by decide) ?_))
    exact parse_j1_ev false [] (by simp)
  | c :: t, hl =>
    refine Ev.pos (by simp only [List.length_cons]; omega) (Ev.pos (by simp only [List.length_cons]; omega) (Ev.shift (fun k => by rw [money_Parse.j0]) ?_))
    rw [show ((0 : Int)) = ((0 : Nat) : Int) from rfl, bs_bt (c :: t) 0 rfl, bs_size]
    by_cases h : c = 45
    · subst h
      refine Ev.pos (by decide) (Ev.pos (by simp; omega) ?_)
      rw [bs_extract, List.take_length, List.drop_one, List.tail_cons]
      exact parse_j1_ev true t (by simp at hl; omega)
    · have e : parseOf (c :: t) = bodyOf false (c :: t) := by
        unfold parseOf
        split
        · rename_i h2; injection h2 with h2; exact absurd h2 h
        · rfl
      rw [e]
      refine Ev.neg ?_ (parse_j1_ev false (c :: t) hl)
      intro h2
      have h1 : (c.toNat : Int) = 45 := by simpa using h2
      exact h (UInt8.toNat_inj.1 (by show _ = 45; omega))
theorem mparse_ev (s : ByteArray) (hl : s.size ≤ 1000000) : Ev (fun k => money_Parse.f k s) (parseOf s.toList) := by
  have := parse_bs_ev s.toList (by rw [Lib.toList_data, data_length]; exact hl)
  rwa [bs_eta] at this

/-- A name: a small letter, and small letters, digits and dashes behind it. -/
def small (c : UInt8) : Bool := decide (97 ≤ c.toNat) && decide (c.toNat ≤ 122)
def nameOf (l : List UInt8) : Bool := match l with
  | [] => false
  | c :: t => decide (t.length < 16) && small c && t.all fun c => small c || dig c || decide (c.toNat = 45)
theorem name_l0_ev (l : List UInt8) (hl : l.length ≤ 1000) : ∀ (t : List UInt8) (i : Nat), l.drop i = t → i ≤ l.length → Ev (fun k => word_Name.l0 k (bs l) (l.length : Int) (i : Int)) (if i = 0 then (match t with | [] => true | c :: t => small c && t.all fun c => small c || dig c || decide (c.toNat = 45)) else t.all fun c => small c || dig c || decide (c.toNat = 45))
  | [], i, h, hi => by
    have hi' : l.length ≤ i := by simpa using h
    refine Ev.shift (fun k => by rw [word_Name.l0]) ?_
    refine Ev.neg (by omega) ?_
    split <;> exact Ev.now
  | c :: t, i, h, hi => by
    obtain ⟨h1, h2, h3⟩ := drop_cons_get h
    have ih := name_l0_ev l hl t (i + 1) h2 (by omega)
    rw [if_neg (by omega)] at ih
    refine Ev.shift (fun k => by rw [word_Name.l0]) ?_
    refine Ev.pos (by omega) (Ev.pos (by omega) (Ev.pos (by rw [bs_size]; omega) ?_))
    rw [bs_bt l i h1, show wrap64 ((i : Int) + 1) = ((i + 1 : Nat) : Int) by rw [w64 (by omega) (by omega)]; rfl]
    by_cases s1 : small c = true
    · have s1' : 97 ≤ c.toNat ∧ c.toNat ≤ 122 := by simpa [small] using s1
      have e : (if i = 0 then (small c && t.all fun c => small c || dig c || decide (c.toNat = 45)) else ((c :: t).all fun c => small c || dig c || decide (c.toNat = 45))) = t.all fun c => small c || dig c || decide (c.toNat = 45) := by
        split <;> simp [s1]
      refine (Ev.pos (by omega) (Ev.pos (by omega) ih)).res e.symm
    · have s1' : ¬(97 ≤ c.toNat ∧ c.toNat ≤ 122) := by simpa [small] using s1
      have hrest : Ev (fun k => if (i : Int) = 0 then some false else if (c.toNat : Int) < 48 then if (c.toNat : Int) = 45 then word_Name.l0 k (bs l) (l.length : Int) ((i + 1 : Nat) : Int) else some false else if (c.toNat : Int) > 57 then if (c.toNat : Int) = 45 then word_Name.l0 k (bs l) (l.length : Int) ((i + 1 : Nat) : Int) else some false else word_Name.l0 k (bs l) (l.length : Int) ((i + 1 : Nat) : Int))
          (if i = 0 then (small c && t.all fun c => small c || dig c || decide (c.toNat = 45)) else ((c :: t).all fun c => small c || dig c || decide (c.toNat = 45))) := by
        by_cases i0 : i = 0
        · rw [if_pos i0, Bool.eq_false_iff.2 s1]
          exact Ev.pos (by omega) Ev.now
        · rw [if_neg i0, List.all_cons, Bool.eq_false_iff.2 s1, Bool.false_or]
          refine Ev.neg (by omega) ?_
          by_cases d1 : c.toNat < 48
          · refine Ev.pos (by omega) ?_
            by_cases d2 : c.toNat = 45
            · refine (Ev.pos (by omega) ih).res ?_
              simp [d2]
            · refine (Ev.neg (by omega) Ev.now).res ?_
              simp [d2, dig]; omega
          · refine Ev.neg (by omega) ?_
            by_cases d3 : 57 < c.toNat
            · refine Ev.pos (by omega) (Ev.neg (by omega) ?_)
              refine Ev.now.res ?_
              simp [dig]; omega
            · refine (Ev.neg (by omega) ih).res ?_
              simp [dig]; omega
      by_cases d : 97 ≤ c.toNat
      · exact Ev.pos (by omega) (Ev.neg (by omega) hrest)
      · exact Ev.neg (by omega) hrest
theorem name_bs_ev (l : List UInt8) (hl : l.length ≤ 1000000) : Ev (fun k => word_Name.f k (bs l)) (nameOf l) := by
  unfold word_Name.f
  rw [bs_toList, bs_size]
  match l, hl with
  | [], _ =>
    refine Ev.pos rfl (Ev.shift (fun k => by rw [word_Name.j0]) ?_)
    exact Ev.pos rfl (Ev.const rfl)
  | c :: t, hl =>
    refine Ev.neg (by simp) (Ev.shift (fun k => by rw [word_Name.j0]) ?_)
    by_cases h : 16 < (c :: t).length
    · refine (Ev.pos (by simp at h ⊢; omega) Ev.now).res ?_
      simp at h
      simp [nameOf]
      intro h2; omega
    · refine Ev.neg (by simp at h ⊢; omega) ?_
      rw [bs_size]
      refine (name_l0_ev (c :: t) (by omega) (c :: t) 0 rfl (Nat.zero_le _)).res ?_
      have h3 : t.length < 16 := by simp only [List.length_cons] at h; omega
      simp only [nameOf, h3, decide_true, Bool.true_and, if_true]
theorem name_ev (s : ByteArray) (hl : s.size ≤ 1000000) : Ev (fun k => word_Name.f k s) (nameOf s.toList) := by
  have := name_bs_ev s.toList (by rw [Lib.toList_data, data_length]; exact hl)
  rwa [bs_eta] at this
end Go.Proofs.YtmocphafkimdpaaDoor.P


-- written by a program (a patched copy of the kit's print: wip/mkprint.py); Lean checks it
namespace Go.Proofs.YtmocphafkimdpaaDoor.P
open Go.RowKit Go.Proofs.YtmocphafkimdpaaDoorW.PrintWords Go.Proofs.YtmocphafkimdpaaDoorW.PrintLast Go.Proofs.YtmocphafkimdpaaDoorW.PrintMore
attribute [local go_sem] max2_int min2_int max_two min_two max_three min_three max_four min_four   -- for this text's walks alone
set_option linter.unusedVariables false
set_option linter.unusedSimpArgs false

/-! ### word_plain: function 94 -/
def word_plain.f (a0 : Int) : Option (Bool) := if a0 > 32 then (if a0 < 127 then (if a0 = 34 then (some false) else (some (a0 != 35))) else (some false)) else (some false)
set_option maxHeartbeats 8000000 in
set_option maxRecDepth 100000 in
theorem word_plain.calls (a0 : Int) (r : Bool) (w : World) (h : word_plain.f a0 = some r) :
  Calls Tryd.prog 94 #[.int .u8 a0] w fun e w' => e = .returned (.bool r) ∧ Drawn0 w w' := by
 have H : (if a0 > 32 then (if a0 < 127 then (if a0 = 34 then (some false) else (some (a0 != 35))) else (some false)) else (some false)) = some r := h
 clear h
 by_cases c2 : a0 > 32
 ·rw [if_pos c2] at H
  have c2b0 : decide (32 < a0) = true := decide_eq_true c2
  clear c2
  by_cases c3 : a0 < 127
  ·rw [if_pos c3] at H
   have c3b0 : decide (a0 < 127) = true := decide_eq_true c3
   clear c3
   by_cases c4 : a0 = 34
   ·rw [if_pos c4] at H
    have c4b0 : (a0 == 34) = true := beq_iff_eq.mpr c4
    have c4b1 : (a0 != 34) = false := bne_eq_false_iff_eq.mpr c4
    clear c4
    obtain rfl := Option.some.inj H
    go_enter Tryd.func94, Tryd.ntmps94
    go_wp2
    go_ret
    exact ⟨by first | rfl | (simp; done) | (simp [*]; done), by repeat (first | exact Drawn0.refl _ | apply Drawn0.step)⟩
   ·rw [if_neg c4] at H
    have c4b0 : (a0 == 34) = false := beq_eq_false_iff_ne.mpr c4
    have c4b1 : (a0 != 34) = true := bne_iff_ne.mpr c4
    obtain rfl := Option.some.inj H
    go_enter Tryd.func94, Tryd.ntmps94
    go_wp2
    go_ret
    exact ⟨by first | rfl | (simp; done) | (simp [*]; done), by repeat (first | exact Drawn0.refl _ | apply Drawn0.step)⟩
  ·rw [if_neg c3] at H
   have c3b0 : decide (a0 < 127) = false := decide_eq_false c3
   clear c3
   obtain rfl := Option.some.inj H
   go_enter Tryd.func94, Tryd.ntmps94
   go_wp2
   go_ret
   exact ⟨by first | rfl | (simp; done) | (simp [*]; done), by repeat (first | exact Drawn0.refl _ | apply Drawn0.step)⟩
 ·rw [if_neg c2] at H
  have c2b0 : decide (32 < a0) = false := decide_eq_false c2
  clear c2
  obtain rfl := Option.some.inj H
  go_enter Tryd.func94, Tryd.ntmps94
  go_wp2
  go_ret
  exact ⟨by first | rfl | (simp; done) | (simp [*]; done), by repeat (first | exact Drawn0.refl _ | apply Drawn0.step)⟩

end Go.Proofs.YtmocphafkimdpaaDoor.P


-- written by a program (a patched copy of the kit's print: wip/mkprint.py); Lean checks it
namespace Go.Proofs.YtmocphafkimdpaaDoor.P
open Go.RowKit Go.Proofs.YtmocphafkimdpaaDoorW.PrintWords Go.Proofs.YtmocphafkimdpaaDoorW.PrintLast Go.Proofs.YtmocphafkimdpaaDoorW.PrintMore
attribute [local go_sem] max2_int min2_int max_two min_two max_three min_three max_four min_four   -- for this text's walks alone
set_option linter.unusedVariables false
set_option linter.unusedSimpArgs false

/-! ### word_shown: function 95 -/
def word_shown.f (a0 : Int) : Option (Bool) := if a0 ≥ 32 then (if a0 < 127 then (some (a0 != 34)) else (some false)) else (some false)
set_option maxHeartbeats 8000000 in
set_option maxRecDepth 100000 in
theorem word_shown.calls (a0 : Int) (r : Bool) (w : World) (h : word_shown.f a0 = some r) :
  Calls Tryd.prog 95 #[.int .u8 a0] w fun e w' => e = .returned (.bool r) ∧ Drawn0 w w' := by
 have H : (if a0 ≥ 32 then (if a0 < 127 then (some (a0 != 34)) else (some false)) else (some false)) = some r := h
 clear h
 by_cases c2 : a0 ≥ 32
 ·rw [if_pos c2] at H
  have c2b0 : decide (32 ≤ a0) = true := decide_eq_true c2
  clear c2
  by_cases c3 : a0 < 127
  ·rw [if_pos c3] at H
   have c3b0 : decide (a0 < 127) = true := decide_eq_true c3
   clear c3
   obtain rfl := Option.some.inj H
   go_enter Tryd.func95, Tryd.ntmps95
   go_wp2
   go_ret
   exact ⟨by first | rfl | (simp; done) | (simp [*]; done), by repeat (first | exact Drawn0.refl _ | apply Drawn0.step)⟩
  ·rw [if_neg c3] at H
   have c3b0 : decide (a0 < 127) = false := decide_eq_false c3
   clear c3
   obtain rfl := Option.some.inj H
   go_enter Tryd.func95, Tryd.ntmps95
   go_wp2
   go_ret
   exact ⟨by first | rfl | (simp; done) | (simp [*]; done), by repeat (first | exact Drawn0.refl _ | apply Drawn0.step)⟩
 ·rw [if_neg c2] at H
  have c2b0 : decide (32 ≤ a0) = false := decide_eq_false c2
  clear c2
  obtain rfl := Option.some.inj H
  go_enter Tryd.func95, Tryd.ntmps95
  go_wp2
  go_ret
  exact ⟨by first | rfl | (simp; done) | (simp [*]; done), by repeat (first | exact Drawn0.refl _ | apply Drawn0.step)⟩

end Go.Proofs.YtmocphafkimdpaaDoor.P


/- word.Cut: a line's words: a walk over five labels. Printed by wip/mkcut.py; Lean checks it. -/
namespace Go.Proofs.YtmocphafkimdpaaDoor.P
open Go.RowKit Go.Proofs.YtmocphafkimdpaaDoorW.PrintWords Go.Proofs.YtmocphafkimdpaaDoorW.PrintLast Go.Proofs.YtmocphafkimdpaaDoorW.PrintMore
set_option linter.unusedVariables false
set_option linter.unusedSimpArgs false

def plainB (c : Int) : Bool := decide (32 < c) && decide (c < 127) && c != 34 && c != 35
def shownB (c : Int) : Bool := decide (32 ≤ c) && decide (c < 127) && c != 34
theorem plain_k (c : Int) : word_plain.f c = some (plainB c) := by
 unfold word_plain.f plainB
 by_cases h1 : 32 < c <;> by_cases h2 : c < 127 <;> by_cases h3 : c = 34 <;> simp [h1, h2, h3]
theorem shown_k (c : Int) : word_shown.f c = some (shownB c) := by
 unfold word_shown.f shownB
 by_cases h1 : 32 ≤ c <;> by_cases h2 : c < 127 <;> by_cases h3 : c = 34 <;> simp [h1, h2, h3]

/-- Where the run stands in the line. -/
inductive CSt where
 | between
 | within (acc : List UInt8)
 | quoted (acc : List UInt8)
 | behind
def cutS : CSt → List ByteArray → List UInt8 → List ByteArray × Int
 | .between, out, [] => (out, 0)
 | .between, out, c :: t => if (c.toNat : Int) = 35 then (out, 0) else if (c.toNat : Int) = 32 then cutS .between out t else if out.length = 32 then ([], 2) else if (c.toNat : Int) = 34 then cutS (.quoted []) out t else if plainB c.toNat = true then cutS (.within [c]) out t else ([], 5)
 | .within acc, out, [] => (out ++ [bs acc], 0)
 | .within acc, out, c :: t => if plainB c.toNat = true then cutS (.within (acc ++ [c])) out t else if (c.toNat : Int) = 32 then cutS .between (out ++ [bs acc]) t else if (c.toNat : Int) = 35 then (out ++ [bs acc], 0) else ([], 5)
 | .quoted acc, out, [] => ([], 5)
 | .quoted acc, out, c :: t => if shownB c.toNat = true then cutS (.quoted (acc ++ [c])) out t else if (c.toNat : Int) = 34 then cutS .behind (out ++ [bs acc]) t else ([], 5)
 | .behind, out, [] => (out, 0)
 | .behind, out, c :: t => if (c.toNat : Int) = 32 then cutS .between out t else if (c.toNat : Int) = 35 then (out, 0) else ([], 5)
def word_Cut.f (a0 : ByteArray) : Option (List ByteArray × Int) := if 512 < a0.size then some ([], 2) else some (cutS .between [] a0.toList)

theorem set_drewN (W : World) (n : Nat) (p : Addr) (v : Value) : (W.drewN n).setCell p v = (W.setCell p v).drewN n := rfl
theorem cell_drewN0 (W : World) (n : Nat) (q : Addr) : (W.drewN n).cell? q = W.cell? q := rfl
/-- Six stores, over a world that has drawn on. -/
theorem cell_set6 {W : World} {p0 p1 p2 p3 p4 p5 q : Addr} {v0 v1 v2 v3 v4 v5 : Value} {o : Option Value} (n : Nat) (h : ((((((W.setCell p0 v0).setCell p1 v1).setCell p2 v2).setCell p3 v3).setCell p4 v4).setCell p5 v5).cell? q = o) :
  (((((((W.drewN n).setCell p0 v0).setCell p1 v1).setCell p2 v2).setCell p3 v3).setCell p4 v4).setCell p5 v5).cell? q = o := by
 rw [set_drewN, set_drewN, set_drewN, set_drewN, set_drewN, set_drewN, cell_drewN0]
 exact h
def iOf (a : Act) : Nat := match a.tmps.getD 5 undef with
 | .int _ q => q.toNat
 | _ => 0
theorem lt_drop {s : ByteArray} {i : Nat} {ch : UInt8} {t : List UInt8} (h : s.toList.drop i = ch :: t) : i < s.size := by
 have h1 : (s.toList.drop i).length = t.length + 1 := by rw [h]; rfl
 rw [List.length_drop] at h1
 have h2 : s.toList.length = s.size := by
  have := bs_size s.toList
  rw [bs_eta] at this
  exact this.symm
 omega
theorem toList_size (s : ByteArray) : s.toList.length = s.size := by
 have := bs_size s.toList
 rw [bs_eta] at this
 exact this.symm
theorem get_drop1 {s : ByteArray} {i : Nat} {ch : UInt8} {t : List UInt8} (h : s.toList.drop i = ch :: t) (hlt : i < s.size) : s[i]'hlt = ch := by
 obtain ⟨⟨l⟩⟩ := s
 have e : (⟨⟨l⟩⟩ : ByteArray).toList = l := bs_toList l
 rw [e] at h
 have h1 : l[i]? = some ch := by
  have h2 : (l.drop i)[0]? = some ch := by rw [h]; rfl
  rwa [List.getElem?_drop, Nat.add_zero] at h2
 show l[i] = ch
 exact (List.getElem?_eq_some_iff.1 h1).2
theorem bt_drop {s : ByteArray} {i : Nat} {ch : UInt8} {t : List UInt8} (h : s.toList.drop i = ch :: t) : bt s (i : Int) = (ch.toNat : Int) := by
 have h1 : s.toList[i]? = some ch := by
  have h2 : (s.toList.drop i)[0]? = some ch := by rw [h]; rfl
  rwa [List.getElem?_drop, Nat.add_zero] at h2
 have h3 := bs_bt s.toList i h1
 rwa [bs_eta] at h3

theorem toList_get {s : ByteArray} {i : Nat} (h : i < s.size) : s.toList[i]'(by rw [toList_size]; exact h) = s[i]'h := by
 obtain ⟨⟨l⟩⟩ := s
 have e : (⟨⟨l⟩⟩ : ByteArray).toList = l := bs_toList l
 simp only [e]
 rfl
theorem take_more {s : ByteArray} {i fr : Nat} {ch : UInt8} (h : i < s.size) (hs : s[i]'h = ch) (hf : fr ≤ i) : (s.toList.take (i + 1)).drop fr = (s.toList.take i).drop fr ++ [ch] := by
 have hl : i < s.toList.length := by rw [toList_size]; exact h
 rw [List.take_add_one, List.getElem?_eq_getElem hl, toList_get h, hs, List.drop_append_of_le_length (by rw [List.length_take]; omega)]
 rfl

theorem map_getD : ∀ (l : List Value), l = (List.range l.length).map (fun n => l.getD n undef) := fun l => by
 apply List.ext_getElem
 ·simp
 ·intro n h1 h2
  simp [List.getD_eq_getElem?_getD, h1]
theorem rest_lit (l : List Value) (h : l.length = 96) : ∃ u : Nat → Value, l = [u 0, u 1, u 2, u 3, u 4, u 5, u 6, u 7, u 8, u 9, u 10, u 11, u 12, u 13, u 14, u 15, u 16, u 17, u 18, u 19, u 20, u 21, u 22, u 23, u 24, u 25, u 26, u 27, u 28, u 29, u 30, u 31, u 32, u 33, u 34, u 35, u 36, u 37, u 38, u 39, u 40, u 41, u 42, u 43, u 44, u 45, u 46, u 47, u 48, u 49, u 50, u 51, u 52, u 53, u 54, u 55, u 56, u 57, u 58, u 59, u 60, u 61, u 62, u 63, u 64, u 65, u 66, u 67, u 68, u 69, u 70, u 71, u 72, u 73, u 74, u 75, u 76, u 77, u 78, u 79, u 80, u 81, u 82, u 83, u 84, u 85, u 86, u 87, u 88, u 89, u 90, u 91, u 92, u 93, u 94, u 95] := by
 have e := map_getD l
 rw [h] at e
 exact ⟨fun n => l.getD n undef, e⟩

set_option maxRecDepth 100000 in
set_option maxHeartbeats 16000000 in
theorem cut_walk (s : ByteArray) (r1 : List ByteArray) (r2 : Int) (w : World) (hl : s.size ≤ 512) (h : cutS .between [] s.toList = (r1, r2)) :
  Calls Tryd.prog 56 #[.string s] w fun e w' => ∃ v0_ : Value, e = .returned (.tuple #[v0_, .int .i64 r2]) ∧ Kd.R Kd.string 9 w' w.heap.size (fun _ => True) v0_ r1 ∧ Below w.heap.size w w' := by
 have H0 := Lib.hid h
 clear h
 have hl' : ¬(512 : Int) < (s.size : Int) := by omega
 go_enter Tryd.func56, Tryd.ntmps56
 go_wp2
 refine wp_scope_fall (fun l a' _ => 8 * (513 - iOf a') + (match l with | 0 => 1 | 1 => 1 | 2 => 3 | 3 => 0 | _ => 2))
  (J0 := fun a' w' => ∃ (i fr c : Nat) (A : Option Addr) (out : List ByteArray) (rest : List Value), a' = { tmps := ⟨.string s :: undef :: .slice none 0 0 :: .int .i64 0 :: .slice A out.length c :: .int .i64 i :: .int .i64 fr :: rest⟩, defers := [] } ∧ rest.length = 96 ∧ i ≤ s.size ∧ fr ≤ i ∧ out.length ≤ 32 ∧ Hid (Below w.heap.size w w') ∧ Hid (Kd.R Kd.string 9 w' w.heap.size (fun _ => True) (.slice A out.length c) out) ∧ Hid (cutS .between out (s.toList.drop i) = (r1, r2)))
  (J1 := fun a' w' => ∃ (i fr c : Nat) (A : Option Addr) (out : List ByteArray) (rest : List Value), a' = { tmps := ⟨.string s :: undef :: .slice none 0 0 :: .int .i64 0 :: .slice A out.length c :: .int .i64 i :: .int .i64 fr :: rest⟩, defers := [] } ∧ rest.length = 96 ∧ i ≤ s.size ∧ fr ≤ i ∧ out.length ≤ 32 ∧ Hid (Below w.heap.size w w') ∧ Hid (Kd.R Kd.string 9 w' w.heap.size (fun _ => True) (.slice A out.length c) out) ∧ Hid (cutS (.quoted ((s.toList.take i).drop fr)) out (s.toList.drop i) = (r1, r2) ∧ out.length < 32))
  (J2 := fun a' w' => ∃ (i fr c : Nat) (A : Option Addr) (out : List ByteArray) (rest : List Value), a' = { tmps := ⟨.string s :: undef :: .slice none 0 0 :: .int .i64 0 :: .slice A out.length c :: .int .i64 i :: .int .i64 fr :: rest⟩, defers := [] } ∧ rest.length = 96 ∧ i ≤ s.size ∧ fr ≤ i ∧ out.length ≤ 32 ∧ Hid (Below w.heap.size w w') ∧ Hid (Kd.R Kd.string 9 w' w.heap.size (fun _ => True) (.slice A out.length c) out) ∧ Hid (cutS (.within ((s.toList.take i).drop fr)) out (s.toList.drop i) = (r1, r2) ∧ out.length < 32 ∧ fr < i))
  (J3 := fun a' w' => ∃ (i fr c : Nat) (A : Option Addr) (out : List ByteArray) (rest : List Value), a' = { tmps := ⟨.string s :: undef :: .slice none 0 0 :: .int .i64 0 :: .slice A out.length c :: .int .i64 i :: .int .i64 fr :: rest⟩, defers := [] } ∧ rest.length = 96 ∧ i ≤ s.size ∧ fr ≤ i ∧ out.length ≤ 32 ∧ Hid (Below w.heap.size w w') ∧ Hid (Kd.R Kd.string 9 w' w.heap.size (fun _ => True) (.slice A out.length c) out) ∧ Hid ((([] : List ByteArray), (5 : Int)) = (r1, r2)))
  (J4 := fun a' w' => ∃ (i fr c : Nat) (A : Option Addr) (out : List ByteArray) (rest : List Value), a' = { tmps := ⟨.string s :: undef :: .slice none 0 0 :: .int .i64 0 :: .slice A out.length c :: .int .i64 i :: .int .i64 fr :: rest⟩, defers := [] } ∧ rest.length = 96 ∧ i ≤ s.size ∧ fr ≤ i ∧ out.length ≤ 32 ∧ Hid (Below w.heap.size w w') ∧ Hid (Kd.R Kd.string 9 w' w.heap.size (fun _ => True) (.slice A out.length c) out) ∧ Hid (cutS .behind out (s.toList.drop i) = (r1, r2))) rfl rfl rfl rfl rfl ?_ ?_ ?_ ?_ ?_ ?_
 ·intro Q' hy
  go_wp2
  go_step3
  rename_i hK
  refine hK _ _ (hy _ _ ?_)
  refine ⟨0, 0, 0, none, [], _, rfl, rfl, by omega, by omega, by simp, Below.refl _ _, Kd.R_nil _ _ _ _ _, ?_⟩
  show cutS .between [] s.toList = (r1, r2)
  exact H0.out
 ·rintro a' w' ⟨i, fr, c, A, out, rest, rfl, hrest, hi, hfr, ho, HB, HO, HC⟩
  obtain ⟨u, rfl⟩ := rest_lit rest hrest
  clear hrest
  cases hl : s.toList.drop i with
  | nil =>
   have hei : ((i : Int) == (s.size : Int)) = true := by
    have := toList_size s
    have h2 : s.toList.length ≤ i := by simpa using hl
    simp; omega
   have HC2 := HC.out
   rw [hl] at HC2
   simp only [cutS] at HC2
   obtain ⟨rfl, rfl⟩ := Prod.mk.inj HC2
   clear HC2 HC hl
   go_wp2
   simp only [jumps]
   go_ret2
   exact ⟨_, rfl, HO.out, HB.out⟩
  | cons ch t =>
   have hlt : i < s.size := lt_drop hl
   have hsi : s[i]'hlt = ch := get_drop1 hl hlt
   have hlt' : (i : Int) < (s.size : Int) := by omega
   have hne : ¬((i : Int) = (s.size : Int)) := by omega
   have p0 : (0 : Int) ≤ (i : Int) := by omega
   have HC2 := HC.out
   rw [hl] at HC2
   simp only [cutS] at HC2
   have hz := List.drop_eq_getElem_cons (l := s.toList) (i := i) (by rw [toList_size]; exact hlt)
   have htl : s.toList.drop (i + 1) = t := by rw [hl] at hz; injection hz with _ hz; exact hz.symm
   have hone : (s.toList.take (i + 1)).drop i = [ch] := by
    rw [List.drop_take, hl]; simp
   clear hz HC hl
   by_cases c35 : (ch.toNat : Int) = 35
   ·have b35 : ((ch.toNat : Int) == 35) = true := by simpa using c35
    rw [if_pos c35] at HC2
    obtain ⟨rfl, rfl⟩ := Prod.mk.inj HC2
    clear HC2 c35
    go_wp2
    simp only [jumps]
    go_ret2
    exact ⟨_, rfl, HO.out, HB.out⟩
   ·have b35 : ((ch.toNat : Int) == 35) = false := by simpa using c35
    rw [if_neg c35] at HC2
    by_cases c32 : (ch.toNat : Int) = 32
    ·have b32 : ((ch.toNat : Int) == 32) = true := by simpa using c32
     rw [if_pos c32] at HC2
     have HC3 := Lib.hid HC2
     clear HC2 c35 c32
     go_wp2
     go_step3
     refine ⟨.inl ⟨rfl, i + 1, fr, c, A, out, _, rfl, rfl, by omega, by omega, ho, HB.out, HO.out, ?_⟩, ?_⟩
     ·show _ = _
      rw [htl]; exact HC3.out
     ·show 8 * (513 - ((i : Int) + 1).toNat) + 1 < 8 * (513 - (i : Int).toNat) + 1
      omega
    ·have b32 : ((ch.toNat : Int) == 32) = false := by simpa using c32
     rw [if_neg c32] at HC2
     by_cases c5 : out.length = 32
     ·have b5 : ((out.length : Int) == 32) = true := by simp; omega
      rw [if_pos c5] at HC2
      obtain ⟨rfl, rfl⟩ := Prod.mk.inj HC2
      clear HC2 c35 c32 c5
      go_wp2
      simp only [jumps]
      go_ret2
      exact ⟨_, rfl, Kd.R_nil _ _ _ _ _, HB.out⟩
     ·have b5 : ((out.length : Int) == 32) = false := by simp; omega
      rw [if_neg c5] at HC2
      by_cases c34 : (ch.toNat : Int) = 34
      ·have b34 : ((ch.toNat : Int) == 34) = true := by simpa using c34
       rw [if_pos c34] at HC2
       have HC3 := Lib.hid HC2
       clear HC2 c35 c32 c34
       go_wp2
       go_step3
       refine ⟨.inr (.inl ⟨rfl, i + 1, i + 1, c, A, out, _, rfl, rfl, by omega, by omega, ho, HB.out, HO.out, ?_⟩), ?_⟩
       ·show _ ∧ _
        have e : (s.toList.take (i + 1)).drop (i + 1) = [] := List.drop_eq_nil_of_le (by rw [List.length_take]; omega)
        rw [htl, e]; exact ⟨HC3.out, by omega⟩
       ·show 8 * (513 - ((i : Int) + 1).toNat) + 1 < 8 * (513 - (i : Int).toNat) + 1
        omega
      ·have b34 : ((ch.toNat : Int) == 34) = false := by simpa using c34
       rw [if_neg c34] at HC2
       have HC3 := Lib.hid HC2
       have PL := Lib.hid (fun W => word_plain.calls (ch.toNat : Int) _ W (plain_k _))
       have hii : ((i : Int) == (i : Int)) = true := by simp
       clear HC2 c35 c32 c34
       go_wp2
       go_step3
       go_wp2_with fail
       refine (PL.out _).mono ?_
       rintro e w2 ⟨rfl, nd, rfl⟩
       by_cases cp : plainB (ch.toNat : Int) = true
       ·have HC4 := HC3.out
        rw [if_pos cp] at HC4
        have HC5 := Lib.hid HC4
        rw [cp]
        clear HC4 HC3 cp PL
        go_wp2
        go_step3
        refine ⟨.inr (.inr (.inl ⟨rfl, i + 1, i, c, A, out, _, rfl, rfl, by omega, by omega, ho, pw_below_drewN HB.out _, Kd.R_drewN HO.out _, ?_⟩)), ?_⟩
        ·show _ ∧ _ ∧ _
         have e : (s.toList.take (i + 1)).drop i = [ch] := hone
         rw [htl, e]; exact ⟨HC5.out, by omega, by omega⟩
        ·show 8 * (513 - ((i : Int) + 1).toNat) + 3 < 8 * (513 - (i : Int).toNat) + 1
         omega
       ·have cp' : plainB (ch.toNat : Int) = false := Bool.eq_false_iff.2 cp
        have HC4 := HC3.out
        rw [if_neg cp] at HC4
        have HC5 := Lib.hid HC4
        rw [cp']
        clear HC4 HC3 cp cp' PL
        go_wp2
        go_step3
        refine ⟨.inr (.inr (.inr (.inl ⟨rfl, i, i, c, A, out, _, rfl, rfl, by omega, by omega, ho, pw_below_drewN HB.out _, Kd.R_drewN HO.out _, HC5.out⟩))), ?_⟩
        show 8 * (513 - (i : Int).toNat) + 0 < 8 * (513 - (i : Int).toNat) + 1
        omega
 ·rintro H4 a' w' ⟨i, fr, c, A, out, rest, rfl, hrest, hi, hfr, ho, HB, HO, HC⟩
  obtain ⟨u, rfl⟩ := rest_lit rest hrest
  clear hrest
  cases hl : s.toList.drop i with
  | nil =>
   have hei : ((i : Int) == (s.size : Int)) = true := by
    have := toList_size s
    have h2 : s.toList.length ≤ i := by simpa using hl
    simp; omega
   have HC2 := HC.out.1
   rw [hl] at HC2
   simp only [cutS] at HC2
   have HC3 := Lib.hid HC2
   clear HC HC2 hl
   go_wp2
   go_step3
   refine ⟨.inr (.inr (.inr (.inl ⟨rfl, i, fr, c, A, out, _, rfl, rfl, by omega, by omega, ho, HB.out, HO.out, HC3.out⟩))), ?_⟩
   show 8 * (513 - (i : Int).toNat) + 0 < 8 * (513 - (i : Int).toNat) + 1
   omega
  | cons ch t =>
   have hlt : i < s.size := lt_drop hl
   have hsi : s[i]'hlt = ch := get_drop1 hl hlt
   have hlt' : (i : Int) < (s.size : Int) := by omega
   have hne : ((i : Int) == (s.size : Int)) = false := by simp; omega
   have p0 : (0 : Int) ≤ (i : Int) := by omega
   have HC2 := HC.out.1
   have ho2 := HC.out.2
   rw [hl] at HC2
   simp only [cutS] at HC2
   have hz := List.drop_eq_getElem_cons (l := s.toList) (i := i) (by rw [toList_size]; exact hlt)
   have htl : s.toList.drop (i + 1) = t := by rw [hl] at hz; injection hz with _ hz; exact hz.symm
   clear hz
   have HC3 := Lib.hid HC2
   have SH := Lib.hid (fun W => word_shown.calls (ch.toNat : Int) _ W (shown_k _))
   have HL := Lib.hid hl
   clear HC HC2 hl
   go_wp2_with fail
   refine (SH.out _).mono ?_
   rintro e w2 ⟨rfl, nd, rfl⟩
   by_cases cp : shownB (ch.toNat : Int) = true
   ·have HC4 := HC3.out
    rw [if_pos cp] at HC4
    have HC5 := Lib.hid HC4
    rw [cp]
    clear HC4 HC3 cp SH
    go_wp2
    go_step3
    refine ⟨.inr (.inl ⟨rfl, i + 1, fr, c, A, out, _, rfl, rfl, by omega, by omega, ho, pw_below_drewN HB.out _, Kd.R_drewN HO.out _, ?_⟩), ?_⟩
    ·show _ ∧ _
     rw [htl, take_more hlt hsi hfr]; exact ⟨HC5.out, ho2⟩
    ·show 8 * (513 - ((i : Int) + 1).toNat) + 1 < 8 * (513 - (i : Int).toNat) + 1
     omega
   ·have cp' : shownB (ch.toNat : Int) = false := Bool.eq_false_iff.2 cp
    have HC4 := HC3.out
    rw [if_neg cp] at HC4
    rw [cp']
    by_cases c34 : (ch.toNat : Int) = 34
    ·have b34 : ((ch.toNat : Int) == 34) = true := by simpa using c34
     rw [if_pos c34] at HC4
     have HC5 := Lib.hid HC4
     clear HC4 HC3 cp cp' SH c34
     have HX : Hid (s.extract fr i = bs ((s.toList.take i).drop fr)) := by
      show _ = _
      conv => lhs; rw [← bs_eta s]
      exact bs_extract _ _ _
     go_wp2_with (first | ((with_reducible refine gate_builtin (b := .append) (xs := #[.tmp 78, .tmp 83]) rfl ?_); at_builtin; refine Kd.R_append Kd.string (w0 := w) w.heap.size rfl (.tmp 78) (.tmp 83) 65 9 (.string ⟨#[]⟩) 16 rfl Tryd.underlying65 info9 rfl (by decide) (by omega) (.slice A out.length c) out (s.extract fr i) [.string (s.extract fr i)] (fun _ => True) (fun _ => False) rfl (by first | (go_simp; done) | (go_simp; rfl)) ?aP (fun _ hk => hk.elim) ?aF ?aO ?aB ?aS ?aL ?_; (case aP => exact rfl); (case aB => exact pw_below_drewN HB.out _); (case aF => exact (fun _ _ => trivial)); (case aO => exact Kd.R_drewN HO.out _); (case aS => exact below_size (pw_below_drewN HB.out _)); (case aL => omega); intro v4 w4 ho4 hb4 hg4 hat4; obtain ⟨A4, c4, e4⟩ := Kd.R_slice ho4; subst e4; have HO4 := Lib.hid ho4; have HB4 := Lib.hid hb4; clear ho4 hb4 hg4 hat4))
     go_step3
     rename_i hK
     refine hK _ _ (wp_mono (H4 _ _ ?_) (jumps_lt ?_))
     ·refine ⟨i + 1, fr, c4, A4, out ++ [s.extract fr i], ?rr1, ?re1, ?rl1, by omega, by omega, ?ro1, HB4.out, HO4.out, ?rf1⟩
      case re1 => rw [List.length_append]; rfl
      case rl1 => rfl
      case ro1 => rw [List.length_append]; simp; omega
      case rf1 =>
       show cutS .behind (out ++ [s.extract fr i]) (s.toList.drop (i + 1)) = (r1, r2)
       rw [htl, HX.out]; exact HC5.out
     ·show 8 * (513 - ((i : Int) + 1).toNat) + 2 ≤ 8 * (513 - (i : Int).toNat) + 1
      omega
    ·have b34 : ((ch.toNat : Int) == 34) = false := by simpa using c34
     rw [if_neg c34] at HC4
     have HC5 := Lib.hid HC4
     clear HC4 HC3 cp cp' SH c34
     go_wp2
     go_step3
     refine ⟨.inr (.inr (.inr (.inl ⟨rfl, i, fr, c, A, out, _, rfl, rfl, by omega, by omega, ho, pw_below_drewN HB.out _, Kd.R_drewN HO.out _, HC5.out⟩))), ?_⟩
     show 8 * (513 - (i : Int).toNat) + 0 < 8 * (513 - (i : Int).toNat) + 1
     omega
 ·rintro a' w' ⟨i, fr, c, A, out, rest, rfl, hrest, hi, hfr, ho, HB, HO, HC⟩
  obtain ⟨u, rfl⟩ := rest_lit rest hrest
  clear hrest
  have ho2 := HC.out.2.1
  have hlf := HC.out.2.2
  have hif : ((i : Int) == (fr : Int)) = false := by simp; omega
  have HX : Hid (s.extract fr i = bs ((s.toList.take i).drop fr)) := by
   show _ = _
   conv => lhs; rw [← bs_eta s]
   exact bs_extract _ _ _
  cases hl : s.toList.drop i with
  | nil =>
   have hei : i = s.size := by
    have := toList_size s
    have h2 : s.toList.length ≤ i := by simpa using hl
    omega
   have hcl : ¬(i : Int) < (s.size : Int) := by omega
   have HC2 := HC.out.1
   rw [hl] at HC2
   simp only [cutS] at HC2
   have HC3 : Hid (cutS .behind (out ++ [bs ((s.toList.take i).drop fr)]) (s.toList.drop i) = (r1, r2)) := by
    show _ = _
    rw [hl]; simp only [cutS]; exact HC2
   clear HC HC2 hl hei
   go_upto_region 18 with fail
   go_wp2_with (first | ((with_reducible refine gate_builtin (b := .append) (xs := #[.tmp 57, .tmp 62]) rfl ?_); at_builtin; refine Kd.R_append Kd.string (w0 := w) w.heap.size rfl (.tmp 57) (.tmp 62) 65 9 (.string ⟨#[]⟩) 16 rfl Tryd.underlying65 info9 rfl (by decide) (by omega) (.slice A out.length c) out (s.extract fr i) [.string (s.extract fr i)] (fun _ => True) (fun _ => False) rfl (by first | (go_simp; done) | (go_simp; rfl)) ?aP (fun _ hk => hk.elim) ?aF ?aO ?aB ?aS ?aL ?_; (case aP => exact rfl); (case aB => exact HB.out); (case aF => exact (fun _ _ => trivial)); (case aO => exact HO.out); (case aS => exact below_size (HB.out)); (case aL => omega); intro v4 w4 ho4 hb4 hg4 hat4; obtain ⟨A4, c4, e4⟩ := Kd.R_slice ho4; subst e4; have HO4 := Lib.hid ho4; have HB4 := Lib.hid hb4; clear ho4 hb4 hg4 hat4))
   go_step3
   refine ⟨.inr (.inr (.inr (.inr ⟨rfl, ?_⟩))), ?_⟩
   ·refine ⟨i, fr, c4, A4, out ++ [s.extract fr i], ?rr2, ?re2, ?rl2, by omega, by omega, ?ro2, HB4.out, HO4.out, ?rf2⟩
    case re2 => rw [List.length_append]; rfl
    case rl2 => rfl
    case ro2 => rw [List.length_append]; simp; omega
    case rf2 =>
     show cutS .behind (out ++ [s.extract fr i]) (s.toList.drop i) = (r1, r2)
     rw [HX.out]; exact HC3.out
   ·show 8 * (513 - (i : Int).toNat) + 2 < 8 * (513 - (i : Int).toNat) + 3
    omega
  | cons ch t =>
   have hlt : i < s.size := lt_drop hl
   have hsi : s[i]'hlt = ch := get_drop1 hl hlt
   have hcl : decide ((i : Int) < (s.size : Int)) = true := decide_eq_true (by omega)
   have p0 : (0 : Int) ≤ (i : Int) := by omega
   have hlt' : (i : Int) < (s.size : Int) := by omega
   have HC2 := HC.out.1
   rw [hl] at HC2
   simp only [cutS] at HC2
   have hz := List.drop_eq_getElem_cons (l := s.toList) (i := i) (by rw [toList_size]; exact hlt)
   have htl : s.toList.drop (i + 1) = t := by rw [hl] at hz; injection hz with _ hz; exact hz.symm
   clear hz
   have HC3 := Lib.hid HC2
   have PL := Lib.hid (fun W => word_plain.calls (ch.toNat : Int) _ W (plain_k _))
   have HL := Lib.hid hl
   clear HC HC2 hl
   go_wp2_with fail
   refine (PL.out _).mono ?_
   rintro e w2 ⟨rfl, nd, rfl⟩
   by_cases cp : plainB (ch.toNat : Int) = true
   ·have HC4 := HC3.out
    rw [if_pos cp] at HC4
    have HC5 := Lib.hid HC4
    rw [cp]
    clear HC4 HC3 cp PL
    go_wp2
    go_step3
    refine ⟨.inr (.inr (.inl ⟨rfl, i + 1, fr, c, A, out, _, rfl, rfl, by omega, by omega, ho, pw_below_drewN HB.out _, Kd.R_drewN HO.out _, ?_⟩)), ?_⟩
    ·show _ ∧ _ ∧ _
     rw [htl, take_more hlt hsi hfr]; exact ⟨HC5.out, ho2, by omega⟩
    ·show 8 * (513 - ((i : Int) + 1).toNat) + 3 < 8 * (513 - (i : Int).toNat) + 3
     omega
   ·have cp' : plainB (ch.toNat : Int) = false := Bool.eq_false_iff.2 cp
    have HC4 := HC3.out
    rw [if_neg cp] at HC4
    have HC5 : Hid (cutS .behind (out ++ [bs ((s.toList.take i).drop fr)]) (s.toList.drop i) = (r1, r2)) := by
     show _ = _
     rw [HL.out]; simp only [cutS]; exact HC4
    rw [cp']
    clear HC4 HC3 cp cp' PL
    go_upto_region 18 with fail
    go_wp2_with (first | ((with_reducible refine gate_builtin (b := .append) (xs := #[.tmp 57, .tmp 62]) rfl ?_); at_builtin; refine Kd.R_append Kd.string (w0 := w) w.heap.size rfl (.tmp 57) (.tmp 62) 65 9 (.string ⟨#[]⟩) 16 rfl Tryd.underlying65 info9 rfl (by decide) (by omega) (.slice A out.length c) out (s.extract fr i) [.string (s.extract fr i)] (fun _ => True) (fun _ => False) rfl (by first | (go_simp; done) | (go_simp; rfl)) ?aP (fun _ hk => hk.elim) ?aF ?aO ?aB ?aS ?aL ?_; (case aP => exact rfl); (case aB => exact pw_below_drewN HB.out _); (case aF => exact (fun _ _ => trivial)); (case aO => exact Kd.R_drewN HO.out _); (case aS => exact below_size (pw_below_drewN HB.out _)); (case aL => omega); intro v4 w4 ho4 hb4 hg4 hat4; obtain ⟨A4, c4, e4⟩ := Kd.R_slice ho4; subst e4; have HO4 := Lib.hid ho4; have HB4 := Lib.hid hb4; clear ho4 hb4 hg4 hat4))
    go_step3
    refine ⟨.inr (.inr (.inr (.inr ⟨rfl, ?_⟩))), ?_⟩
    ·refine ⟨i, fr, c4, A4, out ++ [s.extract fr i], ?rr3, ?re3, ?rl3, by omega, by omega, ?ro3, HB4.out, HO4.out, ?rf3⟩
     case re3 => rw [List.length_append]; rfl
     case rl3 => rfl
     case ro3 => rw [List.length_append]; simp; omega
     case rf3 =>
      show cutS .behind (out ++ [s.extract fr i]) (s.toList.drop i) = (r1, r2)
      rw [HX.out]; exact HC5.out
    ·show 8 * (513 - (i : Int).toNat) + 2 < 8 * (513 - (i : Int).toNat) + 3
     omega
 ·rintro a' w' ⟨i, fr, c, A, out, rest, rfl, hrest, hi, hfr, ho, HB, HO, HC⟩
  obtain ⟨u, rfl⟩ := rest_lit rest hrest
  clear hrest
  obtain ⟨rfl, rfl⟩ := Prod.mk.inj HC.out
  go_wp2
  simp only [jumps]
  go_ret2
  exact ⟨_, rfl, Kd.R_nil _ _ _ _ _, HB.out⟩
 ·rintro a' w' ⟨i, fr, c, A, out, rest, rfl, hrest, hi, hfr, ho, HB, HO, HC⟩
  obtain ⟨u, rfl⟩ := rest_lit rest hrest
  clear hrest
  cases hl : s.toList.drop i with
  | nil =>
   have hei : ((i : Int) == (s.size : Int)) = true := by
    have := toList_size s
    have h2 : s.toList.length ≤ i := by simpa using hl
    simp; omega
   have HC3 : Hid (cutS .between out (s.toList.drop i) = (r1, r2)) := by
    have := HC.out
    rw [hl] at this
    show _ = _
    rw [hl]; exact this
   clear HC hl
   go_wp2
   go_step3
   refine ⟨.inl ⟨rfl, i, fr, c, A, out, _, rfl, rfl, by omega, by omega, ho, HB.out, HO.out, HC3.out⟩, ?_⟩
   show 8 * (513 - (i : Int).toNat) + 1 < 8 * (513 - (i : Int).toNat) + 2
   omega
  | cons ch t =>
   have hlt : i < s.size := lt_drop hl
   have hsi : s[i]'hlt = ch := get_drop1 hl hlt
   have hlt' : (i : Int) < (s.size : Int) := by omega
   have hne : ¬((i : Int) = (s.size : Int)) := by omega
   have p0 : (0 : Int) ≤ (i : Int) := by omega
   have HC2 := HC.out
   rw [hl] at HC2
   simp only [cutS] at HC2
   by_cases c32 : (ch.toNat : Int) = 32
   ·have b32 : ((ch.toNat : Int) == 32) = true := by simpa using c32
    rw [if_pos c32] at HC2
    have HC3 : Hid (cutS .between out (s.toList.drop i) = (r1, r2)) := by
     show _ = _
     rw [hl]; simp only [cutS]; rw [if_neg (by omega), if_pos c32]; exact HC2
    clear HC HC2 hl c32
    go_wp2
    go_step3
    refine ⟨.inl ⟨rfl, i, fr, c, A, out, _, rfl, rfl, by omega, by omega, ho, HB.out, HO.out, HC3.out⟩, ?_⟩
    show 8 * (513 - (i : Int).toNat) + 1 < 8 * (513 - (i : Int).toNat) + 2
    omega
   ·have b32 : ((ch.toNat : Int) == 32) = false := by simpa using c32
    rw [if_neg c32] at HC2
    by_cases c35 : (ch.toNat : Int) = 35
    ·have b35 : ((ch.toNat : Int) == 35) = true := by simpa using c35
     rw [if_pos c35] at HC2
     have HC3 : Hid (cutS .between out (s.toList.drop i) = (r1, r2)) := by
      show _ = _
      rw [hl]; simp only [cutS]; rw [if_pos c35]; exact HC2
     clear HC HC2 hl c32 c35
     go_wp2
     go_step3
     refine ⟨.inl ⟨rfl, i, fr, c, A, out, _, rfl, rfl, by omega, by omega, ho, HB.out, HO.out, HC3.out⟩, ?_⟩
     show 8 * (513 - (i : Int).toNat) + 1 < 8 * (513 - (i : Int).toNat) + 2
     omega
    ·have b35 : ((ch.toNat : Int) == 35) = false := by simpa using c35
     rw [if_neg c35] at HC2
     obtain ⟨rfl, rfl⟩ := Prod.mk.inj HC2
     clear HC HC2 hl c32 c35
     go_wp2
     go_step3
     go_wp2
     simp only [jumps]
     go_ret2
     exact ⟨_, rfl, Kd.R_nil _ _ _ _ _, HB.out⟩
theorem word_Cut.calls (a0 : ByteArray) (r1 : List ByteArray) (r2 : Int) (w : World) (h : word_Cut.f a0 = some (r1, r2)) :
  Calls Tryd.prog 56 #[.string a0] w fun e w' => ∃ v0_ : Value, e = .returned (.tuple #[v0_, .int .i64 r2]) ∧ Kd.R Kd.string 9 w' w.heap.size (fun _ => True) v0_ r1 ∧ Below w.heap.size w w' := by
 unfold word_Cut.f at h
 by_cases c : 512 < a0.size
 ·rw [if_pos c] at h
  have h1 := Option.some.inj h
  obtain ⟨rfl, rfl⟩ := Prod.mk.inj h1
  have hc : (512 : Int) < (a0.size : Int) := by omega
  clear h h1 c
  go_enter Tryd.func56, Tryd.ntmps56
  go_wp2
  go_step3
  go_wp2
  rw [Exit.noGoto_ret]
  go_ret2
  exact ⟨_, rfl, Kd.R_nil _ _ _ _ _, Below.refl _ _⟩
 ·rw [if_neg c] at h
  exact cut_walk a0 r1 r2 w (by omega) (Option.some.inj h)

end Go.Proofs.YtmocphafkimdpaaDoor.P


-- written by a program (a patched copy of the kit's print: wip/mkprint.py); Lean checks it
namespace Go.Proofs.YtmocphafkimdpaaDoor.P
open Go.RowKit Go.Proofs.YtmocphafkimdpaaDoorW.PrintWords Go.Proofs.YtmocphafkimdpaaDoorW.PrintLast Go.Proofs.YtmocphafkimdpaaDoorW.PrintMore
attribute [local go_sem] max2_int min2_int max_two min_two max_three min_three max_four min_four   -- for this text's walks alone
set_option linter.unusedVariables false
set_option linter.unusedSimpArgs false

/-! ### stipendlaw16_right: function 25 -/
def stipendlaw16_right.l0 : Nat → List (S29) → Int → Int → Option (Bool)
 | 0, _, _, _ => none
 | k + 1, x5, x6, x7 => if x7 < x6 then (if 0 ≤ x7 then (if x7 < (x5.length : Int) then (if ((rd_T29 x5 x7).f0) > 100000000000 then (some false) else (if ((rd_T29 x5 x7).f0) < (-100000000000) then (some false) else (if ((rd_T29 x5 x7).f1) > 100000000000 then (some false) else (if ((rd_T29 x5 x7).f1) < (-100000000000) then (some false) else (stipendlaw16_right.l0 k x5 x6 (wrap64 (x7 + 1))))))) else (none)) else (none)) else (some true)
def stipendlaw16_right.f (k : Nat) (l0 : List (S29)) : Option (Bool) := stipendlaw16_right.l0 k l0 (l0.length : Int) 0
theorem stipendlaw16_right.mono_l : ∀ k, (∀ y0 y1 y2, LeO (stipendlaw16_right.l0 k y0 y1 y2) (stipendlaw16_right.l0 (k + 1) y0 y1 y2))
 | 0 => fun _ _ _ r h => by simp [stipendlaw16_right.l0] at h
 | k + 1 => by
  have ih0 := stipendlaw16_right.mono_l k
  ·intro y0 y1 y2
   unfold stipendlaw16_right.l0
   repeat' first
   | (with_reducible exact ih0 _ _ _)
   | (with_reducible exact LeO.refl _)
   | (with_reducible exact LeO.none _)
   | (with_reducible refine LeO.ite ?_ ?_)
   | (with_reducible refine LeO.bind ?_ (fun _ => ?_))
   | exact ih0 _ _ _
   | exact LeO.none _
   | refine LeO.ite ?_ ?_
   | refine LeO.bind ?_ (fun _ => ?_)
theorem stipendlaw16_right.mono : ∀ a0 k, LeO (stipendlaw16_right.f k a0) (stipendlaw16_right.f (k + 1) a0) := by
 intro a0 k
 have ih0 := stipendlaw16_right.mono_l k
 unfold stipendlaw16_right.f
 repeat' first
   | (with_reducible exact ih0 _ _ _)
   | (with_reducible exact LeO.refl _)
   | (with_reducible exact LeO.none _)
   | (with_reducible refine LeO.ite ?_ ?_)
   | (with_reducible refine LeO.bind ?_ (fun _ => ?_))
   | exact ih0 _ _ _
   | exact LeO.none _
   | refine LeO.ite ?_ ?_
   | refine LeO.bind ?_ (fun _ => ?_)
set_option maxHeartbeats 8000000 in
set_option maxRecDepth 100000 in
theorem stipendlaw16_right.calls (k : Nat) (A0 : Option Addr) (c0 : Nat) (l0 : List (S29)) (r : Bool) (w : World) (hr0 : Kd.C k29 w A0 l0.length l0) (hc0 : l0.length ≤ c0) (h : stipendlaw16_right.f k l0 = some r) :
  Calls Tryd.prog 25 #[.slice A0 l0.length c0] w fun e w' => e = .returned (.bool r) ∧ Below w.heap.size w w' := by
 have hu29 := Tryd.underlying29
 have HR0 := Aside0.mk hr0
 have HC0 := Aside0.mk hc0
 clear hr0 hc0
 have HB := Aside0.mk (Below.refl w.heap.size w)
 have H : (stipendlaw16_right.l0 k l0 (l0.length : Int) 0) = some r := h
 clear h
 have H' := Aside0.mk H
 clear H
 go_enter Tryd.func25, Tryd.ntmps25
 go_wp2
 go_loopg [7] k (fun kq v7 w' => ∃ (x7_1 : Int), v7 = .int .i64 x7_1 ∧ Aside0 (stipendlaw16_right.l0 kq l0 (l0.length : Int) x7_1 = some r) ∧ Aside0 (kq ≤ k) ∧ Aside0 (Below w.heap.size w w'))
 case atStart => exact ⟨(0), (by first | rfl | (simp; done) | (simp [*]; done)), H', ⟨Nat.le_refl _⟩, ⟨by repeat (first | (with_reducible first | exact HB.out | apply below_alloc | apply pw_below_drewN | apply below_drew1) | exact HB.out)⟩⟩
 case round =>
  clear H'
  obtain ⟨x7_1, rfl, HA, HK1, HB⟩ := hrel
  cases gk with
  | zero => exact absurd HA.out (by simp [stipendlaw16_right.l0])
  | succ k1 =>
   have H := HA.out
   clear HA
   simp only [stipendlaw16_right.l0] at H
   by_cases c2 : x7_1 < (l0.length : Int)
   ·rw [if_pos c2] at H
    have c2b0 : decide (x7_1 < (l0.length : Int)) = true := decide_eq_true c2
    clear c2
    by_cases c3 : 0 ≤ x7_1
    ·rw [if_pos c3] at H
     have c3b0 : decide (0 ≤ x7_1) = true := decide_eq_true c3
     clear c3
     by_cases c4 : x7_1 < (l0.length : Int)
     ·rw [if_pos c4] at H
      have c4b0 : decide (x7_1 < (l0.length : Int)) = true := decide_eq_true c4
      clear c4
      by_cases c5 : ((rd_T29 l0 x7_1).f0) > 100000000000
      ·rw [if_pos c5] at H
       have c5b0 : decide (100000000000 < ((rd_T29 l0 x7_1).f0)) = true := decide_eq_true c5
       clear c5
       obtain rfl := Option.some.inj H
       have p205 : 0 ≤ (x7_1 : Int) := of_decide_eq_true (by first | (with_reducible assumption) | assumption)
       have q205 : x7_1 < (l0.length : Int) := of_decide_eq_true (by first | (with_reducible assumption) | assumption)
       obtain ⟨ad205, e205, hx205_0, hx205_1⟩ := at_T29 HR0.out x7_1 p205 q205
       cases e205
       replace hx205_0 := (HB.out.cell (World.block_lt_of_cell? w _ hx205_0)).trans hx205_0
       replace hx205_1 := (HB.out.cell (World.block_lt_of_cell? w _ hx205_1)).trans hx205_1
       replace p205 := eq_true p205
       replace q205 := eq_true q205
       go_wp2_with (first | ((with_reducible refine gate_dst (N := 4) rfl ?_); refine box_event ?hg (N := 4) ?hd (cs := #[.int .i64 0, .int .i64 0]) (t := 29) ?hr ?_; (case hd => rfl); (case hg => rfl); (case hr => first | (go_simp; done) | (go_simp; rfl)); intro gb206 hg w6 hbox hb; have n0_ := Aside0.mk (below_step (by repeat (first | (with_reducible first | exact HB.out | apply below_alloc | apply pw_below_drewN | apply below_drew1) | exact HB.out)) hb); have n1_ := Aside0.mk (hbox); have n2_ := Aside0.mk ((by rw [hg]; exact (below_size (by repeat (first | (with_reducible first | exact HB.out | apply below_alloc | apply pw_below_drewN | apply below_drew1) | exact HB.out))) : w.heap.size ≤ gb206)); have n3_ := Aside0.mk ((by rw [hg]; exact (below_size (by repeat (first | (with_reducible first | exact HB.out | apply below_alloc | apply pw_below_drewN | apply below_drew1) | exact HB.out))) : w.heap.size ≤ gb206)); clear HB; have HB := n0_; have BK206 := n1_; have GW206 := n2_; have GE206 := n3_; clear n0_ n1_ n2_ n3_; clear hb hbox hg; have hcz7_0 : w6.cell? ⟨gb206, 0, none⟩ = some (.int .i64 0) := (blk_cell BK206.out 0).trans rfl; have hcz7_1 : w6.cell? ⟨gb206, 1, none⟩ = some (.int .i64 0) := (blk_cell BK206.out 1).trans rfl; have hfz7_0 := blk_frozen BK206.out 0; have hfz7_1 := blk_frozen BK206.out 1))
       go_ret
       exact ⟨by first | rfl | (simp [errW_none, errW_some] <;> rfl) | (simp [*, errW_none, errW_some] <;> rfl), by repeat (first | (with_reducible first | exact HB.out | apply below_alloc | apply pw_below_drewN | apply below_drew1 | refine below_set ?_ GE206.out) | exact HB.out)⟩
      ·rw [if_neg c5] at H
       have c5b0 : decide (100000000000 < ((rd_T29 l0 x7_1).f0)) = false := decide_eq_false c5
       clear c5
       by_cases c8 : ((rd_T29 l0 x7_1).f0) < (-100000000000)
       ·rw [if_pos c8] at H
        have c8b0 : decide (((rd_T29 l0 x7_1).f0) < (-100000000000)) = true := decide_eq_true c8
        clear c8
        obtain rfl := Option.some.inj H
        have p205 : 0 ≤ (x7_1 : Int) := of_decide_eq_true (by first | (with_reducible assumption) | assumption)
        have q205 : x7_1 < (l0.length : Int) := of_decide_eq_true (by first | (with_reducible assumption) | assumption)
        obtain ⟨ad205, e205, hx205_0, hx205_1⟩ := at_T29 HR0.out x7_1 p205 q205
        cases e205
        replace hx205_0 := (HB.out.cell (World.block_lt_of_cell? w _ hx205_0)).trans hx205_0
        replace hx205_1 := (HB.out.cell (World.block_lt_of_cell? w _ hx205_1)).trans hx205_1
        replace p205 := eq_true p205
        replace q205 := eq_true q205
        go_wp2_with (first | ((with_reducible refine gate_dst (N := 4) rfl ?_); refine box_event ?hg (N := 4) ?hd (cs := #[.int .i64 0, .int .i64 0]) (t := 29) ?hr ?_; (case hd => rfl); (case hg => rfl); (case hr => first | (go_simp; done) | (go_simp; rfl)); intro gb206 hg w9 hbox hb; have n0_ := Aside0.mk (below_step (by repeat (first | (with_reducible first | exact HB.out | apply below_alloc | apply pw_below_drewN | apply below_drew1) | exact HB.out)) hb); have n1_ := Aside0.mk (hbox); have n2_ := Aside0.mk ((by rw [hg]; exact (below_size (by repeat (first | (with_reducible first | exact HB.out | apply below_alloc | apply pw_below_drewN | apply below_drew1) | exact HB.out))) : w.heap.size ≤ gb206)); have n3_ := Aside0.mk ((by rw [hg]; exact (below_size (by repeat (first | (with_reducible first | exact HB.out | apply below_alloc | apply pw_below_drewN | apply below_drew1) | exact HB.out))) : w.heap.size ≤ gb206)); clear HB; have HB := n0_; have BK206 := n1_; have GW206 := n2_; have GE206 := n3_; clear n0_ n1_ n2_ n3_; clear hb hbox hg; have hcz10_0 : w9.cell? ⟨gb206, 0, none⟩ = some (.int .i64 0) := (blk_cell BK206.out 0).trans rfl; have hcz10_1 : w9.cell? ⟨gb206, 1, none⟩ = some (.int .i64 0) := (blk_cell BK206.out 1).trans rfl; have hfz10_0 := blk_frozen BK206.out 0; have hfz10_1 := blk_frozen BK206.out 1))
        go_ret
        exact ⟨by first | rfl | (simp [errW_none, errW_some] <;> rfl) | (simp [*, errW_none, errW_some] <;> rfl), by repeat (first | (with_reducible first | exact HB.out | apply below_alloc | apply pw_below_drewN | apply below_drew1 | refine below_set ?_ GE206.out) | exact HB.out)⟩
       ·rw [if_neg c8] at H
        have c8b0 : decide (((rd_T29 l0 x7_1).f0) < (-100000000000)) = false := decide_eq_false c8
        clear c8
        by_cases c11 : ((rd_T29 l0 x7_1).f1) > 100000000000
        ·rw [if_pos c11] at H
         have c11b0 : decide (100000000000 < ((rd_T29 l0 x7_1).f1)) = true := decide_eq_true c11
         clear c11
         obtain rfl := Option.some.inj H
         have p205 : 0 ≤ (x7_1 : Int) := of_decide_eq_true (by first | (with_reducible assumption) | assumption)
         have q205 : x7_1 < (l0.length : Int) := of_decide_eq_true (by first | (with_reducible assumption) | assumption)
         obtain ⟨ad205, e205, hx205_0, hx205_1⟩ := at_T29 HR0.out x7_1 p205 q205
         cases e205
         replace hx205_0 := (HB.out.cell (World.block_lt_of_cell? w _ hx205_0)).trans hx205_0
         replace hx205_1 := (HB.out.cell (World.block_lt_of_cell? w _ hx205_1)).trans hx205_1
         replace p205 := eq_true p205
         replace q205 := eq_true q205
         go_wp2_with (first | ((with_reducible refine gate_dst (N := 4) rfl ?_); refine box_event ?hg (N := 4) ?hd (cs := #[.int .i64 0, .int .i64 0]) (t := 29) ?hr ?_; (case hd => rfl); (case hg => rfl); (case hr => first | (go_simp; done) | (go_simp; rfl)); intro gb206 hg w12 hbox hb; have n0_ := Aside0.mk (below_step (by repeat (first | (with_reducible first | exact HB.out | apply below_alloc | apply pw_below_drewN | apply below_drew1) | exact HB.out)) hb); have n1_ := Aside0.mk (hbox); have n2_ := Aside0.mk ((by rw [hg]; exact (below_size (by repeat (first | (with_reducible first | exact HB.out | apply below_alloc | apply pw_below_drewN | apply below_drew1) | exact HB.out))) : w.heap.size ≤ gb206)); have n3_ := Aside0.mk ((by rw [hg]; exact (below_size (by repeat (first | (with_reducible first | exact HB.out | apply below_alloc | apply pw_below_drewN | apply below_drew1) | exact HB.out))) : w.heap.size ≤ gb206)); clear HB; have HB := n0_; have BK206 := n1_; have GW206 := n2_; have GE206 := n3_; clear n0_ n1_ n2_ n3_; clear hb hbox hg; have hcz13_0 : w12.cell? ⟨gb206, 0, none⟩ = some (.int .i64 0) := (blk_cell BK206.out 0).trans rfl; have hcz13_1 : w12.cell? ⟨gb206, 1, none⟩ = some (.int .i64 0) := (blk_cell BK206.out 1).trans rfl; have hfz13_0 := blk_frozen BK206.out 0; have hfz13_1 := blk_frozen BK206.out 1))
         go_ret
         exact ⟨by first | rfl | (simp [errW_none, errW_some] <;> rfl) | (simp [*, errW_none, errW_some] <;> rfl), by repeat (first | (with_reducible first | exact HB.out | apply below_alloc | apply pw_below_drewN | apply below_drew1 | refine below_set ?_ GE206.out) | exact HB.out)⟩
        ·rw [if_neg c11] at H
         have c11b0 : decide (100000000000 < ((rd_T29 l0 x7_1).f1)) = false := decide_eq_false c11
         clear c11
         by_cases c14 : ((rd_T29 l0 x7_1).f1) < (-100000000000)
         ·rw [if_pos c14] at H
          have c14b0 : decide (((rd_T29 l0 x7_1).f1) < (-100000000000)) = true := decide_eq_true c14
          clear c14
          obtain rfl := Option.some.inj H
          have p205 : 0 ≤ (x7_1 : Int) := of_decide_eq_true (by first | (with_reducible assumption) | assumption)
          have q205 : x7_1 < (l0.length : Int) := of_decide_eq_true (by first | (with_reducible assumption) | assumption)
          obtain ⟨ad205, e205, hx205_0, hx205_1⟩ := at_T29 HR0.out x7_1 p205 q205
          cases e205
          replace hx205_0 := (HB.out.cell (World.block_lt_of_cell? w _ hx205_0)).trans hx205_0
          replace hx205_1 := (HB.out.cell (World.block_lt_of_cell? w _ hx205_1)).trans hx205_1
          replace p205 := eq_true p205
          replace q205 := eq_true q205
          go_wp2_with (first | ((with_reducible refine gate_dst (N := 4) rfl ?_); refine box_event ?hg (N := 4) ?hd (cs := #[.int .i64 0, .int .i64 0]) (t := 29) ?hr ?_; (case hd => rfl); (case hg => rfl); (case hr => first | (go_simp; done) | (go_simp; rfl)); intro gb206 hg w15 hbox hb; have n0_ := Aside0.mk (below_step (by repeat (first | (with_reducible first | exact HB.out | apply below_alloc | apply pw_below_drewN | apply below_drew1) | exact HB.out)) hb); have n1_ := Aside0.mk (hbox); have n2_ := Aside0.mk ((by rw [hg]; exact (below_size (by repeat (first | (with_reducible first | exact HB.out | apply below_alloc | apply pw_below_drewN | apply below_drew1) | exact HB.out))) : w.heap.size ≤ gb206)); have n3_ := Aside0.mk ((by rw [hg]; exact (below_size (by repeat (first | (with_reducible first | exact HB.out | apply below_alloc | apply pw_below_drewN | apply below_drew1) | exact HB.out))) : w.heap.size ≤ gb206)); clear HB; have HB := n0_; have BK206 := n1_; have GW206 := n2_; have GE206 := n3_; clear n0_ n1_ n2_ n3_; clear hb hbox hg; have hcz16_0 : w15.cell? ⟨gb206, 0, none⟩ = some (.int .i64 0) := (blk_cell BK206.out 0).trans rfl; have hcz16_1 : w15.cell? ⟨gb206, 1, none⟩ = some (.int .i64 0) := (blk_cell BK206.out 1).trans rfl; have hfz16_0 := blk_frozen BK206.out 0; have hfz16_1 := blk_frozen BK206.out 1))
          go_ret
          exact ⟨by first | rfl | (simp [errW_none, errW_some] <;> rfl) | (simp [*, errW_none, errW_some] <;> rfl), by repeat (first | (with_reducible first | exact HB.out | apply below_alloc | apply pw_below_drewN | apply below_drew1 | refine below_set ?_ GE206.out) | exact HB.out)⟩
         ·rw [if_neg c14] at H
          have c14b0 : decide (((rd_T29 l0 x7_1).f1) < (-100000000000)) = false := decide_eq_false c14
          clear c14
          have H' := Aside0.mk H
          clear H
          have p205 : 0 ≤ (x7_1 : Int) := of_decide_eq_true (by first | (with_reducible assumption) | assumption)
          have q205 : x7_1 < (l0.length : Int) := of_decide_eq_true (by first | (with_reducible assumption) | assumption)
          obtain ⟨ad205, e205, hx205_0, hx205_1⟩ := at_T29 HR0.out x7_1 p205 q205
          cases e205
          replace hx205_0 := (HB.out.cell (World.block_lt_of_cell? w _ hx205_0)).trans hx205_0
          replace hx205_1 := (HB.out.cell (World.block_lt_of_cell? w _ hx205_1)).trans hx205_1
          replace p205 := eq_true p205
          replace q205 := eq_true q205
          go_wp2_with (first | ((with_reducible refine gate_dst (N := 4) rfl ?_); refine box_event ?hg (N := 4) ?hd (cs := #[.int .i64 0, .int .i64 0]) (t := 29) ?hr ?_; (case hd => rfl); (case hg => rfl); (case hr => first | (go_simp; done) | (go_simp; rfl)); intro gb206 hg w17 hbox hb; have n0_ := Aside0.mk (below_step (by repeat (first | (with_reducible first | exact HB.out | apply below_alloc | apply pw_below_drewN | apply below_drew1) | exact HB.out)) hb); have n1_ := Aside0.mk (hbox); have n2_ := Aside0.mk ((by rw [hg]; exact (below_size (by repeat (first | (with_reducible first | exact HB.out | apply below_alloc | apply pw_below_drewN | apply below_drew1) | exact HB.out))) : w.heap.size ≤ gb206)); have n3_ := Aside0.mk ((by rw [hg]; exact (below_size (by repeat (first | (with_reducible first | exact HB.out | apply below_alloc | apply pw_below_drewN | apply below_drew1) | exact HB.out))) : w.heap.size ≤ gb206)); clear HB; have HB := n0_; have BK206 := n1_; have GW206 := n2_; have GE206 := n3_; clear n0_ n1_ n2_ n3_; clear hb hbox hg; have hcz18_0 : w17.cell? ⟨gb206, 0, none⟩ = some (.int .i64 0) := (blk_cell BK206.out 0).trans rfl; have hcz18_1 : w17.cell? ⟨gb206, 1, none⟩ = some (.int .i64 0) := (blk_cell BK206.out 1).trans rfl; have hfz18_0 := blk_frozen BK206.out 0; have hfz18_1 := blk_frozen BK206.out 1))
          go_roundg k1
          case measure => have := HK1.out; omega
          case rel => exact ⟨(wrap64 (x7_1 + 1)), (by first | rfl | (simp; done) | (simp [*]; done)), H', ⟨by have := HK1.out; omega⟩, ⟨by repeat (first | (with_reducible first | exact HB.out | apply below_alloc | apply pw_below_drewN | apply below_drew1 | refine below_set ?_ GE206.out) | exact HB.out)⟩⟩
     ·rw [if_neg c4] at H
      exact absurd H (by simp)
    ·rw [if_neg c3] at H
     exact absurd H (by simp)
   ·rw [if_neg c2] at H
    have c2b0 : decide (x7_1 < (l0.length : Int)) = false := decide_eq_false c2
    clear c2
    obtain rfl := Option.some.inj H
    go_wp2
    go_ret
    exact ⟨by first | rfl | (simp [errW_none, errW_some] <;> rfl) | (simp [*, errW_none, errW_some] <;> rfl), by repeat (first | (with_reducible first | exact HB.out | apply below_alloc | apply pw_below_drewN | apply below_drew1) | exact HB.out)⟩

end Go.Proofs.YtmocphafkimdpaaDoor.P


/- What the rows' check tells, in plain words: right. -/
namespace Go.Proofs.YtmocphafkimdpaaDoor.P
open Go.RowKit Go.Proofs.YtmocphafkimdpaaDoorW.PrintWords Go.Proofs.YtmocphafkimdpaaDoorW.PrintLast Go.Proofs.YtmocphafkimdpaaDoorW.PrintMore

def okSh (x : S29) : Bool := okAmt x.f0 && okAmt x.f1
theorem okSh_iff (x : S29) : okSh x = true ↔ (-100000000000 ≤ x.f0 ∧ x.f0 ≤ 100000000000) ∧ -100000000000 ≤ x.f1 ∧ x.f1 ≤ 100000000000 := by
 simp [okSh, okAmt_iff]

theorem right_ev_l (l : List S29) (hl : l.length < 1000) : ∀ (t : List S29) (i : Nat), l.drop i = t → i ≤ l.length → Ev (fun k => stipendlaw16_right.l0 k l (l.length : Int) i) (t.all okSh)
 | [], i, h, hi => by
  have : l.length ≤ i := by simpa using h
  refine Ev.shift (fun k => by rw [stipendlaw16_right.l0]) ?_
  exact Ev.neg (by omega) Ev.now
 | a :: t, i, h, hi => by
  obtain ⟨h1, h2, h3⟩ := drop_cons_get h
  refine Ev.shift (fun k => by rw [stipendlaw16_right.l0]) ?_
  refine Ev.pos (by omega) (Ev.pos (by omega) (Ev.pos (by omega) ?_))
  rw [rdt h1]
  by_cases c : okSh a = true
  ·have c' := (okSh_iff a).1 c
   refine Ev.neg (by omega) (Ev.neg (by omega) (Ev.neg (by omega) (Ev.neg (by omega) ?_)))
   rw [show wrap64 ((i : Int) + 1) = ((i + 1 : Nat) : Int) by rw [w64 (by omega) (by omega)]; rfl]
   rw [show (a :: t).all okSh = t.all okSh by simp [c]]
   exact right_ev_l l hl t (i + 1) h2 (by omega)
  ·have c1 : (a :: t).all okSh = false := by simp [Bool.eq_false_iff.2 c]
   have c' : ¬ ((-100000000000 ≤ a.f0 ∧ a.f0 ≤ 100000000000) ∧ -100000000000 ≤ a.f1 ∧ a.f1 ≤ 100000000000) := fun h => c ((okSh_iff a).2 h)
   rw [c1]
   by_cases d1 : a.f0 > 100000000000
   ·exact Ev.pos d1 Ev.now
   refine Ev.neg d1 ?_
   by_cases d2 : a.f0 < -100000000000
   ·exact Ev.pos d2 Ev.now
   refine Ev.neg d2 ?_
   by_cases d3 : a.f1 > 100000000000
   ·exact Ev.pos d3 Ev.now
   refine Ev.neg d3 ?_
   exact Ev.pos (by omega) Ev.now
theorem right_ev (l : List S29) (hl : l.length < 1000) : Ev (fun k => stipendlaw16_right.f k l) (l.all okSh) := by
 have := right_ev_l l hl l 0 (by simp) (by omega)
 exact this

end Go.Proofs.YtmocphafkimdpaaDoor.P


/- The library's contracts that these proofs use, laid at this program by the shelf's own program, in plain words. -/
namespace Go.Proofs
open Go.Shelf
def Tryd.lays134_ren : Go.Shelf.Ren := ⟨fun | 134 => 106 | 129 => 118 | n => n, fun | 53 => 104 | 3 => 3 | 4 => 4 | 46 => 158 | 5 => 5 | 9 => 9 | n => n, fun | n => n⟩
theorem Tryd.lays134 : Go.Proofs.Lays.n134 Tryd.prog Tryd.lays134_ren := {
 mixed := by kernel_rfl
 f129 := Tryd.func118.trans (congrArg some (by kernel_rfl))
 f134 := Tryd.func106.trans (congrArg some (by kernel_rfl))
 t3 := Tryd.underlying3
 a3 := Tryd.isAgg3
 z3 := Tryd.sizeOf3
 v3 := Tryd.zeroValue3
 t4 := Tryd.underlying4
 a4 := Tryd.isAgg4
 z4 := Tryd.sizeOf4
 v4 := Tryd.zeroValue4
 t5 := Tryd.underlying5
 a5 := Tryd.isAgg5
 z5 := Tryd.sizeOf5
 v5 := Tryd.zeroValue5
 t9 := Tryd.underlying9
 a9 := Tryd.isAgg9
 z9 := Tryd.sizeOf9
 v9 := Tryd.zeroValue9
 t46 := Tryd.underlying158
 a46 := Tryd.isAgg158
 z46 := Tryd.sizeOf158
 v46 := Tryd.zeroValue158
 t53 := Tryd.underlying104
 a53 := Tryd.isAgg104
 z53 := Tryd.sizeOf104
 v53 := Tryd.zeroValue104 }
/-- bits.LeadingZeros64: "LeadingZeros64 returns the number of leading zero bits in x; the result is 64 for x == 0.": IT RETURNS '64 - Lib.bitLen x'; the world is as it was. ITS CALLEE bits.Len64 IS MET BY ITS OWN CONTRACT OFF THE SHELF (lay that first): entered in place it sends the kernel out of memory. (LAID: no walk: one application.) -/
theorem Tryd.bits_LeadingZeros64 (x : Int) (w : World) (h0 : 0 ≤ x) (h1 : x ≤ 18446744073709551615) :
  Calls Tryd.prog 106 #[.int .u64 x] w fun e w' => e = .returned (.int .i64 (64 - (Lib.bitLen x.toNat : Int))) ∧ w' = w := Any.bits_LeadingZeros64 Tryd.lays134 x w h0 h1
def Tryd.lays129_ren : Go.Shelf.Ren := ⟨fun | 129 => 118 | n => n, fun | 53 => 104 | 3 => 3 | 4 => 4 | 46 => 158 | 5 => 5 | 9 => 9 | n => n, fun | n => n⟩
theorem Tryd.lays129 : Go.Proofs.Lays.n129 Tryd.prog Tryd.lays129_ren := {
 mixed := by kernel_rfl
 f129 := Tryd.func118.trans (congrArg some (by kernel_rfl))
 t3 := Tryd.underlying3
 a3 := Tryd.isAgg3
 z3 := Tryd.sizeOf3
 v3 := Tryd.zeroValue3
 t4 := Tryd.underlying4
 a4 := Tryd.isAgg4
 z4 := Tryd.sizeOf4
 v4 := Tryd.zeroValue4
 t5 := Tryd.underlying5
 a5 := Tryd.isAgg5
 z5 := Tryd.sizeOf5
 v5 := Tryd.zeroValue5
 t9 := Tryd.underlying9
 a9 := Tryd.isAgg9
 z9 := Tryd.sizeOf9
 v9 := Tryd.zeroValue9
 t46 := Tryd.underlying158
 a46 := Tryd.isAgg158
 z46 := Tryd.sizeOf158
 v46 := Tryd.zeroValue158
 t53 := Tryd.underlying104
 a53 := Tryd.isAgg104
 z53 := Tryd.sizeOf104
 v53 := Tryd.zeroValue104 }
/-- bits.Len64: "Len64 returns the minimum number of bits required to represent x; the result is 0 for x == 0.": IT RETURNS 'Lib.bitLen x'; the world is as it was. ('h0', 'h1': x is a uint64.) (LAID: no walk: one application.) -/
theorem Tryd.bits_Len64 (x : Int) (w : World) (h0 : 0 ≤ x) (h1 : x ≤ 18446744073709551615) :
  Calls Tryd.prog 118 #[.int .u64 x] w fun e w' => e = .returned (.int .i64 (Lib.bitLen x.toNat)) ∧ w' = w := Any.bits_Len64 Tryd.lays129 x w h0 h1
def Tryd.lays317_ren : Go.Shelf.Ren := ⟨fun | 317 => 124 | n => n, fun | 3 => 3 | 46 => 158 | n => n, fun | n => n⟩
theorem Tryd.lays317 : Go.Proofs.Lays.n317 Tryd.prog Tryd.lays317_ren := {
 mixed := by kernel_rfl
 f317 := Tryd.func124.trans (congrArg some (by kernel_rfl))
 t3 := Tryd.underlying3
 a3 := Tryd.isAgg3
 z3 := Tryd.sizeOf3
 v3 := Tryd.zeroValue3
 t46 := Tryd.underlying158
 a46 := Tryd.isAgg158
 z46 := Tryd.sizeOf158
 v46 := Tryd.zeroValue158 }
open Go.Lib in
/-- internal/strconv.log10Pow2: "log10Pow2(x) returns ⌊log₁₀ 2**x⌋ = ⌊x * log₁₀ 2⌋.": '(x * 78913) >> 18', at an x up to 64 (a length in bits). The world is as it was. (LAID: no walk: one application.) -/
theorem Tryd.internal_strconv_log10Pow2 (x : Nat) (h : x ≤ 64) (w : World) :
  Calls Tryd.prog 124 #[.int .i64 x] w fun e w' => e = .returned (.int .i64 (Lib.l10 x)) ∧ w' = w := Any.internal_strconv_log10Pow2 Tryd.lays317 x h w
def Tryd.lays318_ren : Go.Shelf.Ren := ⟨fun | 318 => 125 | n => n, fun | 3 => 3 | 4 => 4 | n => n, fun | n => n⟩
theorem Tryd.lays318 : Go.Proofs.Lays.n318 Tryd.prog Tryd.lays318_ren := {
 mixed := by kernel_rfl
 f318 := Tryd.func125.trans (congrArg some (by kernel_rfl))
 t3 := Tryd.underlying3
 a3 := Tryd.isAgg3
 z3 := Tryd.sizeOf3
 v3 := Tryd.zeroValue3
 t4 := Tryd.underlying4
 a4 := Tryd.isAgg4
 z4 := Tryd.sizeOf4
 v4 := Tryd.zeroValue4 }
open Go.Lib in
/-- internal/strconv.bool2: "bool2 converts b to an integer: 1 for true, 0 for false." The world is as it was. (LAID: no walk: one application.) -/
theorem Tryd.internal_strconv_bool2_int (b : Bool) (w : World) :
  Calls Tryd.prog 125 #[.bool b] w fun e w' => e = .returned (.int .i64 (if b then 1 else 0)) ∧ w' = w := Any.internal_strconv_bool2_int Tryd.lays318 b w
def Tryd.lays283_ren : Go.Shelf.Ren := ⟨fun | 283 => 114 | n => n, fun | 3 => 3 | 9 => 9 | 4 => 4 | n => n, fun | n => n⟩
theorem Tryd.lays283 : Go.Proofs.Lays.n283 Tryd.prog Tryd.lays283_ren := {
 mixed := by kernel_rfl
 f283 := Tryd.func114.trans (congrArg some (by kernel_rfl))
 t3 := Tryd.underlying3
 a3 := Tryd.isAgg3
 z3 := Tryd.sizeOf3
 v3 := Tryd.zeroValue3
 t4 := Tryd.underlying4
 a4 := Tryd.isAgg4
 z4 := Tryd.sizeOf4
 v4 := Tryd.zeroValue4
 t9 := Tryd.underlying9
 a9 := Tryd.isAgg9
 z9 := Tryd.sizeOf9
 v9 := Tryd.zeroValue9 }
open Go.Lib in
/-- internal/strconv.small: "small returns the string for an i with 0 <= i < nSmalls.": i's decimal numeral. The world is as it was. (LAID: no walk: one application.) -/
theorem Tryd.internal_strconv_small (i : Nat) (h : i < 100) (w : World) :
  Calls Tryd.prog 114 #[.int .i64 i] w fun e w' => e = .returned (.string ⟨(Lib.decDigits i).toArray⟩) ∧ w' = w := Any.internal_strconv_small Tryd.lays283 i h w
def Tryd.laysM284_ren : Go.Shelf.Ren := ⟨fun | 284 => 115 | 129 => 118 | 317 => 124 | 318 => 125 | n => n, fun | 53 => 104 | 3 => 3 | 212 => 196 | 0 => 0 | 4 => 4 | 46 => 158 | 5 => 5 | 9 => 9 | n => n, fun | 17 => 5 | n => n⟩
theorem Tryd.laysM284 : Go.Proofs.LaysM.n284 Tryd.prog Tryd.laysM284_ren := {
 mixed := by kernel_rfl
 f129 := Tryd.func118.trans (congrArg some (by kernel_rfl))
 f284 := Tryd.func115.trans (congrArg some (by kernel_rfl))
 f317 := Tryd.func124.trans (congrArg some (by kernel_rfl))
 f318 := Tryd.func125.trans (congrArg some (by kernel_rfl))
 t0 := Tryd.underlying0
 a0 := Tryd.isAgg0
 z0 := Tryd.sizeOf0
 v0 := Tryd.zeroValue0
 t3 := Tryd.underlying3
 a3 := Tryd.isAgg3
 z3 := Tryd.sizeOf3
 v3 := Tryd.zeroValue3
 t4 := Tryd.underlying4
 a4 := Tryd.isAgg4
 z4 := Tryd.sizeOf4
 v4 := Tryd.zeroValue4
 t5 := Tryd.underlying5
 a5 := Tryd.isAgg5
 z5 := Tryd.sizeOf5
 v5 := Tryd.zeroValue5
 t9 := Tryd.underlying9
 a9 := Tryd.isAgg9
 z9 := Tryd.sizeOf9
 v9 := Tryd.zeroValue9
 t46 := Tryd.underlying158
 a46 := Tryd.isAgg158
 z46 := Tryd.sizeOf158
 v46 := Tryd.zeroValue158
 t53 := Tryd.underlying104
 a53 := Tryd.isAgg104
 z53 := Tryd.sizeOf104
 v53 := Tryd.zeroValue104
 t212 := Tryd.underlying196
 a212 := Tryd.isAgg196
 z212 := Tryd.sizeOf196
 v212 := Tryd.zeroValue196
 g17 := by kernel_rfl
 i0 := by kernel_rfl
 i3 := by kernel_rfl
 i4 := by kernel_rfl
 i5 := by kernel_rfl
 i9 := by kernel_rfl
 i46 := by kernel_rfl
 i53 := by kernel_rfl
 i212 := by kernel_rfl
 m17 := by kernel_rfl }
open Go.Lib in
/-- internal/strconv.numDigits, at a d that is not 0: THE NUMBER OF d's DECIMAL DIGITS. The world is as it was. (LAID: no walk: one application.) -/
theorem Tryd.internal_strconv_numDigits (u : Nat) (h1 : 1 ≤ u) (h2 : u < 18446744073709551616) (w : World) (htab : Lib.TabIs Tryd.prog w "internal/strconv.uint64pow10" .u64 Lib.pow10Tab) :
  Calls Tryd.prog 115 #[.int .u64 u] w fun e w' => e = .returned (.int .i64 (Lib.nDigits u)) ∧ w' = w := Any.internal_strconv_numDigits Tryd.laysM284 u h1 h2 w htab
def Tryd.lays285_ren : Go.Shelf.Ren := ⟨fun | 285 => 116 | n => n, fun | 37 => 164 | 53 => 104 | 3 => 3 | 4 => 4 | 51 => 168 | 9 => 9 | 5 => 5 | 0 => 0 | n => n, fun | n => n⟩
theorem Tryd.lays285 : Go.Proofs.Lays.n285 Tryd.prog Tryd.lays285_ren := {
 mixed := by kernel_rfl
 f285 := Tryd.func116.trans (congrArg some (by kernel_rfl))
 t0 := Tryd.underlying0
 a0 := Tryd.isAgg0
 z0 := Tryd.sizeOf0
 v0 := Tryd.zeroValue0
 t3 := Tryd.underlying3
 a3 := Tryd.isAgg3
 z3 := Tryd.sizeOf3
 v3 := Tryd.zeroValue3
 t4 := Tryd.underlying4
 a4 := Tryd.isAgg4
 z4 := Tryd.sizeOf4
 v4 := Tryd.zeroValue4
 t5 := Tryd.underlying5
 a5 := Tryd.isAgg5
 z5 := Tryd.sizeOf5
 v5 := Tryd.zeroValue5
 t9 := Tryd.underlying9
 a9 := Tryd.isAgg9
 z9 := Tryd.sizeOf9
 v9 := Tryd.zeroValue9
 t37 := Tryd.underlying164
 a37 := Tryd.isAgg164
 z37 := Tryd.sizeOf164
 v37 := Tryd.zeroValue164
 t51 := Tryd.underlying168
 a51 := Tryd.isAgg168
 z51 := Tryd.sizeOf168
 v51 := Tryd.zeroValue168
 t53 := Tryd.underlying104
 a53 := Tryd.isAgg104
 z53 := Tryd.sizeOf104
 v53 := Tryd.zeroValue104 }
open Go.RowKit Go.Sort Go.Lib in
/-- internal/strconv.formatBase10: "formatBase10 formats the decimal representation of u into a. The caller is responsible for ensuring that a is big enough to hold u. If a is too big, leading zeros will be filled in as needed.": THE ROW HOLDS u's DIGITS ('FmtInv .. 0 ..': every place t holds 'dg u (len - 1 - t)'); all else is as it was but for the count of draws. (LAID: no walk: one application.) -/
theorem Tryd.internal_strconv_formatBase10 (blk off cap : Nat) (u : Nat) (d : Array UInt8) (w : World) (hH : Holds (fun (b : UInt8) => Value.int .u8 (b.toNat : Int)) w blk off d) (hu : u < 10 ^ d.size) (hu64 : u < 18446744073709551616) (hsz : d.size < 4611686018427387904) :
  Calls Tryd.prog 116 #[.slice (some ⟨blk, off, none⟩) d.size cap, .int .u64 u] w fun e w' =>
   e = .returned (.tuple #[]) ∧ ∃ (n v' : Nat) (dk : Array UInt8), w' = (putRow (fun (b : UInt8) => Value.int .u8 (b.toNat : Int)) w blk off dk).drewN n ∧ FmtInv d.size u 0 v' dk := Any.internal_strconv_formatBase10 Tryd.lays285 blk off cap u d w hH hu hu64 hsz
def Tryd.lays264_ren : Go.Shelf.Ren := ⟨fun | 264 => 83 | n => n, fun | 53 => 104 | 46 => 158 | n => n, fun | n => n⟩
theorem Tryd.lays264 : Go.Proofs.Lays.n264 Tryd.prog Tryd.lays264_ren := {
 mixed := by kernel_rfl
 f264 := Tryd.func83.trans (congrArg some (by kernel_rfl))
 t46 := Tryd.underlying158
 a46 := Tryd.isAgg158
 z46 := Tryd.sizeOf158
 v46 := Tryd.zeroValue158
 t53 := Tryd.underlying104
 a53 := Tryd.isAgg104
 z53 := Tryd.sizeOf104
 v53 := Tryd.zeroValue104 }
open Go.RowKit Go.Lib in
theorem Tryd.bits_Mul64 (x y : Nat) (hx : x < 18446744073709551616) (hy : y < 18446744073709551616) (w : World) :
  Calls Tryd.prog 83 #[.int .u64 x, .int .u64 y] w fun e w' => e = .returned (.tuple #[.int .u64 ((x * y / 18446744073709551616 : Nat) : Int), .int .u64 ((x * y % 18446744073709551616 : Nat) : Int)]) ∧ w' = w := Any.bits_Mul64 Tryd.lays264 x y hx hy w
end Go.Proofs


/- strconv.FormatUint at base 10 answers the number's decimal numeral. -/
namespace Go.Proofs.YtmocphafkimdpaaDoor.P
open Go.RowKit Go.Proofs.YtmocphafkimdpaaDoorW.PrintWords Go.Proofs.YtmocphafkimdpaaDoorW.PrintLast Go.Proofs.YtmocphafkimdpaaDoorW.PrintMore
open Go.Sort

/-- The new block's bytes are a row of zeros. -/
theorem fmt_holds_zero (w : World) (T : TypeId) (nd : Nat) (hs : nd ≤ 24) : Holds (fun (b : UInt8) => Value.int .u8 (b.toNat : Int)) (w.alloc (.cells Lib.zeros24 T)) w.heap.size 0 (Array.replicate nd (0 : UInt8)) := fun j hj => by
 have hj' : j < nd := by simpa using hj
 refine ⟨?_, World.frozen?_alloc_new _ _ _ _⟩
 rw [World.cell?_alloc_new, Lib.zeros24_at _ (by omega), getElem!_pos _ j hj]
 simp

theorem fmt_fin (w : World) (o : Obj) (dk : Array UInt8) (k : Nat) : ∃ os, (putRow (fun (b : UInt8) => Value.int .u8 (b.toNat : Int)) (w.alloc o) w.heap.size 0 dk).drewN k = grow (w.drewN k) os := by
 rw [alloc_eq_grow]
 obtain ⟨os', _, e⟩ := putRow_grow_new (fun (b : UInt8) => Value.int .u8 (b.toNat : Int)) w #[o] w.heap.size 0 dk (Nat.le_refl _)
 exact ⟨os', by rw [e]; rfl⟩

theorem below_grow (w : World) (k : Nat) (os : Array Obj) : Below w.heap.size w (grow (w.drewN k) os) := by
 refine ⟨rfl, rfl, rfl, ?_, ?_⟩
 ·simp [grow, World.drewN]
 ·intro i hi
  show (w.heap ++ os)[i]? = w.heap[i]?
  rw [Array.getElem?_append_left hi]

set_option maxHeartbeats 6400000 in
set_option maxRecDepth 100000 in
theorem fmt_inner (u : Nat) (hu64 : u < 18446744073709551616) (w : World) (hG : GTab w) :
  Calls Tryd.prog 105 #[.int .u64 u, .int .i64 10] w fun e w' => e = .returned (.string ⟨(Lib.decDigits u).toArray⟩) ∧ Below w.heap.size w w' := by
 by_cases hs : u < 100
 ·go_enter Tryd.func105, Tryd.ntmps105
  have hs' : (u : Int) < 100 := by omega
  go_wp2_with (go_at_call 114; refine (Tryd.internal_strconv_small u hs _).mono ?_; rintro e w' ⟨rfl, rfl⟩)
  go_ret
  exact ⟨rfl, Below.refl _ _⟩
 ·have hu1 : 1 ≤ u := by omega
  have hnd20 : Lib.nDigits u ≤ 20 := by have := Lib.numDigits_eq u hu1 hu64; split at this <;> omega
  have hal : Tryd.prog.arrayLen 175 = 24 := by simp [Program.arrayLen, Tryd.underlying175]
  have hsl1 : ∀ W, (Instr.sliceAt 175 (.pointer (some ⟨w.heap.size, 0, none⟩)) none (some (.int .i64 (Lib.nDigits u : Int))) none).run Tryd.prog W = .ok (.slice (some ⟨w.heap.size, 0, none⟩) (Lib.nDigits u) 24) W := fun W => by
   rw [run_sliceAt_array_h W 175 ⟨w.heap.size, 0, none⟩ (by simp [Program.arrayLen, Program.elem, Tryd.underlying175]) .i64 (Lib.nDigits u : Int) (by omega) (by rw [hal]; omega)]
   go_simp
  have hH0 := fmt_holds_zero w 175 (Lib.nDigits u) (by omega)
  have hfmt := Tryd.internal_strconv_formatBase10 w.heap.size 0 24 u (Array.replicate (Lib.nDigits u) 0) (w.alloc (.cells Lib.zeros24 175)) hH0 (by rw [Array.size_replicate]; exact Lib.lt_pow_nDigits u) hu64 (by rw [Array.size_replicate]; omega)
  rw [Array.size_replicate] at hfmt
  have HH0 := Lib.hid hH0
  clear hH0 hal
  have hs' : ¬ (u : Int) < 100 := by omega
  have HG := Lib.hid hG
  clear hG
  go_enter Tryd.func105, Tryd.ntmps105
  go_wp2_with (go_at_call 115; refine (Tryd.internal_strconv_numDigits u hu1 hu64 _ (Lib.tabIs_alloc HG.out _)).mono ?_; rintro e w' ⟨rfl, rfl⟩)
  go_at_call 116
  refine hfmt.mono ?_
  rintro e w' ⟨rfl, k, v', dk, rfl, hF⟩
  have hcv : (convert 164 9 (.slice (some ⟨w.heap.size, 0, none⟩) (Lib.nDigits u) 24)).run Tryd.prog ((putRow (fun (b : UInt8) => Value.int .u8 (b.toNat : Int)) (w.alloc (.cells Lib.zeros24 175)) w.heap.size 0 dk).drewN k) = .ok (.string ⟨(Lib.decDigits u).toArray⟩) ((putRow (fun (b : UInt8) => Value.int .u8 (b.toNat : Int)) (w.alloc (.cells Lib.zeros24 175)) w.heap.size 0 dk).drewN k) := by
   have h := run_convert_bytes_back (P := Tryd.prog) ((putRow (fun (b : UInt8) => Value.int .u8 (b.toNat : Int)) (w.alloc (.cells Lib.zeros24 175)) w.heap.size 0 dk).drewN k) 164 9 5 ⟨w.heap.size, 0, none⟩ 24 (Lib.decDigits u) Tryd.underlying164 Tryd.underlying5 Tryd.underlying9 (fun j hj => by
    rw [Lib.row_is_numeral hF j hj, Lib.add_plain, World.cell?_drewN]
    exact cell?_putRow (fun (b : UInt8) => Value.int .u8 (b.toNat : Int)) _ w.heap.size 0 _ dk HH0.out (by rw [hF.size, Array.size_replicate]) j (by rw [hF.size]; rw [Lib.decDigits_length] at hj; exact hj))
   rw [Lib.decDigits_length] at h
   exact h
  go_wp2
  go_ret
  obtain ⟨os, eo⟩ := fmt_fin w (.cells Lib.zeros24 175) dk k
  refine ⟨rfl, ?_⟩
  rw [eo]
  exact below_grow w k os

def strconv_FormatUint_82.f (a0 a1 : Int) : Option ByteArray := if a1 = 10 ∧ 0 ≤ a0 ∧ a0 < 18446744073709551616 then some ⟨(Lib.decDigits a0.toNat).toArray⟩ else none
theorem strconv_FormatUint_82.calls (a0 a1 : Int) (r : ByteArray) (w : World) (h : strconv_FormatUint_82.f a0 a1 = some r) (hG : GTab w := by first | exact GTab.below HG.out (by repeat (first | (with_reducible first | exact HB.out | apply below_alloc | apply pw_below_drewN | apply below_drew1 | apply below_drew) | exact HB.out)) | exact HG.out) :
  Calls Tryd.prog 82 #[.int .u64 a0, .int .i64 a1] w fun e w' => e = .returned (.string r) ∧ Below w.heap.size w w' := by
 unfold strconv_FormatUint_82.f at h
 split at h
 ·rename_i hc
  obtain ⟨rfl, h0, h1⟩ := hc
  obtain ⟨u, rfl⟩ := Int.eq_ofNat_of_zero_le h0
  obtain rfl := Option.some.inj h
  rw [Int.toNat_natCast]
  have HG := Lib.hid hG
  clear hG h
  go_enter Tryd.func82, Tryd.ntmps82
  go_wp2_with (go_at_call 105; refine (fmt_inner u (by omega) _ HG.out).mono ?_; rintro e w' ⟨rfl, hb⟩)
  go_ret
  exact ⟨rfl, hb⟩
 ·cases h

end Go.Proofs.YtmocphafkimdpaaDoor.P


-- written by a program (a patched copy of the kit's print: wip/mkprint.py); Lean checks it
namespace Go.Proofs.YtmocphafkimdpaaDoor.P
open Go.RowKit Go.Proofs.YtmocphafkimdpaaDoorW.PrintWords Go.Proofs.YtmocphafkimdpaaDoorW.PrintLast Go.Proofs.YtmocphafkimdpaaDoorW.PrintMore
attribute [local go_sem] max2_int min2_int max_two min_two max_three min_three max_four min_four   -- for this text's walks alone
set_option linter.unusedVariables false
set_option linter.unusedSimpArgs false

/-! ### money_Abs: function 61 -/
def money_Abs.f (a0 : Int) : Option (Int) := if a0 < 0 then (some (IntKind.u64.wrap ((IntKind.u64.wrap (wrap64 (-(wrap64 (a0 + 1))))) + 1))) else (some (IntKind.u64.wrap (a0)))
set_option maxHeartbeats 8000000 in
set_option maxRecDepth 100000 in
theorem money_Abs.calls (a0 : Int) (r : Int) (w : World) (h : money_Abs.f a0 = some r) :
  Calls Tryd.prog 61 #[.int .i64 a0] w fun e w' => e = .returned (.int .u64 r) ∧ Drawn0 w w' := by
 have H : (if a0 < 0 then (some (IntKind.u64.wrap ((IntKind.u64.wrap (wrap64 (-(wrap64 (a0 + 1))))) + 1))) else (some (IntKind.u64.wrap (a0)))) = some r := h
 clear h
 by_cases c2 : a0 < 0
 ·rw [if_pos c2] at H
  have c2b0 : decide (a0 < 0) = true := decide_eq_true c2
  clear c2
  obtain rfl := Option.some.inj H
  go_enter Tryd.func61, Tryd.ntmps61
  go_wp2
  go_ret
  exact ⟨by first | rfl | (simp; done) | (simp [*]; done), by repeat (first | exact Drawn0.refl _ | apply Drawn0.step)⟩
 ·rw [if_neg c2] at H
  have c2b0 : decide (a0 < 0) = false := decide_eq_false c2
  clear c2
  obtain rfl := Option.some.inj H
  go_enter Tryd.func61, Tryd.ntmps61
  go_wp2
  go_ret
  exact ⟨by first | rfl | (simp; done) | (simp [*]; done), by repeat (first | exact Drawn0.refl _ | apply Drawn0.step)⟩

end Go.Proofs.YtmocphafkimdpaaDoor.P


-- written by a program (a patched copy of the kit's print: wip/mkprint.py); Lean checks it
namespace Go.Proofs.YtmocphafkimdpaaDoor.P
open Go.RowKit Go.Proofs.YtmocphafkimdpaaDoorW.PrintWords Go.Proofs.YtmocphafkimdpaaDoorW.PrintLast Go.Proofs.YtmocphafkimdpaaDoorW.PrintMore
attribute [local go_sem] max2_int min2_int max_two min_two max_three min_three max_four min_four   -- for this text's walks alone
set_option linter.unusedVariables false
set_option linter.unusedSimpArgs false

/-! ### money_Text: function 39 -/
def money_Text.f (a0 : Int) : Option (ByteArray) := (money_Abs.f a0).bind fun t192 => ((strconv_FormatUint_82.f (IntKind.u64.wrap (Int.tdiv t192 100)) 10).bind fun t193 => (if t193.size + 1 ≤ 9223372036854775807 then (if (Int.tmod t192 100) < 10 then (if (t193 ++ (⟨#[46]⟩ : ByteArray)).size + 1 ≤ 9223372036854775807 then ((strconv_FormatUint_82.f (Int.tmod t192 100) 10).bind fun t194 => (if ((t193 ++ (⟨#[46]⟩ : ByteArray)) ++ (⟨#[48]⟩ : ByteArray)).size + t194.size ≤ 9223372036854775807 then (if a0 < 0 then (if 1 + (((t193 ++ (⟨#[46]⟩ : ByteArray)) ++ (⟨#[48]⟩ : ByteArray)) ++ t194).size ≤ 9223372036854775807 then (some ((⟨#[45]⟩ : ByteArray) ++ (((t193 ++ (⟨#[46]⟩ : ByteArray)) ++ (⟨#[48]⟩ : ByteArray)) ++ t194))) else (none)) else (some (((t193 ++ (⟨#[46]⟩ : ByteArray)) ++ (⟨#[48]⟩ : ByteArray)) ++ t194))) else (none))) else (none)) else ((strconv_FormatUint_82.f (Int.tmod t192 100) 10).bind fun t195 => (if (t193 ++ (⟨#[46]⟩ : ByteArray)).size + t195.size ≤ 9223372036854775807 then (if a0 < 0 then (if 1 + ((t193 ++ (⟨#[46]⟩ : ByteArray)) ++ t195).size ≤ 9223372036854775807 then (some ((⟨#[45]⟩ : ByteArray) ++ ((t193 ++ (⟨#[46]⟩ : ByteArray)) ++ t195))) else (none)) else (some ((t193 ++ (⟨#[46]⟩ : ByteArray)) ++ t195))) else (none)))) else (none)))
set_option maxHeartbeats 8000000 in
set_option maxRecDepth 100000 in
theorem money_Text.calls (a0 : Int) (r : ByteArray) (w : World) (h : money_Text.f a0 = some r) (hG : GTab w := by first | exact GTab.below HG.out (by repeat (first | (with_reducible first | exact HB.out | apply below_alloc | apply pw_below_drewN | apply below_drew1 | apply below_drew) | exact HB.out)) | exact HG.out) :
  Calls Tryd.prog 39 #[.int .i64 a0] w fun e w' => e = .returned (.string r) ∧ Below w.heap.size w w' := by
 have HG := Aside0.mk hG; clear hG
 have HB := Aside0.mk (Below.refl w.heap.size w)
 have H : ((money_Abs.f a0).bind fun t192 => ((strconv_FormatUint_82.f (IntKind.u64.wrap (Int.tdiv t192 100)) 10).bind fun t193 => (if t193.size + 1 ≤ 9223372036854775807 then (if (Int.tmod t192 100) < 10 then (if (t193 ++ (⟨#[46]⟩ : ByteArray)).size + 1 ≤ 9223372036854775807 then ((strconv_FormatUint_82.f (Int.tmod t192 100) 10).bind fun t194 => (if ((t193 ++ (⟨#[46]⟩ : ByteArray)) ++ (⟨#[48]⟩ : ByteArray)).size + t194.size ≤ 9223372036854775807 then (if a0 < 0 then (if 1 + (((t193 ++ (⟨#[46]⟩ : ByteArray)) ++ (⟨#[48]⟩ : ByteArray)) ++ t194).size ≤ 9223372036854775807 then (some ((⟨#[45]⟩ : ByteArray) ++ (((t193 ++ (⟨#[46]⟩ : ByteArray)) ++ (⟨#[48]⟩ : ByteArray)) ++ t194))) else (none)) else (some (((t193 ++ (⟨#[46]⟩ : ByteArray)) ++ (⟨#[48]⟩ : ByteArray)) ++ t194))) else (none))) else (none)) else ((strconv_FormatUint_82.f (Int.tmod t192 100) 10).bind fun t195 => (if (t193 ++ (⟨#[46]⟩ : ByteArray)).size + t195.size ≤ 9223372036854775807 then (if a0 < 0 then (if 1 + ((t193 ++ (⟨#[46]⟩ : ByteArray)) ++ t195).size ≤ 9223372036854775807 then (some ((⟨#[45]⟩ : ByteArray) ++ ((t193 ++ (⟨#[46]⟩ : ByteArray)) ++ t195))) else (none)) else (some ((t193 ++ (⟨#[46]⟩ : ByteArray)) ++ t195))) else (none)))) else (none)))) = some r := h
 clear h
 replace H := Option.bind_eq_some_iff.mp H
 obtain ⟨t192, A20, H⟩ := H
 replace H : ((strconv_FormatUint_82.f (IntKind.u64.wrap (Int.tdiv t192 100)) 10).bind fun t193 => (if t193.size + 1 ≤ 9223372036854775807 then (if (Int.tmod t192 100) < 10 then (if (t193 ++ (⟨#[46]⟩ : ByteArray)).size + 1 ≤ 9223372036854775807 then ((strconv_FormatUint_82.f (Int.tmod t192 100) 10).bind fun t194 => (if ((t193 ++ (⟨#[46]⟩ : ByteArray)) ++ (⟨#[48]⟩ : ByteArray)).size + t194.size ≤ 9223372036854775807 then (if a0 < 0 then (if 1 + (((t193 ++ (⟨#[46]⟩ : ByteArray)) ++ (⟨#[48]⟩ : ByteArray)) ++ t194).size ≤ 9223372036854775807 then (some ((⟨#[45]⟩ : ByteArray) ++ (((t193 ++ (⟨#[46]⟩ : ByteArray)) ++ (⟨#[48]⟩ : ByteArray)) ++ t194))) else (none)) else (some (((t193 ++ (⟨#[46]⟩ : ByteArray)) ++ (⟨#[48]⟩ : ByteArray)) ++ t194))) else (none))) else (none)) else ((strconv_FormatUint_82.f (Int.tmod t192 100) 10).bind fun t195 => (if (t193 ++ (⟨#[46]⟩ : ByteArray)).size + t195.size ≤ 9223372036854775807 then (if a0 < 0 then (if 1 + ((t193 ++ (⟨#[46]⟩ : ByteArray)) ++ t195).size ≤ 9223372036854775807 then (some ((⟨#[45]⟩ : ByteArray) ++ ((t193 ++ (⟨#[46]⟩ : ByteArray)) ++ t195))) else (none)) else (some ((t193 ++ (⟨#[46]⟩ : ByteArray)) ++ t195))) else (none)))) else (none))) = some r := H
 have A2 := Aside0.mk A20
 clear A20
 replace H := Option.bind_eq_some_iff.mp H
 obtain ⟨t193, A30, H⟩ := H
 replace H : (if t193.size + 1 ≤ 9223372036854775807 then (if (Int.tmod t192 100) < 10 then (if (t193 ++ (⟨#[46]⟩ : ByteArray)).size + 1 ≤ 9223372036854775807 then ((strconv_FormatUint_82.f (Int.tmod t192 100) 10).bind fun t194 => (if ((t193 ++ (⟨#[46]⟩ : ByteArray)) ++ (⟨#[48]⟩ : ByteArray)).size + t194.size ≤ 9223372036854775807 then (if a0 < 0 then (if 1 + (((t193 ++ (⟨#[46]⟩ : ByteArray)) ++ (⟨#[48]⟩ : ByteArray)) ++ t194).size ≤ 9223372036854775807 then (some ((⟨#[45]⟩ : ByteArray) ++ (((t193 ++ (⟨#[46]⟩ : ByteArray)) ++ (⟨#[48]⟩ : ByteArray)) ++ t194))) else (none)) else (some (((t193 ++ (⟨#[46]⟩ : ByteArray)) ++ (⟨#[48]⟩ : ByteArray)) ++ t194))) else (none))) else (none)) else ((strconv_FormatUint_82.f (Int.tmod t192 100) 10).bind fun t195 => (if (t193 ++ (⟨#[46]⟩ : ByteArray)).size + t195.size ≤ 9223372036854775807 then (if a0 < 0 then (if 1 + ((t193 ++ (⟨#[46]⟩ : ByteArray)) ++ t195).size ≤ 9223372036854775807 then (some ((⟨#[45]⟩ : ByteArray) ++ ((t193 ++ (⟨#[46]⟩ : ByteArray)) ++ t195))) else (none)) else (some ((t193 ++ (⟨#[46]⟩ : ByteArray)) ++ t195))) else (none)))) else (none)) = some r := H
 have A3 := Aside0.mk A30
 clear A30
 by_cases c4 : t193.size + 1 ≤ 9223372036854775807
 ·rw [if_pos c4] at H
  have c4b0 := eq_true c4
  have c4b1 : decide (t193.size + 1 ≤ 9223372036854775807) = true := decide_eq_true c4
  try have c4b2 : (9223372036854775807 < t193.size + 1) = False := eq_false (Nat.not_lt.2 c4)
  (try (have c4s := c4b2; simp only [ByteArray.size_append] at c4s))
  by_cases c5 : (Int.tmod t192 100) < 10
  ·rw [if_pos c5] at H
   have c5b0 : decide ((Int.tmod t192 100) < 10) = true := decide_eq_true c5
   clear c5
   by_cases c6 : (t193 ++ (⟨#[46]⟩ : ByteArray)).size + 1 ≤ 9223372036854775807
   ·rw [if_pos c6] at H
    have c6b0 := eq_true c6
    have c6b1 : decide ((t193 ++ (⟨#[46]⟩ : ByteArray)).size + 1 ≤ 9223372036854775807) = true := decide_eq_true c6
    try have c6b2 : (9223372036854775807 < (t193 ++ (⟨#[46]⟩ : ByteArray)).size + 1) = False := eq_false (Nat.not_lt.2 c6)
    (try (have c6s := c6b2; simp only [ByteArray.size_append, show (⟨#[46]⟩ : ByteArray).size = 1 from rfl] at c6s))
    replace H := Option.bind_eq_some_iff.mp H
    obtain ⟨t194, A70, H⟩ := H
    replace H : (if ((t193 ++ (⟨#[46]⟩ : ByteArray)) ++ (⟨#[48]⟩ : ByteArray)).size + t194.size ≤ 9223372036854775807 then (if a0 < 0 then (if 1 + (((t193 ++ (⟨#[46]⟩ : ByteArray)) ++ (⟨#[48]⟩ : ByteArray)) ++ t194).size ≤ 9223372036854775807 then (some ((⟨#[45]⟩ : ByteArray) ++ (((t193 ++ (⟨#[46]⟩ : ByteArray)) ++ (⟨#[48]⟩ : ByteArray)) ++ t194))) else (none)) else (some (((t193 ++ (⟨#[46]⟩ : ByteArray)) ++ (⟨#[48]⟩ : ByteArray)) ++ t194))) else (none)) = some r := H
    have A7 := Aside0.mk A70
    clear A70
    by_cases c8 : ((t193 ++ (⟨#[46]⟩ : ByteArray)) ++ (⟨#[48]⟩ : ByteArray)).size + t194.size ≤ 9223372036854775807
    ·rw [if_pos c8] at H
     have c8b0 := eq_true c8
     have c8b1 : decide (((t193 ++ (⟨#[46]⟩ : ByteArray)) ++ (⟨#[48]⟩ : ByteArray)).size + t194.size ≤ 9223372036854775807) = true := decide_eq_true c8
     try have c8b2 : (9223372036854775807 < ((t193 ++ (⟨#[46]⟩ : ByteArray)) ++ (⟨#[48]⟩ : ByteArray)).size + t194.size) = False := eq_false (Nat.not_lt.2 c8)
     (try (have c8s := c8b2; simp only [ByteArray.size_append, show (⟨#[46]⟩ : ByteArray).size = 1 from rfl, show (⟨#[48]⟩ : ByteArray).size = 1 from rfl] at c8s))
     by_cases c9 : a0 < 0
     ·rw [if_pos c9] at H
      have c9b0 : decide (a0 < 0) = true := decide_eq_true c9
      clear c9
      by_cases c10 : 1 + (((t193 ++ (⟨#[46]⟩ : ByteArray)) ++ (⟨#[48]⟩ : ByteArray)) ++ t194).size ≤ 9223372036854775807
      ·rw [if_pos c10] at H
       have c10b0 := eq_true c10
       have c10b1 : decide (1 + (((t193 ++ (⟨#[46]⟩ : ByteArray)) ++ (⟨#[48]⟩ : ByteArray)) ++ t194).size ≤ 9223372036854775807) = true := decide_eq_true c10
       try have c10b2 : (9223372036854775807 < 1 + (((t193 ++ (⟨#[46]⟩ : ByteArray)) ++ (⟨#[48]⟩ : ByteArray)) ++ t194).size) = False := eq_false (Nat.not_lt.2 c10)
       (try (have c10s := c10b2; simp only [ByteArray.size_append, show (⟨#[46]⟩ : ByteArray).size = 1 from rfl, show (⟨#[48]⟩ : ByteArray).size = 1 from rfl] at c10s))
       obtain rfl := Option.some.inj H
       go_enter Tryd.func39, Tryd.ntmps39
       go_wp2_with (first | ((with_reducible refine gate_callee (f := 61) rfl ?_); refine goesL_ (some 6) rfl rfl Tryd.func61 (by kernel_rfl) rfl #[.int .i64 a0] rfl (by (try simp only [List.map_toArray, List.map_cons, List.map_nil]); first | done | rfl | (simp only [List.length_drop, List.length_take]; rfl)) ?_; (with_reducible refine (money_Abs.calls a0 t192 _ A2.out).mono ?_); rintro e w' ⟨rfl, ⟨nd, rfl⟩⟩; refine ⟨_, rfl, ?_⟩) | ((with_reducible refine gate_callee (f := 82) rfl ?_); refine goesL_ (some 9) rfl rfl Tryd.func82 (by kernel_rfl) rfl #[.int .u64 (IntKind.u64.wrap (Int.tdiv t192 100)), .int .i64 10] rfl (by (try simp only [List.map_toArray, List.map_cons, List.map_nil]); first | done | rfl | (simp only [List.length_drop, List.length_take]; rfl)) ?_; (with_reducible refine (strconv_FormatUint_82.calls (IntKind.u64.wrap (Int.tdiv t192 100)) 10 t193 _ A3.out).mono ?_); rintro e w11 ⟨rfl, hb⟩; refine ⟨_, rfl, ?_⟩; have n0_ := Aside0.mk (below_step (by repeat (first | (with_reducible first | exact HB.out | apply below_alloc | apply pw_below_drewN | apply below_drew1) | exact HB.out)) hb); clear HB; have HB := n0_; clear n0_; (try clear hb); (try clear hb2); (try clear hk); (try clear hi)) | ((with_reducible refine gate_callee (f := 82) rfl ?_); refine goesL_ (some 19) rfl rfl Tryd.func82 (by kernel_rfl) rfl #[.int .u64 (Int.tmod t192 100), .int .i64 10] rfl (by (try simp only [List.map_toArray, List.map_cons, List.map_nil]); first | done | rfl | (simp only [List.length_drop, List.length_take]; rfl)) ?_; (with_reducible refine (strconv_FormatUint_82.calls (Int.tmod t192 100) 10 t194 _ A7.out).mono ?_); rintro e w12 ⟨rfl, hb⟩; refine ⟨_, rfl, ?_⟩; have n0_ := Aside0.mk (below_step (by repeat (first | (with_reducible first | exact HB.out | apply below_alloc | apply pw_below_drewN | apply below_drew1) | exact HB.out)) hb); clear HB; have HB := n0_; clear n0_; (try clear hb); (try clear hb2); (try clear hk); (try clear hi)))
       go_ret
       exact ⟨by first | rfl | (simp [errW_none, errW_some] <;> rfl) | (simp [*, errW_none, errW_some] <;> rfl), by repeat (first | (with_reducible first | exact HB.out | apply below_alloc | apply pw_below_drewN | apply below_drew1) | exact HB.out)⟩
      ·rw [if_neg c10] at H
       exact absurd H (by simp)
     ·rw [if_neg c9] at H
      have c9b0 : decide (a0 < 0) = false := decide_eq_false c9
      clear c9
      obtain rfl := Option.some.inj H
      go_enter Tryd.func39, Tryd.ntmps39
      go_wp2_with (first | ((with_reducible refine gate_callee (f := 61) rfl ?_); refine goesL_ (some 6) rfl rfl Tryd.func61 (by kernel_rfl) rfl #[.int .i64 a0] rfl (by (try simp only [List.map_toArray, List.map_cons, List.map_nil]); first | done | rfl | (simp only [List.length_drop, List.length_take]; rfl)) ?_; (with_reducible refine (money_Abs.calls a0 t192 _ A2.out).mono ?_); rintro e w' ⟨rfl, ⟨nd, rfl⟩⟩; refine ⟨_, rfl, ?_⟩) | ((with_reducible refine gate_callee (f := 82) rfl ?_); refine goesL_ (some 9) rfl rfl Tryd.func82 (by kernel_rfl) rfl #[.int .u64 (IntKind.u64.wrap (Int.tdiv t192 100)), .int .i64 10] rfl (by (try simp only [List.map_toArray, List.map_cons, List.map_nil]); first | done | rfl | (simp only [List.length_drop, List.length_take]; rfl)) ?_; (with_reducible refine (strconv_FormatUint_82.calls (IntKind.u64.wrap (Int.tdiv t192 100)) 10 t193 _ A3.out).mono ?_); rintro e w13 ⟨rfl, hb⟩; refine ⟨_, rfl, ?_⟩; have n0_ := Aside0.mk (below_step (by repeat (first | (with_reducible first | exact HB.out | apply below_alloc | apply pw_below_drewN | apply below_drew1) | exact HB.out)) hb); clear HB; have HB := n0_; clear n0_; (try clear hb); (try clear hb2); (try clear hk); (try clear hi)) | ((with_reducible refine gate_callee (f := 82) rfl ?_); refine goesL_ (some 19) rfl rfl Tryd.func82 (by kernel_rfl) rfl #[.int .u64 (Int.tmod t192 100), .int .i64 10] rfl (by (try simp only [List.map_toArray, List.map_cons, List.map_nil]); first | done | rfl | (simp only [List.length_drop, List.length_take]; rfl)) ?_; (with_reducible refine (strconv_FormatUint_82.calls (Int.tmod t192 100) 10 t194 _ A7.out).mono ?_); rintro e w14 ⟨rfl, hb⟩; refine ⟨_, rfl, ?_⟩; have n0_ := Aside0.mk (below_step (by repeat (first | (with_reducible first | exact HB.out | apply below_alloc | apply pw_below_drewN | apply below_drew1) | exact HB.out)) hb); clear HB; have HB := n0_; clear n0_; (try clear hb); (try clear hb2); (try clear hk); (try clear hi)))
      go_ret
      exact ⟨by first | rfl | (simp [errW_none, errW_some] <;> rfl) | (simp [*, errW_none, errW_some] <;> rfl), by repeat (first | (with_reducible first | exact HB.out | apply below_alloc | apply pw_below_drewN | apply below_drew1) | exact HB.out)⟩
    ·rw [if_neg c8] at H
     exact absurd H (by simp)
   ·rw [if_neg c6] at H
    exact absurd H (by simp)
  ·rw [if_neg c5] at H
   have c5b0 : decide ((Int.tmod t192 100) < 10) = false := decide_eq_false c5
   clear c5
   replace H := Option.bind_eq_some_iff.mp H
   obtain ⟨t195, A150, H⟩ := H
   replace H : (if (t193 ++ (⟨#[46]⟩ : ByteArray)).size + t195.size ≤ 9223372036854775807 then (if a0 < 0 then (if 1 + ((t193 ++ (⟨#[46]⟩ : ByteArray)) ++ t195).size ≤ 9223372036854775807 then (some ((⟨#[45]⟩ : ByteArray) ++ ((t193 ++ (⟨#[46]⟩ : ByteArray)) ++ t195))) else (none)) else (some ((t193 ++ (⟨#[46]⟩ : ByteArray)) ++ t195))) else (none)) = some r := H
   have A15 := Aside0.mk A150
   clear A150
   by_cases c16 : (t193 ++ (⟨#[46]⟩ : ByteArray)).size + t195.size ≤ 9223372036854775807
   ·rw [if_pos c16] at H
    have c16b0 := eq_true c16
    have c16b1 : decide ((t193 ++ (⟨#[46]⟩ : ByteArray)).size + t195.size ≤ 9223372036854775807) = true := decide_eq_true c16
    try have c16b2 : (9223372036854775807 < (t193 ++ (⟨#[46]⟩ : ByteArray)).size + t195.size) = False := eq_false (Nat.not_lt.2 c16)
    (try (have c16s := c16b2; simp only [ByteArray.size_append, show (⟨#[46]⟩ : ByteArray).size = 1 from rfl] at c16s))
    by_cases c17 : a0 < 0
    ·rw [if_pos c17] at H
     have c17b0 : decide (a0 < 0) = true := decide_eq_true c17
     clear c17
     by_cases c18 : 1 + ((t193 ++ (⟨#[46]⟩ : ByteArray)) ++ t195).size ≤ 9223372036854775807
     ·rw [if_pos c18] at H
      have c18b0 := eq_true c18
      have c18b1 : decide (1 + ((t193 ++ (⟨#[46]⟩ : ByteArray)) ++ t195).size ≤ 9223372036854775807) = true := decide_eq_true c18
      try have c18b2 : (9223372036854775807 < 1 + ((t193 ++ (⟨#[46]⟩ : ByteArray)) ++ t195).size) = False := eq_false (Nat.not_lt.2 c18)
      (try (have c18s := c18b2; simp only [ByteArray.size_append, show (⟨#[46]⟩ : ByteArray).size = 1 from rfl] at c18s))
      obtain rfl := Option.some.inj H
      go_enter Tryd.func39, Tryd.ntmps39
      go_wp2_with (first | ((with_reducible refine gate_callee (f := 61) rfl ?_); refine goesL_ (some 6) rfl rfl Tryd.func61 (by kernel_rfl) rfl #[.int .i64 a0] rfl (by (try simp only [List.map_toArray, List.map_cons, List.map_nil]); first | done | rfl | (simp only [List.length_drop, List.length_take]; rfl)) ?_; (with_reducible refine (money_Abs.calls a0 t192 _ A2.out).mono ?_); rintro e w' ⟨rfl, ⟨nd, rfl⟩⟩; refine ⟨_, rfl, ?_⟩) | ((with_reducible refine gate_callee (f := 82) rfl ?_); refine goesL_ (some 9) rfl rfl Tryd.func82 (by kernel_rfl) rfl #[.int .u64 (IntKind.u64.wrap (Int.tdiv t192 100)), .int .i64 10] rfl (by (try simp only [List.map_toArray, List.map_cons, List.map_nil]); first | done | rfl | (simp only [List.length_drop, List.length_take]; rfl)) ?_; (with_reducible refine (strconv_FormatUint_82.calls (IntKind.u64.wrap (Int.tdiv t192 100)) 10 t193 _ A3.out).mono ?_); rintro e w19 ⟨rfl, hb⟩; refine ⟨_, rfl, ?_⟩; have n0_ := Aside0.mk (below_step (by repeat (first | (with_reducible first | exact HB.out | apply below_alloc | apply pw_below_drewN | apply below_drew1) | exact HB.out)) hb); clear HB; have HB := n0_; clear n0_; (try clear hb); (try clear hb2); (try clear hk); (try clear hi)) | ((with_reducible refine gate_callee (f := 82) rfl ?_); refine goesL_ (some 19) rfl rfl Tryd.func82 (by kernel_rfl) rfl #[.int .u64 (Int.tmod t192 100), .int .i64 10] rfl (by (try simp only [List.map_toArray, List.map_cons, List.map_nil]); first | done | rfl | (simp only [List.length_drop, List.length_take]; rfl)) ?_; (with_reducible refine (strconv_FormatUint_82.calls (Int.tmod t192 100) 10 t195 _ A15.out).mono ?_); rintro e w20 ⟨rfl, hb⟩; refine ⟨_, rfl, ?_⟩; have n0_ := Aside0.mk (below_step (by repeat (first | (with_reducible first | exact HB.out | apply below_alloc | apply pw_below_drewN | apply below_drew1) | exact HB.out)) hb); clear HB; have HB := n0_; clear n0_; (try clear hb); (try clear hb2); (try clear hk); (try clear hi)))
      go_ret
      exact ⟨by first | rfl | (simp [errW_none, errW_some] <;> rfl) | (simp [*, errW_none, errW_some] <;> rfl), by repeat (first | (with_reducible first | exact HB.out | apply below_alloc | apply pw_below_drewN | apply below_drew1) | exact HB.out)⟩
     ·rw [if_neg c18] at H
      exact absurd H (by simp)
    ·rw [if_neg c17] at H
     have c17b0 : decide (a0 < 0) = false := decide_eq_false c17
     clear c17
     obtain rfl := Option.some.inj H
     go_enter Tryd.func39, Tryd.ntmps39
     go_wp2_with (first | ((with_reducible refine gate_callee (f := 61) rfl ?_); refine goesL_ (some 6) rfl rfl Tryd.func61 (by kernel_rfl) rfl #[.int .i64 a0] rfl (by (try simp only [List.map_toArray, List.map_cons, List.map_nil]); first | done | rfl | (simp only [List.length_drop, List.length_take]; rfl)) ?_; (with_reducible refine (money_Abs.calls a0 t192 _ A2.out).mono ?_); rintro e w' ⟨rfl, ⟨nd, rfl⟩⟩; refine ⟨_, rfl, ?_⟩) | ((with_reducible refine gate_callee (f := 82) rfl ?_); refine goesL_ (some 9) rfl rfl Tryd.func82 (by kernel_rfl) rfl #[.int .u64 (IntKind.u64.wrap (Int.tdiv t192 100)), .int .i64 10] rfl (by (try simp only [List.map_toArray, List.map_cons, List.map_nil]); first | done | rfl | (simp only [List.length_drop, List.length_take]; rfl)) ?_; (with_reducible refine (strconv_FormatUint_82.calls (IntKind.u64.wrap (Int.tdiv t192 100)) 10 t193 _ A3.out).mono ?_); rintro e w21 ⟨rfl, hb⟩; refine ⟨_, rfl, ?_⟩; have n0_ := Aside0.mk (below_step (by repeat (first | (with_reducible first | exact HB.out | apply below_alloc | apply pw_below_drewN | apply below_drew1) | exact HB.out)) hb); clear HB; have HB := n0_; clear n0_; (try clear hb); (try clear hb2); (try clear hk); (try clear hi)) | ((with_reducible refine gate_callee (f := 82) rfl ?_); refine goesL_ (some 19) rfl rfl Tryd.func82 (by kernel_rfl) rfl #[.int .u64 (Int.tmod t192 100), .int .i64 10] rfl (by (try simp only [List.map_toArray, List.map_cons, List.map_nil]); first | done | rfl | (simp only [List.length_drop, List.length_take]; rfl)) ?_; (with_reducible refine (strconv_FormatUint_82.calls (Int.tmod t192 100) 10 t195 _ A15.out).mono ?_); rintro e w22 ⟨rfl, hb⟩; refine ⟨_, rfl, ?_⟩; have n0_ := Aside0.mk (below_step (by repeat (first | (with_reducible first | exact HB.out | apply below_alloc | apply pw_below_drewN | apply below_drew1) | exact HB.out)) hb); clear HB; have HB := n0_; clear n0_; (try clear hb); (try clear hb2); (try clear hk); (try clear hi)))
     go_ret
     exact ⟨by first | rfl | (simp [errW_none, errW_some] <;> rfl) | (simp [*, errW_none, errW_some] <;> rfl), by repeat (first | (with_reducible first | exact HB.out | apply below_alloc | apply pw_below_drewN | apply below_drew1) | exact HB.out)⟩
   ·rw [if_neg c16] at H
    exact absurd H (by simp)
 ·rw [if_neg c4] at H
  exact absurd H (by simp)

end Go.Proofs.YtmocphafkimdpaaDoor.P
