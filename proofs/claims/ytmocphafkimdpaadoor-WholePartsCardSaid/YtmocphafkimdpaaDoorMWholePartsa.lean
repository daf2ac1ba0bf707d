/- A part of the proof of WholeParts's card: 'WholeParts' answers true for every input (the conditions: those of the given statement alone). Merged by a program (wip/merge.py) out of: GSpread, Pf44, Pf18, HMoneySums, Pf86, Pf42, Pf104, Pf78, Pf79, Pf80, Pf37, Pf81, Pf38, Pf40. -/
import Derived.Test.YtmocphafkimdpaaDoorBMoneyj
import Derived.Test.YtmocphafkimdpaaDoorBMoneye
import Derived.Test.YtmocphafkimdpaaDoorBMoneya
import Derived.Test.YtmocphafkimdpaaDoorBMoneyi

/- money.Spread, told of lists of numbers; the parts come to the amount. -/
namespace Go.Proofs.YtmocphafkimdpaaDoor.P
open Go.RowKit Go.Sort Go.Proofs.YtmocphafkimdpaaDoorW.PrintWords Go.Proofs.YtmocphafkimdpaaDoorW.PrintLast Go.Proofs.YtmocphafkimdpaaDoorW.PrintMore
set_option linter.unusedVariables false
set_option linter.unusedSimpArgs false

def sumZ : List Int → Int
  | [] => 0
  | a :: t => a + sumZ t
theorem sumZ_append (a b : List Int) : sumZ (a ++ b) = sumZ a + sumZ b := by
  induction a with
  | nil => simp [sumZ]
  | cons x t ih => simp only [List.cons_append, sumZ, ih]; omega
theorem sumZ_nonneg (l : List Int) (h : ∀ x ∈ l, 0 ≤ x) : 0 ≤ sumZ l := by
  induction l with
  | nil => simp [sumZ]
  | cons a t ih =>
    have := ih (fun x hx => h x (List.mem_cons_of_mem _ hx))
    have := h a (by simp)
    simp only [sumZ]; omega
theorem sumZ_neg (l : List Int) : sumZ (l.map fun x => -x) = -sumZ l := by
  induction l with
  | nil => simp [sumZ]
  | cons a t ih => simp only [List.map_cons, sumZ, ih]; omega
theorem sumZ_le (l : List Int) (c : Int) (h : ∀ x ∈ l, x ≤ c) : sumZ l ≤ c * l.length := by
  induction l with
  | nil => simp [sumZ]
  | cons a t ih =>
    have h1 := ih (fun x hx => h x (List.mem_cons_of_mem _ hx))
    have h2 := h a (by simp)
    simp only [sumZ, List.length_cons]
    rw [Int.natCast_add, Int.mul_add]
    simp
    omega
/-- One more at the places that f names. -/
theorem sumZ_bump (f : Nat → Bool) : ∀ (n : Nat) (l : List Int), l.length = n → sumZ (l.mapIdx fun i x => if f i = true then x + 1 else x) = sumZ l + ((List.range n).countP f : Nat) := by
  intro n
  induction n with
  | zero =>
    intro l hl
    have : l = [] := List.eq_nil_of_length_eq_zero hl
    subst this
    simp [sumZ]
  | succ n ih =>
    intro l hl
    obtain ⟨t, a, rfl⟩ : ∃ t a, l = t ++ [a] := by
      refine ⟨l.dropLast, l.getLast (by intro h; subst h; simp at hl), (List.dropLast_concat_getLast _).symm⟩
    have ht : t.length = n := by simp at hl; exact hl
    rw [List.mapIdx_concat, sumZ_append, sumZ_append, ih t ht, List.range_succ, List.countP_append, ht]
    simp only [sumZ]
    by_cases c : f n = true
    · simp [c]; omega
    · simp [c]; omega

/-- There is an order's row. -/
theorem order_ex (r : Nat → Int) (n : Nat) : ∃ d : Array Nat, ((List.range n).map fun k => d[k]!).Perm (List.range n) ∧ ∀ i, i < n → rankOf r n d[i]! = i := by
  have hid : ∀ k, k < n → (Array.range n)[k]! = k := fun k hk => by rw [getElem!_pos _ k (by simpa using hk)]; simp
  obtain ⟨s, p⟩ := ins_block r 0 n (Array.range n) (Nat.zero_le _) (by simp) (fun a b h1 h2 h3 => by rw [hid a (by omega), hid b h3]; exact h2)
  have hp := perm_ids (n := n) (d := Array.range n) (by simp) hid p
  exact ⟨_, hp, fun i hi => rank_at r n _ (by rw [p.1]; simp) s hp i hi⟩
theorem rank_count (r : Nat → Int) (n left : Nat) (h : left ≤ n) : (List.range n).countP (fun i => decide (rankOf r n i < left)) = left := by
  obtain ⟨d, hp, hr⟩ := order_ex r n
  rw [← hp.countP_eq]
  refine count_map_range _ n _ left h (fun k hk => ?_) (fun k hk hk' => ?_)
  · rw [hr k (by omega)]; simpa using hk
  · rw [hr k hk']; simpa using hk
theorem give_sum (r : Nat → Int) (l : List Int) (left : Nat) (h : left ≤ l.length) : sumZ (giveOf r l left) = sumZ l + (left : Int) := by
  have e : giveOf r l left = l.mapIdx fun i x => if (fun i => decide (rankOf r l.length i < left)) i = true then x + 1 else x := by
    unfold giveOf
    simp
  rw [e, sumZ_bump _ l.length l rfl, rank_count r l.length left h]

def outsOf (n all : Int) (w : List Int) : List Int := w.map fun a => n * a / all
def restsOf (n all : Int) (w : List Int) : List Int := w.map fun a => n * a % all
theorem outs_len (n all : Int) (w : List Int) : (outsOf n all w).length = w.length := by simp [outsOf]
/-- The parts, without the sign. -/
def partsOf (n : Int) (w : List Int) : List Int := giveOf (restOf (restsOf n (sumZ w) w)) (outsOf n (sumZ w) w) (n - sumZ (outsOf n (sumZ w) w)).toNat
def spreadOf (x : Int) (w : List Int) : List Int := if x < 0 then (partsOf (x.natAbs : Int) w).map (fun y => -y) else partsOf (x.natAbs : Int) w

theorem left_eq (n all : Int) (h : 0 < all) (w : List Int) : all * (sumZ (outsOf n all w)) + sumZ (restsOf n all w) = n * sumZ w := by
  induction w with
  | nil => simp [outsOf, restsOf, sumZ]
  | cons a t ih =>
    unfold outsOf restsOf at ih ⊢
    simp only [List.map_cons, sumZ]
    rw [Int.mul_add, Int.mul_add]
    have := Int.emod_add_mul_ediv (n * a) all
    omega
theorem rests_bound (n all : Int) (h : 0 < all) (w : List Int) : 0 ≤ sumZ (restsOf n all w) ∧ sumZ (restsOf n all w) + w.length ≤ all * w.length := by
  induction w with
  | nil => simp [restsOf, sumZ]
  | cons a t ih =>
    unfold restsOf at ih ⊢
    simp only [List.map_cons, sumZ, List.length_cons]
    have h1 := Int.emod_nonneg (n * a) (by omega : all ≠ 0)
    have h2 := Int.emod_lt_of_pos (n * a) h
    rw [Int.natCast_add, Int.mul_add]
    simp
    omega
theorem left_bound (n : Int) (w : List Int) (h : 0 < sumZ w) (hn : 0 ≤ n) : 0 ≤ n - sumZ (outsOf n (sumZ w) w) ∧ n - sumZ (outsOf n (sumZ w) w) ≤ w.length := by
  have h1 := left_eq n (sumZ w) h w
  obtain ⟨h2, h3⟩ := rests_bound n (sumZ w) h w
  generalize sumZ (restsOf n (sumZ w) w) = R at h1 h2 h3
  generalize sumZ (outsOf n (sumZ w) w) = O at h1 ⊢
  generalize sumZ w = a at h h1 h3
  have e : a * (n - O) = R := by rw [Int.mul_sub, Int.mul_comm a n]; omega
  constructor
  · apply Classical.byContradiction
    intro hc
    have : a * (n - O) ≤ a * (-1) := Int.mul_le_mul_of_nonneg_left (by omega) (by omega)
    omega
  · apply Classical.byContradiction
    intro hc
    have : a * ((w.length : Int) + 1) ≤ a * (n - O) := Int.mul_le_mul_of_nonneg_left (by omega) (by omega)
    rw [Int.mul_add] at this
    omega
theorem parts_sum (n : Int) (w : List Int) (h : 0 < sumZ w) (hn : 0 ≤ n) : sumZ (partsOf n w) = n := by
  obtain ⟨h1, h2⟩ := left_bound n w h hn
  unfold partsOf
  rw [give_sum _ _ _ (by rw [outs_len]; omega)]
  omega
theorem spread_sum (x : Int) (w : List Int) (h : 0 < sumZ w) : sumZ (spreadOf x w) = x := by
  unfold spreadOf
  have := parts_sum (x.natAbs : Int) w h (by omega)
  split
  · rw [sumZ_neg, this]; omega
  · rw [this]; omega
theorem parts_len (n : Int) (w : List Int) : (partsOf n w).length = w.length := by
  unfold partsOf
  rw [giveOf_len]
  simp [outsOf]
theorem spread_len (x : Int) (w : List Int) : (spreadOf x w).length = w.length := by
  unfold spreadOf
  split <;> simp [parts_len]
theorem parts_at_ex (n : Int) (w : List Int) (i : Nat) (a : Int) (h : w[i]? = some a) : ∃ p, (partsOf n w)[i]? = some p ∧ (p = n * a / sumZ w ∨ p = n * a / sumZ w + 1) := by
  obtain ⟨hi, rfl⟩ := List.getElem?_eq_some_iff.1 h
  have hl : i < (outsOf n (sumZ w) w).length := by simpa [outsOf] using hi
  refine ⟨(giveOf (restOf (restsOf n (sumZ w) w)) (outsOf n (sumZ w) w) (n - sumZ (outsOf n (sumZ w) w)).toNat)[i]'(by rw [giveOf_len]; exact hl), List.getElem?_eq_getElem _, ?_⟩
  rw [giveOf_at _ _ _ _ hl]
  have e : (outsOf n (sumZ w) w)[i] = n * w[i] / sumZ w := by simp [outsOf]
  rw [e]
  split
  · exact .inr rfl
  · exact .inl rfl

theorem spread_l2_ev (l : List Int) (hl : l.length ≤ 1000) (hb : ∀ x ∈ l, -9223372036854775807 ≤ x ∧ x ≤ 9223372036854775807) : ∀ (d i : Nat) (cur : List Int), i + d = l.length → cur = (l.take i).map (fun y => -y) ++ l.drop i → Ev (fun k => money_Spread.l2 k cur (l.length : Int) (i : Int)) (l.map (fun y => -y), 0) := by
  intro d
  induction d with
  | zero =>
    intro i cur hi hc
    refine Ev.shift (fun k => by rw [money_Spread.l2]) ?_
    refine (Ev.neg (by omega) Ev.now).res ?_
    rw [hc, List.take_of_length_le (by omega), List.drop_of_length_le (by omega), List.append_nil]
  | succ d ih =>
    intro i cur hi hc
    have hlt : i < l.length := by omega
    have hcl : cur.length = l.length := by rw [hc]; simp; omega
    have hg : cur[i]? = some l[i] := by
      rw [hc, List.getElem?_append_right (by simp; omega)]
      simp [List.getElem?_drop, hlt]
      rw [show i + (i - min i l.length) = i by omega, List.getElem?_eq_getElem hlt]
    have hbi := hb l[i] (List.getElem_mem hlt)
    refine Ev.shift (fun k => by rw [money_Spread.l2]) ?_
    refine Ev.pos (by omega) (Ev.pos (by omega) (Ev.pos (by omega) ?_))
    rw [rdi hg, w64 (x := -l[i]) (by omega) (by omega), show wrap64 ((i : Int) + 1) = ((i + 1 : Nat) : Int) by rw [w64 (by omega) (by omega)]; rfl, Int.toNat_natCast]
    refine ih (i + 1) _ (by omega) ?_
    rw [hc]
    apply List.ext_getElem?
    intro j
    rw [List.getElem?_set]
    by_cases e : i = j
    · subst e
      rw [if_pos rfl, if_pos (by simp; omega), List.getElem?_append_left (by simp; omega)]
      simp [List.getElem?_take, hlt]
    · rw [if_neg e, List.getElem?_append, List.getElem?_append]
      simp only [List.length_map, List.length_take]
      by_cases c1 : j < i
      · rw [if_pos (by omega), if_pos (by omega)]
        simp [List.getElem?_take, c1, show j < i + 1 by omega]
      · rw [if_neg (by omega), if_neg (by omega), List.getElem?_drop, List.getElem?_drop]
        congr 1
        omega

theorem mul64_f (a b : Int) (ha : 0 ≤ a ∧ a ≤ 100000000000) (hb : 0 ≤ b ∧ b ≤ 1048576) : bits_Mul64.f a b = some (0, a * b) ∧ 0 ≤ a * b ∧ a * b ≤ 104857600000000000 := by
  have h0 : 0 ≤ a * b := Int.mul_nonneg ha.1 hb.1
  have h1 : a * b ≤ 100000000000 * 1048576 := Int.le_trans (Int.mul_le_mul_of_nonneg_right ha.2 hb.1) (Int.mul_le_mul_of_nonneg_left hb.2 (by decide))
  refine ⟨?_, h0, by omega⟩
  unfold bits_Mul64.f
  rw [if_pos (by omega)]
  generalize a * b = p at h0 h1 ⊢
  congr 2 <;> omega

theorem spread_l1_ev (x n all : Int) (hx : (x.natAbs : Int) = n) (hn : n ≤ 100000000000) (w : List Int) (hw : ∀ a ∈ w, 0 ≤ a ∧ a ≤ 1048576) (hwl : w.length ≤ 64) (hw0 : 0 < w.length) (hall : all = sumZ w) (ha0 : 0 < all) :
    ∀ (t : List Int) (i : Nat) (out rest : List Int) (left : Int), w.drop i = t → i ≤ w.length → out = outsOf n all (w.take i) ++ List.replicate (w.length - i) 0 → rest = restsOf n all (w.take i) ++ List.replicate (w.length - i) 0 → left = n - sumZ (outsOf n all (w.take i)) →
    Ev (fun k => money_Spread.l1 k x all n out rest left w (w.length : Int) (i : Int)) (spreadOf x w, 0)
  | [], i, out, rest, left, h, hi, ho, hr, hlf => by
    have hi2 : w.length ≤ i := by simpa using h
    have hn0 : 0 ≤ n := by omega
    rw [List.take_of_length_le hi2] at ho hr hlf
    rw [show w.length - i = 0 by omega, List.replicate_zero, List.append_nil] at ho hr
    subst hall
    obtain ⟨b1, b2⟩ := left_bound n w ha0 hn0
    rw [← hlf] at b1 b2
    have hob : ∀ y ∈ outsOf n (sumZ w) w, 0 ≤ y ∧ y ≤ 104857600000000000 := by
      intro y hy
      obtain ⟨a, ha, rfl⟩ := List.mem_map.1 hy
      obtain ⟨_, m1, m2⟩ := mul64_f n a ⟨hn0, hn⟩ (hw a ha)
      exact ⟨Int.ediv_nonneg m1 (by omega), Int.le_trans (Int.ediv_le_self _ m1) m2⟩
    have hg : money_give.f out rest left = some (partsOf n w) := by
      unfold money_give.f
      rw [ho, hr, if_pos]
      · unfold partsOf
        rw [hlf]
      · refine ⟨by simp [outsOf, restsOf], by simp [restsOf]; omega, by simp [restsOf]; omega, b1, by simp [restsOf]; omega, fun y hy => ?_⟩
        have := hob y hy
        omega
    refine Ev.shift (fun k => by rw [money_Spread.l1]) ?_
    refine Ev.neg (by omega) (Ev.bindc hg ?_)
    unfold spreadOf
    rw [hx]
    by_cases c : x < 0
    · refine Ev.res ?_ (by rw [if_pos c])
      refine Ev.pos c ?_
      have hlen : (out.length : Int) = ((partsOf n w).length : Int) := by rw [ho, parts_len]; simp [outsOf]
      rw [hlen]
      refine spread_l2_ev (partsOf n w) (by rw [parts_len]; omega) (fun y hy => ?_) (partsOf n w).length 0 _ (by omega) (by simp)
      obtain ⟨j, hj⟩ := List.mem_iff_getElem?.1 hy
      have hjl : j < w.length := by have := (List.getElem?_eq_some_iff.1 hj).1; rwa [parts_len] at this
      obtain ⟨p, hp, hp2⟩ := parts_at_ex n w j w[j] (List.getElem?_eq_getElem hjl)
      rw [hj] at hp
      injection hp with hp
      subst hp
      have := hob (n * w[j] / sumZ w) (List.mem_map.2 ⟨w[j], List.getElem_mem hjl, rfl⟩)
      omega
    · refine Ev.res ?_ (by rw [if_neg c])
      exact Ev.neg c Ev.now
  | a :: t, i, out, rest, left, h, hi, ho, hr, hlf => by
    obtain ⟨h1, h2, h3⟩ := drop_cons_get h
    have hn0 : 0 ≤ n := by omega
    have hwa := hw a (List.mem_of_getElem? h1)
    obtain ⟨m0, m1, m2⟩ := mul64_f n a ⟨hn0, hn⟩ hwa
    have htk : w.take (i + 1) = w.take i ++ [a] := by rw [List.take_add_one, h1]; rfl
    have hallb : all ≤ 67108864 := by
      rw [hall]
      have := sumZ_le w 1048576 (fun y hy => (hw y hy).2)
      omega
    have hol : out.length = w.length := by rw [ho]; simp [outsOf]; omega
    have hrl : rest.length = w.length := by rw [hr]; simp [restsOf]; omega
    -- what is left stays at 0 or above
    have hl0 : 0 ≤ n - sumZ (outsOf n all (w.take (i + 1))) ∧ sumZ (outsOf n all (w.take i)) ≤ sumZ (outsOf n all (w.take (i + 1))) ∧ 0 ≤ sumZ (outsOf n all (w.take i)) := by
      have e1 : outsOf n all (w.take (i + 1)) = outsOf n all (w.take i) ++ [n * a / all] := by rw [htk]; simp [outsOf]
      have hq0 : 0 ≤ n * a / all := Int.ediv_nonneg m1 (by omega)
      have hs0 : 0 ≤ sumZ (outsOf n all (w.take i)) := sumZ_nonneg _ (fun y hy => by
        obtain ⟨b, hb, rfl⟩ := List.mem_map.1 hy
        obtain ⟨_, k1, _⟩ := mul64_f n b ⟨hn0, hn⟩ (hw b (List.mem_of_mem_take hb))
        exact Int.ediv_nonneg k1 (by omega))
      have hle := left_eq n all ha0 (w.take (i + 1))
      have hrb := (rests_bound n all ha0 (w.take (i + 1))).1
      have hws : sumZ (w.take (i + 1)) ≤ all := by
        rw [hall]
        have e : sumZ w = sumZ (w.take (i + 1)) + sumZ (w.drop (i + 1)) := by rw [← sumZ_append, List.take_append_drop]
        have := sumZ_nonneg (w.drop (i + 1)) (fun y hy => (hw y (List.mem_of_mem_drop hy)).1)
        omega
      have hnw : n * sumZ (w.take (i + 1)) ≤ n * all := Int.mul_le_mul_of_nonneg_left hws hn0
      refine ⟨?_, ?_, hs0⟩
      · apply Classical.byContradiction
        intro hc
        have : all * (n + 1) ≤ all * sumZ (outsOf n all (w.take (i + 1))) := Int.mul_le_mul_of_nonneg_left (by omega) (by omega)
        rw [Int.mul_add, Int.mul_comm all n] at this
        omega
      · rw [e1, sumZ_append]
        simp only [sumZ]
        omega
    have hq : n * a / all ≤ n * a := Int.ediv_le_self _ m1
    have hq0 : 0 ≤ n * a / all := Int.ediv_nonneg m1 (by omega)
    refine Ev.shift (fun k => by rw [money_Spread.l1]) ?_
    refine Ev.pos (by omega) (Ev.pos (by omega) (Ev.pos (by omega) ?_))
    rw [rdi h1, IntKind.wrap_u64, IntKind.wrap_u64, show a % 18446744073709551616 = a by omega, show all % 18446744073709551616 = all by omega]
    have ed : bits_Div64.f 0 (n * a) all = some (n * a / all, n * a % all) := by
      unfold bits_Div64.f
      rw [if_pos (by omega)]
    refine Ev.bindc m0 (Ev.bindc ed (Ev.pos (by omega) (Ev.pos (by omega) ?_)))
    have e1 : outsOf n all (w.take (i + 1)) = outsOf n all (w.take i) ++ [n * a / all] := by rw [htk]; simp [outsOf]
    have e2 : restsOf n all (w.take (i + 1)) = restsOf n all (w.take i) ++ [n * a % all] := by rw [htk]; simp [restsOf]
    have es : sumZ (outsOf n all (w.take (i + 1))) = sumZ (outsOf n all (w.take i)) + n * a / all := by rw [e1, sumZ_append]; simp [sumZ]
    have e3 : IntKind.u64.wrap (left - n * a / all) = left - n * a / all := by
      rw [IntKind.wrap_u64]; omega
    rw [show wrap64 ((i : Int) + 1) = ((i + 1 : Nat) : Int) by rw [w64 (by omega) (by omega)]; rfl, Int.toNat_natCast, w64 (x := n * a / all) (by omega) (by omega), e3]
    have hset : ∀ (p : List Int) (v : Int), p.length = i → (p ++ List.replicate (w.length - i) 0).set i v = (p ++ [v]) ++ List.replicate (w.length - (i + 1)) 0 := by
      intro p v hp
      rw [show w.length - i = (w.length - (i + 1)) + 1 by omega, List.replicate_succ, List.set_append_right _ _ (by omega), hp, Nat.sub_self, List.set_cons_zero]
      simp
    refine spread_l1_ev x n all hx hn w hw hwl hw0 hall ha0 t (i + 1) _ _ _ h2 (by omega) ?_ ?_ ?_
    · rw [ho, hset _ _ (by simp [outsOf]; omega), e1]
    · rw [hr, hset _ _ (by simp [restsOf]; omega), e2]
    · rw [es, hlf]; omega

def okW (a : Int) : Bool := decide (0 ≤ a) && decide (a ≤ 1048576)
theorem okW_iff (a : Int) : okW a = true ↔ 0 ≤ a ∧ a ≤ 1048576 := by simp [okW]
def spreadsOf (x : Int) (w : List Int) : List Int × Int := if w.all okW = true then (if sumZ w = 0 then ([], 1) else (spreadOf x w, 0)) else ([], 1)
theorem spread_l0_ev (x : Int) (hx : okAmt x = true) (w : List Int) (hwl : w.length ≤ 64) (hw0 : 0 < w.length) : ∀ (t : List Int) (i : Nat) (s : Int), w.drop i = t → i ≤ w.length → (∀ a ∈ w.take i, okW a = true) → s = sumZ (w.take i) →
    Ev (fun k => money_Spread.l0 k x w s w (w.length : Int) (i : Int)) (spreadsOf x w)
  | [], i, s, h, hi, hok, hs => by
    have hx' := (okAmt_iff x).1 hx
    have hi2 : w.length ≤ i := by simpa using h
    rw [List.take_of_length_le hi2] at hok hs
    have hall : w.all okW = true := List.all_eq_true.2 hok
    have hok' : ∀ a ∈ w, 0 ≤ a ∧ a ≤ 1048576 := fun a ha => (okW_iff a).1 (hok a ha)
    have h0 := sumZ_nonneg w (fun a ha => (hok' a ha).1)
    refine Ev.shift (fun k => by rw [money_Spread.l0]) ?_
    refine Ev.neg (by omega) ?_
    unfold spreadsOf
    refine Ev.res ?_ (if_pos hall).symm
    by_cases c : sumZ w = 0
    · exact (Ev.pos (by omega) Ev.now).res (if_pos c).symm
    · refine Ev.res ?_ (if_neg c).symm
      refine Ev.neg (by omega) (Ev.bindc (abs_f x (by omega) (by omega)) (Ev.pos (by omega) (Ev.pos (by omega) ?_)))
      rw [Int.toNat_natCast]
      exact spread_l1_ev x (x.natAbs : Int) s rfl (by omega) w hok' hwl hw0 hs (by omega) w 0 _ _ _ rfl (Nat.zero_le _) (by simp [outsOf]) (by simp [restsOf]) (by simp [outsOf, sumZ])
  | a :: t, i, s, h, hi, hok, hs => by
    obtain ⟨h1, h2, h3⟩ := drop_cons_get h
    have htk : w.take (i + 1) = w.take i ++ [a] := by rw [List.take_add_one, h1]; rfl
    have hsb : 0 ≤ s ∧ s ≤ 67108864 := by
      rw [hs]
      have hb : ∀ y ∈ w.take i, 0 ≤ y ∧ y ≤ 1048576 := fun y hy => (okW_iff y).1 (hok y hy)
      have g1 := sumZ_nonneg _ (fun y hy => (hb y hy).1)
      have g2 := sumZ_le _ 1048576 (fun y hy => (hb y hy).2)
      simp only [List.length_take] at g2
      omega
    have hbad : okW a = false → spreadsOf x w = ([], 1) := by
      intro hb
      unfold spreadsOf
      rw [if_neg]
      intro hall
      have := List.all_eq_true.1 hall a (List.mem_of_getElem? h1)
      rw [hb] at this
      cases this
    refine Ev.shift (fun k => by rw [money_Spread.l0]) ?_
    refine Ev.pos (by omega) (Ev.pos (by omega) (Ev.pos (by omega) ?_))
    rw [rdi h1]
    by_cases c1 : a < 0
    · exact (Ev.pos c1 Ev.now).res (hbad (Bool.eq_false_iff.2 fun h => by have := (okW_iff a).1 h; omega)).symm
    · refine Ev.neg c1 ?_
      by_cases c2 : a > 1048576
      · exact (Ev.pos c2 Ev.now).res (hbad (Bool.eq_false_iff.2 fun h => by have := (okW_iff a).1 h; omega)).symm
      · refine Ev.neg c2 ?_
        rw [show wrap64 ((i : Int) + 1) = ((i + 1 : Nat) : Int) by rw [w64 (by omega) (by omega)]; rfl, w64 (x := s + a) (by omega) (by omega)]
        refine spread_l0_ev x hx w hwl hw0 t (i + 1) (s + a) h2 (by omega) (fun y hy => ?_) ?_
        · rw [htk] at hy
          rcases List.mem_append.1 hy with hy | hy
          · exact hok y hy
          · simp at hy; subst hy; exact (okW_iff _).2 (by omega)
        · rw [htk, sumZ_append, ← hs]
          simp [sumZ]
theorem spread_ev (x : Int) (w : List Int) (hwl : w.length ≤ 1000) : Ev (fun k => money_Spread.f k x w) (if okAmt x = true then (if w.length = 0 ∨ 64 < w.length then ([], 2) else spreadsOf x w) else ([], 10)) := by
  unfold money_Spread.f
  refine Ev.bind (mright_ev [x] (by simp)) ?_
  by_cases c : okAmt x = true
  · refine Ev.res ?_ (if_pos c).symm
    refine Ev.pos (by simp [c]) ?_
    have hj : Ev (fun k => money_Spread.j0 k x w true) ([], 2) := by
      refine Ev.shift (fun k => by rw [money_Spread.j0]) ?_
      exact Ev.pos rfl Ev.now
    by_cases c0 : w.length = 0
    · exact (Ev.pos (by omega) hj).res (if_pos (.inl c0)).symm
    · refine Ev.neg (by omega) ?_
      by_cases c1 : 64 < w.length
      · rw [decide_eq_true (show (w.length : Int) > 64 by omega)]
        exact hj.res (if_pos (.inr c1)).symm
      · rw [decide_eq_false (show ¬(w.length : Int) > 64 by omega)]
        refine Ev.res ?_ (if_neg (fun h => h.elim c0 c1)).symm
        refine Ev.shift (fun k => by rw [money_Spread.j0]) ?_
        exact Ev.neg (by decide) (spread_l0_ev x c w (by omega) (by omega) w 0 0 rfl (Nat.zero_le _) (by simp) (by simp [sumZ]))
  · refine Ev.res ?_ (if_neg c).symm
    exact Ev.neg (by simp [c]) Ev.now
end Go.Proofs.YtmocphafkimdpaaDoor.P


-- written by a program (a patched copy of the kit's print: wip/mkprint.py); Lean checks it
namespace Go.Proofs.YtmocphafkimdpaaDoor.P
open Go.RowKit Go.Proofs.YtmocphafkimdpaaDoorW.PrintWords Go.Proofs.YtmocphafkimdpaaDoorW.PrintLast Go.Proofs.YtmocphafkimdpaaDoorW.PrintMore
attribute [local go_sem] max2_int min2_int max_two min_two max_three min_three max_four min_four   -- for this text's walks alone
set_option linter.unusedVariables false
set_option linter.unusedSimpArgs false

/-! ### money_Sum: function 44 -/
def money_Sum.l0 : Nat → Int → List Int → Int → Int → Option (Int × Int)
 | 0, _, _, _, _ => none
 | k + 1, x4, x9, x10, x11 => if x11 < x10 then (if 0 ≤ x11 then (if x11 < (x9.length : Int) then ((money_Add.f k x4 (rd x9 x11)).bind fun bt384 => (if bt384.2 = 0 then (money_Sum.l0 k bt384.1 x9 x10 (wrap64 (x11 + 1))) else (some (0, bt384.2)))) else (none)) else (none)) else (some (x4, 0))
def money_Sum.f (k : Nat) (l0 : List Int) : Option (Int × Int) := money_Sum.l0 k 0 l0 (l0.length : Int) 0
theorem money_Sum.mono_l : ∀ k, (∀ y0 y1 y2 y3, LeO (money_Sum.l0 k y0 y1 y2 y3) (money_Sum.l0 (k + 1) y0 y1 y2 y3))
 | 0 => fun _ _ _ _ r h => by simp [money_Sum.l0] at h
 | k + 1 => by
  have ih0 := money_Sum.mono_l k
  ·intro y0 y1 y2 y3
   unfold money_Sum.l0
   repeat' first
   | (with_reducible exact ih0 _ _ _ _)
   | (with_reducible exact money_Add.mono _ _ _)
   | (with_reducible exact LeO.refl _)
   | (with_reducible exact LeO.none _)
   | (with_reducible refine LeO.ite ?_ ?_)
   | (with_reducible refine LeO.bind ?_ (fun _ => ?_))
   | exact ih0 _ _ _ _
   | exact money_Add.mono _ _ _
   | exact LeO.none _
   | refine LeO.ite ?_ ?_
   | refine LeO.bind ?_ (fun _ => ?_)
theorem money_Sum.mono : ∀ a0 k, LeO (money_Sum.f k a0) (money_Sum.f (k + 1) a0) := by
 intro a0 k
 have ih0 := money_Sum.mono_l k
 unfold money_Sum.f
 repeat' first
   | (with_reducible exact ih0 _ _ _ _)
   | (with_reducible exact money_Add.mono _ _ _)
   | (with_reducible exact LeO.refl _)
   | (with_reducible exact LeO.none _)
   | (with_reducible refine LeO.ite ?_ ?_)
   | (with_reducible refine LeO.bind ?_ (fun _ => ?_))
   | exact ih0 _ _ _ _
   | exact money_Add.mono _ _ _
   | exact LeO.none _
   | refine LeO.ite ?_ ?_
   | refine LeO.bind ?_ (fun _ => ?_)
set_option maxHeartbeats 8000000 in
set_option maxRecDepth 100000 in
theorem money_Sum.calls (k : Nat) (A0 : Option Addr) (c0 : Nat) (l0 : List Int) (r1 : Int) (r2 : Int) (w : World) (hr0 : Kd.C (Kd.int .i64) w A0 l0.length l0) (hc0 : l0.length ≤ c0) (h : money_Sum.f k l0 = some (r1, r2)) :
  Calls Tryd.prog 44 #[.slice A0 l0.length c0] w fun e w' => e = .returned (.tuple #[.int .i64 r1, .int .i64 r2]) ∧ Below w.heap.size w w' := by
 have HR0 := Aside0.mk hr0
 have HC0 := Aside0.mk hc0
 clear hr0 hc0
 have HB := Aside0.mk (Below.refl w.heap.size w)
 have H : (money_Sum.l0 k 0 l0 (l0.length : Int) 0) = some (r1, r2) := h
 clear h
 have H' := Aside0.mk H
 clear H
 go_enter Tryd.func44, Tryd.ntmps44
 go_wp2
 go_loopg [4, 11] k (fun kq v4 v11 w' => ∃ (x4_1 : Int) (x11_1 : Int), v4 = .int .i64 x4_1 ∧ v11 = .int .i64 x11_1 ∧ Aside0 (money_Sum.l0 kq x4_1 l0 (l0.length : Int) x11_1 = some (r1, r2)) ∧ Aside0 (kq ≤ k) ∧ Aside0 (Below w.heap.size w w'))
 case atStart => exact ⟨(0), (0), (by first | rfl | (simp; done) | (simp [*]; done)), (by first | rfl | (simp; done) | (simp [*]; done)), H', ⟨Nat.le_refl _⟩, ⟨by repeat (first | (with_reducible first | exact HB.out | apply below_alloc | apply pw_below_drewN | apply below_drew1) | exact HB.out)⟩⟩
 case round =>
  clear H'
  obtain ⟨x4_1, x11_1, rfl, rfl, HA, HK1, HB⟩ := hrel
  cases gk with
  | zero => exact absurd HA.out (by simp [money_Sum.l0])
  | succ k1 =>
   have H := HA.out
   clear HA
   simp only [money_Sum.l0] at H
   by_cases c2 : x11_1 < (l0.length : Int)
   ·rw [if_pos c2] at H
    have c2b0 : decide (x11_1 < (l0.length : Int)) = true := decide_eq_true c2
    clear c2
    by_cases c3 : 0 ≤ x11_1
    ·rw [if_pos c3] at H
     have c3b0 : decide (0 ≤ x11_1) = true := decide_eq_true c3
     clear c3
     by_cases c4 : x11_1 < (l0.length : Int)
     ·rw [if_pos c4] at H
      have c4b0 : decide (x11_1 < (l0.length : Int)) = true := decide_eq_true c4
      clear c4
      replace H := Option.bind_eq_some_iff.mp H
      obtain ⟨⟨t384, t385⟩, A50, H⟩ := H
      replace H : (if t385 = 0 then (money_Sum.l0 k1 t384 l0 (l0.length : Int) (wrap64 (x11_1 + 1))) else (some (0, t385))) = some (r1, r2) := H
      have A5 := Aside0.mk A50
      clear A50
      by_cases c6 : t385 = 0
      ·rw [if_pos c6] at H
       have c6b0 : (t385 == 0) = true := beq_iff_eq.mpr c6
       have c6b1 : (t385 != 0) = false := bne_eq_false_iff_eq.mpr c6
       clear c6
       have H' := Aside0.mk H
       clear H
       have p383 : 0 ≤ (x11_1 : Int) := of_decide_eq_true (by first | (with_reducible assumption) | assumption)
       have q383 : x11_1 < (l0.length : Int) := of_decide_eq_true (by first | (with_reducible assumption) | assumption)
       obtain ⟨ad383, e383, hx383_0⟩ := Kd.at_int HR0.out x11_1 p383 q383
       cases e383
       replace hx383_0 := (HB.out.cell (World.block_lt_of_cell? w _ hx383_0)).trans hx383_0
       replace p383 := eq_true p383
       replace q383 := eq_true q383
       go_wp2_with (first | ((with_reducible refine gate_callee (f := 34) rfl ?_); refine goesL_ (some 18) rfl rfl Tryd.func34 (by kernel_rfl) rfl #[.int .i64 x4_1, .int .i64 (rd l0 x11_1)] rfl (by (try simp only [List.map_toArray, List.map_cons, List.map_nil]); first | done | rfl | (simp only [List.length_drop, List.length_take]; rfl)) ?_; (with_reducible refine (money_Add.calls k1 x4_1 (rd l0 x11_1) t384 t385 _ A5.out).mono ?_); rintro e w7 ⟨rfl, hb⟩; refine ⟨_, rfl, ?_⟩; have n0_ := Aside0.mk (below_step (by repeat (first | (with_reducible first | exact HB.out | apply below_alloc | apply pw_below_drewN | apply below_drew1) | exact HB.out)) hb); clear HB; have HB := n0_; clear n0_; (try clear hb); (try clear hb2); (try clear hk); (try clear hi)))
       go_roundg k1
       case measure => have := HK1.out; omega
       case rel => exact ⟨(t384), (wrap64 (x11_1 + 1)), (by first | rfl | (simp; done) | (simp [*]; done)), (by first | rfl | (simp; done) | (simp [*]; done)), H', ⟨by have := HK1.out; omega⟩, ⟨by repeat (first | (with_reducible first | exact HB.out | apply below_alloc | apply pw_below_drewN | apply below_drew1) | exact HB.out)⟩⟩
      ·rw [if_neg c6] at H
       have c6b0 : (t385 == 0) = false := beq_eq_false_iff_ne.mpr c6
       have c6b1 : (t385 != 0) = true := bne_iff_ne.mpr c6
       simp only [Option.some.injEq, Prod.mk.injEq] at H
       obtain ⟨rfl, rfl⟩ := H
       have p383 : 0 ≤ (x11_1 : Int) := of_decide_eq_true (by first | (with_reducible assumption) | assumption)
       have q383 : x11_1 < (l0.length : Int) := of_decide_eq_true (by first | (with_reducible assumption) | assumption)
       obtain ⟨ad383, e383, hx383_0⟩ := Kd.at_int HR0.out x11_1 p383 q383
       cases e383
       replace hx383_0 := (HB.out.cell (World.block_lt_of_cell? w _ hx383_0)).trans hx383_0
       replace p383 := eq_true p383
       replace q383 := eq_true q383
       go_wp2_with (first | ((with_reducible refine gate_callee (f := 34) rfl ?_); refine goesL_ (some 18) rfl rfl Tryd.func34 (by kernel_rfl) rfl #[.int .i64 x4_1, .int .i64 (rd l0 x11_1)] rfl (by (try simp only [List.map_toArray, List.map_cons, List.map_nil]); first | done | rfl | (simp only [List.length_drop, List.length_take]; rfl)) ?_; (with_reducible refine (money_Add.calls k1 x4_1 (rd l0 x11_1) t384 t385 _ A5.out).mono ?_); rintro e w8 ⟨rfl, hb⟩; refine ⟨_, rfl, ?_⟩; have n0_ := Aside0.mk (below_step (by repeat (first | (with_reducible first | exact HB.out | apply below_alloc | apply pw_below_drewN | apply below_drew1) | exact HB.out)) hb); clear HB; have HB := n0_; clear n0_; (try clear hb); (try clear hb2); (try clear hk); (try clear hi)))
       go_ret2
       exact ⟨by first | rfl | (simp [errW_none, errW_some] <;> rfl) | (simp [*, errW_none, errW_some] <;> rfl), by repeat (first | (with_reducible first | exact HB.out | apply below_alloc | apply pw_below_drewN | apply below_drew1) | exact HB.out)⟩
     ·rw [if_neg c4] at H
      exact absurd H (by simp)
    ·rw [if_neg c3] at H
     exact absurd H (by simp)
   ·rw [if_neg c2] at H
    have c2b0 : decide (x11_1 < (l0.length : Int)) = false := decide_eq_false c2
    clear c2
    simp only [Option.some.injEq, Prod.mk.injEq] at H
    obtain ⟨rfl, rfl⟩ := H
    go_wp2
    go_ret2
    exact ⟨by first | rfl | (simp [errW_none, errW_some] <;> rfl) | (simp [*, errW_none, errW_some] <;> rfl), by repeat (first | (with_reducible first | exact HB.out | apply below_alloc | apply pw_below_drewN | apply below_drew1) | exact HB.out)⟩

end Go.Proofs.YtmocphafkimdpaaDoor.P


-- written by a program (a patched copy of the kit's print: wip/mkprint.py); Lean checks it
namespace Go.Proofs.YtmocphafkimdpaaDoor.P
open Go.RowKit Go.Proofs.YtmocphafkimdpaaDoorW.PrintWords Go.Proofs.YtmocphafkimdpaaDoorW.PrintLast Go.Proofs.YtmocphafkimdpaaDoorW.PrintMore
attribute [local go_sem] max2_int min2_int max_two min_two max_three min_three max_four min_four   -- for this text's walks alone
set_option linter.unusedVariables false
set_option linter.unusedSimpArgs false

/-! ### stipendlaw01_MoneySums: function 18 -/
def stipendlaw01_MoneySums.l0 : Nat → Int → Int → Int → List Int → Int → Int → Option (Bool)
 | 0, _, _, _, _, _, _ => none
 | k + 1, x3, x4, x5, x18, x19, x20 => if x20 < x19 then (if 0 ≤ x20 then (if x20 < (x18.length : Int) then ((stipendref01_Right.f (rd x18 x20)).bind fun t643 => (if t643 = true then ((stipendref01_Right.f (wrap64 (x5 + (rd x18 x20)))).bind fun t644 => (if t644 = true then (stipendlaw01_MoneySums.l0 k x3 x4 (wrap64 (x5 + (rd x18 x20))) x18 x19 (wrap64 (x20 + 1))) else (if x4 = 10 then (some (x3 == 0)) else (some false)))) else (if x4 = 10 then (some (x3 == 0)) else (some false)))) else (none)) else (none)) else (if x4 = 0 then (some (x3 == x5)) else (some false))
def stipendlaw01_MoneySums.f (k : Nat) (l0 : List Int) : Option (Bool) := (stipendlaw01_counts.f k).bind fun t639 => (if t639 = true then (if (l0.length : Int) > 100 then (some true) else ((money_Sum.f k l0).bind fun bt640 => (stipendlaw01_MoneySums.l0 k bt640.1 bt640.2 0 l0 (l0.length : Int) 0))) else (some false))
theorem stipendlaw01_MoneySums.mono_l : ∀ k, (∀ y0 y1 y2 y3 y4 y5, LeO (stipendlaw01_MoneySums.l0 k y0 y1 y2 y3 y4 y5) (stipendlaw01_MoneySums.l0 (k + 1) y0 y1 y2 y3 y4 y5))
 | 0 => fun _ _ _ _ _ _ r h => by simp [stipendlaw01_MoneySums.l0] at h
 | k + 1 => by
  have ih0 := stipendlaw01_MoneySums.mono_l k
  ·intro y0 y1 y2 y3 y4 y5
   unfold stipendlaw01_MoneySums.l0
   repeat' first
   | (with_reducible exact ih0 _ _ _ _ _ _)
   | (with_reducible exact money_Sum.mono _ _)
   | (with_reducible exact stipendlaw01_counts.mono _)
   | (with_reducible exact LeO.refl _)
   | (with_reducible exact LeO.none _)
   | (with_reducible refine LeO.ite ?_ ?_)
   | (with_reducible refine LeO.bind ?_ (fun _ => ?_))
   | exact ih0 _ _ _ _ _ _
   | exact money_Sum.mono _ _
   | exact stipendlaw01_counts.mono _
   | exact LeO.none _
   | refine LeO.ite ?_ ?_
   | refine LeO.bind ?_ (fun _ => ?_)
theorem stipendlaw01_MoneySums.mono : ∀ a0 k, LeO (stipendlaw01_MoneySums.f k a0) (stipendlaw01_MoneySums.f (k + 1) a0) := by
 intro a0 k
 have ih0 := stipendlaw01_MoneySums.mono_l k
 unfold stipendlaw01_MoneySums.f
 repeat' first
   | (with_reducible exact ih0 _ _ _ _ _ _)
   | (with_reducible exact money_Sum.mono _ _)
   | (with_reducible exact stipendlaw01_counts.mono _)
   | (with_reducible exact LeO.refl _)
   | (with_reducible exact LeO.none _)
   | (with_reducible refine LeO.ite ?_ ?_)
   | (with_reducible refine LeO.bind ?_ (fun _ => ?_))
   | exact ih0 _ _ _ _ _ _
   | exact money_Sum.mono _ _
   | exact stipendlaw01_counts.mono _
   | exact LeO.none _
   | refine LeO.ite ?_ ?_
   | refine LeO.bind ?_ (fun _ => ?_)
set_option maxHeartbeats 8000000 in
set_option maxRecDepth 100000 in
theorem stipendlaw01_MoneySums.calls (k : Nat) (A0 : Option Addr) (c0 : Nat) (l0 : List Int) (r : Bool) (w : World) (hr0 : Kd.C (Kd.int .i64) w A0 l0.length l0) (hc0 : l0.length ≤ c0) (h : stipendlaw01_MoneySums.f k l0 = some r) (hG : GTab w := by first | exact GTab.below HG.out (by repeat (first | (with_reducible first | exact HB.out | apply below_alloc | apply pw_below_drewN | apply below_drew1 | apply below_drew) | exact HB.out)) | exact HG.out) :
  Calls Tryd.prog 18 #[.slice A0 l0.length c0] w fun e w' => e = .returned (.bool r) ∧ Below w.heap.size w w' := by
 have HG := Aside0.mk hG; clear hG
 have HR0 := Aside0.mk hr0
 have HC0 := Aside0.mk hc0
 clear hr0 hc0
 have HB := Aside0.mk (Below.refl w.heap.size w)
 have H : ((stipendlaw01_counts.f k).bind fun t639 => (if t639 = true then (if (l0.length : Int) > 100 then (some true) else ((money_Sum.f k l0).bind fun bt640 => (stipendlaw01_MoneySums.l0 k bt640.1 bt640.2 0 l0 (l0.length : Int) 0))) else (some false))) = some r := h
 clear h
 replace H := Option.bind_eq_some_iff.mp H
 obtain ⟨t639, A20, H⟩ := H
 replace H : (if t639 = true then (if (l0.length : Int) > 100 then (some true) else ((money_Sum.f k l0).bind fun bt640 => (stipendlaw01_MoneySums.l0 k bt640.1 bt640.2 0 l0 (l0.length : Int) 0))) else (some false)) = some r := H
 have A2 := Aside0.mk A20
 clear A20
 by_cases c3 : t639 = true
 ·subst c3
  have H1 : (if (l0.length : Int) > 100 then (some true) else ((money_Sum.f k l0).bind fun bt640 => (stipendlaw01_MoneySums.l0 k bt640.1 bt640.2 0 l0 (l0.length : Int) 0))) = some r := by rw [if_pos rfl] at H; exact H
  clear H
  have H := H1
  clear H1
  by_cases c4 : (l0.length : Int) > 100
  ·rw [if_pos c4] at H
   have c4b0 : decide (100 < (l0.length : Int)) = true := decide_eq_true c4
   have c4b1 : decide (100 < l0.length) = true := decide_eq_true (by omega)
   clear c4
   obtain rfl := Option.some.inj H
   go_enter Tryd.func18, Tryd.ntmps18
   go_wp2_with (first | ((with_reducible refine gate_callee (f := 57) rfl ?_); refine goesL_ (some 8) rfl rfl Tryd.func57 (by kernel_rfl) rfl #[] rfl (by (try simp only [List.map_toArray, List.map_cons, List.map_nil]); first | done | rfl | (simp only [List.length_drop, List.length_take]; rfl)) ?_; (with_reducible refine (stipendlaw01_counts.calls k  true _ A2.out).mono ?_); rintro e w5 ⟨rfl, hb⟩; refine ⟨_, rfl, ?_⟩; have n0_ := Aside0.mk (below_step (by repeat (first | (with_reducible first | exact HB.out | apply below_alloc | apply pw_below_drewN | apply below_drew1) | exact HB.out)) hb); clear HB; have HB := n0_; clear n0_; (try clear hb); (try clear hb2); (try clear hk); (try clear hi)))
   go_ret
   exact ⟨by first | rfl | (simp [errW_none, errW_some] <;> rfl) | (simp [*, errW_none, errW_some] <;> rfl), by repeat (first | (with_reducible first | exact HB.out | apply below_alloc | apply pw_below_drewN | apply below_drew1) | exact HB.out)⟩
  ·rw [if_neg c4] at H
   have c4b0 : decide (100 < (l0.length : Int)) = false := decide_eq_false c4
   have c4b1 : decide (100 < l0.length) = false := decide_eq_false (by omega)
   clear c4
   replace H := Option.bind_eq_some_iff.mp H
   obtain ⟨⟨t640, t641⟩, A60, H⟩ := H
   replace H : (stipendlaw01_MoneySums.l0 k t640 t641 0 l0 (l0.length : Int) 0) = some r := H
   have A6 := Aside0.mk A60
   clear A60
   have H' := Aside0.mk H
   clear H
   go_enter Tryd.func18, Tryd.ntmps18
   go_wp2_with (first | ((with_reducible refine gate_callee (f := 57) rfl ?_); refine goesL_ (some 8) rfl rfl Tryd.func57 (by kernel_rfl) rfl #[] rfl (by (try simp only [List.map_toArray, List.map_cons, List.map_nil]); first | done | rfl | (simp only [List.length_drop, List.length_take]; rfl)) ?_; (with_reducible refine (stipendlaw01_counts.calls k  true _ A2.out).mono ?_); rintro e w7 ⟨rfl, hb⟩; refine ⟨_, rfl, ?_⟩; have n0_ := Aside0.mk (below_step (by repeat (first | (with_reducible first | exact HB.out | apply below_alloc | apply pw_below_drewN | apply below_drew1) | exact HB.out)) hb); clear HB; have HB := n0_; clear n0_; (try clear hb); (try clear hb2); (try clear hk); (try clear hi)) | ((with_reducible refine gate_callee (f := 44) rfl ?_); refine goesL_ (some 15) rfl rfl Tryd.func44 (by kernel_rfl) rfl #[.slice A0 l0.length c0] rfl (by (try simp only [List.map_toArray, List.map_cons, List.map_nil]); first | done | rfl | (simp only [List.length_drop, List.length_take]; rfl)) ?_; (with_reducible refine (money_Sum.calls k _ _ l0 t640 t641 _ ?side1 ?side2 A6.out).mono ?_); (case side1 => repeat (first | exact (Kd.C_below HR0.out HB.out) | (with_reducible refine Kd.C_alloc ?_ _) | (with_reducible refine Kd.C_drewN ?_ _) | (with_reducible refine Kd.C_drew ?_))); (case side2 => exact HC0.out); rintro e w8 ⟨rfl, hb⟩; refine ⟨_, rfl, ?_⟩; have n0_ := Aside0.mk (below_step (by repeat (first | (with_reducible first | exact HB.out | apply below_alloc | apply pw_below_drewN | apply below_drew1) | exact HB.out)) hb); clear HB; have HB := n0_; clear n0_; (try clear hb); (try clear hb2); (try clear hk); (try clear hi)))
   go_loopg [5, 20] k (fun kq v5 v20 w' => ∃ (x5_1 : Int) (x20_1 : Int), v5 = .int .i64 x5_1 ∧ v20 = .int .i64 x20_1 ∧ Aside0 (stipendlaw01_MoneySums.l0 kq t640 t641 x5_1 l0 (l0.length : Int) x20_1 = some r) ∧ Aside0 (kq ≤ k) ∧ Aside0 (Below w.heap.size w w'))
   case atStart => exact ⟨(0), (0), (by first | rfl | (simp; done) | (simp [*]; done)), (by first | rfl | (simp; done) | (simp [*]; done)), H', ⟨Nat.le_refl _⟩, ⟨by repeat (first | (with_reducible first | exact HB.out | apply below_alloc | apply pw_below_drewN | apply below_drew1) | exact HB.out)⟩⟩
   case round =>
    clear H'
    try clear c1
    try clear p2
    try clear c3
    try clear c4
    try clear c4b0
    try clear c4b1
    try clear c5
    obtain ⟨x5_1, x20_1, rfl, rfl, HA, HK1, HB⟩ := hrel
    cases gk with
    | zero => exact absurd HA.out (by simp [stipendlaw01_MoneySums.l0])
    | succ k1 =>
     have H := HA.out
     clear HA
     simp only [stipendlaw01_MoneySums.l0] at H
     by_cases c9 : x20_1 < (l0.length : Int)
     ·rw [if_pos c9] at H
      have c9b0 : decide (x20_1 < (l0.length : Int)) = true := decide_eq_true c9
      clear c9
      by_cases c10 : 0 ≤ x20_1
      ·rw [if_pos c10] at H
       have c10b0 : decide (0 ≤ x20_1) = true := decide_eq_true c10
       clear c10
       by_cases c11 : x20_1 < (l0.length : Int)
       ·rw [if_pos c11] at H
        have c11b0 : decide (x20_1 < (l0.length : Int)) = true := decide_eq_true c11
        clear c11
        replace H := Option.bind_eq_some_iff.mp H
        obtain ⟨t643, A120, H⟩ := H
        replace H : (if t643 = true then ((stipendref01_Right.f (wrap64 (x5_1 + (rd l0 x20_1)))).bind fun t644 => (if t644 = true then (stipendlaw01_MoneySums.l0 k1 t640 t641 (wrap64 (x5_1 + (rd l0 x20_1))) l0 (l0.length : Int) (wrap64 (x20_1 + 1))) else (if t641 = 10 then (some (t640 == 0)) else (some false)))) else (if t641 = 10 then (some (t640 == 0)) else (some false))) = some r := H
        have A12 := Aside0.mk A120
        clear A120
        by_cases c13 : t643 = true
        ·subst c13
         have H1 : ((stipendref01_Right.f (wrap64 (x5_1 + (rd l0 x20_1)))).bind fun t644 => (if t644 = true then (stipendlaw01_MoneySums.l0 k1 t640 t641 (wrap64 (x5_1 + (rd l0 x20_1))) l0 (l0.length : Int) (wrap64 (x20_1 + 1))) else (if t641 = 10 then (some (t640 == 0)) else (some false)))) = some r := by rw [if_pos rfl] at H; exact H
         clear H
         have H := H1
         clear H1
         replace H := Option.bind_eq_some_iff.mp H
         obtain ⟨t644, A140, H⟩ := H
         replace H : (if t644 = true then (stipendlaw01_MoneySums.l0 k1 t640 t641 (wrap64 (x5_1 + (rd l0 x20_1))) l0 (l0.length : Int) (wrap64 (x20_1 + 1))) else (if t641 = 10 then (some (t640 == 0)) else (some false))) = some r := H
         have A14 := Aside0.mk A140
         clear A140
         by_cases c15 : t644 = true
         ·subst c15
          have H1 : (stipendlaw01_MoneySums.l0 k1 t640 t641 (wrap64 (x5_1 + (rd l0 x20_1))) l0 (l0.length : Int) (wrap64 (x20_1 + 1))) = some r := by rw [if_pos rfl] at H; exact H
          clear H
          have H := H1
          clear H1
          have H' := Aside0.mk H
          clear H
          have p642 : 0 ≤ (x20_1 : Int) := of_decide_eq_true (by first | (with_reducible assumption) | assumption)
          have q642 : x20_1 < (l0.length : Int) := of_decide_eq_true (by first | (with_reducible assumption) | assumption)
          obtain ⟨ad642, e642, hx642_0⟩ := Kd.at_int HR0.out x20_1 p642 q642
          cases e642
          replace hx642_0 := (HB.out.cell (World.block_lt_of_cell? w _ hx642_0)).trans hx642_0
          replace p642 := eq_true p642
          replace q642 := eq_true q642
          go_wp2_with (first | ((with_reducible refine gate_callee (f := 59) rfl ?_); refine goesL_ (some 25) rfl rfl Tryd.func59 (by kernel_rfl) rfl #[.int .i64 (rd l0 x20_1)] rfl (by (try simp only [List.map_toArray, List.map_cons, List.map_nil]); first | done | rfl | (simp only [List.length_drop, List.length_take]; rfl)) ?_; (with_reducible refine (stipendref01_Right.calls (rd l0 x20_1) true _ A12.out).mono ?_); rintro e w' ⟨rfl, ⟨nd, rfl⟩⟩; refine ⟨_, rfl, ?_⟩) | (go_at_call 59; (with_reducible refine (stipendref01_Right.calls (wrap64 (x5_1 + (rd l0 x20_1))) true _ A14.out).mono ?_); rintro e w' ⟨rfl, ⟨nd, rfl⟩⟩))
          go_roundg k1
          case measure => have := HK1.out; omega
          case rel => exact ⟨(wrap64 (x5_1 + (rd l0 x20_1))), (wrap64 (x20_1 + 1)), (by first | rfl | (simp; done) | (simp [*]; done)), (by first | rfl | (simp; done) | (simp [*]; done)), H', ⟨by have := HK1.out; omega⟩, ⟨by repeat (first | (with_reducible first | exact HB.out | apply below_alloc | apply pw_below_drewN | apply below_drew1) | exact HB.out)⟩⟩
         ·replace c15 := Bool.eq_false_iff.mpr c15
          subst c15
          have H1 : (if t641 = 10 then (some (t640 == 0)) else (some false)) = some r := by rw [if_neg (show ¬ (false = true) by decide)] at H; exact H
          clear H
          have H := H1
          clear H1
          by_cases c16 : t641 = 10
          ·rw [if_pos c16] at H
           have c16b0 : (t641 == 10) = true := beq_iff_eq.mpr c16
           have c16b1 : (t641 != 10) = false := bne_eq_false_iff_eq.mpr c16
           clear c16
           obtain rfl := Option.some.inj H
           have p642 : 0 ≤ (x20_1 : Int) := of_decide_eq_true (by first | (with_reducible assumption) | assumption)
           have q642 : x20_1 < (l0.length : Int) := of_decide_eq_true (by first | (with_reducible assumption) | assumption)
           obtain ⟨ad642, e642, hx642_0⟩ := Kd.at_int HR0.out x20_1 p642 q642
           cases e642
           replace hx642_0 := (HB.out.cell (World.block_lt_of_cell? w _ hx642_0)).trans hx642_0
           replace p642 := eq_true p642
           replace q642 := eq_true q642
           go_wp2_with (first | ((with_reducible refine gate_callee (f := 59) rfl ?_); refine goesL_ (some 25) rfl rfl Tryd.func59 (by kernel_rfl) rfl #[.int .i64 (rd l0 x20_1)] rfl (by (try simp only [List.map_toArray, List.map_cons, List.map_nil]); first | done | rfl | (simp only [List.length_drop, List.length_take]; rfl)) ?_; (with_reducible refine (stipendref01_Right.calls (rd l0 x20_1) true _ A12.out).mono ?_); rintro e w' ⟨rfl, ⟨nd, rfl⟩⟩; refine ⟨_, rfl, ?_⟩) | (go_at_call 59; (with_reducible refine (stipendref01_Right.calls (wrap64 (x5_1 + (rd l0 x20_1))) false _ A14.out).mono ?_); rintro e w' ⟨rfl, ⟨nd, rfl⟩⟩))
           go_ret
           exact ⟨by first | rfl | (simp [errW_none, errW_some] <;> rfl) | (simp [*, errW_none, errW_some] <;> rfl), by repeat (first | (with_reducible first | exact HB.out | apply below_alloc | apply pw_below_drewN | apply below_drew1) | exact HB.out)⟩
          ·rw [if_neg c16] at H
           have c16b0 : (t641 == 10) = false := beq_eq_false_iff_ne.mpr c16
           have c16b1 : (t641 != 10) = true := bne_iff_ne.mpr c16
           obtain rfl := Option.some.inj H
           have p642 : 0 ≤ (x20_1 : Int) := of_decide_eq_true (by first | (with_reducible assumption) | assumption)
           have q642 : x20_1 < (l0.length : Int) := of_decide_eq_true (by first | (with_reducible assumption) | assumption)
           obtain ⟨ad642, e642, hx642_0⟩ := Kd.at_int HR0.out x20_1 p642 q642
           cases e642
           replace hx642_0 := (HB.out.cell (World.block_lt_of_cell? w _ hx642_0)).trans hx642_0
           replace p642 := eq_true p642
           replace q642 := eq_true q642
           go_wp2_with (first | ((with_reducible refine gate_callee (f := 59) rfl ?_); refine goesL_ (some 25) rfl rfl Tryd.func59 (by kernel_rfl) rfl #[.int .i64 (rd l0 x20_1)] rfl (by (try simp only [List.map_toArray, List.map_cons, List.map_nil]); first | done | rfl | (simp only [List.length_drop, List.length_take]; rfl)) ?_; (with_reducible refine (stipendref01_Right.calls (rd l0 x20_1) true _ A12.out).mono ?_); rintro e w' ⟨rfl, ⟨nd, rfl⟩⟩; refine ⟨_, rfl, ?_⟩) | (go_at_call 59; (with_reducible refine (stipendref01_Right.calls (wrap64 (x5_1 + (rd l0 x20_1))) false _ A14.out).mono ?_); rintro e w' ⟨rfl, ⟨nd, rfl⟩⟩))
           go_ret
           exact ⟨by first | rfl | (simp [errW_none, errW_some] <;> rfl) | (simp [*, errW_none, errW_some] <;> rfl), by repeat (first | (with_reducible first | exact HB.out | apply below_alloc | apply pw_below_drewN | apply below_drew1) | exact HB.out)⟩
        ·replace c13 := Bool.eq_false_iff.mpr c13
         subst c13
         have H1 : (if t641 = 10 then (some (t640 == 0)) else (some false)) = some r := by rw [if_neg (show ¬ (false = true) by decide)] at H; exact H
         clear H
         have H := H1
         clear H1
         by_cases c17 : t641 = 10
         ·rw [if_pos c17] at H
          have c17b0 : (t641 == 10) = true := beq_iff_eq.mpr c17
          have c17b1 : (t641 != 10) = false := bne_eq_false_iff_eq.mpr c17
          clear c17
          obtain rfl := Option.some.inj H
          have p642 : 0 ≤ (x20_1 : Int) := of_decide_eq_true (by first | (with_reducible assumption) | assumption)
          have q642 : x20_1 < (l0.length : Int) := of_decide_eq_true (by first | (with_reducible assumption) | assumption)
          obtain ⟨ad642, e642, hx642_0⟩ := Kd.at_int HR0.out x20_1 p642 q642
          cases e642
          replace hx642_0 := (HB.out.cell (World.block_lt_of_cell? w _ hx642_0)).trans hx642_0
          replace p642 := eq_true p642
          replace q642 := eq_true q642
          go_wp2_with (first | ((with_reducible refine gate_callee (f := 59) rfl ?_); refine goesL_ (some 25) rfl rfl Tryd.func59 (by kernel_rfl) rfl #[.int .i64 (rd l0 x20_1)] rfl (by (try simp only [List.map_toArray, List.map_cons, List.map_nil]); first | done | rfl | (simp only [List.length_drop, List.length_take]; rfl)) ?_; (with_reducible refine (stipendref01_Right.calls (rd l0 x20_1) false _ A12.out).mono ?_); rintro e w' ⟨rfl, ⟨nd, rfl⟩⟩; refine ⟨_, rfl, ?_⟩))
          go_ret
          exact ⟨by first | rfl | (simp [errW_none, errW_some] <;> rfl) | (simp [*, errW_none, errW_some] <;> rfl), by repeat (first | (with_reducible first | exact HB.out | apply below_alloc | apply pw_below_drewN | apply below_drew1) | exact HB.out)⟩
         ·rw [if_neg c17] at H
          have c17b0 : (t641 == 10) = false := beq_eq_false_iff_ne.mpr c17
          have c17b1 : (t641 != 10) = true := bne_iff_ne.mpr c17
          obtain rfl := Option.some.inj H
          have p642 : 0 ≤ (x20_1 : Int) := of_decide_eq_true (by first | (with_reducible assumption) | assumption)
          have q642 : x20_1 < (l0.length : Int) := of_decide_eq_true (by first | (with_reducible assumption) | assumption)
          obtain ⟨ad642, e642, hx642_0⟩ := Kd.at_int HR0.out x20_1 p642 q642
          cases e642
          replace hx642_0 := (HB.out.cell (World.block_lt_of_cell? w _ hx642_0)).trans hx642_0
          replace p642 := eq_true p642
          replace q642 := eq_true q642
          go_wp2_with (first | ((with_reducible refine gate_callee (f := 59) rfl ?_); refine goesL_ (some 25) rfl rfl Tryd.func59 (by kernel_rfl) rfl #[.int .i64 (rd l0 x20_1)] rfl (by (try simp only [List.map_toArray, List.map_cons, List.map_nil]); first | done | rfl | (simp only [List.length_drop, List.length_take]; rfl)) ?_; (with_reducible refine (stipendref01_Right.calls (rd l0 x20_1) false _ A12.out).mono ?_); rintro e w' ⟨rfl, ⟨nd, rfl⟩⟩; refine ⟨_, rfl, ?_⟩))
          go_ret
          exact ⟨by first | rfl | (simp [errW_none, errW_some] <;> rfl) | (simp [*, errW_none, errW_some] <;> rfl), by repeat (first | (with_reducible first | exact HB.out | apply below_alloc | apply pw_below_drewN | apply below_drew1) | exact HB.out)⟩
       ·rw [if_neg c11] at H
        exact absurd H (by simp)
      ·rw [if_neg c10] at H
       exact absurd H (by simp)
     ·rw [if_neg c9] at H
      have c9b0 : decide (x20_1 < (l0.length : Int)) = false := decide_eq_false c9
      clear c9
      by_cases c18 : t641 = 0
      ·rw [if_pos c18] at H
       have c18b0 : (t641 == 0) = true := beq_iff_eq.mpr c18
       have c18b1 : (t641 != 0) = false := bne_eq_false_iff_eq.mpr c18
       clear c18
       obtain rfl := Option.some.inj H
       go_wp2
       go_ret
       exact ⟨by first | rfl | (simp [errW_none, errW_some] <;> rfl) | (simp [*, errW_none, errW_some] <;> rfl), by repeat (first | (with_reducible first | exact HB.out | apply below_alloc | apply pw_below_drewN | apply below_drew1) | exact HB.out)⟩
      ·rw [if_neg c18] at H
       have c18b0 : (t641 == 0) = false := beq_eq_false_iff_ne.mpr c18
       have c18b1 : (t641 != 0) = true := bne_iff_ne.mpr c18
       obtain rfl := Option.some.inj H
       go_wp2
       go_ret
       exact ⟨by first | rfl | (simp [errW_none, errW_some] <;> rfl) | (simp [*, errW_none, errW_some] <;> rfl), by repeat (first | (with_reducible first | exact HB.out | apply below_alloc | apply pw_below_drewN | apply below_drew1) | exact HB.out)⟩
 ·replace c3 := Bool.eq_false_iff.mpr c3
  subst c3
  have H1 : (some false) = some r := by rw [if_neg (show ¬ (false = true) by decide)] at H; exact H
  clear H
  have H := H1
  clear H1
  obtain rfl := Option.some.inj H
  go_enter Tryd.func18, Tryd.ntmps18
  go_wp2_with (first | ((with_reducible refine gate_callee (f := 57) rfl ?_); refine goesL_ (some 8) rfl rfl Tryd.func57 (by kernel_rfl) rfl #[] rfl (by (try simp only [List.map_toArray, List.map_cons, List.map_nil]); first | done | rfl | (simp only [List.length_drop, List.length_take]; rfl)) ?_; (with_reducible refine (stipendlaw01_counts.calls k  false _ A2.out).mono ?_); rintro e w19 ⟨rfl, hb⟩; refine ⟨_, rfl, ?_⟩; have n0_ := Aside0.mk (below_step (by repeat (first | (with_reducible first | exact HB.out | apply below_alloc | apply pw_below_drewN | apply below_drew1) | exact HB.out)) hb); clear HB; have HB := n0_; clear n0_; (try clear hb); (try clear hb2); (try clear hk); (try clear hi)))
  go_ret
  exact ⟨by first | rfl | (simp [errW_none, errW_some] <;> rfl) | (simp [*, errW_none, errW_some] <;> rfl), by repeat (first | (with_reducible first | exact HB.out | apply below_alloc | apply pw_below_drewN | apply below_drew1) | exact HB.out)⟩

end Go.Proofs.YtmocphafkimdpaaDoor.P


/- MoneySums answers true for every list: the plain law. -/
namespace Go.Proofs.YtmocphafkimdpaaDoor.P
open Go.RowKit Go.Proofs.YtmocphafkimdpaaDoorW.PrintWords Go.Proofs.YtmocphafkimdpaaDoorW.PrintLast Go.Proofs.YtmocphafkimdpaaDoorW.PrintMore
set_option linter.unusedVariables false
set_option linter.unusedSimpArgs false

/-- The sum, one by one. -/
def sumOf (s : Int) : List Int → Int × Int
  | [] => (s, 0)
  | a :: t => if (okAmt a && okAmt (s + a)) = true then sumOf (s + a) t else (0, 10)
theorem sum_l0_ev (l : List Int) (hl : l.length ≤ 1000) : ∀ (t : List Int) (i : Nat) (s : Int), l.drop i = t → i ≤ l.length → okAmt s = true → Ev (fun k => money_Sum.l0 k s l (l.length : Int) (i : Int)) (sumOf s t)
  | [], i, s, h, hi, hs => by
    have hi' : l.length ≤ i := by simpa using h
    refine Ev.shift (fun k => by rw [money_Sum.l0]) ?_
    exact Ev.neg (by omega) Ev.now
  | a :: t, i, s, h, hi, hs => by
    obtain ⟨h1, h2, h3⟩ := drop_cons_get h
    refine Ev.shift (fun k => by rw [money_Sum.l0]) ?_
    refine Ev.pos (by omega) (Ev.pos (by omega) (Ev.pos (by omega) ?_))
    rw [rdi h1]
    refine Ev.bind (madd_ev s a) ?_
    rw [hs, Bool.true_and]
    by_cases c : (okAmt a && okAmt (s + a)) = true
    · have e : sumOf s (a :: t) = sumOf (s + a) t := by rw [sumOf, if_pos c]
      rw [if_pos c, e]
      refine Ev.pos rfl ?_
      rw [show wrap64 ((i : Int) + 1) = ((i + 1 : Nat) : Int) by rw [w64 (by omega) (by omega)]; rfl]
      exact sum_l0_ev l hl t (i + 1) (s + a) h2 (by omega) (Bool.and_eq_true_iff.1 c).2
    · have e : sumOf s (a :: t) = (0, 10) := by rw [sumOf, if_neg c]
      rw [if_neg c, e]
      exact Ev.neg (by decide) Ev.now
theorem sum_ev (l : List Int) (hl : l.length ≤ 1000) : Ev (fun k => money_Sum.f k l) (sumOf 0 l) := sum_l0_ev l hl l 0 0 rfl (Nat.zero_le _) (by decide)

theorem sums_l0_ev (l : List Int) (hl : l.length ≤ 1000) (x e : Int) : ∀ (t : List Int) (i : Nat) (s : Int), l.drop i = t → i ≤ l.length → okAmt s = true → (∀ y ∈ t, -9223372036854775808 ≤ y ∧ y ≤ 9223372036854775807) → sumOf s t = (x, e) → Ev (fun k => stipendlaw01_MoneySums.l0 k x e s l (l.length : Int) (i : Int)) true
  | [], i, s, h, hi, hs, _, he => by
    have hi' : l.length ≤ i := by simpa using h
    simp only [sumOf, Prod.mk.injEq] at he
    obtain ⟨rfl, rfl⟩ := he
    refine Ev.shift (fun k => by rw [stipendlaw01_MoneySums.l0]) ?_
    exact Ev.neg (by omega) (Ev.pos rfl (Ev.const (by simp)))
  | a :: t, i, s, h, hi, hs, hy, he => by
    obtain ⟨h1, h2, h3⟩ := drop_cons_get h
    have hs' := (okAmt_iff s).1 hs
    refine Ev.shift (fun k => by rw [stipendlaw01_MoneySums.l0]) ?_
    refine Ev.pos (by omega) (Ev.pos (by omega) (Ev.pos (by omega) ?_))
    rw [rdi h1]
    by_cases ca : okAmt a = true
    · have ha' := (okAmt_iff a).1 ca
      refine Ev.bindc (refRight_f a) (Ev.pos ca ?_)
      rw [w64 (x := s + a) (by omega) (by omega)]
      refine Ev.bindc (refRight_f _) ?_
      by_cases cs : okAmt (s + a) = true
      · refine Ev.pos cs ?_
        rw [sumOf, ca, cs, Bool.and_self, if_pos rfl] at he
        rw [show wrap64 ((i : Int) + 1) = ((i + 1 : Nat) : Int) by rw [w64 (by omega) (by omega)]; rfl]
        exact sums_l0_ev l hl x e t (i + 1) (s + a) h2 (by omega) cs (fun y hy' => hy y (List.mem_cons_of_mem _ hy')) he
      · rw [sumOf, ca, Bool.true_and, if_neg cs] at he
        injection he with e1 e2
        subst e1 e2
        exact Ev.neg cs (Ev.pos rfl (Ev.const rfl))
    · rw [sumOf, if_neg (by simp [ca])] at he
      injection he with e1 e2
      subst e1 e2
      exact Ev.bindc (refRight_f a) (Ev.neg ca (Ev.pos rfl (Ev.const rfl)))
theorem moneySums_true (l : List Int) (g : okL okI l) : ∃ k, stipendlaw01_MoneySums.f k l = some true := by
  apply Ev.get
  unfold stipendlaw01_MoneySums.f
  refine Ev.bind counts_ev (Ev.pos rfl ?_)
  by_cases c : l.length > 100
  · exact Ev.pos (by omega) Ev.now
  · refine Ev.neg (by omega) (Ev.bind (sum_ev l (by omega)) ?_)
    exact sums_l0_ev l (by omega) _ _ l 0 0 rfl (Nat.zero_le _) (by decide) (fun y hy => i64b (g.2 y hy)) rfl
end Go.Proofs.YtmocphafkimdpaaDoor.P


-- written by a program (a patched copy of the kit's print: wip/mkprint.py); Lean checks it
namespace Go.Proofs.YtmocphafkimdpaaDoor.P
open Go.RowKit Go.Proofs.YtmocphafkimdpaaDoorW.PrintWords Go.Proofs.YtmocphafkimdpaaDoorW.PrintLast Go.Proofs.YtmocphafkimdpaaDoorW.PrintMore
attribute [local go_sem] max2_int min2_int max_two min_two max_three min_three max_four min_four   -- for this text's walks alone
set_option linter.unusedVariables false
set_option linter.unusedSimpArgs false

/-! ### frac_Rate: function 86 -/
def frac_Rate.f (a0 : Int) : Option (Bool) := if a0 ≥ 0 then (some (decide (a0 ≤ 10000))) else (some false)
set_option maxHeartbeats 8000000 in
set_option maxRecDepth 100000 in
theorem frac_Rate.calls (a0 : Int) (r : Bool) (w : World) (h : frac_Rate.f a0 = some r) :
  Calls Tryd.prog 86 #[.int .i64 a0] w fun e w' => e = .returned (.bool r) ∧ Drawn0 w w' := by
 have H : (if a0 ≥ 0 then (some (decide (a0 ≤ 10000))) else (some false)) = some r := h
 clear h
 by_cases c2 : a0 ≥ 0
 ·rw [if_pos c2] at H
  have c2b0 : decide (0 ≤ a0) = true := decide_eq_true c2
  clear c2
  obtain rfl := Option.some.inj H
  go_enter Tryd.func86, Tryd.ntmps86
  go_wp2
  go_ret
  exact ⟨by first | rfl | (simp; done) | (simp [*]; done), by repeat (first | exact Drawn0.refl _ | apply Drawn0.step)⟩
 ·rw [if_neg c2] at H
  have c2b0 : decide (0 ≤ a0) = false := decide_eq_false c2
  clear c2
  obtain rfl := Option.some.inj H
  go_enter Tryd.func86, Tryd.ntmps86
  go_wp2
  go_ret
  exact ⟨by first | rfl | (simp; done) | (simp [*]; done), by repeat (first | exact Drawn0.refl _ | apply Drawn0.step)⟩

end Go.Proofs.YtmocphafkimdpaaDoor.P


-- written by a program (a patched copy of the kit's print: wip/mkprint.py); Lean checks it
namespace Go.Proofs.YtmocphafkimdpaaDoor.P
open Go.RowKit Go.Proofs.YtmocphafkimdpaaDoorW.PrintWords Go.Proofs.YtmocphafkimdpaaDoorW.PrintLast Go.Proofs.YtmocphafkimdpaaDoorW.PrintMore
attribute [local go_sem] max2_int min2_int max_two min_two max_three min_three max_four min_four   -- for this text's walks alone
set_option linter.unusedVariables false
set_option linter.unusedSimpArgs false

/-! ### frac_Part: function 42 -/
def frac_Part.f (k : Nat) (a0 : Int) (a1 : Int) : Option (Int × Int) := (money_Right.f k (([a0] : List Int))).bind fun t346 => (if t346 = true then ((frac_Rate.f a1).bind fun t347 => (if t347 = true then (some (wrap64 (a0 * a1), 0)) else (some (0, 50)))) else (some (0, 10)))
theorem frac_Part.mono : ∀ a0 a1 k, LeO (frac_Part.f k a0 a1) (frac_Part.f (k + 1) a0 a1) := by
 intro a0 a1 k
 unfold frac_Part.f
 repeat' first
   | (with_reducible exact money_Right.mono _ _)
   | (with_reducible exact LeO.refl _)
   | (with_reducible exact LeO.none _)
   | (with_reducible refine LeO.ite ?_ ?_)
   | (with_reducible refine LeO.bind ?_ (fun _ => ?_))
   | exact money_Right.mono _ _
   | exact LeO.none _
   | refine LeO.ite ?_ ?_
   | refine LeO.bind ?_ (fun _ => ?_)
set_option maxHeartbeats 8000000 in
set_option maxRecDepth 100000 in
theorem frac_Part.calls (k : Nat) (a0 : Int) (a1 : Int) (r1 : Int) (r2 : Int) (w : World) (h : frac_Part.f k a0 a1 = some (r1, r2)) :
  Calls Tryd.prog 42 #[.int .i64 a0, .int .i64 a1] w fun e w' => e = .returned (.tuple #[.int .i64 r1, .int .i64 r2]) ∧ Below w.heap.size w w' := by
 have HB := Aside0.mk (Below.refl w.heap.size w)
 have H : ((money_Right.f k (([a0] : List Int))).bind fun t346 => (if t346 = true then ((frac_Rate.f a1).bind fun t347 => (if t347 = true then (some (wrap64 (a0 * a1), 0)) else (some (0, 50)))) else (some (0, 10)))) = some (r1, r2) := h
 clear h
 obtain ⟨y343, hy343⟩ : ∃ y_ : List Int, y_ = (([a0] : List Int)) := ⟨_, rfl⟩
 replace H : ((money_Right.f k y343).bind fun t346 => (if t346 = true then ((frac_Rate.f a1).bind fun t347 => (if t347 = true then (some (wrap64 (a0 * a1), 0)) else (some (0, 50)))) else (some (0, 10)))) = some (r1, r2) := by first | (rw [hy343]; with_reducible exact H) | (have H2_ := (Option.bind_some _ _).symm.trans H; rw [hy343]; with_reducible exact H2_) | (have H2_ := (Option.bind_some _ _).symm.trans H; with_reducible exact H2_) | with_reducible exact H | (rw [hy343]; exact H) | exact H
 have Ny343 := Aside0.mk hy343
 clear hy343
 replace H := Option.bind_eq_some_iff.mp H
 obtain ⟨t346, A30, H⟩ := H
 replace H : (if t346 = true then ((frac_Rate.f a1).bind fun t347 => (if t347 = true then (some (wrap64 (a0 * a1), 0)) else (some (0, 50)))) else (some (0, 10))) = some (r1, r2) := H
 have A3 := Aside0.mk A30
 clear A30
 by_cases c4 : t346 = true
 ·subst c4
  have H1 : ((frac_Rate.f a1).bind fun t347 => (if t347 = true then (some (wrap64 (a0 * a1), 0)) else (some (0, 50)))) = some (r1, r2) := by rw [if_pos rfl] at H; exact H
  clear H
  have H := H1
  clear H1
  replace H := Option.bind_eq_some_iff.mp H
  obtain ⟨t347, A50, H⟩ := H
  replace H : (if t347 = true then (some (wrap64 (a0 * a1), 0)) else (some (0, 50))) = some (r1, r2) := H
  have A5 := Aside0.mk A50
  clear A50
  by_cases c6 : t347 = true
  ·subst c6
   have H1 : (some (wrap64 (a0 * a1), 0)) = some (r1, r2) := by rw [if_pos rfl] at H; exact H
   clear H
   have H := H1
   clear H1
   simp only [Option.some.injEq, Prod.mk.injEq] at H
   obtain ⟨rfl, rfl⟩ := H
   go_enter Tryd.func42, Tryd.ntmps42
   go_wp2_with (first | ((with_reducible refine gate_dst (N := 8) rfl ?_); refine Kd.R_lit (Kd.int .i64) _ 2 ?hg (N := 8) ?hd (xs := ([a0] : List Int)) (inner := [.int .i64 a0]) (ok := fun _ => True) (okp := fun _ => True) ?hr ?hp (fun _ hk => hk) trivial (Below.refl _ _) (Nat.le_refl _) (by simp) ?_; (case hd => rfl); (case hg => rfl); (case hr => first | (go_simp; done) | (go_simp; rfl)); (case hp => exact (Reps.one (show Kd.M (Kd.int .i64) _ _ _ a0 [.int .i64 a0] from rfl) (Reps.none _ _))); intro v344 w7 ho8 hb hg_ hnew_; clear hg_ hnew_; (first | rw [← Ny343.out] at ho8 | (simp only [Int.reduceToNat] at ho8; rw [← Ny343.out] at ho8)); have n0_ := Aside0.mk (Kd.R_lower ho8 (below_size (by repeat (first | (with_reducible first | exact HB.out | apply below_alloc | apply pw_below_drewN | apply below_drew1) | exact HB.out)))); have n1_ := Aside0.mk (below_step (by repeat (first | (with_reducible first | exact HB.out | apply below_alloc | apply pw_below_drewN | apply below_drew1) | exact HB.out)) hb); clear HB; have HO345 := n0_; have HB := n1_; clear n0_ n1_; clear hb ho8; obtain ⟨Ao9, co9, eo9⟩ := Kd.R_slice HO345.out; subst eo9) | ((with_reducible refine gate_callee (f := 65) rfl ?_); refine goesL_ (some 9) rfl rfl Tryd.func65 (by kernel_rfl) rfl #[.slice Ao9 y343.length co9] rfl (by (try simp only [List.map_toArray, List.map_cons, List.map_nil]); first | done | rfl | (simp only [List.length_drop, List.length_take]; rfl)) ?_; (with_reducible refine (money_Right.calls k _ _ y343 true _ ?side1 ?side2 A3.out).mono ?_); (case side1 => repeat (first | exact (Kd.R_reads' HO345.out).2.2 | (with_reducible refine Kd.C_alloc ?_ _) | (with_reducible refine Kd.C_drewN ?_ _) | (with_reducible refine Kd.C_drew ?_))); (case side2 => exact (Kd.R_reads' HO345.out).2.1); rintro e w' ⟨rfl, ⟨nd, rfl⟩⟩; refine ⟨_, rfl, ?_⟩) | ((with_reducible refine gate_callee (f := 86) rfl ?_); refine goesL_ (some 13) rfl rfl Tryd.func86 (by kernel_rfl) rfl #[.int .i64 a1] rfl (by (try simp only [List.map_toArray, List.map_cons, List.map_nil]); first | done | rfl | (simp only [List.length_drop, List.length_take]; rfl)) ?_; (with_reducible refine (frac_Rate.calls a1 true _ A5.out).mono ?_); rintro e w' ⟨rfl, ⟨nd, rfl⟩⟩; refine ⟨_, rfl, ?_⟩))
   go_ret2
   exact ⟨by first | rfl | (simp [errW_none, errW_some] <;> rfl) | (simp [*, errW_none, errW_some] <;> rfl), by repeat (first | (with_reducible first | exact HB.out | apply below_alloc | apply pw_below_drewN | apply below_drew1) | exact HB.out)⟩
  ·replace c6 := Bool.eq_false_iff.mpr c6
   subst c6
   have H1 : (some (0, 50)) = some (r1, r2) := by rw [if_neg (show ¬ (false = true) by decide)] at H; exact H
   clear H
   have H := H1
   clear H1
   simp only [Option.some.injEq, Prod.mk.injEq] at H
   obtain ⟨rfl, rfl⟩ := H
   go_enter Tryd.func42, Tryd.ntmps42
   go_wp2_with (first | ((with_reducible refine gate_dst (N := 8) rfl ?_); refine Kd.R_lit (Kd.int .i64) _ 2 ?hg (N := 8) ?hd (xs := ([a0] : List Int)) (inner := [.int .i64 a0]) (ok := fun _ => True) (okp := fun _ => True) ?hr ?hp (fun _ hk => hk) trivial (Below.refl _ _) (Nat.le_refl _) (by simp) ?_; (case hd => rfl); (case hg => rfl); (case hr => first | (go_simp; done) | (go_simp; rfl)); (case hp => exact (Reps.one (show Kd.M (Kd.int .i64) _ _ _ a0 [.int .i64 a0] from rfl) (Reps.none _ _))); intro v344 w10 ho11 hb hg_ hnew_; clear hg_ hnew_; (first | rw [← Ny343.out] at ho11 | (simp only [Int.reduceToNat] at ho11; rw [← Ny343.out] at ho11)); have n0_ := Aside0.mk (Kd.R_lower ho11 (below_size (by repeat (first | (with_reducible first | exact HB.out | apply below_alloc | apply pw_below_drewN | apply below_drew1) | exact HB.out)))); have n1_ := Aside0.mk (below_step (by repeat (first | (with_reducible first | exact HB.out | apply below_alloc | apply pw_below_drewN | apply below_drew1) | exact HB.out)) hb); clear HB; have HO345 := n0_; have HB := n1_; clear n0_ n1_; clear hb ho11; obtain ⟨Ao12, co12, eo12⟩ := Kd.R_slice HO345.out; subst eo12) | ((with_reducible refine gate_callee (f := 65) rfl ?_); refine goesL_ (some 9) rfl rfl Tryd.func65 (by kernel_rfl) rfl #[.slice Ao12 y343.length co12] rfl (by (try simp only [List.map_toArray, List.map_cons, List.map_nil]); first | done | rfl | (simp only [List.length_drop, List.length_take]; rfl)) ?_; (with_reducible refine (money_Right.calls k _ _ y343 true _ ?side1 ?side2 A3.out).mono ?_); (case side1 => repeat (first | exact (Kd.R_reads' HO345.out).2.2 | (with_reducible refine Kd.C_alloc ?_ _) | (with_reducible refine Kd.C_drewN ?_ _) | (with_reducible refine Kd.C_drew ?_))); (case side2 => exact (Kd.R_reads' HO345.out).2.1); rintro e w' ⟨rfl, ⟨nd, rfl⟩⟩; refine ⟨_, rfl, ?_⟩) | ((with_reducible refine gate_callee (f := 86) rfl ?_); refine goesL_ (some 13) rfl rfl Tryd.func86 (by kernel_rfl) rfl #[.int .i64 a1] rfl (by (try simp only [List.map_toArray, List.map_cons, List.map_nil]); first | done | rfl | (simp only [List.length_drop, List.length_take]; rfl)) ?_; (with_reducible refine (frac_Rate.calls a1 false _ A5.out).mono ?_); rintro e w' ⟨rfl, ⟨nd, rfl⟩⟩; refine ⟨_, rfl, ?_⟩))
   go_ret2
   exact ⟨by first | rfl | (simp [errW_none, errW_some] <;> rfl) | (simp [*, errW_none, errW_some] <;> rfl), by repeat (first | (with_reducible first | exact HB.out | apply below_alloc | apply pw_below_drewN | apply below_drew1) | exact HB.out)⟩
 ·replace c4 := Bool.eq_false_iff.mpr c4
  subst c4
  have H1 : (some (0, 10)) = some (r1, r2) := by rw [if_neg (show ¬ (false = true) by decide)] at H; exact H
  clear H
  have H := H1
  clear H1
  simp only [Option.some.injEq, Prod.mk.injEq] at H
  obtain ⟨rfl, rfl⟩ := H
  go_enter Tryd.func42, Tryd.ntmps42
  go_wp2_with (first | ((with_reducible refine gate_dst (N := 8) rfl ?_); refine Kd.R_lit (Kd.int .i64) _ 2 ?hg (N := 8) ?hd (xs := ([a0] : List Int)) (inner := [.int .i64 a0]) (ok := fun _ => True) (okp := fun _ => True) ?hr ?hp (fun _ hk => hk) trivial (Below.refl _ _) (Nat.le_refl _) (by simp) ?_; (case hd => rfl); (case hg => rfl); (case hr => first | (go_simp; done) | (go_simp; rfl)); (case hp => exact (Reps.one (show Kd.M (Kd.int .i64) _ _ _ a0 [.int .i64 a0] from rfl) (Reps.none _ _))); intro v344 w13 ho14 hb hg_ hnew_; clear hg_ hnew_; (first | rw [← Ny343.out] at ho14 | (simp only [Int.reduceToNat] at ho14; rw [← Ny343.out] at ho14)); have n0_ := Aside0.mk (Kd.R_lower ho14 (below_size (by repeat (first | (with_reducible first | exact HB.out | apply below_alloc | apply pw_below_drewN | apply below_drew1) | exact HB.out)))); have n1_ := Aside0.mk (below_step (by repeat (first | (with_reducible first | exact HB.out | apply below_alloc | apply pw_below_drewN | apply below_drew1) | exact HB.out)) hb); clear HB; have HO345 := n0_; have HB := n1_; clear n0_ n1_; clear hb ho14; obtain ⟨Ao15, co15, eo15⟩ := Kd.R_slice HO345.out; subst eo15) | ((with_reducible refine gate_callee (f := 65) rfl ?_); refine goesL_ (some 9) rfl rfl Tryd.func65 (by kernel_rfl) rfl #[.slice Ao15 y343.length co15] rfl (by (try simp only [List.map_toArray, List.map_cons, List.map_nil]); first | done | rfl | (simp only [List.length_drop, List.length_take]; rfl)) ?_; (with_reducible refine (money_Right.calls k _ _ y343 false _ ?side1 ?side2 A3.out).mono ?_); (case side1 => repeat (first | exact (Kd.R_reads' HO345.out).2.2 | (with_reducible refine Kd.C_alloc ?_ _) | (with_reducible refine Kd.C_drewN ?_ _) | (with_reducible refine Kd.C_drew ?_))); (case side2 => exact (Kd.R_reads' HO345.out).2.1); rintro e w' ⟨rfl, ⟨nd, rfl⟩⟩; refine ⟨_, rfl, ?_⟩))
  go_ret2
  exact ⟨by first | rfl | (simp [errW_none, errW_some] <;> rfl) | (simp [*, errW_none, errW_some] <;> rfl), by repeat (first | (with_reducible first | exact HB.out | apply below_alloc | apply pw_below_drewN | apply below_drew1) | exact HB.out)⟩

end Go.Proofs.YtmocphafkimdpaaDoor.P


-- written by a program (a patched copy of the kit's print: wip/mkprint.py); Lean checks it
namespace Go.Proofs.YtmocphafkimdpaaDoor.P
open Go.RowKit Go.Proofs.YtmocphafkimdpaaDoorW.PrintWords Go.Proofs.YtmocphafkimdpaaDoorW.PrintLast Go.Proofs.YtmocphafkimdpaaDoorW.PrintMore
attribute [local go_sem] max2_int min2_int max_two min_two max_three min_three max_four min_four   -- for this text's walks alone
set_option linter.unusedVariables false
set_option linter.unusedSimpArgs false

/-! ### frac_Right: function 104 -/
def frac_Right.f (a0 : Int) : Option (Bool) := if a0 ≥ (-1000000000000000) then (some (decide (a0 ≤ 1000000000000000))) else (some false)
set_option maxHeartbeats 8000000 in
set_option maxRecDepth 100000 in
theorem frac_Right.calls (a0 : Int) (r : Bool) (w : World) (h : frac_Right.f a0 = some r) :
  Calls Tryd.prog 104 #[.int .i64 a0] w fun e w' => e = .returned (.bool r) ∧ Drawn0 w w' := by
 have H : (if a0 ≥ (-1000000000000000) then (some (decide (a0 ≤ 1000000000000000))) else (some false)) = some r := h
 clear h
 by_cases c2 : a0 ≥ (-1000000000000000)
 ·rw [if_pos c2] at H
  have c2b0 : decide ((-1000000000000000) ≤ a0) = true := decide_eq_true c2
  clear c2
  obtain rfl := Option.some.inj H
  go_enter Tryd.func104, Tryd.ntmps104
  go_wp2
  go_ret
  exact ⟨by first | rfl | (simp; done) | (simp [*]; done), by repeat (first | exact Drawn0.refl _ | apply Drawn0.step)⟩
 ·rw [if_neg c2] at H
  have c2b0 : decide ((-1000000000000000) ≤ a0) = false := decide_eq_false c2
  clear c2
  obtain rfl := Option.some.inj H
  go_enter Tryd.func104, Tryd.ntmps104
  go_wp2
  go_ret
  exact ⟨by first | rfl | (simp; done) | (simp [*]; done), by repeat (first | exact Drawn0.refl _ | apply Drawn0.step)⟩

end Go.Proofs.YtmocphafkimdpaaDoor.P


-- written by a program (a patched copy of the kit's print: wip/mkprint.py); Lean checks it
namespace Go.Proofs.YtmocphafkimdpaaDoor.P
open Go.RowKit Go.Proofs.YtmocphafkimdpaaDoorW.PrintWords Go.Proofs.YtmocphafkimdpaaDoorW.PrintLast Go.Proofs.YtmocphafkimdpaaDoorW.PrintMore
attribute [local go_sem] max2_int min2_int max_two min_two max_three min_three max_four min_four   -- for this text's walks alone
set_option linter.unusedVariables false
set_option linter.unusedSimpArgs false

/-! ### frac_Mode: function 78 -/
def frac_Mode.f (a0 : Int) : Option (Bool) := if a0 ≥ 1 then (some (decide (a0 ≤ 6))) else (some false)
set_option maxHeartbeats 8000000 in
set_option maxRecDepth 100000 in
theorem frac_Mode.calls (a0 : Int) (r : Bool) (w : World) (h : frac_Mode.f a0 = some r) :
  Calls Tryd.prog 78 #[.int .i64 a0] w fun e w' => e = .returned (.bool r) ∧ Drawn0 w w' := by
 have H : (if a0 ≥ 1 then (some (decide (a0 ≤ 6))) else (some false)) = some r := h
 clear h
 by_cases c2 : a0 ≥ 1
 ·rw [if_pos c2] at H
  have c2b0 : decide (1 ≤ a0) = true := decide_eq_true c2
  clear c2
  obtain rfl := Option.some.inj H
  go_enter Tryd.func78, Tryd.ntmps78
  go_wp2
  go_ret
  exact ⟨by first | rfl | (simp; done) | (simp [*]; done), by repeat (first | exact Drawn0.refl _ | apply Drawn0.step)⟩
 ·rw [if_neg c2] at H
  have c2b0 : decide (1 ≤ a0) = false := decide_eq_false c2
  clear c2
  obtain rfl := Option.some.inj H
  go_enter Tryd.func78, Tryd.ntmps78
  go_wp2
  go_ret
  exact ⟨by first | rfl | (simp; done) | (simp [*]; done), by repeat (first | exact Drawn0.refl _ | apply Drawn0.step)⟩

end Go.Proofs.YtmocphafkimdpaaDoor.P


-- written by a program (a patched copy of the kit's print: wip/mkprint.py); Lean checks it
namespace Go.Proofs.YtmocphafkimdpaaDoor.P
open Go.RowKit Go.Proofs.YtmocphafkimdpaaDoorW.PrintWords Go.Proofs.YtmocphafkimdpaaDoorW.PrintLast Go.Proofs.YtmocphafkimdpaaDoorW.PrintMore
attribute [local go_sem] max2_int min2_int max_two min_two max_three min_three max_four min_four   -- for this text's walks alone
set_option linter.unusedVariables false
set_option linter.unusedSimpArgs false

/-! ### frac_floor: function 79 -/
def frac_floor.f (a0 : Int) (a1 : Int) : Option (Int × Int) := if a1 = 0 then (none) else (if (Int.tmod a0 a1) < 0 then (some (wrap64 ((wrap64 (Int.tdiv a0 a1)) - 1), wrap64 ((Int.tmod a0 a1) + a1))) else (some (wrap64 (Int.tdiv a0 a1), Int.tmod a0 a1)))
set_option maxHeartbeats 8000000 in
set_option maxRecDepth 100000 in
theorem frac_floor.calls (a0 : Int) (a1 : Int) (r1 : Int) (r2 : Int) (w : World) (h : frac_floor.f a0 a1 = some (r1, r2)) :
  Calls Tryd.prog 79 #[.int .i64 a0, .int .i64 a1] w fun e w' => e = .returned (.tuple #[.int .i64 r1, .int .i64 r2]) ∧ Drawn0 w w' := by
 have H : (if a1 = 0 then (none) else (if (Int.tmod a0 a1) < 0 then (some (wrap64 ((wrap64 (Int.tdiv a0 a1)) - 1), wrap64 ((Int.tmod a0 a1) + a1))) else (some (wrap64 (Int.tdiv a0 a1), Int.tmod a0 a1)))) = some (r1, r2) := h
 clear h
 by_cases c3 : a1 = 0
 ·rw [if_pos c3] at H
  exact absurd H (by simp)
 ·rw [if_neg c3] at H
  have c3b0 : (a1 == 0) = false := beq_eq_false_iff_ne.mpr c3
  have c3b1 : (a1 != 0) = true := bne_iff_ne.mpr c3
  by_cases c4 : (Int.tmod a0 a1) < 0
  ·rw [if_pos c4] at H
   have c4b0 : decide ((Int.tmod a0 a1) < 0) = true := decide_eq_true c4
   clear c4
   simp only [Option.some.injEq, Prod.mk.injEq] at H
   obtain ⟨rfl, rfl⟩ := H
   go_enter Tryd.func79, Tryd.ntmps79
   go_wp2
   repeat (go_quiet (fail); try go_wp2)
   go_ret2
   exact ⟨by first | rfl | (simp; done) | (simp [*]; done), by repeat (first | exact Drawn0.refl _ | apply Drawn0.step)⟩
  ·rw [if_neg c4] at H
   have c4b0 : decide ((Int.tmod a0 a1) < 0) = false := decide_eq_false c4
   clear c4
   simp only [Option.some.injEq, Prod.mk.injEq] at H
   obtain ⟨rfl, rfl⟩ := H
   go_enter Tryd.func79, Tryd.ntmps79
   go_wp2
   repeat (go_quiet (fail); try go_wp2)
   go_ret2
   exact ⟨by first | rfl | (simp; done) | (simp [*]; done), by repeat (first | exact Drawn0.refl _ | apply Drawn0.step)⟩

end Go.Proofs.YtmocphafkimdpaaDoor.P


-- written by a program (a patched copy of the kit's print: wip/mkprint.py); Lean checks it
namespace Go.Proofs.YtmocphafkimdpaaDoor.P
open Go.RowKit Go.Proofs.YtmocphafkimdpaaDoorW.PrintWords Go.Proofs.YtmocphafkimdpaaDoorW.PrintLast Go.Proofs.YtmocphafkimdpaaDoorW.PrintMore
attribute [local go_sem] max2_int min2_int max_two min_two max_three min_three max_four min_four   -- for this text's walks alone
set_option linter.unusedVariables false
set_option linter.unusedSimpArgs false

/-! ### frac_nearer: function 80 -/
def frac_nearer.f (a0 : Int) (a1 : Int) (a2 : Int) (a3 : Int) : Option (Bool) := if a3 = 2 then (some (decide (a1 > 0))) else (if a3 = 3 then (if a1 > 0 then (some (decide (a0 < 0))) else (some false)) else (if a3 = 1 then (some false) else (if a1 = (wrap64 (a2 - a1)) then (if a3 = 4 then (some (decide (a0 ≥ 0))) else (if a3 = 6 then (some (decide (a0 < 0))) else (some ((Int.tmod a0 2) != 0)))) else (some (decide (a1 > (wrap64 (a2 - a1))))))))
set_option maxHeartbeats 8000000 in
set_option maxRecDepth 100000 in
theorem frac_nearer.calls (a0 : Int) (a1 : Int) (a2 : Int) (a3 : Int) (r : Bool) (w : World) (h : frac_nearer.f a0 a1 a2 a3 = some r) :
  Calls Tryd.prog 80 #[.int .i64 a0, .int .i64 a1, .int .i64 a2, .int .i64 a3] w fun e w' => e = .returned (.bool r) ∧ Drawn0 w w' := by
 have H : (if a3 = 2 then (some (decide (a1 > 0))) else (if a3 = 3 then (if a1 > 0 then (some (decide (a0 < 0))) else (some false)) else (if a3 = 1 then (some false) else (if a1 = (wrap64 (a2 - a1)) then (if a3 = 4 then (some (decide (a0 ≥ 0))) else (if a3 = 6 then (some (decide (a0 < 0))) else (some ((Int.tmod a0 2) != 0)))) else (some (decide (a1 > (wrap64 (a2 - a1))))))))) = some r := h
 clear h
 by_cases c5 : a3 = 2
 ·rw [if_pos c5] at H
  have c5b0 : (a3 == 2) = true := beq_iff_eq.mpr c5
  have c5b1 : (a3 != 2) = false := bne_eq_false_iff_eq.mpr c5
  clear c5
  obtain rfl := Option.some.inj H
  go_enter Tryd.func80, Tryd.ntmps80
  go_wp2
  go_ret
  exact ⟨by first | rfl | (simp; done) | (simp [*]; done), by repeat (first | exact Drawn0.refl _ | apply Drawn0.step)⟩
 ·rw [if_neg c5] at H
  have c5b0 : (a3 == 2) = false := beq_eq_false_iff_ne.mpr c5
  have c5b1 : (a3 != 2) = true := bne_iff_ne.mpr c5
  by_cases c6 : a3 = 3
  ·rw [if_pos c6] at H
   have c6b0 : (a3 == 3) = true := beq_iff_eq.mpr c6
   have c6b1 : (a3 != 3) = false := bne_eq_false_iff_eq.mpr c6
   clear c6
   by_cases c7 : a1 > 0
   ·rw [if_pos c7] at H
    have c7b0 : decide (0 < a1) = true := decide_eq_true c7
    clear c7
    obtain rfl := Option.some.inj H
    go_enter Tryd.func80, Tryd.ntmps80
    go_wp2
    go_ret
    exact ⟨by first | rfl | (simp; done) | (simp [*]; done), by repeat (first | exact Drawn0.refl _ | apply Drawn0.step)⟩
   ·rw [if_neg c7] at H
    have c7b0 : decide (0 < a1) = false := decide_eq_false c7
    clear c7
    obtain rfl := Option.some.inj H
    go_enter Tryd.func80, Tryd.ntmps80
    go_wp2
    go_ret
    exact ⟨by first | rfl | (simp; done) | (simp [*]; done), by repeat (first | exact Drawn0.refl _ | apply Drawn0.step)⟩
  ·rw [if_neg c6] at H
   have c6b0 : (a3 == 3) = false := beq_eq_false_iff_ne.mpr c6
   have c6b1 : (a3 != 3) = true := bne_iff_ne.mpr c6
   by_cases c8 : a3 = 1
   ·rw [if_pos c8] at H
    have c8b0 : (a3 == 1) = true := beq_iff_eq.mpr c8
    have c8b1 : (a3 != 1) = false := bne_eq_false_iff_eq.mpr c8
    clear c8
    obtain rfl := Option.some.inj H
    go_enter Tryd.func80, Tryd.ntmps80
    go_wp2
    go_ret
    exact ⟨by first | rfl | (simp; done) | (simp [*]; done), by repeat (first | exact Drawn0.refl _ | apply Drawn0.step)⟩
   ·rw [if_neg c8] at H
    have c8b0 : (a3 == 1) = false := beq_eq_false_iff_ne.mpr c8
    have c8b1 : (a3 != 1) = true := bne_iff_ne.mpr c8
    by_cases c9 : a1 = (wrap64 (a2 - a1))
    ·rw [if_pos c9] at H
     have c9b0 : (a1 == (wrap64 (a2 - a1))) = true := beq_iff_eq.mpr c9
     have c9b1 : (a1 != (wrap64 (a2 - a1))) = false := bne_eq_false_iff_eq.mpr c9
     clear c9
     by_cases c10 : a3 = 4
     ·rw [if_pos c10] at H
      have c10b0 : (a3 == 4) = true := beq_iff_eq.mpr c10
      have c10b1 : (a3 != 4) = false := bne_eq_false_iff_eq.mpr c10
      clear c10
      obtain rfl := Option.some.inj H
      go_enter Tryd.func80, Tryd.ntmps80
      go_wp2
      go_ret
      exact ⟨by first | rfl | (simp; done) | (simp [*]; done), by repeat (first | exact Drawn0.refl _ | apply Drawn0.step)⟩
     ·rw [if_neg c10] at H
      have c10b0 : (a3 == 4) = false := beq_eq_false_iff_ne.mpr c10
      have c10b1 : (a3 != 4) = true := bne_iff_ne.mpr c10
      by_cases c11 : a3 = 6
      ·rw [if_pos c11] at H
       have c11b0 : (a3 == 6) = true := beq_iff_eq.mpr c11
       have c11b1 : (a3 != 6) = false := bne_eq_false_iff_eq.mpr c11
       clear c11
       obtain rfl := Option.some.inj H
       go_enter Tryd.func80, Tryd.ntmps80
       go_wp2
       go_ret
       exact ⟨by first | rfl | (simp; done) | (simp [*]; done), by repeat (first | exact Drawn0.refl _ | apply Drawn0.step)⟩
      ·rw [if_neg c11] at H
       have c11b0 : (a3 == 6) = false := beq_eq_false_iff_ne.mpr c11
       have c11b1 : (a3 != 6) = true := bne_iff_ne.mpr c11
       obtain rfl := Option.some.inj H
       go_enter Tryd.func80, Tryd.ntmps80
       go_wp2
       go_ret
       exact ⟨by first | rfl | (simp; done) | (simp [*]; done), by repeat (first | exact Drawn0.refl _ | apply Drawn0.step)⟩
    ·rw [if_neg c9] at H
     have c9b0 : (a1 == (wrap64 (a2 - a1))) = false := beq_eq_false_iff_ne.mpr c9
     have c9b1 : (a1 != (wrap64 (a2 - a1))) = true := bne_iff_ne.mpr c9
     obtain rfl := Option.some.inj H
     go_enter Tryd.func80, Tryd.ntmps80
     go_wp2
     go_ret
     exact ⟨by first | rfl | (simp; done) | (simp [*]; done), by repeat (first | exact Drawn0.refl _ | apply Drawn0.step)⟩

end Go.Proofs.YtmocphafkimdpaaDoor.P


-- written by a program (a patched copy of the kit's print: wip/mkprint.py); Lean checks it
namespace Go.Proofs.YtmocphafkimdpaaDoor.P
open Go.RowKit Go.Proofs.YtmocphafkimdpaaDoorW.PrintWords Go.Proofs.YtmocphafkimdpaaDoorW.PrintLast Go.Proofs.YtmocphafkimdpaaDoorW.PrintMore
attribute [local go_sem] max2_int min2_int max_two min_two max_three min_three max_four min_four   -- for this text's walks alone
set_option linter.unusedVariables false
set_option linter.unusedSimpArgs false

/-! ### frac_Round: function 37 -/
def frac_Round.j0 : Nat → Int → Int → Int → Bool → Option (Int × Int)
 | 0, _, _, _, _ => none
 | k + 1, x0, x1, x2, x16 => if x16 = true then (some (0, 1)) else ((frac_floor.f x0 x1).bind fun bt265 => (if bt265.2 > 0 then ((frac_nearer.f bt265.1 bt265.2 x1 x2).bind fun t267 => (if t267 = true then (some (wrap64 (bt265.1 + 1), 0)) else (some (bt265.1, 0)))) else (some (bt265.1, 0))))
def frac_Round.f (k : Nat) (a0 : Int) (a1 : Int) (a2 : Int) : Option (Int × Int) := if a1 ≤ 0 then (frac_Round.j0 k a0 a1 a2 true) else ((frac_Mode.f a2).bind fun t264 => (frac_Round.j0 k a0 a1 a2 (!t264)))
theorem frac_Round.mono_l : ∀ k, (∀ y0 y1 y2 y3, LeO (frac_Round.j0 k y0 y1 y2 y3) (frac_Round.j0 (k + 1) y0 y1 y2 y3))
 | 0 => fun _ _ _ _ r h => by simp [frac_Round.j0] at h
 | k + 1 => by
  have ih0 := frac_Round.mono_l k
  ·intro y0 y1 y2 y3
   unfold frac_Round.j0
   repeat' first
   | (with_reducible exact ih0 _ _ _ _)
   | (with_reducible exact LeO.refl _)
   | (with_reducible exact LeO.none _)
   | (with_reducible refine LeO.ite ?_ ?_)
   | (with_reducible refine LeO.bind ?_ (fun _ => ?_))
   | exact ih0 _ _ _ _
   | exact LeO.none _
   | refine LeO.ite ?_ ?_
   | refine LeO.bind ?_ (fun _ => ?_)
theorem frac_Round.mono : ∀ a0 a1 a2 k, LeO (frac_Round.f k a0 a1 a2) (frac_Round.f (k + 1) a0 a1 a2) := by
 intro a0 a1 a2 k
 have ih0 := frac_Round.mono_l k
 unfold frac_Round.f
 repeat' first
   | (with_reducible exact ih0 _ _ _ _)
   | (with_reducible exact LeO.refl _)
   | (with_reducible exact LeO.none _)
   | (with_reducible refine LeO.ite ?_ ?_)
   | (with_reducible refine LeO.bind ?_ (fun _ => ?_))
   | exact ih0 _ _ _ _
   | exact LeO.none _
   | refine LeO.ite ?_ ?_
   | refine LeO.bind ?_ (fun _ => ?_)
set_option maxHeartbeats 8000000 in
set_option maxRecDepth 100000 in
theorem frac_Round.calls (k : Nat) (a0 : Int) (a1 : Int) (a2 : Int) (r1 : Int) (r2 : Int) (w : World) (h : frac_Round.f k a0 a1 a2 = some (r1, r2)) :
  Calls Tryd.prog 37 #[.int .i64 a0, .int .i64 a1, .int .i64 a2] w fun e w' => e = .returned (.tuple #[.int .i64 r1, .int .i64 r2]) ∧ Drawn0 w w' := by
 have H : (if a1 ≤ 0 then (frac_Round.j0 k a0 a1 a2 true) else ((frac_Mode.f a2).bind fun t264 => (frac_Round.j0 k a0 a1 a2 (!t264)))) = some (r1, r2) := h
 clear h
 have HC4 := Aside0.mk H
 clear H
 go_enter Tryd.func37, Tryd.ntmps37
 go_upto_region 1 with (fail)
 go_cut [16] (fun v16 wc => ∃ (kq : Nat) (x16_3 : Bool), v16 = .bool x16_3 ∧ Aside0 (frac_Round.j0 kq a0 a1 a2 x16_3 = some (r1, r2)) ∧ Aside0 (kq ≤ k) ∧ Drawn0 w wc)
 case first =>
  have H := HC4.out
  clear HC4
  by_cases c5 : a1 ≤ 0
  ·rw [if_pos c5] at H
   have c5b0 : decide (a1 ≤ 0) = true := decide_eq_true c5
   clear c5
   (first | rw [c5b0] | (simp only [i64_w, i32_w]; rw [c5b0]) | skip)
   have H' := Aside0.mk H
   clear H
   go_wp2
   go_meet
   case rel => exact ⟨_, (true), (by first | rfl | (simp; done) | (simp [*]; done)), H', ⟨by first | omega | exact Nat.le_refl _⟩, by repeat (first | exact Drawn0.refl _ | apply Drawn0.step)⟩
  ·rw [if_neg c5] at H
   have c5b0 : decide (a1 ≤ 0) = false := decide_eq_false c5
   clear c5
   (first | rw [c5b0] | (simp only [i64_w, i32_w]; rw [c5b0]) | skip)
   replace H := Option.bind_eq_some_iff.mp H
   obtain ⟨t264, A60, H⟩ := H
   replace H : (frac_Round.j0 k a0 a1 a2 (!t264)) = some (r1, r2) := H
   have A6 := Aside0.mk A60
   clear A60
   have H' := Aside0.mk H
   clear H
   go_wp2_with (first | (go_at_call 78; (with_reducible refine (frac_Mode.calls a2 t264 _ A6.out).mono ?_); rintro e w' ⟨rfl, ⟨nd, rfl⟩⟩))
   go_meet
   case rel => exact ⟨_, (!t264), (by first | rfl | (simp; done) | (simp [*]; done)), H', ⟨by first | omega | exact Nat.le_refl _⟩, by repeat (first | exact Drawn0.refl _ | apply Drawn0.step)⟩
 case rest =>
  clear HC4
  try clear p2
  try clear c3
  try clear c5
  try clear c5b0
  obtain ⟨kq, x16_3, rfl, HA, HJ3, ⟨mc3, rfl⟩⟩ := hcut
  cases kq with
  | zero => exact absurd HA.out (by simp [frac_Round.j0])
  | succ kj3 =>
   have H := HA.out
   clear HA
   simp only [frac_Round.j0] at H
   by_cases c7 : x16_3 = true
   ·subst c7
    have H1 : (some (0, 1)) = some (r1, r2) := by rw [if_pos rfl] at H; exact H
    clear H
    have H := H1
    clear H1
    simp only [Option.some.injEq, Prod.mk.injEq] at H
    obtain ⟨rfl, rfl⟩ := H
    go_wp2
    go_ret2
    exact ⟨by first | rfl | (simp; done) | (simp [*]; done), by repeat (first | exact Drawn0.refl _ | apply Drawn0.step)⟩
   ·replace c7 := Bool.eq_false_iff.mpr c7
    subst c7
    have H1 : ((frac_floor.f a0 a1).bind fun bt265 => (if bt265.2 > 0 then ((frac_nearer.f bt265.1 bt265.2 a1 a2).bind fun t267 => (if t267 = true then (some (wrap64 (bt265.1 + 1), 0)) else (some (bt265.1, 0)))) else (some (bt265.1, 0)))) = some (r1, r2) := by rw [if_neg (show ¬ (false = true) by decide)] at H; exact H
    clear H
    have H := H1
    clear H1
    replace H := Option.bind_eq_some_iff.mp H
    obtain ⟨⟨t265, t266⟩, A80, H⟩ := H
    replace H : (if t266 > 0 then ((frac_nearer.f t265 t266 a1 a2).bind fun t267 => (if t267 = true then (some (wrap64 (t265 + 1), 0)) else (some (t265, 0)))) else (some (t265, 0))) = some (r1, r2) := H
    have A8 := Aside0.mk A80
    clear A80
    by_cases c9 : t266 > 0
    ·rw [if_pos c9] at H
     have c9b0 : decide (0 < t266) = true := decide_eq_true c9
     clear c9
     replace H := Option.bind_eq_some_iff.mp H
     obtain ⟨t267, A100, H⟩ := H
     replace H : (if t267 = true then (some (wrap64 (t265 + 1), 0)) else (some (t265, 0))) = some (r1, r2) := H
     have A10 := Aside0.mk A100
     clear A100
     by_cases c11 : t267 = true
     ·subst c11
      have H1 : (some (wrap64 (t265 + 1), 0)) = some (r1, r2) := by rw [if_pos rfl] at H; exact H
      clear H
      have H := H1
      clear H1
      simp only [Option.some.injEq, Prod.mk.injEq] at H
      obtain ⟨rfl, rfl⟩ := H
      go_wp2_with (first | ((with_reducible refine gate_callee (f := 79) rfl ?_); refine goesL_ (some 20) rfl rfl Tryd.func79 (by kernel_rfl) rfl #[.int .i64 a0, .int .i64 a1] rfl (by (try simp only [List.map_toArray, List.map_cons, List.map_nil]); first | done | rfl | (simp only [List.length_drop, List.length_take]; rfl)) ?_; (with_reducible refine (frac_floor.calls a0 a1 t265 t266 _ A8.out).mono ?_); rintro e w' ⟨rfl, ⟨nd, rfl⟩⟩; refine ⟨_, rfl, ?_⟩) | (go_at_call 80; (with_reducible refine (frac_nearer.calls t265 t266 a1 a2 true _ A10.out).mono ?_); rintro e w' ⟨rfl, ⟨nd, rfl⟩⟩))
      go_ret2
      exact ⟨by first | rfl | (simp; done) | (simp [*]; done), by repeat (first | exact Drawn0.refl _ | apply Drawn0.step)⟩
     ·replace c11 := Bool.eq_false_iff.mpr c11
      subst c11
      have H1 : (some (t265, 0)) = some (r1, r2) := by rw [if_neg (show ¬ (false = true) by decide)] at H; exact H
      clear H
      have H := H1
      clear H1
      simp only [Option.some.injEq, Prod.mk.injEq] at H
      obtain ⟨rfl, rfl⟩ := H
      go_wp2_with (first | ((with_reducible refine gate_callee (f := 79) rfl ?_); refine goesL_ (some 20) rfl rfl Tryd.func79 (by kernel_rfl) rfl #[.int .i64 a0, .int .i64 a1] rfl (by (try simp only [List.map_toArray, List.map_cons, List.map_nil]); first | done | rfl | (simp only [List.length_drop, List.length_take]; rfl)) ?_; (with_reducible refine (frac_floor.calls a0 a1 t265 t266 _ A8.out).mono ?_); rintro e w' ⟨rfl, ⟨nd, rfl⟩⟩; refine ⟨_, rfl, ?_⟩) | (go_at_call 80; (with_reducible refine (frac_nearer.calls t265 t266 a1 a2 false _ A10.out).mono ?_); rintro e w' ⟨rfl, ⟨nd, rfl⟩⟩))
      go_ret2
      exact ⟨by first | rfl | (simp; done) | (simp [*]; done), by repeat (first | exact Drawn0.refl _ | apply Drawn0.step)⟩
    ·rw [if_neg c9] at H
     have c9b0 : decide (0 < t266) = false := decide_eq_false c9
     clear c9
     simp only [Option.some.injEq, Prod.mk.injEq] at H
     obtain ⟨rfl, rfl⟩ := H
     go_wp2_with (first | ((with_reducible refine gate_callee (f := 79) rfl ?_); refine goesL_ (some 20) rfl rfl Tryd.func79 (by kernel_rfl) rfl #[.int .i64 a0, .int .i64 a1] rfl (by (try simp only [List.map_toArray, List.map_cons, List.map_nil]); first | done | rfl | (simp only [List.length_drop, List.length_take]; rfl)) ?_; (with_reducible refine (frac_floor.calls a0 a1 t265 t266 _ A8.out).mono ?_); rintro e w' ⟨rfl, ⟨nd, rfl⟩⟩; refine ⟨_, rfl, ?_⟩))
     go_ret2
     exact ⟨by first | rfl | (simp; done) | (simp [*]; done), by repeat (first | exact Drawn0.refl _ | apply Drawn0.step)⟩

end Go.Proofs.YtmocphafkimdpaaDoor.P


-- written by a program (a patched copy of the kit's print: wip/mkprint.py); Lean checks it
namespace Go.Proofs.YtmocphafkimdpaaDoor.P
open Go.RowKit Go.Proofs.YtmocphafkimdpaaDoorW.PrintWords Go.Proofs.YtmocphafkimdpaaDoorW.PrintLast Go.Proofs.YtmocphafkimdpaaDoorW.PrintMore
attribute [local go_sem] max2_int min2_int max_two min_two max_three min_three max_four min_four   -- for this text's walks alone
set_option linter.unusedVariables false
set_option linter.unusedSimpArgs false

/-! ### frac_Coins: function 81 -/
def frac_Coins.f (k : Nat) (a0 : Int) (a1 : Int) : Option (Int × Int) := (frac_Right.f a0).bind fun t348 => (if t348 = true then ((frac_Round.f k a0 10000 a1).bind fun bt349 => (some (bt349.1, bt349.2))) else (some (0, 10)))
theorem frac_Coins.mono : ∀ a0 a1 k, LeO (frac_Coins.f k a0 a1) (frac_Coins.f (k + 1) a0 a1) := by
 intro a0 a1 k
 unfold frac_Coins.f
 repeat' first
   | (with_reducible exact frac_Round.mono _ _ _ _)
   | (with_reducible exact LeO.refl _)
   | (with_reducible exact LeO.none _)
   | (with_reducible refine LeO.ite ?_ ?_)
   | (with_reducible refine LeO.bind ?_ (fun _ => ?_))
   | exact frac_Round.mono _ _ _ _
   | exact LeO.none _
   | refine LeO.ite ?_ ?_
   | refine LeO.bind ?_ (fun _ => ?_)
set_option maxHeartbeats 8000000 in
set_option maxRecDepth 100000 in
theorem frac_Coins.calls (k : Nat) (a0 : Int) (a1 : Int) (r1 : Int) (r2 : Int) (w : World) (h : frac_Coins.f k a0 a1 = some (r1, r2)) :
  Calls Tryd.prog 81 #[.int .i64 a0, .int .i64 a1] w fun e w' => e = .returned (.tuple #[.int .i64 r1, .int .i64 r2]) ∧ Drawn0 w w' := by
 have H : ((frac_Right.f a0).bind fun t348 => (if t348 = true then ((frac_Round.f k a0 10000 a1).bind fun bt349 => (some (bt349.1, bt349.2))) else (some (0, 10)))) = some (r1, r2) := h
 clear h
 replace H := Option.bind_eq_some_iff.mp H
 obtain ⟨t348, A30, H⟩ := H
 replace H : (if t348 = true then ((frac_Round.f k a0 10000 a1).bind fun bt349 => (some (bt349.1, bt349.2))) else (some (0, 10))) = some (r1, r2) := H
 have A3 := Aside0.mk A30
 clear A30
 by_cases c4 : t348 = true
 ·subst c4
  have H1 : ((frac_Round.f k a0 10000 a1).bind fun bt349 => (some (bt349.1, bt349.2))) = some (r1, r2) := by rw [if_pos rfl] at H; exact H
  clear H
  have H := H1
  clear H1
  replace H := Option.bind_eq_some_iff.mp H
  obtain ⟨⟨t349, t350⟩, A50, H⟩ := H
  replace H : (some (t349, t350)) = some (r1, r2) := H
  have A5 := Aside0.mk A50
  clear A50
  simp only [Option.some.injEq, Prod.mk.injEq] at H
  obtain ⟨rfl, rfl⟩ := H
  go_enter Tryd.func81, Tryd.ntmps81
  go_wp2_with (first | ((with_reducible refine gate_callee (f := 104) rfl ?_); refine goesL_ (some 7) rfl rfl Tryd.func104 (by kernel_rfl) rfl #[.int .i64 a0] rfl (by (try simp only [List.map_toArray, List.map_cons, List.map_nil]); first | done | rfl | (simp only [List.length_drop, List.length_take]; rfl)) ?_; (with_reducible refine (frac_Right.calls a0 true _ A3.out).mono ?_); rintro e w' ⟨rfl, ⟨nd, rfl⟩⟩; refine ⟨_, rfl, ?_⟩) | ((with_reducible refine gate_callee (f := 37) rfl ?_); refine goesL_ (some 11) rfl rfl Tryd.func37 (by kernel_rfl) rfl #[.int .i64 a0, .int .i64 10000, .int .i64 a1] rfl (by (try simp only [List.map_toArray, List.map_cons, List.map_nil]); first | done | rfl | (simp only [List.length_drop, List.length_take]; rfl)) ?_; (with_reducible refine (frac_Round.calls k a0 10000 a1 t349 t350 _ A5.out).mono ?_); rintro e w' ⟨rfl, ⟨nd, rfl⟩⟩; refine ⟨_, rfl, ?_⟩))
  go_ret2
  exact ⟨by first | rfl | (simp; done) | (simp [*]; done), by repeat (first | exact Drawn0.refl _ | apply Drawn0.step)⟩
 ·replace c4 := Bool.eq_false_iff.mpr c4
  subst c4
  have H1 : (some (0, 10)) = some (r1, r2) := by rw [if_neg (show ¬ (false = true) by decide)] at H; exact H
  clear H
  have H := H1
  clear H1
  simp only [Option.some.injEq, Prod.mk.injEq] at H
  obtain ⟨rfl, rfl⟩ := H
  go_enter Tryd.func81, Tryd.ntmps81
  go_wp2_with (first | ((with_reducible refine gate_callee (f := 104) rfl ?_); refine goesL_ (some 7) rfl rfl Tryd.func104 (by kernel_rfl) rfl #[.int .i64 a0] rfl (by (try simp only [List.map_toArray, List.map_cons, List.map_nil]); first | done | rfl | (simp only [List.length_drop, List.length_take]; rfl)) ?_; (with_reducible refine (frac_Right.calls a0 false _ A3.out).mono ?_); rintro e w' ⟨rfl, ⟨nd, rfl⟩⟩; refine ⟨_, rfl, ?_⟩))
  go_ret2
  exact ⟨by first | rfl | (simp; done) | (simp [*]; done), by repeat (first | exact Drawn0.refl _ | apply Drawn0.step)⟩

end Go.Proofs.YtmocphafkimdpaaDoor.P


-- written by a program (a patched copy of the kit's print: wip/mkprint.py); Lean checks it
namespace Go.Proofs.YtmocphafkimdpaaDoor.P
open Go.RowKit Go.Proofs.YtmocphafkimdpaaDoorW.PrintWords Go.Proofs.YtmocphafkimdpaaDoorW.PrintLast Go.Proofs.YtmocphafkimdpaaDoorW.PrintMore
attribute [local go_sem] max2_int min2_int max_two min_two max_three min_three max_four min_four   -- for this text's walks alone
set_option linter.unusedVariables false
set_option linter.unusedSimpArgs false

/-! ### frac_Take: function 38 -/
def frac_Take.f (k : Nat) (a0 : Int) (a1 : Int) (a2 : Int) : Option (Int × Int) := (frac_Part.f k a0 a1).bind fun bt351 => (if bt351.2 = 0 then ((frac_Coins.f k bt351.1 a2).bind fun bt353 => (some (bt353.1, bt353.2))) else (some (0, bt351.2)))
theorem frac_Take.mono : ∀ a0 a1 a2 k, LeO (frac_Take.f k a0 a1 a2) (frac_Take.f (k + 1) a0 a1 a2) := by
 intro a0 a1 a2 k
 unfold frac_Take.f
 repeat' first
   | (with_reducible exact frac_Coins.mono _ _ _)
   | (with_reducible exact frac_Part.mono _ _ _)
   | (with_reducible exact LeO.refl _)
   | (with_reducible exact LeO.none _)
   | (with_reducible refine LeO.ite ?_ ?_)
   | (with_reducible refine LeO.bind ?_ (fun _ => ?_))
   | exact frac_Coins.mono _ _ _
   | exact frac_Part.mono _ _ _
   | exact LeO.none _
   | refine LeO.ite ?_ ?_
   | refine LeO.bind ?_ (fun _ => ?_)
set_option maxHeartbeats 8000000 in
set_option maxRecDepth 100000 in
theorem frac_Take.calls (k : Nat) (a0 : Int) (a1 : Int) (a2 : Int) (r1 : Int) (r2 : Int) (w : World) (h : frac_Take.f k a0 a1 a2 = some (r1, r2)) :
  Calls Tryd.prog 38 #[.int .i64 a0, .int .i64 a1, .int .i64 a2] w fun e w' => e = .returned (.tuple #[.int .i64 r1, .int .i64 r2]) ∧ Below w.heap.size w w' := by
 have HB := Aside0.mk (Below.refl w.heap.size w)
 have H : ((frac_Part.f k a0 a1).bind fun bt351 => (if bt351.2 = 0 then ((frac_Coins.f k bt351.1 a2).bind fun bt353 => (some (bt353.1, bt353.2))) else (some (0, bt351.2)))) = some (r1, r2) := h
 clear h
 replace H := Option.bind_eq_some_iff.mp H
 obtain ⟨⟨t351, t352⟩, A40, H⟩ := H
 replace H : (if t352 = 0 then ((frac_Coins.f k t351 a2).bind fun bt353 => (some (bt353.1, bt353.2))) else (some (0, t352))) = some (r1, r2) := H
 have A4 := Aside0.mk A40
 clear A40
 by_cases c5 : t352 = 0
 ·rw [if_pos c5] at H
  have c5b0 : (t352 == 0) = true := beq_iff_eq.mpr c5
  have c5b1 : (t352 != 0) = false := bne_eq_false_iff_eq.mpr c5
  clear c5
  replace H := Option.bind_eq_some_iff.mp H
  obtain ⟨⟨t353, t354⟩, A60, H⟩ := H
  replace H : (some (t353, t354)) = some (r1, r2) := H
  have A6 := Aside0.mk A60
  clear A60
  simp only [Option.some.injEq, Prod.mk.injEq] at H
  obtain ⟨rfl, rfl⟩ := H
  go_enter Tryd.func38, Tryd.ntmps38
  go_wp2_with (first | ((with_reducible refine gate_callee (f := 42) rfl ?_); refine goesL_ (some 13) rfl rfl Tryd.func42 (by kernel_rfl) rfl #[.int .i64 a0, .int .i64 a1] rfl (by (try simp only [List.map_toArray, List.map_cons, List.map_nil]); first | done | rfl | (simp only [List.length_drop, List.length_take]; rfl)) ?_; (with_reducible refine (frac_Part.calls k a0 a1 t351 t352 _ A4.out).mono ?_); rintro e w7 ⟨rfl, hb⟩; refine ⟨_, rfl, ?_⟩; have n0_ := Aside0.mk (below_step (by repeat (first | (with_reducible first | exact HB.out | apply below_alloc | apply pw_below_drewN | apply below_drew1) | exact HB.out)) hb); clear HB; have HB := n0_; clear n0_; (try clear hb); (try clear hb2); (try clear hk); (try clear hi)) | ((with_reducible refine gate_callee (f := 81) rfl ?_); refine goesL_ (some 21) rfl rfl Tryd.func81 (by kernel_rfl) rfl #[.int .i64 t351, .int .i64 a2] rfl (by (try simp only [List.map_toArray, List.map_cons, List.map_nil]); first | done | rfl | (simp only [List.length_drop, List.length_take]; rfl)) ?_; (with_reducible refine (frac_Coins.calls k t351 a2 t353 t354 _ A6.out).mono ?_); rintro e w' ⟨rfl, ⟨nd, rfl⟩⟩; refine ⟨_, rfl, ?_⟩))
  go_ret2
  exact ⟨by first | rfl | (simp [errW_none, errW_some] <;> rfl) | (simp [*, errW_none, errW_some] <;> rfl), by repeat (first | (with_reducible first | exact HB.out | apply below_alloc | apply pw_below_drewN | apply below_drew1) | exact HB.out)⟩
 ·rw [if_neg c5] at H
  have c5b0 : (t352 == 0) = false := beq_eq_false_iff_ne.mpr c5
  have c5b1 : (t352 != 0) = true := bne_iff_ne.mpr c5
  simp only [Option.some.injEq, Prod.mk.injEq] at H
  obtain ⟨rfl, rfl⟩ := H
  go_enter Tryd.func38, Tryd.ntmps38
  go_wp2_with (first | ((with_reducible refine gate_callee (f := 42) rfl ?_); refine goesL_ (some 13) rfl rfl Tryd.func42 (by kernel_rfl) rfl #[.int .i64 a0, .int .i64 a1] rfl (by (try simp only [List.map_toArray, List.map_cons, List.map_nil]); first | done | rfl | (simp only [List.length_drop, List.length_take]; rfl)) ?_; (with_reducible refine (frac_Part.calls k a0 a1 t351 t352 _ A4.out).mono ?_); rintro e w8 ⟨rfl, hb⟩; refine ⟨_, rfl, ?_⟩; have n0_ := Aside0.mk (below_step (by repeat (first | (with_reducible first | exact HB.out | apply below_alloc | apply pw_below_drewN | apply below_drew1) | exact HB.out)) hb); clear HB; have HB := n0_; clear n0_; (try clear hb); (try clear hb2); (try clear hk); (try clear hi)))
  go_ret2
  exact ⟨by first | rfl | (simp [errW_none, errW_some] <;> rfl) | (simp [*, errW_none, errW_some] <;> rfl), by repeat (first | (with_reducible first | exact HB.out | apply below_alloc | apply pw_below_drewN | apply below_drew1) | exact HB.out)⟩

end Go.Proofs.YtmocphafkimdpaaDoor.P


-- written by a program (a patched copy of the kit's print: wip/mkprint.py); Lean checks it
namespace Go.Proofs.YtmocphafkimdpaaDoor.P
open Go.RowKit Go.Proofs.YtmocphafkimdpaaDoorW.PrintWords Go.Proofs.YtmocphafkimdpaaDoorW.PrintLast Go.Proofs.YtmocphafkimdpaaDoorW.PrintMore
attribute [local go_sem] max2_int min2_int max_two min_two max_three min_three max_four min_four   -- for this text's walks alone
set_option linter.unusedVariables false
set_option linter.unusedSimpArgs false

/-! ### stipendtop_right: function 40 -/
def stipendtop_right.l0 : Nat → List Int → Int → Int → Option (Bool)
 | 0, _, _, _ => none
 | k + 1, x5, x6, x7 => if x7 < x6 then (if 0 ≤ x7 then (if x7 < (x5.length : Int) then (if (rd x5 x7) > 100000000000 then (some false) else (if (rd x5 x7) < (-100000000000) then (some false) else (stipendtop_right.l0 k x5 x6 (wrap64 (x7 + 1))))) else (none)) else (none)) else (some true)
def stipendtop_right.f (k : Nat) (l0 : List Int) : Option (Bool) := stipendtop_right.l0 k l0 (l0.length : Int) 0
theorem stipendtop_right.mono_l : ∀ k, (∀ y0 y1 y2, LeO (stipendtop_right.l0 k y0 y1 y2) (stipendtop_right.l0 (k + 1) y0 y1 y2))
 | 0 => fun _ _ _ r h => by simp [stipendtop_right.l0] at h
 | k + 1 => by
  have ih0 := stipendtop_right.mono_l k
  ·intro y0 y1 y2
   unfold stipendtop_right.l0
   repeat' first
   | (with_reducible exact ih0 _ _ _)
   | (with_reducible exact LeO.refl _)
   | (with_reducible exact LeO.none _)
   | (with_reducible refine LeO.ite ?_ ?_)
   | (with_reducible refine LeO.bind ?_ (fun _ => ?_))
   | exact ih0 _ _ _
   | exact LeO.none _
   | refine LeO.ite ?_ ?_
   | refine LeO.bind ?_ (fun _ => ?_)
theorem stipendtop_right.mono : ∀ a0 k, LeO (stipendtop_right.f k a0) (stipendtop_right.f (k + 1) a0) := by
 intro a0 k
 have ih0 := stipendtop_right.mono_l k
 unfold stipendtop_right.f
 repeat' first
   | (with_reducible exact ih0 _ _ _)
   | (with_reducible exact LeO.refl _)
   | (with_reducible exact LeO.none _)
   | (with_reducible refine LeO.ite ?_ ?_)
   | (with_reducible refine LeO.bind ?_ (fun _ => ?_))
   | exact ih0 _ _ _
   | exact LeO.none _
   | refine LeO.ite ?_ ?_
   | refine LeO.bind ?_ (fun _ => ?_)
set_option maxHeartbeats 8000000 in
set_option maxRecDepth 100000 in
theorem stipendtop_right.calls (k : Nat) (A0 : Option Addr) (c0 : Nat) (l0 : List Int) (r : Bool) (w : World) (hr0 : Kd.C (Kd.int .i64) w A0 l0.length l0) (hc0 : l0.length ≤ c0) (h : stipendtop_right.f k l0 = some r) :
  Calls Tryd.prog 40 #[.slice A0 l0.length c0] w fun e w' => e = .returned (.bool r) ∧ Drawn0 w w' := by
 have HR0 := Aside0.mk hr0
 have HC0 := Aside0.mk hc0
 clear hr0 hc0
 have H : (stipendtop_right.l0 k l0 (l0.length : Int) 0) = some r := h
 clear h
 have H' := Aside0.mk H
 clear H
 go_enter Tryd.func40, Tryd.ntmps40
 go_wp2
 go_loopg [7] k (fun kq v7 w' => ∃ (x7_1 : Int), v7 = .int .i64 x7_1 ∧ Aside0 (stipendtop_right.l0 kq l0 (l0.length : Int) x7_1 = some r) ∧ Aside0 (kq ≤ k) ∧ Drawn0 w w')
 case atStart => exact ⟨(0), (by first | rfl | (simp; done) | (simp [*]; done)), H', ⟨Nat.le_refl _⟩, by repeat (first | exact Drawn0.refl _ | apply Drawn0.step)⟩
 case round =>
  clear H'
  obtain ⟨x7_1, rfl, HA, HK1, ⟨m1, rfl⟩⟩ := hrel
  cases gk with
  | zero => exact absurd HA.out (by simp [stipendtop_right.l0])
  | succ k1 =>
   have H := HA.out
   clear HA
   simp only [stipendtop_right.l0] at H
   by_cases c2 : x7_1 < (l0.length : Int)
   ·rw [if_pos c2] at H
    have c2b0 : decide (x7_1 < (l0.length : Int)) = true := decide_eq_true c2
    clear c2
    by_cases c3 : 0 ≤ x7_1
    ·rw [if_pos c3] at H
     have c3b0 : decide (0 ≤ x7_1) = true := decide_eq_true c3
     clear c3
     by_cases c4 : x7_1 < (l0.length : Int)
     ·rw [if_pos c4] at H
      have c4b0 : decide (x7_1 < (l0.length : Int)) = true := decide_eq_true c4
      clear c4
      by_cases c5 : (rd l0 x7_1) > 100000000000
      ·rw [if_pos c5] at H
       have c5b0 : decide (100000000000 < (rd l0 x7_1)) = true := decide_eq_true c5
       clear c5
       obtain rfl := Option.some.inj H
       have p355 : 0 ≤ (x7_1 : Int) := of_decide_eq_true (by first | (with_reducible assumption) | assumption)
       have q355 : x7_1 < (l0.length : Int) := of_decide_eq_true (by first | (with_reducible assumption) | assumption)
       obtain ⟨ad355, e355, hx355_0⟩ := Kd.at_int HR0.out x7_1 p355 q355
       cases e355
       replace p355 := eq_true p355
       replace q355 := eq_true q355
       go_wp2
       go_ret
       exact ⟨by first | rfl | (simp; done) | (simp [*]; done), by repeat (first | exact Drawn0.refl _ | apply Drawn0.step)⟩
      ·rw [if_neg c5] at H
       have c5b0 : decide (100000000000 < (rd l0 x7_1)) = false := decide_eq_false c5
       clear c5
       by_cases c6 : (rd l0 x7_1) < (-100000000000)
       ·rw [if_pos c6] at H
        have c6b0 : decide ((rd l0 x7_1) < (-100000000000)) = true := decide_eq_true c6
        clear c6
        obtain rfl := Option.some.inj H
        have p355 : 0 ≤ (x7_1 : Int) := of_decide_eq_true (by first | (with_reducible assumption) | assumption)
        have q355 : x7_1 < (l0.length : Int) := of_decide_eq_true (by first | (with_reducible assumption) | assumption)
        obtain ⟨ad355, e355, hx355_0⟩ := Kd.at_int HR0.out x7_1 p355 q355
        cases e355
        replace p355 := eq_true p355
        replace q355 := eq_true q355
        go_wp2
        go_ret
        exact ⟨by first | rfl | (simp; done) | (simp [*]; done), by repeat (first | exact Drawn0.refl _ | apply Drawn0.step)⟩
       ·rw [if_neg c6] at H
        have c6b0 : decide ((rd l0 x7_1) < (-100000000000)) = false := decide_eq_false c6
        clear c6
        have H' := Aside0.mk H
        clear H
        have p355 : 0 ≤ (x7_1 : Int) := of_decide_eq_true (by first | (with_reducible assumption) | assumption)
        have q355 : x7_1 < (l0.length : Int) := of_decide_eq_true (by first | (with_reducible assumption) | assumption)
        obtain ⟨ad355, e355, hx355_0⟩ := Kd.at_int HR0.out x7_1 p355 q355
        cases e355
        replace p355 := eq_true p355
        replace q355 := eq_true q355
        go_wp2
        go_roundg k1
        case measure => have := HK1.out; omega
        case rel => exact ⟨(wrap64 (x7_1 + 1)), (by first | rfl | (simp; done) | (simp [*]; done)), H', ⟨by have := HK1.out; omega⟩, by repeat (first | exact Drawn0.refl _ | apply Drawn0.step)⟩
     ·rw [if_neg c4] at H
      exact absurd H (by simp)
    ·rw [if_neg c3] at H
     exact absurd H (by simp)
   ·rw [if_neg c2] at H
    have c2b0 : decide (x7_1 < (l0.length : Int)) = false := decide_eq_false c2
    clear c2
    obtain rfl := Option.some.inj H
    go_wp2
    go_ret
    exact ⟨by first | rfl | (simp; done) | (simp [*]; done), by repeat (first | exact Drawn0.refl _ | apply Drawn0.step)⟩

end Go.Proofs.YtmocphafkimdpaaDoor.P
