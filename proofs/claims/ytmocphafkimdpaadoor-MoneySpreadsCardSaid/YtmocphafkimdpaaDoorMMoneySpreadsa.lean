/- A part of the proof of MoneySpreads's card: 'MoneySpreads' answers true for every input (the conditions: those of the given statement alone). Merged by a program (wip/merge.py) out of: GSpread. -/
import Derived.Test.YtmocphafkimdpaaDoorBMoneyj
import Derived.Test.YtmocphafkimdpaaDoorBMoneye

/- money.Spread, told of lists of numbers; the parts come to the amount. -/
namespace Go.Proofs.YtmocphafkimdpaaDoor.P
open Go.RowKit Go.Sort Go.Proofs.YtmocphafkimdpaaDoorW.PrintWords Go.Proofs.YtmocphafkimdpaaDoorW.PrintLast Go.Proofs.YtmocphafkimdpaaDoorW.PrintMore
set_option linter.unusedVariables false
set_option linter.unusedSimpArgs false

def sumZ : List Int → Int
 | [] => 0
 | a :: t => a + sumZ t
theorem sumZ_append (a b : List Int) : sumZ (a ++ b) = sumZ a + sumZ b := by
 induction a with
 | nil => simp [sumZ]
 | cons x t ih => simp only [List.cons_append, sumZ, ih]; omega
theorem sumZ_nonneg (l : List Int) (h : ∀ x ∈ l, 0 ≤ x) : 0 ≤ sumZ l := by
 induction l with
 | nil => simp [sumZ]
 | cons a t ih =>
  have := ih (fun x hx => h x (List.mem_cons_of_mem _ hx))
  have := h a (by simp)
  simp only [sumZ]; omega
theorem sumZ_neg (l : List Int) : sumZ (l.map fun x => -x) = -sumZ l := by
 induction l with
 | nil => simp [sumZ]
 | cons a t ih => simp only [List.map_cons, sumZ, ih]; omega
theorem sumZ_le (l : List Int) (c : Int) (h : ∀ x ∈ l, x ≤ c) : sumZ l ≤ c * l.length := by
 induction l with
 | nil => simp [sumZ]
 | cons a t ih =>
  have h1 := ih (fun x hx => h x (List.mem_cons_of_mem _ hx))
  have h2 := h a (by simp)
  simp only [sumZ, List.length_cons]
  rw [Int.natCast_add, Int.mul_add]
  simp
  omega
/-- One more at the places that f names. -/
theorem sumZ_bump (f : Nat → Bool) : ∀ (n : Nat) (l : List Int), l.length = n → sumZ (l.mapIdx fun i x => if f i = true then x + 1 else x) = sumZ l + ((List.range n).countP f : Nat) := by
 intro n
 induction n with
 | zero =>
  intro l hl
  have : l = [] := List.eq_nil_of_length_eq_zero hl
  subst this
  simp [sumZ]
 | succ n ih =>
  intro l hl
  obtain ⟨t, a, rfl⟩ : ∃ t a, l = t ++ [a] := by
   refine ⟨l.dropLast, l.getLast (by intro h; subst h; simp at hl), (List.dropLast_concat_getLast _).symm⟩
  have ht : t.length = n := by simp at hl; exact hl
  rw [List.mapIdx_concat, sumZ_append, sumZ_append, ih t ht, List.range_succ, List.countP_append, ht]
  simp only [sumZ]
  by_cases c : f n = true
  ·simp [c]; omega
  ·simp [c]; omega

/-- There is an order's row. -/
theorem order_ex (r : Nat → Int) (n : Nat) : ∃ d : Array Nat, ((List.range n).map fun k => d[k]!).Perm (List.range n) ∧ ∀ i, i < n → rankOf r n d[i]! = i := by
 have hid : ∀ k, k < n → (Array.range n)[k]! = k := fun k hk => by rw [getElem!_pos _ k (by simpa using hk)]; simp
 obtain ⟨s, p⟩ := ins_block r 0 n (Array.range n) (Nat.zero_le _) (by simp) (fun a b h1 h2 h3 => by rw [hid a (by omega), hid b h3]; exact h2)
 have hp := perm_ids (n := n) (d := Array.range n) (by simp) hid p
 exact ⟨_, hp, fun i hi => rank_at r n _ (by rw [p.1]; simp) s hp i hi⟩
theorem rank_count (r : Nat → Int) (n left : Nat) (h : left ≤ n) : (List.range n).countP (fun i => decide (rankOf r n i < left)) = left := by
 obtain ⟨d, hp, hr⟩ := order_ex r n
 rw [← hp.countP_eq]
 refine count_map_range _ n _ left h (fun k hk => ?_) (fun k hk hk' => ?_)
 ·rw [hr k (by omega)]; simpa using hk
 ·rw [hr k hk']; simpa using hk
theorem give_sum (r : Nat → Int) (l : List Int) (left : Nat) (h : left ≤ l.length) : sumZ (giveOf r l left) = sumZ l + (left : Int) := by
 have e : giveOf r l left = l.mapIdx fun i x => if (fun i => decide (rankOf r l.length i < left)) i = true then x + 1 else x := by
  unfold giveOf
  simp
 rw [e, sumZ_bump _ l.length l rfl, rank_count r l.length left h]

def outsOf (n all : Int) (w : List Int) : List Int := w.map fun a => n * a / all
def restsOf (n all : Int) (w : List Int) : List Int := w.map fun a => n * a % all
theorem outs_len (n all : Int) (w : List Int) : (outsOf n all w).length = w.length := by simp [outsOf]
/-- The parts, without the sign. -/
def partsOf (n : Int) (w : List Int) : List Int := giveOf (restOf (restsOf n (sumZ w) w)) (outsOf n (sumZ w) w) (n - sumZ (outsOf n (sumZ w) w)).toNat
def spreadOf (x : Int) (w : List Int) : List Int := if x < 0 then (partsOf (x.natAbs : Int) w).map (fun y => -y) else partsOf (x.natAbs : Int) w

theorem left_eq (n all : Int) (h : 0 < all) (w : List Int) : all * (sumZ (outsOf n all w)) + sumZ (restsOf n all w) = n * sumZ w := by
 induction w with
 | nil => simp [outsOf, restsOf, sumZ]
 | cons a t ih =>
  unfold outsOf restsOf at ih ⊢
  simp only [List.map_cons, sumZ]
  rw [Int.mul_add, Int.mul_add]
  have := Int.emod_add_mul_ediv (n * a) all
  omega
theorem rests_bound (n all : Int) (h : 0 < all) (w : List Int) : 0 ≤ sumZ (restsOf n all w) ∧ sumZ (restsOf n all w) + w.length ≤ all * w.length := by
 induction w with
 | nil => simp [restsOf, sumZ]
 | cons a t ih =>
  unfold restsOf at ih ⊢
  simp only [List.map_cons, sumZ, List.length_cons]
  have h1 := Int.emod_nonneg (n * a) (by omega : all ≠ 0)
  have h2 := Int.emod_lt_of_pos (n * a) h
  rw [Int.natCast_add, Int.mul_add]
  simp
  omega
theorem left_bound (n : Int) (w : List Int) (h : 0 < sumZ w) (hn : 0 ≤ n) : 0 ≤ n - sumZ (outsOf n (sumZ w) w) ∧ n - sumZ (outsOf n (sumZ w) w) ≤ w.length := by
 have h1 := left_eq n (sumZ w) h w
 obtain ⟨h2, h3⟩ := rests_bound n (sumZ w) h w
 generalize sumZ (restsOf n (sumZ w) w) = R at h1 h2 h3
 generalize sumZ (outsOf n (sumZ w) w) = O at h1 ⊢
 generalize sumZ w = a at h h1 h3
 have e : a * (n - O) = R := by rw [Int.mul_sub, Int.mul_comm a n]; omega
 constructor
 ·apply Classical.byContradiction
  intro hc
  have : a * (n - O) ≤ a * (-1) := Int.mul_le_mul_of_nonneg_left (by omega) (by omega)
  omega
 ·apply Classical.byContradiction
  intro hc
  have : a * ((w.length : Int) + 1) ≤ a * (n - O) := Int.mul_le_mul_of_nonneg_left (by omega) (by omega)
  rw [Int.mul_add] at this
  omega
theorem parts_sum (n : Int) (w : List Int) (h : 0 < sumZ w) (hn : 0 ≤ n) : sumZ (partsOf n w) = n := by
 obtain ⟨h1, h2⟩ := left_bound n w h hn
 unfold partsOf
 rw [give_sum _ _ _ (by rw [outs_len]; omega)]
 omega
theorem spread_sum (x : Int) (w : List Int) (h : 0 < sumZ w) : sumZ (spreadOf x w) = x := by
 unfold spreadOf
 have := parts_sum (x.natAbs : Int) w h (by omega)
 split
 ·rw [sumZ_neg, this]; omega
 ·rw [this]; omega
theorem parts_len (n : Int) (w : List Int) : (partsOf n w).length = w.length := by
 unfold partsOf
 rw [giveOf_len]
 simp [outsOf]
theorem spread_len (x : Int) (w : List Int) : (spreadOf x w).length = w.length := by
 unfold spreadOf
 split <;> simp [parts_len]
theorem parts_at_ex (n : Int) (w : List Int) (i : Nat) (a : Int) (h : w[i]? = some a) : ∃ p, (partsOf n w)[i]? = some p ∧ (p = n * a / sumZ w ∨ p = n * a / sumZ w + 1) := by
 obtain ⟨hi, rfl⟩ := List.getElem?_eq_some_iff.1 h
 have hl : i < (outsOf n (sumZ w) w).length := by simpa [outsOf] using hi
 refine ⟨(giveOf (restOf (restsOf n (sumZ w) w)) (outsOf n (sumZ w) w) (n - sumZ (outsOf n (sumZ w) w)).toNat)[i]'(by rw [giveOf_len]; exact hl), List.getElem?_eq_getElem _, ?_⟩
 rw [giveOf_at _ _ _ _ hl]
 have e : (outsOf n (sumZ w) w)[i] = n * w[i] / sumZ w := by simp [outsOf]
 rw [e]
 split
 ·exact .inr rfl
 ·exact .inl rfl

theorem spread_l2_ev (l : List Int) (hl : l.length ≤ 1000) (hb : ∀ x ∈ l, -9223372036854775807 ≤ x ∧ x ≤ 9223372036854775807) : ∀ (d i : Nat) (cur : List Int), i + d = l.length → cur = (l.take i).map (fun y => -y) ++ l.drop i → Ev (fun k => money_Spread.l2 k cur (l.length : Int) (i : Int)) (l.map (fun y => -y), 0) := by
 intro d
 induction d with
 | zero =>
  intro i cur hi hc
  refine Ev.shift (fun k => by rw [money_Spread.l2]) ?_
  refine (Ev.neg (by omega) Ev.now).res ?_
  rw [hc, List.take_of_length_le (by omega), List.drop_of_length_le (by omega), List.append_nil]
 | succ d ih =>
  intro i cur hi hc
  have hlt : i < l.length := by omega
  have hcl : cur.length = l.length := by rw [hc]; simp; omega
  have hg : cur[i]? = some l[i] := by
   rw [hc, List.getElem?_append_right (by simp; omega)]
   simp [List.getElem?_drop, hlt]
   rw [show i + (i - min i l.length) = i by omega, List.getElem?_eq_getElem hlt]
  have hbi := hb l[i] (List.getElem_mem hlt)
  refine Ev.shift (fun k => by rw [money_Spread.l2]) ?_
  refine Ev.pos (by omega) (Ev.pos (by omega) (Ev.pos (by omega) ?_))
  rw [rdi hg, w64 (x := -l[i]) (by omega) (by omega), show wrap64 ((i : Int) + 1) = ((i + 1 : Nat) : Int) by rw [w64 (by omega) (by omega)]; rfl, Int.toNat_natCast]
  refine ih (i + 1) _ (by omega) ?_
  rw [hc]
  apply List.ext_getElem?
  intro j
  rw [List.getElem?_set]
  by_cases e : i = j
  ·subst e
   rw [if_pos rfl, if_pos (by simp; omega), List.getElem?_append_left (by simp; omega)]
   simp [List.getElem?_take, hlt]
  ·rw [if_neg e, List.getElem?_append, List.getElem?_append]
   simp only [List.length_map, List.length_take]
   by_cases c1 : j < i
   ·rw [if_pos (by omega), if_pos (by omega)]
    simp [List.getElem?_take, c1, show j < i + 1 by omega]
   ·rw [if_neg (by omega), if_neg (by omega), List.getElem?_drop, List.getElem?_drop]
    congr 1
    omega

theorem mul64_f (a b : Int) (ha : 0 ≤ a ∧ a ≤ 100000000000) (hb : 0 ≤ b ∧ b ≤ 1048576) : bits_Mul64.f a b = some (0, a * b) ∧ 0 ≤ a * b ∧ a * b ≤ 104857600000000000 := by
 have h0 : 0 ≤ a * b := Int.mul_nonneg ha.1 hb.1
 have h1 : a * b ≤ 100000000000 * 1048576 := Int.le_trans (Int.mul_le_mul_of_nonneg_right ha.2 hb.1) (Int.mul_le_mul_of_nonneg_left hb.2 (by decide))
 refine ⟨?_, h0, by omega⟩
 unfold bits_Mul64.f
 rw [if_pos (by omega)]
 generalize a * b = p at h0 h1 ⊢
 congr 2 <;> omega

theorem spread_l1_ev (x n all : Int) (hx : (x.natAbs : Int) = n) (hn : n ≤ 100000000000) (w : List Int) (hw : ∀ a ∈ w, 0 ≤ a ∧ a ≤ 1048576) (hwl : w.length ≤ 64) (hw0 : 0 < w.length) (hall : all = sumZ w) (ha0 : 0 < all) :
  ∀ (t : List Int) (i : Nat) (out rest : List Int) (left : Int), w.drop i = t → i ≤ w.length → out = outsOf n all (w.take i) ++ List.replicate (w.length - i) 0 → rest = restsOf n all (w.take i) ++ List.replicate (w.length - i) 0 → left = n - sumZ (outsOf n all (w.take i)) →
  Ev (fun k => money_Spread.l1 k x all n out rest left w (w.length : Int) (i : Int)) (spreadOf x w, 0)
 | [], i, out, rest, left, h, hi, ho, hr, hlf => by
  have hi2 : w.length ≤ i := by simpa using h
  have hn0 : 0 ≤ n := by omega
  rw [List.take_of_length_le hi2] at ho hr hlf
  rw [show w.length - i = 0 by omega, List.replicate_zero, List.append_nil] at ho hr
  subst hall
  obtain ⟨b1, b2⟩ := left_bound n w ha0 hn0
  rw [← hlf] at b1 b2
  have hob : ∀ y ∈ outsOf n (sumZ w) w, 0 ≤ y ∧ y ≤ 104857600000000000 := by
   intro y hy
   obtain ⟨a, ha, rfl⟩ := List.mem_map.1 hy
   obtain ⟨_, m1, m2⟩ := mul64_f n a ⟨hn0, hn⟩ (hw a ha)
   exact ⟨Int.ediv_nonneg m1 (by omega), Int.le_trans (Int.ediv_le_self _ m1) m2⟩
  have hg : money_give.f out rest left = some (partsOf n w) := by
   unfold money_give.f
   rw [ho, hr, if_pos]
   ·unfold partsOf
    rw [hlf]
   ·refine ⟨by simp [outsOf, restsOf], by simp [restsOf]; omega, by simp [restsOf]; omega, b1, by simp [restsOf]; omega, fun y hy => ?_⟩
    have := hob y hy
    omega
  refine Ev.shift (fun k => by rw [money_Spread.l1]) ?_
  refine Ev.neg (by omega) (Ev.bindc hg ?_)
  unfold spreadOf
  rw [hx]
  by_cases c : x < 0
  ·refine Ev.res ?_ (by rw [if_pos c])
   refine Ev.pos c ?_
   have hlen : (out.length : Int) = ((partsOf n w).length : Int) := by rw [ho, parts_len]; simp [outsOf]
   rw [hlen]
   refine spread_l2_ev (partsOf n w) (by rw [parts_len]; omega) (fun y hy => ?_) (partsOf n w).length 0 _ (by omega) (by simp)
   obtain ⟨j, hj⟩ := List.mem_iff_getElem?.1 hy
   have hjl : j < w.length := by have := (List.getElem?_eq_some_iff.1 hj).1; rwa [parts_len] at this
   obtain ⟨p, hp, hp2⟩ := parts_at_ex n w j w[j] (List.getElem?_eq_getElem hjl)
   rw [hj] at hp
   injection hp with hp
   subst hp
   have := hob (n * w[j] / sumZ w) (List.mem_map.2 ⟨w[j], List.getElem_mem hjl, rfl⟩)
   omega
  ·refine Ev.res ?_ (by rw [if_neg c])
   exact Ev.neg c Ev.now
 | a :: t, i, out, rest, left, h, hi, ho, hr, hlf => by
  obtain ⟨h1, h2, h3⟩ := drop_cons_get h
  have hn0 : 0 ≤ n := by omega
  have hwa := hw a (List.mem_of_getElem? h1)
  obtain ⟨m0, m1, m2⟩ := mul64_f n a ⟨hn0, hn⟩ hwa
  have htk : w.take (i + 1) = w.take i ++ [a] := by rw [List.take_add_one, h1]; rfl
  have hallb : all ≤ 67108864 := by
   rw [hall]
   have := sumZ_le w 1048576 (fun y hy => (hw y hy).2)
   omega
  have hol : out.length = w.length := by rw [ho]; simp [outsOf]; omega
  have hrl : rest.length = w.length := by rw [hr]; simp [restsOf]; omega
  -- what is left stays at 0 or above
  have hl0 : 0 ≤ n - sumZ (outsOf n all (w.take (i + 1))) ∧ sumZ (outsOf n all (w.take i)) ≤ sumZ (outsOf n all (w.take (i + 1))) ∧ 0 ≤ sumZ (outsOf n all (w.take i)) := by
   have e1 : outsOf n all (w.take (i + 1)) = outsOf n all (w.take i) ++ [n * a / all] := by rw [htk]; simp [outsOf]
   have hq0 : 0 ≤ n * a / all := Int.ediv_nonneg m1 (by omega)
   have hs0 : 0 ≤ sumZ (outsOf n all (w.take i)) := sumZ_nonneg _ (fun y hy => by
    obtain ⟨b, hb, rfl⟩ := List.mem_map.1 hy
    obtain ⟨_, k1, _⟩ := mul64_f n b ⟨hn0, hn⟩ (hw b (List.mem_of_mem_take hb))
    exact Int.ediv_nonneg k1 (by omega))
   have hle := left_eq n all ha0 (w.take (i + 1))
   have hrb := (rests_bound n all ha0 (w.take (i + 1))).1
   have hws : sumZ (w.take (i + 1)) ≤ all := by
    rw [hall]
    have e : sumZ w = sumZ (w.take (i + 1)) + sumZ (w.drop (i + 1)) := by rw [← sumZ_append, List.take_append_drop]
    have := sumZ_nonneg (w.drop (i + 1)) (fun y hy => (hw y (List.mem_of_mem_drop hy)).1)
    omega
   have hnw : n * sumZ (w.take (i + 1)) ≤ n * all := Int.mul_le_mul_of_nonneg_left hws hn0
   refine ⟨?_, ?_, hs0⟩
   ·apply Classical.byContradiction
    intro hc
    have : all * (n + 1) ≤ all * sumZ (outsOf n all (w.take (i + 1))) := Int.mul_le_mul_of_nonneg_left (by omega) (by omega)
    rw [Int.mul_add, Int.mul_comm all n] at this
    omega
   ·rw [e1, sumZ_append]
    simp only [sumZ]
    omega
  have hq : n * a / all ≤ n * a := Int.ediv_le_self _ m1
  have hq0 : 0 ≤ n * a / all := Int.ediv_nonneg m1 (by omega)
  refine Ev.shift (fun k => by rw [money_Spread.l1]) ?_
  refine Ev.pos (by omega) (Ev.pos (by omega) (Ev.pos (by omega) ?_))
  rw [rdi h1, IntKind.wrap_u64, IntKind.wrap_u64, show a % 18446744073709551616 = a by omega, show all % 18446744073709551616 = all by omega]
  have ed : bits_Div64.f 0 (n * a) all = some (n * a / all, n * a % all) := by
   unfold bits_Div64.f
   rw [if_pos (by omega)]
  refine Ev.bindc m0 (Ev.bindc ed (Ev.pos (by omega) (Ev.pos (by omega) ?_)))
  have e1 : outsOf n all (w.take (i + 1)) = outsOf n all (w.take i) ++ [n * a / all] := by rw [htk]; simp [outsOf]
  have e2 : restsOf n all (w.take (i + 1)) = restsOf n all (w.take i) ++ [n * a % all] := by rw [htk]; simp [restsOf]
  have es : sumZ (outsOf n all (w.take (i + 1))) = sumZ (outsOf n all (w.take i)) + n * a / all := by rw [e1, sumZ_append]; simp [sumZ]
  have e3 : IntKind.u64.wrap (left - n * a / all) = left - n * a / all := by
   rw [IntKind.wrap_u64]; omega
  rw [show wrap64 ((i : Int) + 1) = ((i + 1 : Nat) : Int) by rw [w64 (by omega) (by omega)]; rfl, Int.toNat_natCast, w64 (x := n * a / all) (by omega) (by omega), e3]
  have hset : ∀ (p : List Int) (v : Int), p.length = i → (p ++ List.replicate (w.length - i) 0).set i v = (p ++ [v]) ++ List.replicate (w.length - (i + 1)) 0 := by
   intro p v hp
   rw [show w.length - i = (w.length - (i + 1)) + 1 by omega, List.replicate_succ, List.set_append_right _ _ (by omega), hp, Nat.sub_self, List.set_cons_zero]
   simp
  refine spread_l1_ev x n all hx hn w hw hwl hw0 hall ha0 t (i + 1) _ _ _ h2 (by omega) ?_ ?_ ?_
  ·rw [ho, hset _ _ (by simp [outsOf]; omega), e1]
  ·rw [hr, hset _ _ (by simp [restsOf]; omega), e2]
  ·rw [es, hlf]; omega

def okW (a : Int) : Bool := decide (0 ≤ a) && decide (a ≤ 1048576)
theorem okW_iff (a : Int) : okW a = true ↔ 0 ≤ a ∧ a ≤ 1048576 := by simp [okW]
def spreadsOf (x : Int) (w : List Int) : List Int × Int := if w.all okW = true then (if sumZ w = 0 then ([], 1) else (spreadOf x w, 0)) else ([], 1)
theorem spread_l0_ev (x : Int) (hx : okAmt x = true) (w : List Int) (hwl : w.length ≤ 64) (hw0 : 0 < w.length) : ∀ (t : List Int) (i : Nat) (s : Int), w.drop i = t → i ≤ w.length → (∀ a ∈ w.take i, okW a = true) → s = sumZ (w.take i) →
  Ev (fun k => money_Spread.l0 k x w s w (w.length : Int) (i : Int)) (spreadsOf x w)
 | [], i, s, h, hi, hok, hs => by
  have hx' := (okAmt_iff x).1 hx
  have hi2 : w.length ≤ i := by simpa using h
  rw [List.take_of_length_le hi2] at hok hs
  have hall : w.all okW = true := List.all_eq_true.2 hok
  have hok' : ∀ a ∈ w, 0 ≤ a ∧ a ≤ 1048576 := fun a ha => (okW_iff a).1 (hok a ha)
  have h0 := sumZ_nonneg w (fun a ha => (hok' a ha).1)
  refine Ev.shift (fun k => by rw [money_Spread.l0]) ?_
  refine Ev.neg (by omega) ?_
  unfold spreadsOf
  refine Ev.res ?_ (if_pos hall).symm
  by_cases c : sumZ w = 0
  ·exact (Ev.pos (by omega) Ev.now).res (if_pos c).symm
  ·refine Ev.res ?_ (if_neg c).symm
   refine Ev.neg (by omega) (Ev.bindc (abs_f x (by omega) (by omega)) (Ev.pos (by omega) (Ev.pos (by omega) ?_)))
   rw [Int.toNat_natCast]
   exact spread_l1_ev x (x.natAbs : Int) s rfl (by omega) w hok' hwl hw0 hs (by omega) w 0 _ _ _ rfl (Nat.zero_le _) (by simp [outsOf]) (by simp [restsOf]) (by simp [outsOf, sumZ])
 | a :: t, i, s, h, hi, hok, hs => by
  obtain ⟨h1, h2, h3⟩ := drop_cons_get h
  have htk : w.take (i + 1) = w.take i ++ [a] := by rw [List.take_add_one, h1]; rfl
  have hsb : 0 ≤ s ∧ s ≤ 67108864 := by
   rw [hs]
   have hb : ∀ y ∈ w.take i, 0 ≤ y ∧ y ≤ 1048576 := fun y hy => (okW_iff y).1 (hok y hy)
   have g1 := sumZ_nonneg _ (fun y hy => (hb y hy).1)
   have g2 := sumZ_le _ 1048576 (fun y hy => (hb y hy).2)
   simp only [List.length_take] at g2
   omega
  have hbad : okW a = false → spreadsOf x w = ([], 1) := by
   intro hb
   unfold spreadsOf
   rw [if_neg]
   intro hall
   have := List.all_eq_true.1 hall a (List.mem_of_getElem? h1)
   rw [hb] at this
   cases this
  refine Ev.shift (fun k => by rw [money_Spread.l0]) ?_
  refine Ev.pos (by omega) (Ev.pos (by omega) (Ev.pos (by omega) ?_))
  rw [rdi h1]
  by_cases c1 : a < 0
  ·exact (Ev.pos c1 Ev.now).res (hbad (Bool.eq_false_iff.2 fun h => by have := (okW_iff a).1 h; omega)).symm
  ·refine Ev.neg c1 ?_
   by_cases c2 : a > 1048576
   ·exact (Ev.pos c2 Ev.now).res (hbad (Bool.eq_false_iff.2 fun h => by have := (okW_iff a).1 h; omega)).symm
   ·refine Ev.neg c2 ?_
    rw [show wrap64 ((i : Int) + 1) = ((i + 1 : Nat) : Int) by rw [w64 (by omega) (by omega)]; rfl, w64 (x := s + a) (by omega) (by omega)]
    refine spread_l0_ev x hx w hwl hw0 t (i + 1) (s + a) h2 (by omega) (fun y hy => ?_) ?_
    ·rw [htk] at hy
     rcases List.mem_append.1 hy with hy | hy
     ·exact hok y hy
     ·simp at hy; subst hy; exact (okW_iff _).2 (by omega)
    ·rw [htk, sumZ_append, ← hs]
     simp [sumZ]
theorem spread_ev (x : Int) (w : List Int) (hwl : w.length ≤ 1000) : Ev (fun k => money_Spread.f k x w) (if okAmt x = true then (if w.length = 0 ∨ 64 < w.length then ([], 2) else spreadsOf x w) else ([], 10)) := by
 unfold money_Spread.f
 refine Ev.bind (mright_ev [x] (by simp)) ?_
 by_cases c : okAmt x = true
 ·refine Ev.res ?_ (if_pos c).symm
  refine Ev.pos (by simp [c]) ?_
  have hj : Ev (fun k => money_Spread.j0 k x w true) ([], 2) := by
   refine Ev.shift (fun k => by rw [money_Spread.j0]) ?_
   exact Ev.pos rfl Ev.now
  by_cases c0 : w.length = 0
  ·exact (Ev.pos (by omega) hj).res (if_pos (.inl c0)).symm
  ·refine Ev.neg (by omega) ?_
   by_cases c1 : 64 < w.length
   ·rw [decide_eq_true (show (w.length : Int) > 64 by omega)]
    exact hj.res (if_pos (.inr c1)).symm
   ·rw [decide_eq_false (show ¬(w.length : Int) > 64 by omega)]
    refine Ev.res ?_ (if_neg (fun h => h.elim c0 c1)).symm
    refine Ev.shift (fun k => by rw [money_Spread.j0]) ?_
    exact Ev.neg (by decide) (spread_l0_ev x c w (by omega) (by omega) w 0 0 rfl (Nat.zero_le _) (by simp) (by simp [sumZ]))
 ·refine Ev.res ?_ (if_neg c).symm
  exact Ev.neg (by simp [c]) Ev.now
end Go.Proofs.YtmocphafkimdpaaDoor.P
