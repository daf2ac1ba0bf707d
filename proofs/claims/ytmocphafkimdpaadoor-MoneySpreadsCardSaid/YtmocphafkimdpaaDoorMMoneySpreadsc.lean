/- A part of the proof of MoneySpreads's card: 'MoneySpreads' answers true for every input (the conditions: those of the given statement alone). Merged by a program (wip/merge.py) out of: GRefSp, GFloatA, GNear, GOwn, GAway, GFar. -/
import Derived.Test.YtmocphafkimdpaaDoorMMoneySpreadsa
import Derived.Test.YtmocphafkimdpaaDoorMMoneySpreadsb
import Derived.Laws.FloatArith
import Derived.Laws.ComplexArith
import Derived.Test.YtmocphafkimdpaaDoorBMoneya
import Derived.Laws.Externs
import Derived.Laws.BitsAllLaws

/- The reference's Spread, coin by coin, gives what money.Spread gives (up to a million coins). -/
namespace Go.Proofs.YtmocphafkimdpaaDoor.P
open Go.RowKit Go.Sort Go.Proofs.YtmocphafkimdpaaDoorW.PrintWords Go.Proofs.YtmocphafkimdpaaDoorW.PrintLast Go.Proofs.YtmocphafkimdpaaDoorW.PrintMore
set_option linter.unusedVariables false
set_option linter.unusedSimpArgs false

/-! ranks -/
theorem order_row (r : Nat → Int) (n : Nat) : ∃ f : Nat → Nat, (∀ i, i < n → f i < n) ∧ (∀ i, i < n → rankOf r n (f i) = i) ∧ (∀ x, x < n → ∃ i, i < n ∧ f i = x) ∧ ∀ i j, i < j → j < n → ahd r (f i) (f j) := by
 have hid : ∀ k, k < n → (Array.range n)[k]! = k := fun k hk => by rw [getElem!_pos _ k (by simpa using hk)]; simp
 obtain ⟨s, p⟩ := ins_block r 0 n (Array.range n) (Nat.zero_le _) (by simp) (fun a b h1 h2 h3 => by rw [hid a (by omega), hid b h3]; exact h2)
 have hp := perm_ids (n := n) (d := Array.range n) (by simp) hid p
 refine ⟨fun i => (insertionSort (ltOf (cmpF r)) (Array.range n) 0 n)[i]!, fun i hi => ?_, fun i hi => rank_at r n _ (by rw [p.1]; simp) s hp i hi, fun x hx => ?_, fun i j h1 h2 => s i j (Nat.zero_le _) h1 h2⟩
 ·exact List.mem_range.1 (hp.mem_iff.1 (List.mem_map.2 ⟨i, List.mem_range.2 hi, rfl⟩))
 ·obtain ⟨i, hi, e⟩ := List.mem_map.1 (hp.mem_iff.2 (List.mem_range.2 hx))
  exact ⟨i, List.mem_range.1 hi, e⟩
theorem rank_lt {r : Nat → Int} {n x y : Nat} (hx : x < n) (hy : y < n) (h : ahd r x y) : rankOf r n x < rankOf r n y := by
 obtain ⟨f, f1, f2, f3, f4⟩ := order_row r n
 obtain ⟨i, hi, rfl⟩ := f3 x hx
 obtain ⟨j, hj, rfl⟩ := f3 y hy
 rw [f2 i hi, f2 j hj]
 rcases Nat.lt_trichotomy i j with c | c | c
 ·exact c
 ·subst c; exact absurd h ahd_irrefl
 ·exact absurd h (ahd_asymm (f4 j i c hi))
theorem rank_inj {r : Nat → Int} {n x y : Nat} (hx : x < n) (hy : y < n) (h : rankOf r n x = rankOf r n y) : x = y := by
 apply Classical.byContradiction
 intro hne
 rcases ahd_total (r := r) hne with c | c
 ·have := rank_lt hx hy c; omega
 ·have := rank_lt hy hx c; omega
theorem rank_surj (r : Nat → Int) {n t : Nat} (ht : t < n) : ∃ x, x < n ∧ rankOf r n x = t := by
 obtain ⟨f, f1, f2, f3, f4⟩ := order_row r n
 exact ⟨f t, f1 t ht, f2 t ht⟩

/-- Which have been given a coin, after t coins. -/
def givenOf (r : Nat → Int) (n t : Nat) : List Bool := (List.range n).map fun i => decide (rankOf r n i < t)
theorem givenOf_len (r : Nat → Int) (n t : Nat) : (givenOf r n t).length = n := by simp [givenOf]
theorem givenOf_at (r : Nat → Int) (n t i : Nat) (h : i < n) : (givenOf r n t)[i]? = some (decide (rankOf r n i < t)) := by
 simp [givenOf, h]
theorem givenOf_zero (r : Nat → Int) (n : Nat) : givenOf r n 0 = List.replicate n false := by
 apply List.ext_getElem
 ·simp [givenOf]
 ·intro i h1 h2; simp [givenOf]
theorem givenOf_step (r : Nat → Int) (n t x : Nat) (hx : x < n) (hr : rankOf r n x = t) : givenOf r n (t + 1) = (givenOf r n t).set x true := by
 apply List.ext_getElem
 ·simp [givenOf]
 ·intro k h1 h2
  have hk : k < n := by simpa [givenOf] using h1
  rw [List.getElem_set]
  by_cases c : x = k
  ·subst c
   rw [if_pos rfl]
   simp [givenOf, hr]
  ·rw [if_neg c]
   have hne : rankOf r n k ≠ t := fun h => c (rank_inj hx hk (hr.trans h.symm))
   simp only [givenOf, List.getElem_map, List.getElem_range]
   congr 1
   exact propext ⟨fun h => by omega, fun h => by omega⟩

theorem rdb {xs : List Bool} {i : Nat} {b : Bool} (h : xs[i]? = some b) : rdOf false xs (i : Int) = b := by
 unfold rdOf
 rw [List.getD_eq_getElem?_getD, Int.toNat_natCast, h]
 rfl

section
variable (x : Int) (w : List Int) (n all : Int) (hn : 0 ≤ n) (hn2 : n ≤ 1000000) (hw : ∀ a ∈ w, 0 ≤ a ∧ a ≤ 1048576) (hwl : w.length ≤ 64) (ha0 : 0 < all) (hall : all = sumZ w)
include hn hn2 hw hwl ha0 hall

/-- Who lacks most of those that were not given yet. -/
theorem ref_best (t : Nat) (o : List Int) (left : Int) (res : List Int) (L : Nat) (hL : L = w.length) (ht : t < L)
  (hnext : ∀ b, b < L → rankOf (restOf (restsOf n all w)) L b = t → Ev (fun k => if 0 ≤ (b : Int) then (if (b : Int) < ((givenOf (restOf (restsOf n all w)) L t).length : Int) then (if (b : Int) < (o.length : Int) then (stipendref01_Spread.l2 k x w all (o.set (b : Int).toNat (wrap64 ((rd o (b : Int)) + 1))) n (wrap64 (left - 1)) ((givenOf (restOf (restsOf n all w)) L t).set (b : Int).toNat true)) else (none)) else (none)) else (none)) res) :
  ∀ (d i : Nat) (best : Int), i + d = L → ((best = -1 ∧ ∀ y, y < i → rankOf (restOf (restsOf n all w)) L y < t) ∨ ∃ b : Nat, best = (b : Int) ∧ b < i ∧ t ≤ rankOf (restOf (restsOf n all w)) L b ∧ ∀ y, y < i → t ≤ rankOf (restOf (restsOf n all w)) L y → rankOf (restOf (restsOf n all w)) L b ≤ rankOf (restOf (restsOf n all w)) L y) →
   Ev (fun k => stipendref01_Spread.l3 k x w all o n left (givenOf (restOf (restsOf n all w)) L t) best (i : Int)) res := by
 have hwb : ∀ i, (hi : i < w.length) → 0 ≤ n * w[i] ∧ n * w[i] ≤ 1048576000000 := fun i hi => by
  have h := hw w[i] (List.getElem_mem hi)
  have h0 : 0 ≤ n * w[i] := Int.mul_nonneg hn h.1
  have h1 : n * w[i] ≤ 1000000 * 1048576 := Int.le_trans (Int.mul_le_mul_of_nonneg_right hn2 h.1) (Int.mul_le_mul_of_nonneg_left h.2 (by decide))
  exact ⟨h0, by omega⟩
 have hrest : ∀ i, (hi : i < w.length) → restOf (restsOf n all w) i = n * w[i] % all := fun i hi => by
  unfold restOf
  have e : (restsOf n all w).length = w.length := by simp [restsOf]
  rw [e, Nat.mod_eq_of_lt hi, List.getD_eq_getElem?_getD]
  simp [restsOf, hi]
 have hval : ∀ i, (hi : i < w.length) → Int.tmod (wrap64 (n * (rd w (i : Int)))) all = restOf (restsOf n all w) i := fun i hi => by
  rw [hrest i hi, rdi (List.getElem?_eq_getElem hi), w64 (by have := hwb i hi; omega) (by have := hwb i hi; omega), Int.tmod_eq_emod_of_nonneg (hwb i hi).1]
 intro d
 induction d with
 | zero =>
  intro i best hi hb
  have hi : i = L := by omega
  refine Ev.shift (fun k => by rw [stipendref01_Spread.l3]) (Ev.neg (by omega) ?_)
  obtain ⟨z, hz, hzr⟩ := rank_surj (restOf (restsOf n all w)) ht
  rcases hb with ⟨_, hb⟩ | ⟨b, rfl, hbi, hbt, hb⟩
  ·have := hb z (by omega); omega
  ·have := hb z (by omega) (by omega)
   exact hnext b (by omega) (by omega)
 | succ d ih =>
  intro i best hi hb
  have hiL : i < L := by omega
  have hiw : i < w.length := by omega
  have hwr : wrap64 ((i : Int) + 1) = ((i + 1 : Nat) : Int) := by rw [w64 (by omega) (by omega)]; rfl
  refine Ev.shift (fun k => by rw [stipendref01_Spread.l3]) ?_
  refine Ev.pos (by omega) (Ev.pos (by omega) (Ev.pos (by rw [givenOf_len]; omega) ?_))
  rw [rdb (givenOf_at _ L t i hiL), hwr]
  by_cases cg : rankOf (restOf (restsOf n all w)) L i < t
  ·refine Ev.pos (by simpa using cg) ?_
   refine ih (i + 1) best (by omega) ?_
   rcases hb with ⟨e, hb⟩ | ⟨b, e, hbi, hbt, hb⟩
   ·exact .inl ⟨e, fun y hy => by
     rcases Nat.lt_succ_iff_lt_or_eq.1 hy with c | c
     ·exact hb y c
     ·rw [c]; exact cg⟩
   ·exact .inr ⟨b, e, by omega, hbt, fun y hy hyt => by
     rcases Nat.lt_succ_iff_lt_or_eq.1 hy with c | c
     ·exact hb y c hyt
     ·rw [c] at hyt; omega⟩
  ·refine Ev.neg (by simpa using cg) ?_
   rcases hb with ⟨e, hb⟩ | ⟨b, e, hbi, hbt, hb⟩
   ·refine Ev.pos (by omega) ?_
    refine ih (i + 1) (i : Int) (by omega) (.inr ⟨i, rfl, by omega, by omega, fun y hy hyt => ?_⟩)
    rcases Nat.lt_succ_iff_lt_or_eq.1 hy with c | c
    ·have := hb y c; omega
    ·rw [c]; exact Nat.le_refl _
   ·subst e
    refine Ev.neg (by omega) (Ev.neg (by omega) (Ev.pos (by omega) (Ev.pos (by omega) ?_)))
    rw [hval i hiw, hval b (by omega)]
    by_cases cv : restOf (restsOf n all w) i > restOf (restsOf n all w) b
    ·refine Ev.pos cv ?_
     have hlt := rank_lt (r := restOf (restsOf n all w)) hiL (show b < L by omega) (.inl cv)
     refine ih (i + 1) (i : Int) (by omega) (.inr ⟨i, rfl, by omega, by omega, fun y hy hyt => ?_⟩)
     rcases Nat.lt_succ_iff_lt_or_eq.1 hy with c | c
     ·have := hb y c hyt; omega
     ·rw [c]; exact Nat.le_refl _
    ·refine Ev.neg cv ?_
     have hlt : rankOf (restOf (restsOf n all w)) L b < rankOf (restOf (restsOf n all w)) L i := by
      refine rank_lt (show b < L by omega) hiL ?_
      unfold ahd
      omega
     refine ih (i + 1) (b : Int) (by omega) (.inr ⟨b, rfl, by omega, hbt, fun y hy hyt => ?_⟩)
     rcases Nat.lt_succ_iff_lt_or_eq.1 hy with c | c
     ·exact hb y c hyt
     ·rw [c]; omega
end

theorem ref_l4_ev (l : List Int) (hl : l.length ≤ 1000) (hb : ∀ x ∈ l, -9223372036854775807 ≤ x ∧ x ≤ 9223372036854775807) : ∀ (d i : Nat) (cur : List Int), i + d = l.length → cur = (l.take i).map (fun y => -y) ++ l.drop i → Ev (fun k => stipendref01_Spread.l4 k cur (i : Int)) (l.map (fun y => -y)) := by
 intro d
 induction d with
 | zero =>
  intro i cur hi hc
  have hcl : cur.length = l.length := by rw [hc]; simp; omega
  refine Ev.shift (fun k => by rw [stipendref01_Spread.l4]) ?_
  refine (Ev.neg (by omega) Ev.now).res ?_
  rw [hc, List.take_of_length_le (by omega), List.drop_of_length_le (by omega), List.append_nil]
 | succ d ih =>
  intro i cur hi hc
  have hlt : i < l.length := by omega
  have hcl : cur.length = l.length := by rw [hc]; simp; omega
  have hg : cur[i]? = some l[i] := by
   rw [hc, List.getElem?_append_right (by simp; omega)]
   simp [List.getElem?_drop, hlt]
   rw [show i + (i - min i l.length) = i by omega, List.getElem?_eq_getElem hlt]
  have hbi := hb l[i] (List.getElem_mem hlt)
  refine Ev.shift (fun k => by rw [stipendref01_Spread.l4]) ?_
  refine Ev.pos (by omega) (Ev.pos (by omega) ?_)
  rw [rdi hg, w64 (x := -l[i]) (by omega) (by omega), show wrap64 ((i : Int) + 1) = ((i + 1 : Nat) : Int) by rw [w64 (by omega) (by omega)]; rfl, Int.toNat_natCast]
  refine ih (i + 1) _ (by omega) ?_
  rw [hc]
  apply List.ext_getElem?
  intro j
  rw [List.getElem?_set]
  by_cases e : i = j
  ·subst e
   rw [if_pos rfl, if_pos (by simp; omega), List.getElem?_append_left (by simp; omega)]
   simp [List.getElem?_take, hlt]
  ·rw [if_neg e, List.getElem?_append, List.getElem?_append]
   simp only [List.length_map, List.length_take]
   by_cases c1 : j < i
   ·rw [if_pos (by omega), if_pos (by omega)]
    simp [List.getElem?_take, c1, show j < i + 1 by omega]
   ·rw [if_neg (by omega), if_neg (by omega), List.getElem?_drop, List.getElem?_drop]
    congr 1
    omega

section
variable (x : Int) (w : List Int) (n all : Int) (hx : (x.natAbs : Int) = n) (hn2 : n ≤ 1000000) (hw : ∀ a ∈ w, 0 ≤ a ∧ a ≤ 1048576) (hwl : w.length ≤ 64) (ha0 : 0 < all) (hall : all = sumZ w)
include hx hn2 hw hwl ha0 hall

theorem outs_bound : ∀ y ∈ outsOf n all w, 0 ≤ y ∧ y ≤ 1048576000000 := by
 intro y hy
 have _ := hwl
 obtain ⟨a, ha, rfl⟩ := List.mem_map.1 hy
 have h := hw a ha
 have h0 : 0 ≤ n * a := Int.mul_nonneg (by omega) h.1
 have h1 : n * a ≤ 1000000 * 1048576 := Int.le_trans (Int.mul_le_mul_of_nonneg_right hn2 h.1) (Int.mul_le_mul_of_nonneg_left h.2 (by decide))
 exact ⟨Int.ediv_nonneg h0 (by omega), Int.le_trans (Int.ediv_le_self _ h0) (by omega)⟩

theorem ref_l2_ev : ∀ (m t : Nat), t + m = (n - sumZ (outsOf n all w)).toNat → Ev (fun k => stipendref01_Spread.l2 k x w all (giveOf (restOf (restsOf n all w)) (outsOf n all w) t) n (m : Int) (givenOf (restOf (restsOf n all w)) w.length t)) (spreadOf x w) := by
 have hob := outs_bound x w n all hx hn2 hw hwl ha0 hall
 have hol : (outsOf n all w).length = w.length := outs_len n all w
 have hlb : (n - sumZ (outsOf n all w)).toNat ≤ w.length := by
  obtain ⟨h1, h2⟩ := left_bound n w (by omega) (by omega)
  rw [← hall] at h1 h2
  omega
 intro m
 induction m with
 | zero =>
  intro t ht
  have hp : giveOf (restOf (restsOf n all w)) (outsOf n all w) t = partsOf n w := by
   unfold partsOf
   rw [← hall, ← ht]
   rfl
  refine Ev.shift (fun k => by rw [stipendref01_Spread.l2]) ?_
  refine Ev.neg (by omega) ?_
  rw [hp]
  unfold spreadOf
  rw [hx]
  by_cases c : x < 0
  ·refine Ev.res ?_ (by rw [if_pos c])
   refine Ev.pos c ?_
   refine ref_l4_ev (partsOf n w) (by rw [parts_len]; omega) (fun y hy => ?_) (partsOf n w).length 0 _ (by omega) (by simp)
   obtain ⟨j, hj⟩ := List.mem_iff_getElem?.1 hy
   have hjl : j < w.length := by have := (List.getElem?_eq_some_iff.1 hj).1; rwa [parts_len] at this
   obtain ⟨p, hp, hp2⟩ := parts_at_ex n w j w[j] (List.getElem?_eq_getElem hjl)
   rw [hj] at hp
   injection hp with hp
   subst hp
   have := hob (n * w[j] / sumZ w) (by rw [← hall]; exact List.mem_map.2 ⟨w[j], List.getElem_mem hjl, rfl⟩)
   omega
  ·refine Ev.res ?_ (by rw [if_neg c])
   exact Ev.neg c Ev.now
 | succ m ih =>
  intro t ht
  refine Ev.shift (fun k => by rw [stipendref01_Spread.l2]) ?_
  refine Ev.pos (by omega) ?_
  refine ref_best x w n all (by omega) hn2 hw hwl ha0 hall t _ _ _ w.length rfl (by omega) (fun b hb hbt => ?_) w.length 0 (-1) (by omega) (.inl ⟨rfl, fun y hy => by omega⟩)
  have hbo : b < (outsOf n all w).length := by rw [hol]; exact hb
  have hgl : (giveOf (restOf (restsOf n all w)) (outsOf n all w) t).length = w.length := by rw [giveOf_len, hol]
  refine Ev.pos (by omega) (Ev.pos (by rw [givenOf_len]; omega) (Ev.pos (by rw [hgl]; omega) ?_))
  have hat : (giveOf (restOf (restsOf n all w)) (outsOf n all w) t)[b]? = some (outsOf n all w)[b] := by
   rw [List.getElem?_eq_getElem (by rw [hgl]; exact hb), giveOf_at _ _ _ _ hbo, hol, hbt, if_neg (by omega)]
  have hbb := hob _ (List.getElem_mem hbo)
  rw [rdi hat, Int.toNat_natCast, w64 (x := (outsOf n all w)[b] + 1) (by omega) (by omega), show wrap64 (((m + 1 : Nat) : Int) - 1) = (m : Int) by rw [w64 (by omega) (by omega)]; omega]
  rw [← giveOf_step (restOf (restsOf n all w)) (outsOf n all w) t b hbo (by rw [hol]; exact hbt) (fun y hy hyt => by rw [hol] at hy hyt; exact rank_inj hy hb (hyt.trans hbt.symm))]
  rw [← givenOf_step (restOf (restsOf n all w)) w.length t b hb hbt]
  exact ih (t + 1) (by omega)

theorem ref_l1_ev : ∀ (u : List Int) (i : Nat) (out : List Int) (left : Int), w.drop i = u → i ≤ w.length → out = outsOf n all (w.take i) ++ List.replicate (w.length - i) 0 → left = n - sumZ (outsOf n all (w.take i)) →
  Ev (fun k => stipendref01_Spread.l1 k x w all out n left (i : Int)) (spreadOf x w)
 | [], i, out, left, h, hi, ho, hlf => by
  have hi2 : w.length ≤ i := by simpa using h
  rw [List.take_of_length_le hi2] at ho hlf
  rw [show w.length - i = 0 by omega, List.replicate_zero, List.append_nil] at ho
  obtain ⟨b1, b2⟩ := left_bound n w (by omega) (by omega)
  rw [← hall] at b1 b2
  refine Ev.shift (fun k => by rw [stipendref01_Spread.l1]) ?_
  refine Ev.neg (by omega) (Ev.pos (by omega) (Ev.pos (by omega) ?_))
  have h2 := ref_l2_ev x w n all hx hn2 hw hwl ha0 hall (n - sumZ (outsOf n all w)).toNat 0 (by omega)
  rw [giveOf_zero, givenOf_zero] at h2
  rw [ho, Int.toNat_natCast, show left = ((n - sumZ (outsOf n all w)).toNat : Int) by omega]
  exact h2
 | a :: u, i, out, left, h, hi, ho, hlf => by
  obtain ⟨h1, h2, h3⟩ := drop_cons_get h
  have hwa := hw a (List.mem_of_getElem? h1)
  have m1 : 0 ≤ n * a := Int.mul_nonneg (by omega) hwa.1
  have m2 : n * a ≤ 1000000 * 1048576 := Int.le_trans (Int.mul_le_mul_of_nonneg_right hn2 hwa.1) (Int.mul_le_mul_of_nonneg_left hwa.2 (by decide))
  have hq0 : 0 ≤ n * a / all := Int.ediv_nonneg m1 (by omega)
  have hq : n * a / all ≤ n * a := Int.ediv_le_self _ m1
  have htk : w.take (i + 1) = w.take i ++ [a] := by rw [List.take_add_one, h1]; rfl
  have hol : out.length = w.length := by rw [ho]; simp [outsOf]; omega
  have hsb : 0 ≤ sumZ (outsOf n all (w.take i)) ∧ sumZ (outsOf n all (w.take i)) ≤ 67108864000000 := by
   have hob : ∀ y ∈ outsOf n all (w.take i), 0 ≤ y ∧ y ≤ 1048576000000 := fun y hy => outs_bound x w n all hx hn2 hw hwl ha0 hall y (by
    obtain ⟨c, hc, rfl⟩ := List.mem_map.1 hy
    exact List.mem_map.2 ⟨c, List.mem_of_mem_take hc, rfl⟩)
   have g1 := sumZ_nonneg _ (fun y hy => (hob y hy).1)
   have g2 := sumZ_le _ 1048576000000 (fun y hy => (hob y hy).2)
   rw [outs_len, List.length_take] at g2
   refine ⟨g1, Int.le_trans g2 ?_⟩
   have : ((min i w.length : Nat) : Int) ≤ 64 := by omega
   omega
  refine Ev.shift (fun k => by rw [stipendref01_Spread.l1]) ?_
  refine Ev.pos (by omega) (Ev.pos (by omega) (Ev.neg (by omega) (Ev.pos (by omega) (Ev.bindc rfl ?_))))
  rw [rdi h1, w64 (x := n * a) (by omega) (by omega), Int.tdiv_eq_ediv_of_nonneg m1, w64 (x := n * a / all) (by omega) (by omega), Int.toNat_natCast]
  have hset : out.set i (n * a / all) = outsOf n all (w.take (i + 1)) ++ List.replicate (w.length - (i + 1)) 0 := by
   have e1 : outsOf n all (w.take (i + 1)) = outsOf n all (w.take i) ++ [n * a / all] := by rw [htk]; simp [outsOf]
   have hp : (outsOf n all (w.take i)).length = i := by rw [outs_len, List.length_take]; omega
   rw [ho, e1, show w.length - i = (w.length - (i + 1)) + 1 by omega, List.replicate_succ, List.set_append_right _ _ (by omega), hp, Nat.sub_self, List.set_cons_zero]
   simp
  have hrd : (out.set i (n * a / all))[i]? = some (n * a / all) := by rw [List.getElem?_set_self (by omega)]
  have hsum : sumZ (outsOf n all (w.take (i + 1))) = sumZ (outsOf n all (w.take i)) + n * a / all := by
   rw [htk]; simp [outsOf, sumZ_append, sumZ]
  rw [rdi hrd, w64 (x := left - n * a / all) (by omega) (by omega), show wrap64 ((i : Int) + 1) = ((i + 1 : Nat) : Int) by rw [w64 (by omega) (by omega)]; rfl]
  refine ref_l1_ev u (i + 1) _ _ h2 (by omega) hset ?_
  rw [hsum, hlf]
  omega
theorem ref_l0_ev : ∀ (u : List Int) (i : Nat) (s : Int), w.drop i = u → i ≤ w.length → s = sumZ (w.take i) → Ev (fun k => stipendref01_Spread.l0 k x w s (i : Int)) (spreadOf x w)
 | [], i, s, h, hi, hs => by
  have hi2 : w.length ≤ i := by simpa using h
  rw [List.take_of_length_le hi2, ← hall] at hs
  have hj : Ev (fun k => stipendref01_Spread.j1 k x w s (List.replicate w.length 0) n) (spreadOf x w) := by
   refine Ev.shift (fun k => by rw [stipendref01_Spread.j1]) ?_
   rw [hs]
   exact ref_l1_ev x w n all hx hn2 hw hwl ha0 hall w 0 _ _ rfl (Nat.zero_le _) (by simp [outsOf]) (by simp [outsOf, sumZ])
  refine Ev.shift (fun k => by rw [stipendref01_Spread.l0]) ?_
  refine Ev.neg (by omega) (Ev.pos (by omega) (Ev.pos (by omega) (Ev.bindc rfl ?_)))
  rw [Int.toNat_natCast]
  by_cases c : x < 0
  ·refine Ev.pos c ?_
   rw [show wrap64 (-x) = n by rw [w64 (by omega) (by omega)]; omega]
   exact hj
  ·refine Ev.neg c ?_
   have e : n = x := by omega
   rw [e] at hj
   exact hj
 | a :: u, i, s, h, hi, hs => by
  obtain ⟨h1, h2, h3⟩ := drop_cons_get h
  have hwa := hw a (List.mem_of_getElem? h1)
  have htk : w.take (i + 1) = w.take i ++ [a] := by rw [List.take_add_one, h1]; rfl
  have hsb : 0 ≤ s ∧ s ≤ 67108864 := by
   rw [hs]
   have hb : ∀ y ∈ w.take i, 0 ≤ y ∧ y ≤ 1048576 := fun y hy => hw y (List.mem_of_mem_take hy)
   have g1 := sumZ_nonneg _ (fun y hy => (hb y hy).1)
   have g2 := sumZ_le _ 1048576 (fun y hy => (hb y hy).2)
   simp only [List.length_take] at g2
   omega
  refine Ev.shift (fun k => by rw [stipendref01_Spread.l0]) ?_
  refine Ev.pos (by omega) (Ev.pos (by omega) ?_)
  rw [rdi h1, show wrap64 ((i : Int) + 1) = ((i + 1 : Nat) : Int) by rw [w64 (by omega) (by omega)]; rfl, w64 (x := s + a) (by omega) (by omega)]
  refine ref_l0_ev u (i + 1) (s + a) h2 (by omega) ?_
  rw [htk, sumZ_append, ← hs]
  simp [sumZ]
theorem ref_spread_ev : Ev (fun k => stipendref01_Spread.f k x w) (spreadOf x w) := ref_l0_ev x w n all hx hn2 hw hwl ha0 hall w 0 0 rfl (Nat.zero_le _) (by simp [sumZ])
end
end Go.Proofs.YtmocphafkimdpaaDoor.P


/- Plain laws of doubles that stand for whole numbers: what is written of a whole number below 2^53 is read as it. -/
namespace Go.Proofs.YtmocphafkimdpaaDoor.P
open Ieee

/-- A magnitude with its sign. -/
def mval (s : Bool) (m : Nat) : Int := if s then -(m : Int) else (m : Int)

theorem signed_eq (s : Bool) (m u : Nat) : signed s m u = mval s m * (2 : Int) ^ u := by
 unfold signed mval
 cases s
 ·simp [Nat.shiftLeft_eq]
 ·simp [Nat.shiftLeft_eq, Int.neg_mul]

/-- The bits of a double that stands for the whole number n. -/
def IsInt (b : Nat) (n : Int) : Prop := b < 2 ^ 64 ∧ ∃ s m e, double.read b = .number s m e ∧ -1074 ≤ e ∧ mval s m * (2 : Int) ^ (e + 1074).toNat = n * (2 : Int) ^ 1074

theorem two_pow_pos' (k : Nat) : (0 : Int) < 2 ^ k := Int.pow_pos (by decide)

/-- The bits of a whole number. -/
def fl (n : Int) : Nat := FloatKind.f64.nearest n

theorem read_word (s : Bool) (r : Nat) (hr : r < 9223372036854775808) : double.read (double.word s r) =
  if r < 4503599627370496 then .number s r (-1074)
  else if r < 9218868437227405312 then .number s (4503599627370496 + r % 4503599627370496) (-1074 + (r / 4503599627370496 - 1 : Nat))
  else if r = 9218868437227405312 then .infinity s
  else .nan s (r - 9218868437227405312) := by
 have hw : double.signWeight = 9223372036854775808 := rfl
 have h1 : (double.word s r / double.signWeight % 2 == 1) = s := by
  unfold Format.word
  rw [hw]
  cases s
  ·have : r / 9223372036854775808 = 0 := Nat.div_eq_of_lt hr
   simp [this]
  ·have : (9223372036854775808 + r) / 9223372036854775808 = 1 := by omega
   simp [this]
 have h2 : double.word s r % double.signWeight = r := by
  unfold Format.word
  rw [hw]
  cases s
  ·simpa using Nat.mod_eq_of_lt hr
  ·simp only [if_true]
   omega
 unfold Format.read
 simp only [h1, h2]
 rfl

theorem word_lt64 (s : Bool) (r : Nat) (hr : r < 9223372036854775808) : double.word s r < 18446744073709551616 := by
 have hw : double.signWeight = 9223372036854775808 := rfl
 unfold Format.word
 rw [hw]
 cases s
 ·simp; omega
 ·simp only [if_true]; omega

theorem rung_min (L kept : Nat) (hL : L < 53) (hk : kept < 9007199254740992) : min ((L + 1022) * 4503599627370496 + kept) 9218868437227405312 = (L + 1022) * 4503599627370496 + kept :=
 Nat.min_eq_left (by omega)
theorem rung_lt (L kept : Nat) (hL : L < 53) (hk : kept < 9007199254740992) : (L + 1022) * 4503599627370496 + kept < 9223372036854775808 := by omega
theorem rung_inf (L kept : Nat) (hL : L < 53) (hk : kept < 9007199254740992) : (L + 1022) * 4503599627370496 + kept < 9218868437227405312 := by omega
theorem rung_norm (L kept : Nat) : ¬ (L + 1022) * 4503599627370496 + kept < 4503599627370496 := by omega
theorem rung_div (L kept : Nat) (h1 : 4503599627370496 ≤ kept) (hk : kept < 9007199254740992) : ((L + 1022) * 4503599627370496 + kept) / 4503599627370496 = L + 1023 := by omega
theorem rung_mod (L kept : Nat) (h1 : 4503599627370496 ≤ kept) (hk : kept < 9007199254740992) : ((L + 1022) * 4503599627370496 + kept) % 4503599627370496 = kept - 4503599627370496 := by omega

theorem isInt_fl (n : Int) (h : n.natAbs < 9007199254740992) : IsInt (fl n) n := by
 have hfl : fl n = double.nearest (decide (n < 0)) n.natAbs 0 := rfl
 have hl : double.leastPlace = -1074 := rfl
 by_cases h0 : n = 0
 ·subst h0
  exact ⟨by decide, false, 0, -1074, by decide, by omega, by rw [Int.zero_mul]; rfl⟩
 ·have hm0 : n.natAbs ≠ 0 := by omega
  have hL : n.natAbs.log2 < 53 := (Nat.log2_lt hm0).2 (show n.natAbs < 2 ^ 53 from h)
  have hlo : 2 ^ n.natAbs.log2 ≤ n.natAbs := Nat.log2_self_le hm0
  have hhi : n.natAbs < 2 ^ (n.natAbs.log2 + 1) := Nat.lt_log2_self
  rw [hfl]
  unfold Format.nearest
  rw [if_neg hm0]
  have hlast : max (0 + (n.natAbs.log2 : Int) - (double.fractionBits : Int)) double.leastPlace = (n.natAbs.log2 : Int) - 52 := by
   rw [hl]
   show max (0 + (n.natAbs.log2 : Int) - 52) (-1074) = _
   omega
  simp only [hlast]
  generalize hLe : n.natAbs.log2 = L at *
  have e1 : (0 - ((L : Int) - 52)).toNat = 52 - L := by omega
  have e2 : (((L : Int) - 52) - 0).toNat = 0 := by omega
  have e3 : (((L : Int) - 52) - double.leastPlace).toNat = L + 1022 := by rw [hl]; omega
  rw [e1, e2, e3]
  have hcut : Toward.even.cut (decide (n < 0)) (n.natAbs <<< (52 - L)) 0 = n.natAbs * 2 ^ (52 - L) := by
   simp [Toward.cut, Nat.shiftLeft_eq, Nat.mod_one]
  rw [hcut]
  generalize hkept : n.natAbs * 2 ^ (52 - L) = kept
  have hk1 : 4503599627370496 ≤ kept := by
   rw [← hkept]
   have h3 : 2 ^ L * 2 ^ (52 - L) ≤ n.natAbs * 2 ^ (52 - L) := Nat.mul_le_mul_right _ hlo
   rw [← Nat.pow_add, show L + (52 - L) = 52 by omega] at h3
   exact h3
  have hk2 : kept < 9007199254740992 := by
   rw [← hkept]
   have h3 : n.natAbs * 2 ^ (52 - L) < 2 ^ (L + 1) * 2 ^ (52 - L) := Nat.mul_lt_mul_of_pos_right hhi (Nat.two_pow_pos _)
   rw [← Nat.pow_add, show L + 1 + (52 - L) = 53 by omega] at h3
   exact h3
  have hb : double.binade = 4503599627370496 := rfl
  have hi : double.infRung = 9218868437227405312 := rfl
  rw [hb, hi]
  rw [rung_min L kept hL hk2]
  have hr63 := rung_lt L kept hL hk2
  refine ⟨word_lt64 _ _ hr63, decide (n < 0), kept, (L : Int) - 52, ?_, by omega, ?_⟩
  ·rw [read_word _ _ hr63, if_neg (rung_norm L kept), if_pos (rung_inf L kept hL hk2), rung_div L kept hk1 hk2, rung_mod L kept hk1 hk2]
   have g1 : 4503599627370496 + (kept - 4503599627370496) = kept := Nat.add_sub_cancel' hk1
   have g2 : (-1074 : Int) + ((L + 1023 - 1 : Nat) : Int) = (L : Int) - 52 := by omega
   rw [g1, g2]
  ·have e4 : ((L : Int) - 52 + 1074).toNat = L + 1022 := by omega
   rw [e4, ← hkept]
   have hsum : (2 : Int) ^ (52 - L) * 2 ^ (L + 1022) = 2 ^ 1074 := (Int.pow_add 2 _ _).symm.trans (congrArg (fun x => (2 : Int) ^ x) (by omega))
   have hv : mval (decide (n < 0)) (n.natAbs * 2 ^ (52 - L)) = n * 2 ^ (52 - L) := by
    unfold mval
    by_cases hneg : n < 0
    ·have h5 : -((n.natAbs : Nat) : Int) = n := by omega
     simp only [hneg, decide_true, if_true]
     rw [Int.natCast_mul, Int.natCast_pow, ← Int.neg_mul, h5]
     rfl
    ·have h5 : ((n.natAbs : Nat) : Int) = n := by omega
     simp only [hneg, decide_false]
     rw [if_neg (by simp), Int.natCast_mul, Int.natCast_pow, h5]
     rfl
   rw [hv, Int.mul_assoc, hsum]

theorem word_of (b : Nat) (h : b < 18446744073709551616) : ∃ s r, b = double.word s r ∧ r < 9223372036854775808 := by
 have hw : double.signWeight = 9223372036854775808 := rfl
 by_cases hb : b < 9223372036854775808
 ·exact ⟨false, b, by simp [Format.word], hb⟩
 ·exact ⟨true, b - 9223372036854775808, by simp only [Format.word, if_true, hw]; omega, by omega⟩

end Go.Proofs.YtmocphafkimdpaaDoor.P


/- Plain laws of doubles: what is written of a number is near it: by at most its 2^53rd part. -/
namespace Go.Proofs.YtmocphafkimdpaaDoor.P
open Ieee

/-- What a double's read number is, in units of the least place (2^-1074). -/
def uval (m : Nat) (e : Int) : Nat := m * 2 ^ (e + 1074).toNat

theorem min_drop (L : Nat) : min (L - 52) (L + 2) = L - 52 := by omega

/-- To the nearest: twice what it is off is at most a unit. -/
theorem cut_even (neg : Bool) (n d : Nat) (hd : d ≤ n.log2 + 2) : n / 2 ^ d ≤ Toward.even.cut neg n d ∧ Toward.even.cut neg n d ≤ n / 2 ^ d + 1 ∧ 2 * (Toward.even.cut neg n d * 2 ^ d) ≤ 2 * n + 2 ^ d ∧ 2 * n ≤ 2 * (Toward.even.cut neg n d * 2 ^ d) + 2 ^ d := by
 unfold Toward.cut
 simp only [Nat.min_eq_left hd, Nat.one_shiftLeft]
 have hg : 0 < 2 ^ d := Nat.two_pow_pos d
 generalize 2 ^ d = g at hg ⊢
 have h1 : g * (n / g) + n % g = n := Nat.div_add_mod n g
 have h2 : n % g < g := Nat.mod_lt _ hg
 generalize n / g = q at h1 ⊢
 generalize n % g = r at h1 h2 ⊢
 have e : ∀ b : Nat, (q + b) * g = g * q + b * g := fun b => by rw [Nat.add_mul, Nat.mul_comm q g]
 by_cases c1 : g < 2 * r
 ·simp only [c1, decide_true, Bool.true_or, Bool.toNat_true]
  rw [e 1]
  omega
 ·simp only [c1, decide_false, Bool.false_or]
  by_cases c2 : (g == 2 * r && q % 2 == 1) = true
  ·rw [c2]
   have : g = 2 * r := by simpa using (by simpa using c2 : g = 2 * r ∧ _).1
   simp only [Bool.toNat_true]
   rw [e 1]
   omega
  ·rw [Bool.eq_false_iff.2 c2]
   simp only [Bool.toNat_false]
   rw [e 0]
   omega

theorem rung_read (s : Bool) (k kept : Nat) (hk : k ≤ 2000) (h1 : 4503599627370496 ≤ kept) (h2 : kept ≤ 9007199254740992) :
  ∃ m e, double.read (double.word s (min (k * 4503599627370496 + kept) 9218868437227405312)) = .number s m e ∧ -1074 ≤ e ∧ uval m e = kept * 2 ^ k ∧ 4503599627370496 ≤ m ∧ m < 9007199254740992 := by
 have hm : min (k * 4503599627370496 + kept) 9218868437227405312 = k * 4503599627370496 + kept := Nat.min_eq_left (by omega)
 rw [hm, read_word _ _ (by omega), if_neg (by omega), if_pos (by omega)]
 by_cases c : kept = 9007199254740992
 ·refine ⟨_, _, rfl, by omega, ?_, by omega, by omega⟩
  have g1 : (k * 4503599627370496 + kept) / 4503599627370496 = k + 2 := by omega
  have g2 : (k * 4503599627370496 + kept) % 4503599627370496 = 0 := by omega
  rw [g1, g2]
  unfold uval
  have e1 : ((-1074 : Int) + ((k + 2 - 1 : Nat) : Int) + 1074).toNat = k + 1 := by omega
  rw [e1, c, Nat.pow_succ]
  omega
 ·refine ⟨_, _, rfl, by omega, ?_, by omega, by omega⟩
  have g1 : (k * 4503599627370496 + kept) / 4503599627370496 = k + 1 := by omega
  have g2 : (k * 4503599627370496 + kept) % 4503599627370496 = kept - 4503599627370496 := by omega
  rw [g1, g2]
  unfold uval
  have e1 : ((-1074 : Int) + ((k + 1 - 1 : Nat) : Int) + 1074).toNat = k := by omega
  rw [e1, show 4503599627370496 + (kept - 4503599627370496) = kept by omega]

theorem near_up {K m g c : Nat} (b3 : 2 * K ≤ 2 * m + g) (hg : g * c ≤ m) : K * (2 * c) ≤ m * (2 * c + 1) := by
 have h1 := Nat.mul_le_mul_right c b3
 rw [Nat.add_mul] at h1
 have e1 : K * (2 * c) = 2 * K * c := by rw [Nat.mul_comm 2 K, Nat.mul_assoc]
 have e2 : m * (2 * c + 1) = 2 * m * c + m := by rw [Nat.mul_comm 2 m, Nat.mul_assoc]; rfl
 rw [e1, e2]
 exact Nat.le_trans h1 (Nat.add_le_add_left hg _)
theorem near_dn {K m g c d : Nat} (b4 : 2 * m ≤ 2 * K + g) (hg : g * c ≤ m) (hd : d + 1 = 2 * c) : m * d ≤ K * (2 * c) := by
 have h1 := Nat.mul_le_mul_right c b4
 rw [Nat.add_mul] at h1
 have e1 : K * (2 * c) = 2 * K * c := by rw [Nat.mul_comm 2 K, Nat.mul_assoc]
 have e2 : 2 * m * c = m * d + m := by rw [Nat.mul_comm 2 m, Nat.mul_assoc, ← hd]; rfl
 rw [e1]
 rw [e2] at h1
 exact Nat.le_of_add_le_add_right (Nat.le_trans h1 (Nat.add_le_add_left hg _))
theorem near_arith {K m g : Nat} (b3 : 2 * K ≤ 2 * m + g) (b4 : 2 * m ≤ 2 * K + g) (hg : g * 4503599627370496 ≤ m) : K * 9007199254740992 ≤ m * 9007199254740993 ∧ m * 9007199254740991 ≤ K * 9007199254740992 :=
 ⟨near_up b3 hg, near_dn b4 hg rfl⟩

/-- What is written of a number, read again. -/
theorem near_val (s : Bool) (m : Nat) (p : Int) (hp : -1074 ≤ p) (hp2 : m ≠ 0 → p + (m.log2 : Int) ≤ 900) :
  ∃ m' e', double.read (double.nearest s m p) = .number s m' e' ∧ -1074 ≤ e' ∧ uval m' e' * 9007199254740992 ≤ uval m p * 9007199254740993 ∧ uval m p * 9007199254740991 ≤ uval m' e' * 9007199254740992
   ∧ (4503599627370496 ≤ uval m p → 4503599627370496 ≤ m' ∧ m' < 9007199254740992) := by
 have hl : double.leastPlace = -1074 := rfl
 by_cases h0 : m = 0
 ·subst h0
  refine ⟨0, -1074, ?_, by omega, by simp [uval], by simp [uval], by simp [uval]⟩
  unfold Format.nearest
  rw [if_pos rfl, read_word _ _ (by decide)]
  rfl
 ·have hp2 := hp2 h0
  unfold Format.nearest
  rw [if_neg h0]
  have hlast : max (p + (m.log2 : Int) - (double.fractionBits : Int)) double.leastPlace = max (p + (m.log2 : Int) - 52) (-1074) := by rw [hl]; rfl
  simp only [hlast]
  have hlo : 2 ^ m.log2 ≤ m := Nat.log2_self_le h0
  have hhi : m < 2 ^ (m.log2 + 1) := Nat.lt_log2_self
  generalize hL : m.log2 = L at *
  have hb : double.binade = 4503599627370496 := rfl
  have hi : double.infRung = 9218868437227405312 := rfl
  rw [hb, hi, hl]
  have h52 : (4503599627370496 : Nat) = 2 ^ 52 := by decide
  have h53 : (9007199254740992 : Nat) = 2 ^ 53 := by decide
  obtain ⟨P, rfl⟩ : ∃ P : Nat, p = (P : Int) - 1074 := ⟨(p + 1074).toNat, by omega⟩
  have hPP : ((P : Int) - 1074 + 1074).toNat = P := by omega
  have hV : uval m ((P : Int) - 1074) = m * 2 ^ P := by unfold uval; rw [hPP]
  rw [hV]
  by_cases c : P + L < 52
  ·-- below the normal ones: as it is
   have hmax : max ((P : Int) - 1074 + (L : Int) - 52) (-1074) = -1074 := by omega
   rw [hmax]
   have e1 : ((P : Int) - 1074 - -1074).toNat = P := by omega
   have e2 : ((-1074 : Int) - ((P : Int) - 1074)).toNat = 0 := by omega
   have e3 : ((-1074 : Int) - -1074).toNat = 0 := by omega
   rw [e1, e2, e3]
   have hcut : Toward.even.cut s (m <<< P) 0 = m * 2 ^ P := by simp [Toward.cut, Nat.shiftLeft_eq, Nat.mod_one]
   rw [hcut, Nat.zero_mul, Nat.zero_add]
   have hlt : m * 2 ^ P < 4503599627370496 := by
    have h3 : m * 2 ^ P < 2 ^ (L + 1) * 2 ^ P := Nat.mul_lt_mul_of_pos_right hhi (Nat.two_pow_pos _)
    rw [← Nat.pow_add] at h3
    have h4 : 2 ^ (L + 1 + P) ≤ 2 ^ 52 := Nat.pow_le_pow_right (by decide) (by omega)
    omega
   rw [Nat.min_eq_left (by omega), read_word _ _ (by omega), if_pos hlt]
   refine ⟨_, _, rfl, by omega, ?_, ?_, by omega⟩
   ·unfold uval; simp only [Int.reduceAdd, Int.toNat_zero, Nat.pow_zero, Nat.mul_one]; omega
   ·unfold uval; simp only [Int.reduceAdd, Int.toNat_zero, Nat.pow_zero, Nat.mul_one]; omega
  ·have hmax : max ((P : Int) - 1074 + (L : Int) - 52) (-1074) = (P : Int) - 1074 + (L : Int) - 52 := by omega
   rw [hmax]
   have e3 : ((P : Int) - 1074 + (L : Int) - 52 - -1074).toNat = P + L - 52 := by omega
   rw [e3]
   by_cases c2 : L ≤ 52
   ·have e1 : ((P : Int) - 1074 - ((P : Int) - 1074 + (L : Int) - 52)).toNat = 52 - L := by omega
    have e2 : ((P : Int) - 1074 + (L : Int) - 52 - ((P : Int) - 1074)).toNat = 0 := by omega
    rw [e1, e2]
    have hcut : Toward.even.cut s (m <<< (52 - L)) 0 = m * 2 ^ (52 - L) := by simp [Toward.cut, Nat.shiftLeft_eq, Nat.mod_one]
    rw [hcut]
    have hk1 : 4503599627370496 ≤ m * 2 ^ (52 - L) := by
     have h3 : 2 ^ L * 2 ^ (52 - L) ≤ m * 2 ^ (52 - L) := Nat.mul_le_mul_right _ hlo
     rw [← Nat.pow_add, show L + (52 - L) = 52 by omega] at h3
     exact h3
    have hk2 : m * 2 ^ (52 - L) < 9007199254740992 := by
     have h3 : m * 2 ^ (52 - L) < 2 ^ (L + 1) * 2 ^ (52 - L) := Nat.mul_lt_mul_of_pos_right hhi (Nat.two_pow_pos _)
     rw [← Nat.pow_add, show L + 1 + (52 - L) = 53 by omega] at h3
     exact h3
    obtain ⟨m', e', hr, he, hv, h1, h2⟩ := rung_read s (P + L - 52) (m * 2 ^ (52 - L)) (by omega) hk1 (by omega)
    have hv2 : uval m' e' = m * 2 ^ P := by
     rw [hv, Nat.mul_assoc, ← Nat.pow_add]
     congr 2
     omega
    refine ⟨m', e', hr, he, ?_, ?_, fun _ => ⟨h1, h2⟩⟩
    ·rw [hv2]; omega
    ·rw [hv2]; omega
   ·have e1 : ((P : Int) - 1074 - ((P : Int) - 1074 + (L : Int) - 52)).toNat = 0 := by omega
    have e2 : ((P : Int) - 1074 + (L : Int) - 52 - ((P : Int) - 1074)).toNat = L - 52 := by omega
    rw [e1, e2, Nat.shiftLeft_zero]
    obtain ⟨b1, b2, b3, b4⟩ := cut_even s m (L - 52) (by rw [hL]; omega)
    generalize Toward.even.cut s m (L - 52) = kept at b1 b2 b3 b4 ⊢
    have hgp : 0 < 2 ^ (L - 52) := Nat.two_pow_pos _
    have hge : 2 ^ 52 * 2 ^ (L - 52) = 2 ^ L := by rw [← Nat.pow_add]; congr 1; omega
    have hge2 : 2 ^ 53 * 2 ^ (L - 52) = 2 ^ (L + 1) := by rw [← Nat.pow_add]; congr 1; omega
    have hk1 : 4503599627370496 ≤ m / 2 ^ (L - 52) := by
     rw [Nat.le_div_iff_mul_le hgp, h52, hge]; exact hlo
    have hk2 : m / 2 ^ (L - 52) < 9007199254740992 := by
     rw [Nat.div_lt_iff_lt_mul hgp, h53, hge2]; exact hhi
    obtain ⟨m', e', hr, he, hv, h1, h2⟩ := rung_read s (P + L - 52) kept (by omega) (by omega) (by omega)
    have hv2 : uval m' e' = kept * 2 ^ (L - 52) * 2 ^ P := by
     rw [hv, Nat.mul_assoc, ← Nat.pow_add]
     congr 2
     omega
    have hg : 2 ^ (L - 52) * 4503599627370496 ≤ m := by
     rw [h52, Nat.mul_comm, hge]; exact hlo
    refine ⟨m', e', hr, he, ?_, ?_, fun _ => ⟨h1, h2⟩⟩
    ·rw [hv2]
     have h3 := Nat.mul_le_mul_right (2 ^ P) (near_arith b3 b4 hg).1
     rw [Nat.mul_right_comm _ 9007199254740992, Nat.mul_right_comm m] at h3
     exact h3
    ·rw [hv2]
     have h3 := Nat.mul_le_mul_right (2 ^ P) (near_arith b3 b4 hg).2
     rw [Nat.mul_right_comm m, Nat.mul_right_comm _ 9007199254740992] at h3
     exact h3

end Go.Proofs.YtmocphafkimdpaaDoor.P


/- Plain laws of doubles: an amount times a weight by the sum of the weights, reckoned in doubles, is near enough. -/
namespace Go.Proofs.YtmocphafkimdpaaDoor.P
open Ieee

theorem exp_ex : ∃ K : Nat, K = 1074 := ⟨1074, rfl⟩
/-- 1074, of which Lean is not to reckon powers. -/
noncomputable def expU : Nat := Classical.choose exp_ex
theorem expU_eq : expU = 1074 := Classical.choose_spec exp_ex
/-- One, in units of the least place. -/
noncomputable def unitU : Nat := 2 ^ expU
theorem unitU_pos : 0 < unitU := Nat.two_pow_pos _
theorem pow_two_add {a b c : Nat} (h : a + b = c) : 2 ^ a * 2 ^ b = 2 ^ c := by rw [← Nat.pow_add, h]

/-- a is b, but for a d-th part of b. -/
def Near (d a b : Nat) : Prop := a * d ≤ b * (d + 1) ∧ b * (d - 1) ≤ a * d

theorem near_comp {d a b e : Nat} (hd : 0 < d) (h1 : Near (4 * d) a b) (h2 : Near (4 * d) b e) : Near d a e := by
 obtain ⟨a1, a2⟩ := h1
 obtain ⟨b1, b2⟩ := h2
 have hdd : 0 < 16 * d := by omega
 constructor
 ·have h3 : a * (4 * d) * (4 * d) ≤ b * (4 * d + 1) * (4 * d) := Nat.mul_le_mul_right _ a1
  have h4 : b * (4 * d) * (4 * d + 1) ≤ e * (4 * d + 1) * (4 * d + 1) := Nat.mul_le_mul_right _ b1
  have h5 : b * (4 * d + 1) * (4 * d) = b * (4 * d) * (4 * d + 1) := Nat.mul_right_comm _ _ _
  have h6 : (4 * d + 1) * (4 * d + 1) ≤ (d + 1) * (16 * d) := by
   have : d * 16 = 16 * d := Nat.mul_comm _ _
   have e1 : (4 * d + 1) * (4 * d + 1) = 16 * (d * d) + 8 * d + 1 := by
    rw [Nat.add_mul, Nat.mul_add, Nat.one_mul, Nat.mul_one, Nat.mul_mul_mul_comm]
    omega
   have e2 : (d + 1) * (16 * d) = 16 * (d * d) + 16 * d := by
    rw [Nat.add_mul, Nat.one_mul, Nat.mul_left_comm]
   omega
  have h7 : e * (4 * d + 1) * (4 * d + 1) ≤ e * (d + 1) * (16 * d) := by
   rw [Nat.mul_assoc, Nat.mul_assoc e]
   exact Nat.mul_le_mul_left _ h6
  have h8 : a * (4 * d) * (4 * d) = a * d * (16 * d) := by
   rw [Nat.mul_assoc a, Nat.mul_assoc a, Nat.mul_mul_mul_comm, Nat.mul_left_comm d 16 d]
  have h9 : a * d * (16 * d) ≤ e * (d + 1) * (16 * d) := by
   rw [← h8]
   exact Nat.le_trans h3 (h5 ▸ Nat.le_trans h4 h7)
  exact Nat.le_of_mul_le_mul_right h9 hdd
 ·have h3 : b * (4 * d - 1) * (4 * d) ≤ a * (4 * d) * (4 * d) := Nat.mul_le_mul_right _ a2
  have h4 : e * (4 * d - 1) * (4 * d - 1) ≤ b * (4 * d) * (4 * d - 1) := Nat.mul_le_mul_right _ b2
  have h5 : b * (4 * d - 1) * (4 * d) = b * (4 * d) * (4 * d - 1) := Nat.mul_right_comm _ _ _
  have h6 : (d - 1) * (16 * d) ≤ (4 * d - 1) * (4 * d - 1) := by
   obtain ⟨c, rfl⟩ : ∃ c, d = c + 1 := ⟨d - 1, by omega⟩
   have e0 : 4 * (c + 1) - 1 = 4 * c + 3 := by omega
   have e1 : (4 * c + 3) * (4 * c + 3) = 16 * (c * c) + 24 * c + 9 := by
    rw [Nat.add_mul, Nat.mul_add, Nat.mul_add, Nat.mul_mul_mul_comm]
    omega
   have e2 : (c + 1 - 1) * (16 * (c + 1)) = 16 * (c * c) + 16 * c := by
    rw [Nat.add_sub_cancel, Nat.mul_left_comm, Nat.mul_add, Nat.mul_one, Nat.mul_add]
   rw [e0, e1, e2]
   omega
  have h7 : e * (d - 1) * (16 * d) ≤ e * (4 * d - 1) * (4 * d - 1) := by
   rw [Nat.mul_assoc, Nat.mul_assoc e]
   exact Nat.mul_le_mul_left _ h6
  have h8 : a * (4 * d) * (4 * d) = a * d * (16 * d) := by
   rw [Nat.mul_assoc a, Nat.mul_assoc a, Nat.mul_mul_mul_comm, Nat.mul_left_comm d 16 d]
  have h9 : e * (d - 1) * (16 * d) ≤ a * d * (16 * d) := by
   rw [← h8]
   exact Nat.le_trans h7 (Nat.le_trans h4 (h5 ▸ h3))
  exact Nat.le_of_mul_le_mul_right h9 hdd

theorem near_weak {d k a b : Nat} (hk : 0 < k) (h : Near (k * d) a b) : Near d a b := by
 obtain ⟨h1, h2⟩ := h
 constructor
 ·have e1 : a * (k * d) = k * (a * d) := Nat.mul_left_comm _ _ _
  have e2 : b * (k * d + 1) ≤ k * (b * (d + 1)) := by
   rw [Nat.mul_left_comm]
   refine Nat.mul_le_mul_left _ ?_
   rw [Nat.mul_add]; omega
  rw [e1] at h1
  exact Nat.le_of_mul_le_mul_left (Nat.le_trans h1 e2) hk
 ·have e1 : a * (k * d) = k * (a * d) := Nat.mul_left_comm _ _ _
  have e2 : k * (b * (d - 1)) ≤ b * (k * d - 1) := by
   rw [Nat.mul_left_comm]
   refine Nat.mul_le_mul_left _ ?_
   rw [Nat.mul_sub]; omega
  rw [e1] at h2
  exact Nat.le_of_mul_le_mul_left (Nat.le_trans e2 h2) hk

theorem pow_mix {a b c d : Nat} (h : a + b = c + d) : 2 ^ a * 2 ^ b = 2 ^ c * 2 ^ d := by rw [← Nat.pow_add, ← Nat.pow_add, h]
theorem near_congr {d a b a' b' : Nat} (ha : a = a') (hb : b = b') (h : Near d a' b') : Near d a b := by subst ha; subst hb; exact h
theorem near_of {X Y n d : Nat} (hd : 0 < d) (h1 : Y ≤ X + n) (h2 : X ≤ Y + n) (hn : n * d ≤ X) : Near d Y X := by
 constructor
 ·have h3 := Nat.mul_le_mul_right d h1
  rw [Nat.add_mul] at h3
  exact Nat.le_trans h3 (Nat.add_le_add_left hn _)
 ·have h3 := Nat.mul_le_mul_right d h2
  rw [Nat.add_mul] at h3
  have h4 := Nat.le_trans h3 (Nat.add_le_add_left hn _)
  obtain ⟨c, rfl⟩ : ∃ c, d = c + 1 := ⟨d - 1, by omega⟩
  rw [Nat.mul_succ] at h4
  exact Nat.le_of_add_le_add_right h4

theorem near_mul {d a b : Nat} (k : Nat) (h : Near d a b) : Near d (a * k) (b * k) := by
 obtain ⟨h1, h2⟩ := h
 constructor
 ·rw [Nat.mul_right_comm, Nat.mul_right_comm b]; exact Nat.mul_le_mul_right _ h1
 ·rw [Nat.mul_right_comm, Nat.mul_right_comm a]; exact Nat.mul_le_mul_right _ h2

theorem near_cancel {d a b : Nat} (k : Nat) (hk : 0 < k) (h : Near d (a * k) (b * k)) : Near d a b := by
 obtain ⟨h1, h2⟩ := h
 rw [Nat.mul_right_comm, Nat.mul_right_comm b] at h1
 rw [Nat.mul_right_comm, Nat.mul_right_comm a] at h2
 exact ⟨Nat.le_of_mul_le_mul_right h1 hk, Nat.le_of_mul_le_mul_right h2 hk⟩

theorem read_mag {b : Nat} {s : Bool} {m : Nat} {e : Int} (h : double.read b = .number s m e) : m < 9007199254740992 ∧ -1074 ≤ e := by
 have hb : double.binade = 4503599627370496 := rfl
 have hl : double.leastPlace = -1074 := rfl
 unfold Format.read at h
 simp only [hb, hl] at h
 split at h
 ·injection h with _ h1 h2
  subst h1; subst h2
  omega
 ·split at h
  ·injection h with _ h1 h2
   subst h1; subst h2
   omega
  ·split at h <;> cases h

theorem place_lo {m : Nat} {e : Int} {k : Nat} (hm : m < 9007199254740992) (he : -1074 ≤ e) (h : 2 ^ k ≤ uval m e) : (k : Int) < e + 1127 := by
 unfold uval at h
 have h1 : m * 2 ^ (e + 1074).toNat < 2 ^ 53 * 2 ^ (e + 1074).toNat := Nat.mul_lt_mul_of_pos_right hm (Nat.two_pow_pos _)
 rw [← Nat.pow_add] at h1
 have h2 := (Nat.pow_lt_pow_iff_right (by decide : 1 < 2)).1 (Nat.lt_of_le_of_lt h h1)
 omega

theorem place_hi {m : Nat} {e : Int} {k : Nat} (hm : m ≠ 0) (he : -1074 ≤ e) (h : uval m e < 2 ^ k) : e + 1074 + (m.log2 : Int) < k := by
 unfold uval at h
 have h1 : 2 ^ m.log2 * 2 ^ (e + 1074).toNat ≤ m * 2 ^ (e + 1074).toNat := Nat.mul_le_mul_right _ (Nat.log2_self_le hm)
 rw [← Nat.pow_add] at h1
 have h2 := (Nat.pow_lt_pow_iff_right (by decide : 1 < 2)).1 (Nat.lt_of_le_of_lt h1 h)
 omega

theorem uval_mul {m n : Nat} {i j : Int} (hi : -1074 ≤ i) (hj : -1074 ≤ j) (hij : -1074 ≤ i + j) : uval (m * n) (i + j) * unitU = uval m i * uval n j := by
 have he := expU_eq
 unfold uval unitU
 rw [Nat.mul_mul_mul_comm m, Nat.mul_assoc, ← Nat.pow_add, ← Nat.pow_add]
 congr 2
 omega

theorem log2_norm {m : Nat} (h1 : 4503599627370496 ≤ m) (h2 : m < 9007199254740992) : m.log2 = 52 := by
 have a1 : m.log2 < 53 := (Nat.log2_lt (by omega)).2 (show m < 2 ^ 53 from h2)
 have a2 : 52 ≤ m.log2 := (Nat.le_log2 (by omega)).2 (show 2 ^ 52 ≤ m from h1)
 omega

theorem one_le_unit : 4503599627370496 ≤ unitU := by
 have he := expU_eq
 have h52 : (4503599627370496 : Nat) = 2 ^ 52 := by decide
 unfold unitU
 rw [h52]
 exact Nat.pow_le_pow_right (by decide) (by omega)
theorem place_unit {m : Nat} {e : Int} (hm : m < 9007199254740992) (he : -1074 ≤ e) (h : unitU ≤ 2 * uval m e) : (1074 : Int) < e + 1128 := by
 have hx := expU_eq
 unfold uval unitU at h
 have h1 : m * 2 ^ (e + 1074).toNat < 2 ^ 53 * 2 ^ (e + 1074).toNat := Nat.mul_lt_mul_of_pos_right hm (Nat.two_pow_pos _)
 have h2 : 2 * (2 ^ 53 * 2 ^ (e + 1074).toNat) = 2 ^ (54 + (e + 1074).toNat) := by
  rw [← Nat.mul_assoc, ← pow_two_add (a := 54) (b := (e + 1074).toNat) rfl]
 have h3 : 2 ^ expU < 2 ^ (54 + (e + 1074).toNat) := by omega
 have h4 := (Nat.pow_lt_pow_iff_right (by decide : 1 < 2)).1 h3
 omega

/-- A whole number's double, read. -/
theorem fl_read (n : Int) (h : n.natAbs < 9007199254740992) : ∃ m e, double.read (fl n) = .number (decide (n < 0)) m e ∧ -1074 ≤ e ∧ uval m e = n.natAbs * unitU ∧ m < 9007199254740992 ∧ (n ≠ 0 → 4503599627370496 ≤ m) := by
 obtain ⟨_, s, m, e, hr, he, hv⟩ := isInt_fl n h
 have hlog : (n.natAbs.log2 : Int) ≤ 900 := by
  by_cases h0 : n.natAbs = 0
  ·rw [h0]; decide
  ·have := (Nat.log2_lt h0).2 (show n.natAbs < 2 ^ 53 from h)
   omega
 obtain ⟨m', e', hr', he', h1, h2, h3⟩ := near_val (decide (n < 0)) n.natAbs 0 (by omega) (fun _ => by omega)
 have hfl : fl n = double.nearest (decide (n < 0)) n.natAbs 0 := rfl
 rw [hfl, hr'] at hr
 injection hr with a1 a2 a3
 subst a1; subst a2; subst a3
 have hu : uval m' e' = n.natAbs * unitU := by
  rw [← expU_eq] at hv
  have := congrArg Int.natAbs hv
  rw [Int.natAbs_mul, Int.natAbs_mul, Int.natAbs_pow, Int.natAbs_pow] at this
  have e1 : (mval (decide (n < 0)) m').natAbs = m' := by unfold mval; split <;> simp
  rw [e1] at this
  exact this
 refine ⟨m', e', by rw [hfl, hr'], he', hu, (read_mag hr').1, fun hn => (h3 ?_).1⟩
 have e0 : uval n.natAbs 0 = n.natAbs * unitU := by
  have hz : ((0 : Int) + 1074).toNat = expU := by rw [expU_eq]; rfl
  unfold uval unitU
  rw [hz]
 rw [e0]
 exact Nat.le_trans one_le_unit (Nat.le_mul_of_pos_left _ (by omega))

theorem read_word0 (s : Bool) : double.read (double.word s 0) = .number s 0 (-1074) := by
 rw [read_word _ _ (by decide)]
 rfl
theorem near_refl (d a : Nat) : Near d a a := ⟨Nat.mul_le_mul_left _ (by omega), Nat.mul_le_mul_left _ (by omega)⟩

theorem near_ge {a b u : Nat} (h : Near 9007199254740992 a b) (hu : u ≤ b) : u ≤ 2 * a := by
 have h1 : b * 9007199254740991 ≤ a * 9007199254740992 := h.2
 have h2 : b * 9007199254740992 ≤ 2 * a * 9007199254740992 := by
  have h3 : b * 9007199254740992 ≤ b * (9007199254740991 * 2) := Nat.mul_le_mul_left _ (by decide)
  have h4 : b * (9007199254740991 * 2) ≤ a * 9007199254740992 * 2 := by rw [← Nat.mul_assoc]; exact Nat.mul_le_mul_right _ h1
  have h5 : a * 9007199254740992 * 2 = 2 * a * 9007199254740992 := by rw [Nat.mul_comm, ← Nat.mul_assoc]
  rw [h5] at h4
  exact Nat.le_trans h3 h4
 exact Nat.le_trans hu (Nat.le_of_mul_le_mul_right h2 (by decide))
/-- A product of two whole numbers, in doubles. -/
theorem mul_near (x w : Int) (hx : x.natAbs ≤ 100000000000) (hw : w.natAbs ≤ 1048576) (hw0 : 0 ≤ w) :
  ∃ b m e, double.mul (fl x) (fl w) = some b ∧ double.read b = .number (decide (x < 0)) m e ∧ (m = 0 ∨ 4503599627370496 ≤ m ∧ unitU ≤ 2 * uval m e) ∧ Near 9007199254740992 (uval m e) (x.natAbs * w.natAbs * unitU) := by
 obtain ⟨m1, e1, r1, p1, v1, b1, _⟩ := fl_read x (by omega)
 obtain ⟨m2, e2, r2, p2, v2, b2, _⟩ := fl_read w (by omega)
 have hd : decide (w < 0) = false := decide_eq_false (by omega)
 rw [hd] at r2
 have hmul : double.mul (fl x) (fl w) = some (double.nearest (decide (x < 0)) (m1 * m2) (e1 + e2)) := by
  unfold Format.mul
  rw [r1, r2]
  simp only [Datum.product, Option.map_some, Format.write, Bool.xor_false]
 rw [hmul]
 by_cases h0 : x.natAbs = 0 ∨ w.natAbs = 0
 ·have hz : m1 * m2 = 0 := by
   have z : ∀ {m : Nat} {e : Int}, uval m e = 0 → m = 0 := fun {m e} h => by
    unfold uval at h
    rcases Nat.mul_eq_zero.1 h with h | h
    ·exact h
    ·exact absurd h (Nat.ne_of_gt (Nat.two_pow_pos _))
   rcases h0 with h | h
   ·rw [h, Nat.zero_mul] at v1; rw [z v1, Nat.zero_mul]
   ·rw [h, Nat.zero_mul] at v2; rw [z v2, Nat.mul_zero]
  have hP : x.natAbs * w.natAbs = 0 := Nat.mul_eq_zero.2 h0
  refine ⟨_, 0, -1074, rfl, ?_, .inl rfl, ?_⟩
  ·rw [hz]
   unfold Format.nearest
   rw [if_pos rfl, read_word0]
  ·rw [hP, Nat.zero_mul]
   have : uval 0 (-1074) = 0 := by simp [uval]
   rw [this]
   exact near_refl _ _
 ·have hx0 : 1 ≤ x.natAbs := by omega
  have hw1 : 1 ≤ w.natAbs := by omega
  have g1 : unitU ≤ uval m1 e1 := by rw [v1]; exact Nat.le_mul_of_pos_left _ hx0
  have g2 : unitU ≤ uval m2 e2 := by rw [v2]; exact Nat.le_mul_of_pos_left _ hw1
  have q1 := place_unit b1 p1 (by omega)
  have q2 := place_unit b2 p2 (by omega)
  have hv : uval (m1 * m2) (e1 + e2) = x.natAbs * w.natAbs * unitU := by
   have := uval_mul (m := m1) (n := m2) p1 p2 (by omega)
   rw [v1, v2, Nat.mul_mul_mul_comm, ← Nat.mul_assoc] at this
   exact Nat.eq_of_mul_eq_mul_right unitU_pos this
  have hm0 : m1 * m2 ≠ 0 := by
   intro h
   rw [h] at hv
   have h2 : uval 0 (e1 + e2) = 0 := by simp [uval]
   rw [h2] at hv
   have := Nat.mul_pos (Nat.mul_pos hx0 hw1) unitU_pos
   omega
  have hup : uval (m1 * m2) (e1 + e2) < 2 ^ (57 + expU) := by
   rw [hv]
   have h1 : x.natAbs * w.natAbs ≤ 100000000000 * 1048576 := Nat.mul_le_mul hx hw
   have h2 : x.natAbs * w.natAbs * unitU < 2 ^ 57 * unitU := Nat.mul_lt_mul_of_pos_right (Nat.lt_of_le_of_lt h1 (by decide)) unitU_pos
   unfold unitU at h2 ⊢
   rw [← Nat.pow_add 2 57 expU] at h2
   exact h2
  have h3 := place_hi hm0 (by omega) hup
  have hex := expU_eq
  obtain ⟨m', e', hr, he, n1, n2, n3⟩ := near_val (decide (x < 0)) (m1 * m2) (e1 + e2) (by omega) (fun _ => by omega)
  have hge : unitU ≤ uval (m1 * m2) (e1 + e2) := by
   rw [hv]
   exact Nat.le_mul_of_pos_left _ (Nat.mul_pos hx0 hw1)
  refine ⟨_, m', e', rfl, hr, .inr ⟨(n3 (Nat.le_trans one_le_unit hge)).1, ?_⟩, ?_⟩
  ·exact near_ge ⟨n1, n2⟩ hge
  ·rw [← hv]
   exact ⟨n1, n2⟩

/-- A quotient by a whole number, in doubles. -/
theorem div_near {bm : Nat} {s : Bool} {m : Nat} {i : Int} (hr : double.read bm = .number s m i) (h52 : m = 0 ∨ 4503599627370496 ≤ m ∧ unitU ≤ 2 * uval m i) (hU : uval m i < 2 ^ (126 + expU)) (A : Int) (hA : 0 < A) (hA2 : A ≤ 67108864) :
  ∃ q m' e', double.div bm (fl A) = some q ∧ double.read q = .number s m' e' ∧ Near 2251799813685248 (uval m' e' * A.natAbs) (uval m i) := by
 obtain ⟨hm, hi⟩ := read_mag hr
 obtain ⟨n, j, r2, p2, v2, b2, c2⟩ := fl_read A (by omega)
 have c2 := c2 (by omega)
 have hd : decide (A < 0) = false := decide_eq_false (by omega)
 rw [hd] at r2
 have hn0 : n ≠ 0 := by omega
 have hln : n.log2 = 52 := log2_norm c2 b2
 rcases h52 with h0 | ⟨h52, h1000⟩
 ·subst h0
  have hdiv : ∃ pl, double.div bm (fl A) = some (double.nearest s 0 pl) := by
   unfold Format.div
   rw [hr, r2]
   simp only [Datum.quotient, if_neg hn0, Option.map_some, Format.write, Bool.xor_false, Nat.zero_shiftLeft, Nat.zero_div, Nat.zero_mod]
   exact ⟨_, rfl⟩
  obtain ⟨pl, hdiv⟩ := hdiv
  refine ⟨_, 0, -1074, hdiv, ?_, ?_⟩
  ·unfold Format.nearest
   rw [if_pos rfl, read_word0]
  ·have z : ∀ e, uval 0 e = 0 := fun e => by simp [uval]
   rw [z, z, Nat.zero_mul]
   exact near_refl _ _
 ·have hlm : m.log2 = 52 := log2_norm h52 hm
  have hex := expU_eq
  have g1 := place_unit hm hi h1000
  have g2 := place_hi (by omega) hi hU
  rw [hlm] at g2
  have hAU : uval n j < 2 ^ (27 + expU) := by
   rw [v2]
   have h2 : A.natAbs * unitU < 2 ^ 27 * unitU := Nat.mul_lt_mul_of_pos_right (show A.natAbs < 134217728 by omega) unitU_pos
   unfold unitU at h2 ⊢
   rw [← Nat.pow_add 2 27 expU] at h2
   exact h2
  have g3 := place_hi hn0 p2 hAU
  rw [hln] at g3
  have hAL : unitU ≤ uval n j := by rw [v2]; exact Nat.le_mul_of_pos_left _ (by omega)
  have g4 := place_unit b2 p2 (by omega)
  have hdiv : double.div bm (fl A) = some (double.nearest s (2 * (m * 2 ^ 54 / n) + (m * 2 ^ 54 % n != 0).toNat) (i - j - 54 - 1)) := by
   unfold Format.div
   rw [hr, r2]
   have hfb : double.fractionBits + 2 = 54 := rfl
   simp only [Datum.quotient, if_neg hn0, Option.map_some, Format.write, Bool.xor_false, hfb, hln, hlm, Nat.shiftLeft_eq]
   rfl
  rw [hdiv]
  generalize hq : m * 2 ^ 54 / n = q
  generalize hrm : m * 2 ^ 54 % n = rm
  have hqr : n * q + rm = m * 2 ^ 54 := by rw [← hq, ← hrm]; exact Nat.div_add_mod _ _
  have hrmn : rm < n := by rw [← hrm]; exact Nat.mod_lt _ (by omega)
  obtain ⟨r, hrr, hr1, hr2⟩ : ∃ r : Nat, (rm != 0).toNat = r ∧ (r ≤ 1) ∧ (r = 0 → rm = 0) := by
   by_cases h : rm = 0
   ·exact ⟨0, by simp [h], by omega, fun _ => h⟩
   ·exact ⟨1, by simp [h], by omega, by omega⟩
  rw [hrr]
  have hQ : (2 * q + r) * n ≤ m * 2 ^ 55 + n ∧ m * 2 ^ 55 ≤ (2 * q + r) * n + n := by
   have e1 : (2 * q + r) * n = 2 * (n * q) + r * n := by rw [Nat.add_mul, Nat.mul_assoc, Nat.mul_comm q n]
   have e2 : m * 2 ^ 55 = 2 * (m * 2 ^ 54) := by rw [Nat.pow_succ, ← Nat.mul_assoc]; omega
   rw [e1, e2, ← hqr]
   rcases Nat.le_one_iff_eq_zero_or_eq_one.1 hr1 with h | h
   ·have := hr2 h
    rw [h, this, Nat.zero_mul]; omega
   ·rw [h, Nat.one_mul]; omega
  generalize hQQ : 2 * q + r = Q at hQ ⊢
  have hqb : q < 2 ^ 55 := by
   rw [← hq, Nat.div_lt_iff_lt_mul (by omega)]
   calc m * 2 ^ 54 < 2 ^ 53 * 2 ^ 54 := Nat.mul_lt_mul_of_pos_right hm (by decide)
    _ = 2 ^ 55 * 2 ^ 52 := by decide
    _ ≤ 2 ^ 55 * n := Nat.mul_le_mul_left _ c2
  have hQb : Q < 2 ^ 57 := by omega
  have hQl : (Q.log2 : Int) ≤ 57 := by
   by_cases h0 : Q = 0
   ·rw [h0]; decide
   ·have := (Nat.log2_lt h0).2 hQb
    omega
  obtain ⟨m', e', hr', he', n1, n2, _⟩ := near_val s Q (i - j - 54 - 1) (by omega) (fun _ => by omega)
  refine ⟨_, m', e', rfl, hr', ?_⟩
  have N1 : Near 9007199254740992 (uval m' e' * A.natAbs) (uval Q (i - j - 54 - 1) * A.natAbs) := near_mul _ ⟨n1, n2⟩
  have hnn : n * 2 ^ 54 ≤ m * 2 ^ 55 := by
   have : n ≤ m * 2 := by omega
   calc n * 2 ^ 54 ≤ m * 2 * 2 ^ 54 := Nat.mul_le_mul_right _ this
    _ = m * 2 ^ 55 := by rw [Nat.mul_assoc]
  have N2 : Near 18014398509481984 (Q * n) (m * 2 ^ 55) := near_of (by decide) hQ.1 hQ.2 hnn
  have E1 : uval Q (i - j - 54 - 1) * A.natAbs * unitU = Q * n * 2 ^ ((i + 1074).toNat + 1019) := by
   rw [Nat.mul_assoc, ← v2]
   unfold uval
   rw [Nat.mul_mul_mul_comm, ← Nat.pow_add]
   congr 2
   omega
  have E2 : uval m i * unitU = m * 2 ^ 55 * 2 ^ ((i + 1074).toNat + 1019) := by
   have g : (2 : Nat) ^ (i + 1074).toNat * 2 ^ expU = 2 ^ 55 * 2 ^ ((i + 1074).toNat + 1019) := pow_mix (by omega)
   unfold uval unitU
   generalize (2 : Nat) ^ 55 = a at g ⊢
   generalize (2 : Nat) ^ expU = b at g ⊢
   rw [Nat.mul_assoc, g, Nat.mul_assoc]
  have N3 : Near 18014398509481984 (uval Q (i - j - 54 - 1) * A.natAbs) (uval m i) := by
   exact near_cancel unitU unitU_pos (near_congr E1 E2 (near_mul (2 ^ ((i + 1074).toNat + 1019)) N2))
  exact near_comp (d := 2251799813685248) (by decide) N1 (near_weak (d := 9007199254740992) (k := 2) (by decide) N3)
end Go.Proofs.YtmocphafkimdpaaDoor.P


/- Plain laws of doubles: a part is less than 1.001 away from what is its own. -/
namespace Go.Proofs.YtmocphafkimdpaaDoor.P
open Ieee

theorem near_abs {O P T k : Nat} (hk : 0 < k) (h : Near (4096 * k) O P) (hP : P ≤ k * T) : O * 4096 ≤ P * 4096 + T ∧ P * 4096 ≤ O * 4096 + T := by
 obtain ⟨h1, h2⟩ := h
 constructor
 ·have e1 : O * (4096 * k) = O * 4096 * k := (Nat.mul_assoc _ _ _).symm
  have e2 : P * (4096 * k + 1) = P * 4096 * k + P := by rw [Nat.mul_succ, ← Nat.mul_assoc]
  rw [e1, e2] at h1
  have h3 : O * 4096 * k ≤ (P * 4096 + T) * k := by
   rw [Nat.add_mul, Nat.mul_comm T k]
   exact Nat.le_trans h1 (Nat.add_le_add_left hP _)
  exact Nat.le_of_mul_le_mul_right h3 hk
 ·obtain ⟨c, hc⟩ : ∃ c, 4096 * k = c + 1 := ⟨4096 * k - 1, by omega⟩
  have e1 : O * (4096 * k) = O * 4096 * k := (Nat.mul_assoc _ _ _).symm
  have e2 : P * (4096 * k - 1) + P = P * 4096 * k := by rw [Nat.mul_assoc P 4096 k, hc, Nat.add_sub_cancel, Nat.mul_add_one]
  have h3 : P * 4096 * k ≤ (O * 4096 + T) * k := by
   rw [← e2, Nat.add_mul, Nat.mul_comm T k, ← e1]
   exact Nat.add_le_add h2 hP
  exact Nat.le_of_mul_le_mul_right h3 hk

theorem read_and {d : Nat} {s : Bool} {m : Nat} {e : Int} (hd : d < 18446744073709551616) (hr : double.read d = .number s m e) : double.read (d % 9223372036854775808) = .number false m e := by
 obtain ⟨t, r, rfl, h63⟩ := word_of d hd
 have hw : double.signWeight = 9223372036854775808 := rfl
 have e1 : double.word t r % 9223372036854775808 = double.word false r := by
  unfold Format.word
  rw [hw]
  cases t
  ·simpa using Nat.mod_eq_of_lt h63
  ·simp only [if_true]
   simp
   exact h63
 rw [e1]
 rw [read_word _ _ h63] at hr ⊢
 by_cases h1 : r < 4503599627370496
 ·rw [if_pos h1] at hr ⊢
  injection hr with a1 a2 a3
  rw [a2, a3]
 ·rw [if_neg h1] at hr ⊢
  by_cases h2 : r < 9218868437227405312
  ·rw [if_pos h2] at hr ⊢
   injection hr with a1 a2 a3
   rw [a2, a3]
  ·rw [if_neg h2] at hr
   by_cases h3 : r = 9218868437227405312
   ·rw [if_pos h3] at hr; cases hr
   ·rw [if_neg h3] at hr; cases hr

theorem order_le {a b m n : Nat} {i j : Int} (ha : double.read a = .number false m i) (hb : double.read b = .number false n j) (h : uval m i ≤ uval n j) : double.order a b ≠ some .gt := by
 have hi := (read_mag ha).2
 have hj := (read_mag hb).2
 unfold Format.order
 rw [ha, hb]
 simp only [Datum.order]
 rw [signed_eq, signed_eq]
 have e1 : ∀ m : Nat, mval false m = (m : Int) := fun m => by simp [mval]
 rw [e1, e1]
 unfold uval at h
 have k1 : (i + 1074).toNat = (i - min i j).toNat + (min i j + 1074).toNat := by omega
 have k2 : (j + 1074).toNat = (j - min i j).toNat + (min i j + 1074).toNat := by omega
 rw [k1, k2, Nat.pow_add, Nat.pow_add, ← Nat.mul_assoc, ← Nat.mul_assoc] at h
 have h2 := Nat.le_of_mul_le_mul_right h (Nat.two_pow_pos _)
 have h3 : (m : Int) * 2 ^ (i - min i j).toNat ≤ (n : Int) * 2 ^ (j - min i j).toNat := by exact_mod_cast h2
 intro hc
 injection hc with hc
 generalize (m : Int) * 2 ^ (i - min i j).toNat = x at h3 hc
 generalize (n : Int) * 2 ^ (j - min i j).toNat = y at h3 hc
 have hc2 : (if x < y then Ordering.lt else if x = y then Ordering.eq else Ordering.gt) = Ordering.gt := hc
 split at hc2
 ·cases hc2
 ·split at hc2
  ·cases hc2
  ·omega

theorem bound_end {res D V c u m : Nat} (hc : 0 < c) (h1 : res * c ≤ D * (c + 1)) (h2 : D * 4096 ≤ 4097 * (u * V)) (h3 : 4097 * u * (c + 1) ≤ m * (c * 4096)) : res ≤ m * V := by
 have a1 : res * c * 4096 ≤ D * (c + 1) * 4096 := Nat.mul_le_mul_right _ h1
 have a2 : D * (c + 1) * 4096 ≤ 4097 * (u * V) * (c + 1) := by
  rw [Nat.mul_right_comm]
  exact Nat.mul_le_mul_right _ h2
 have a3 : 4097 * (u * V) * (c + 1) ≤ m * (c * 4096) * V := by
  rw [← Nat.mul_assoc, Nat.mul_right_comm]
  exact Nat.mul_le_mul_right _ h3
 have a4 : m * (c * 4096) * V = m * V * (c * 4096) := Nat.mul_right_comm _ _ _
 have a5 : res * c * 4096 = res * (c * 4096) := Nat.mul_assoc _ _ _
 rw [a4] at a3
 rw [a5] at a1
 exact Nat.le_of_mul_le_mul_right (Nat.le_trans a1 (Nat.le_trans a2 a3)) (by omega)

theorem mval_abs (s : Bool) (m : Nat) : (mval s m).natAbs = m := by unfold mval; split <;> simp
theorem mval_not (s : Bool) (m : Nat) : mval (!s) m = -mval s m := by unfold mval; cases s <;> simp

theorem sum_unit {s t : Bool} {m n : Nat} {i j : Int} (hi : -1074 ≤ i) (hj : -1074 ≤ j) :
  (signed s m (i - min i j).toNat + signed (!t) n (j - min i j).toNat) * 2 ^ (min i j + 1074).toNat = mval s m * 2 ^ (i + 1074).toNat - mval t n * 2 ^ (j + 1074).toNat := by
 have k1 : (i + 1074).toNat = (i - min i j).toNat + (min i j + 1074).toNat := by omega
 have k2 : (j + 1074).toNat = (j - min i j).toNat + (min i j + 1074).toNat := by omega
 rw [signed_eq, signed_eq, mval_not, Int.add_mul, k1, k2, Int.pow_add, Int.pow_add, Int.neg_mul, Int.neg_mul, Int.mul_assoc, Int.mul_assoc]
 omega

theorem arith_end {a y z T : Int} (h1 : -T ≤ a - y) (h2 : a - y ≤ T) (h3 : z * 4096 ≤ y * 4096 + T) (h4 : y * 4096 ≤ z * 4096 + T) : (a - z) * 4096 ≤ 4097 * T ∧ -(4097 * T) ≤ (a - z) * 4096 := by omega

theorem near_le {d a b : Nat} (hd : 0 < d) (h : Near d a b) : a ≤ 2 * b := by
 have h1 : b * (d + 1) ≤ 2 * b * d := by
  rw [Nat.mul_comm 2, Nat.mul_assoc]
  exact Nat.mul_le_mul_left _ (by omega)
 exact Nat.le_of_mul_le_mul_right (Nat.le_trans h.1 h1) hd
theorem cast_le {O P T : Nat} (h : O * 4096 ≤ P * 4096 + T) : (O : Int) * 4096 ≤ (P : Int) * 4096 + (T : Int) := by omega
theorem abs_end {Z : Int} {V : Nat} (f3 : Z * 4096 ≤ 4097 * (V : Int)) (f4 : -(4097 * (V : Int)) ≤ Z * 4096) : Z.natAbs * 4096 ≤ 4097 * V := by omega

/-- A part that is at most one away from its own, in doubles. -/
theorem away (x w A p : Int) (hx : x.natAbs ≤ 100000000000) (hw0 : 0 ≤ w) (hw : w ≤ 1048576) (hwA : w ≤ A) (hA : 0 < A) (hA2 : A ≤ 67108864) (hp1 : -A ≤ p * A - x * w) (hp2 : p * A - x * w ≤ A) (hpn : p.natAbs ≤ 100000000001) :
  ∃ bm q d, double.mul (fl x) (fl w) = some bm ∧ double.div bm (fl A) = some q ∧ double.sub (fl p) q = some d ∧ d < 18446744073709551616 ∧ double.order (d % 9223372036854775808) 4607186922399644778 ≠ some .gt := by
 obtain ⟨bm, mm, em, hmul, rm, h52, N1⟩ := mul_near x w hx (by omega) hw0
 obtain ⟨_, em0⟩ := read_mag rm
 have hXW : x.natAbs * w.natAbs ≤ 100000000000 * 1048576 := Nat.mul_le_mul hx (by omega)
 have hup : uval mm em < 2 ^ (126 + expU) := by
  have h2 := near_le (by decide) N1
  have h3 : 2 * (x.natAbs * w.natAbs * unitU) < 2 ^ 126 * unitU := by
   rw [← Nat.mul_assoc]
   exact Nat.mul_lt_mul_of_pos_right (Nat.lt_of_le_of_lt (Nat.mul_le_mul_left 2 hXW) (by decide)) unitU_pos
  have h4 : 2 ^ 126 * unitU = 2 ^ (126 + expU) := by unfold unitU; exact (Nat.pow_add 2 126 expU).symm
  rw [h4] at h3
  exact Nat.lt_of_le_of_lt h2 h3
 obtain ⟨q, mq, eq, hdiv, rq, N2⟩ := div_near rm h52 hup A hA hA2
 obtain ⟨_, eq0⟩ := read_mag rq
 have N3 : Near (4096 * 137438953472) (uval mq eq * A.natAbs) (x.natAbs * w.natAbs * unitU) :=
  near_comp (d := 562949953421312) (by decide) N2 (near_weak (d := 2251799813685248) (k := 4) (by decide) N1)
 have hPT : x.natAbs * w.natAbs * unitU ≤ 137438953472 * (A.natAbs * unitU) := by
  rw [← Nat.mul_assoc]
  exact Nat.mul_le_mul_right _ (Nat.mul_le_mul (by omega) (by omega))
 obtain ⟨B1, B2⟩ := near_abs (by decide) N3 hPT
 obtain ⟨_, sp, mp, ep, rp, ep0, vp⟩ := isInt_fl p (by omega)
 have hsub : double.sub (fl p) q = some (double.nearest (if signed sp mp (ep - min ep eq).toNat + signed (!decide (x < 0)) mq (eq - min ep eq).toNat = 0 then sp && (!decide (x < 0)) else decide (signed sp mp (ep - min ep eq).toNat + signed (!decide (x < 0)) mq (eq - min ep eq).toNat < 0)) (signed sp mp (ep - min ep eq).toNat + signed (!decide (x < 0)) mq (eq - min ep eq).toNat).natAbs (min ep eq)) := by
  unfold Format.sub
  rw [rp, rq]
  rfl
 have hsum := sum_unit (s := sp) (t := decide (x < 0)) (m := mp) (n := mq) ep0 eq0
 have hex := expU_eq
 rw [← expU_eq] at vp
 rw [vp] at hsum
 generalize (if signed sp mp (ep - min ep eq).toNat + signed (!decide (x < 0)) mq (eq - min ep eq).toNat = 0 then sp && (!decide (x < 0)) else decide (signed sp mp (ep - min ep eq).toNat + signed (!decide (x < 0)) mq (eq - min ep eq).toNat < 0)) = sg at hsub
 generalize signed sp mp (ep - min ep eq).toNat + signed (!decide (x < 0)) mq (eq - min ep eq).toNat = tot at hsub hsum
 have hb0 : -1074 ≤ min ep eq := by omega
 generalize min ep eq = base at hsub hsum hb0
 -- the difference, in units
 have hD : uval tot.natAbs base * 4096 ≤ 4097 * unitU := by
  have hU : (2 : Int) ^ expU = (unitU : Int) := by unfold unitU; exact (Int.natCast_pow 2 expU).symm
  have hq2 : mval (decide (x < 0)) mq * 2 ^ (eq + 1074).toNat = if x < 0 then -(uval mq eq : Int) else (uval mq eq : Int) := by
   unfold mval uval
   by_cases c : x < 0
   ·simp only [c, decide_true, if_true, Int.natCast_mul, Int.natCast_pow, Int.neg_mul]; rfl
   ·simp only [c, decide_false, if_false, Int.natCast_mul, Int.natCast_pow]; simp
  rw [hU, hq2] at hsum
  have hU0 : (0 : Int) < (unitU : Int) := by exact_mod_cast unitU_pos
  generalize unitU = UU at *
  -- times A
  have hu : uval tot.natAbs base = (tot * 2 ^ (base + 1074).toNat).natAbs := by
   unfold uval
   rw [Int.natAbs_mul, Int.natAbs_pow]
   rfl
  rw [hu, hsum]
  generalize hS : (if x < 0 then -(uval mq eq : Int) else (uval mq eq : Int)) = S
  have hSA : S * A = if x < 0 then -((uval mq eq * A.natAbs : Nat) : Int) else ((uval mq eq * A.natAbs : Nat) : Int) := by
   rw [← hS]
   have : ((A.natAbs : Nat) : Int) = A := by omega
   split
   ·rw [Int.natCast_mul, this, Int.neg_mul]
   ·rw [Int.natCast_mul, this]
  have hY : x * w * (UU : Int) = if x < 0 then -((x.natAbs * w.natAbs * UU : Nat) : Int) else ((x.natAbs * w.natAbs * UU : Nat) : Int) := by
   have h1 : ((w.natAbs : Nat) : Int) = w := by omega
   split
   ·have h2 : ((x.natAbs : Nat) : Int) = -x := by omega
    rw [Int.natCast_mul, Int.natCast_mul, h1, h2, Int.neg_mul, Int.neg_mul, Int.neg_neg]
   ·have h2 : ((x.natAbs : Nat) : Int) = x := by omega
    rw [Int.natCast_mul, Int.natCast_mul, h1, h2]
  have hT : ((A.natAbs * UU : Nat) : Int) = A * (UU : Int) := by
   have : ((A.natAbs : Nat) : Int) = A := by omega
   rw [Int.natCast_mul, this]
  have B1' : ((uval mq eq * A.natAbs : Nat) : Int) * 4096 ≤ ((x.natAbs * w.natAbs * UU : Nat) : Int) * 4096 + A * (UU : Int) := by rw [← hT]; exact cast_le B1
  have B2' : ((x.natAbs * w.natAbs * UU : Nat) : Int) * 4096 ≤ ((uval mq eq * A.natAbs : Nat) : Int) * 4096 + A * (UU : Int) := by rw [← hT]; exact cast_le B2
  generalize ((uval mq eq * A.natAbs : Nat) : Int) = O at hSA B1' B2'
  generalize ((x.natAbs * w.natAbs * UU : Nat) : Int) = PP at hY B1' B2'
  have g1 : -(A * (UU : Int)) ≤ p * A * (UU : Int) - x * w * (UU : Int) := by
   rw [← Int.sub_mul, ← Int.neg_mul]
   exact Int.mul_le_mul_of_nonneg_right hp1 (Int.le_of_lt hU0)
  have g2 : p * A * (UU : Int) - x * w * (UU : Int) ≤ A * (UU : Int) := by
   rw [← Int.sub_mul]
   exact Int.mul_le_mul_of_nonneg_right hp2 (Int.le_of_lt hU0)
  have g3 : S * A * 4096 ≤ x * w * (UU : Int) * 4096 + A * (UU : Int) ∧ x * w * (UU : Int) * 4096 ≤ S * A * 4096 + A * (UU : Int) := by
   rw [hSA, hY]
   split <;> omega
  obtain ⟨f1, f2⟩ := arith_end g1 g2 g3.1 g3.2
  have e1 : (p * A * (UU : Int) - S * A) * 4096 = (p * (UU : Int) - S) * 4096 * A := by
   rw [Int.mul_right_comm p A, ← Int.sub_mul, Int.mul_right_comm]
  have e2 : 4097 * (A * (UU : Int)) = 4097 * (UU : Int) * A := by rw [Int.mul_comm A, Int.mul_assoc]
  rw [e1, e2] at f1 f2
  have f3 := Int.le_of_mul_le_mul_right f1 hA
  rw [← Int.neg_mul] at f2
  have f4 := Int.le_of_mul_le_mul_right f2 hA
  exact abs_end f3 f4
 have hlog : tot.natAbs ≠ 0 → base + (tot.natAbs.log2 : Int) ≤ 900 := fun h0 => by
   have : uval tot.natAbs base < 2 ^ (16 + expU) := by
    have h1 : uval tot.natAbs base * 4096 < 2 ^ (16 + expU) * 4096 := by
     refine Nat.lt_of_le_of_lt hD ?_
     have : 2 ^ (16 + expU) * 4096 = 2 ^ 28 * unitU := by
      have h12 : (4096 : Nat) = 2 ^ 12 := by decide
      unfold unitU
      rw [h12]
      exact pow_mix (by omega)
     rw [this]
     exact Nat.mul_lt_mul_of_pos_right (by decide) unitU_pos
    exact Nat.lt_of_mul_lt_mul_right h1
   have := place_hi h0 hb0 this
   omega
 obtain ⟨mr, er, rr, er0, n1, n2, _⟩ := near_val sg tot.natAbs base hb0 hlog
 refine ⟨bm, q, _, hmul, hdiv, hsub, ?_, ?_⟩
 ·exact double.nearest_lt _ _ _
 ·refine order_le (read_and (double.nearest_lt _ _ _) rr) (n := 4508103226997866) (j := -52) (by decide) ?_
  have hz : 52 + ((-52 : Int) + 1074).toNat = expU := by omega
  have e1 : uval 4508103226997866 (-52) = 4508103226997866 * 2 ^ ((-52 : Int) + 1074).toNat := rfl
  rw [e1]
  generalize ((-52 : Int) + 1074).toNat = z at hz ⊢
  have e2 : unitU = 2 ^ 52 * 2 ^ z := by unfold unitU; rw [← hz, ← pow_two_add (a := 52) (b := z) rfl]
  rw [e2] at hD
  generalize 2 ^ z = V at hD ⊢
  exact bound_end (c := 9007199254740992) (u := 2 ^ 52) (by decide) n1 hD (by decide)
end Go.Proofs.YtmocphafkimdpaaDoor.P


/- math.Abs, walked; and what the law asks of a part in doubles, as a function of four whole numbers. -/
namespace Go.Proofs.YtmocphafkimdpaaDoor.P
open Go.RowKit Go.Proofs.YtmocphafkimdpaaDoorW.PrintWords Go.Proofs.YtmocphafkimdpaaDoorW.PrintLast Go.Proofs.YtmocphafkimdpaaDoorW.PrintMore
set_option linter.unusedVariables false
set_option linter.unusedSimpArgs false

/-- A double's bits without its sign. -/
def absB (b : Nat) : Nat := b % 9223372036854775808
/-- Does a part stand no further than 1.001 from x * w / a, all in doubles? 'false': it does (the law's test for 'further' says false); 'none': it does not, or a double comes out that is none. -/
def math_Abs.f (x w a p : Int) : Option Bool :=
 (floatBits .mul .f64 (floatOfInt .f64 x) (floatOfInt .f64 w)).bind fun bm => (floatBits .quo .f64 bm (floatOfInt .f64 a)).bind fun q => (floatBits .sub .f64 (floatOfInt .f64 p) q).bind fun d =>
  if d < 18446744073709551616 then (if (FloatKind.f64.format.order (absB d) 4607186922399644778 == some .gt) = true then none else some false) else none
theorem math_Abs_out {x w a p : Int} {t : Bool} (h : math_Abs.f x w a p = some t) : t = false ∧ ∃ bm q d, floatBits .mul .f64 (floatOfInt .f64 x) (floatOfInt .f64 w) = some bm ∧ floatBits .quo .f64 bm (floatOfInt .f64 a) = some q ∧ floatBits .sub .f64 (floatOfInt .f64 p) q = some d ∧ d < 18446744073709551616 ∧ (FloatKind.f64.format.order (absB d) 4607186922399644778 == some .gt) = false := by
 unfold math_Abs.f at h
 obtain ⟨bm, h1, h⟩ := Option.bind_eq_some_iff.1 h
 obtain ⟨q, h2, h⟩ := Option.bind_eq_some_iff.1 h
 obtain ⟨d, h3, h⟩ := Option.bind_eq_some_iff.1 h
 split at h
 ·rename_i h4
  split at h
  ·cases h
  ·rename_i h5
   injection h with h
   exact ⟨h.symm, bm, q, d, h1, h2, h3, h4, Bool.eq_false_iff.2 h5⟩
 ·cases h
theorem math_Abs_ok (x w A p : Int) (hx : x.natAbs ≤ 100000000000) (hw0 : 0 ≤ w) (hw : w ≤ 1048576) (hwA : w ≤ A) (hA : 0 < A) (hA2 : A ≤ 67108864) (hp1 : -A ≤ p * A - x * w) (hp2 : p * A - x * w ≤ A) (hpn : p.natAbs ≤ 100000000001) : math_Abs.f x w A p = some false := by
 obtain ⟨bm, q, d, h1, h2, h3, h4, h5⟩ := away x w A p hx hw0 hw hwA hA hA2 hp1 hp2 hpn
 have e1 : floatBits .mul .f64 (floatOfInt .f64 x) (floatOfInt .f64 w) = some bm := h1
 have e2 : floatBits .quo .f64 bm (floatOfInt .f64 A) = some q := h2
 have e3 : floatBits .sub .f64 (floatOfInt .f64 p) q = some d := h3
 have e5 : ¬(FloatKind.f64.format.order (absB d) 4607186922399644778 == some .gt) = true := fun h => h5 (beq_iff_eq.1 h)
 unfold math_Abs.f
 rw [e1, Option.bind_some, e2, Option.bind_some, e3, Option.bind_some, if_pos h4, if_neg e5]

theorem call98 (b : Nat) (w : World) : (callFunc 98 #[.float .f64 b]).run Tryd.prog w = .ok (.value (.int .u64 (b : Int))) w := by
 rw [run_callFunc_extern Tryd.func98 (by kernel_rfl) (by kernel_rfl) (by kernel_rfl) (e := Extern.MathFloatBits.float64bits) (by kernel_rfl)]
 rfl
theorem call97 (b : Nat) (w : World) : (callFunc 97 #[.int .u64 (b : Int)]).run Tryd.prog w = .ok (.value (.float .f64 b)) w := by
 rw [run_callFunc_extern Tryd.func97 (by kernel_rfl) (by kernel_rfl) (by kernel_rfl) (e := Extern.MathFloatBits.float64frombits) (by kernel_rfl)]
 rfl
theorem and63 (b : Nat) : b &&& 9223372036854775807 = b % 9223372036854775808 := by
 have h1 : (9223372036854775807 : Nat) = 2 ^ 63 - 1 := by decide
 have h2 : (9223372036854775808 : Nat) = 2 ^ 63 := by decide
 rw [h1, h2, Nat.and_two_pow_sub_one_eq_mod]
theorem and_mask (b : Nat) (h : b < 18446744073709551616) : bits .andNot .u64 (b : Int) 9223372036854775808 = ((b % 9223372036854775808 : Nat) : Int) := by
 rw [u64_andNot (b : Int) 9223372036854775808 (by omega) (by omega) (by decide) (by decide), Int.toNat_natCast]
 have h2 : 18446744073709551615 - Int.toNat 9223372036854775808 = 9223372036854775807 := by decide
 have h3 : b &&& (18446744073709551615 - Int.toNat 9223372036854775808) = b % 9223372036854775808 := (congrArg (fun z => b &&& z) h2).trans (and63 b)
 exact congrArg (fun z : Nat => (z : Int)) h3

/-- math.Abs: the sign's bit away. -/
theorem abs_calls (b : Nat) (w : World) (hb : b < 18446744073709551616) :
  Calls Tryd.prog 62 #[.float .f64 b] w fun e w' => e = .returned (.float .f64 (absB b)) ∧ w' = w := by
 have hm : bits .andNot .u64 (b : Int) 9223372036854775808 = (absB b : Int) := and_mask b hb
 clear hb
 generalize absB b = c at hm ⊢
 have c98 := call98 b
 have c97 := call97 c
 go_enter Tryd.func62, Tryd.ntmps62
 go_wp2_with (simp only [c98, c97, hm])
 all_goals (go_ret; exact ⟨rfl, rfl⟩)
/-- The law's whole numbers made doubles. -/
theorem conv_run (n : Int) (w : World) : (convert 2 106 (.int .i64 n)).run Tryd.prog w = .ok (.float .f64 (floatOfInt .f64 n)) w :=
 run_convert_int_float w 2 106 .i64 .f64 n (by rw [Tryd.underlying2]; rfl) Tryd.underlying106
end Go.Proofs.YtmocphafkimdpaaDoor.P
