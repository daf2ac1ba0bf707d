/- A part of the proof of the cards of Money..: each of these statements answers true for every input (the conditions: those of the given statements alone). Merged by a program (wip/merge.py) out of: GSort, GSwap, GRot, GSym. -/
import Derived.Test.YtmocphafkimdpaaDoorBMoneya
import Derived.Shelf.SlSortCmp.Insertion
import Derived.Sort.Lot0
import Derived.Lib.Hide

/- The stable order of give's places: what insertion and merging make of it, in plain words. -/
namespace Go.Proofs.YtmocphafkimdpaaDoor.P
open Go.Sort
set_option linter.unusedVariables false
set_option linter.unusedSimpArgs false

/-- x stands ahead of y: more was left out at it, or as much and it comes first. -/
def ahd (r : Nat → Int) (x y : Nat) : Prop := r x > r y ∨ r x = r y ∧ x < y
def cmpF (r : Nat → Int) (x y : Nat) : Int := if r x > r y then -1 else if r x < r y then 1 else 0
theorem ahd_trans {r : Nat → Int} {x y z : Nat} (h1 : ahd r x y) (h2 : ahd r y z) : ahd r x z := by
  unfold ahd at *; omega
theorem ahd_asymm {r : Nat → Int} {x y : Nat} (h1 : ahd r x y) : ¬ahd r y x := by
  unfold ahd at *; omega
theorem ahd_irrefl {r : Nat → Int} {x : Nat} : ¬ahd r x x := by
  unfold ahd; omega
theorem ahd_total {r : Nat → Int} {x y : Nat} (h : x ≠ y) : ahd r x y ∨ ahd r y x := by
  unfold ahd; omega
theorem cmp_lt {r : Nat → Int} {x y : Nat} (h : y < x) : cmpF r x y < 0 ↔ ahd r x y := by
  unfold cmpF ahd
  split
  · constructor <;> intro _ <;> omega
  · split
    · constructor <;> intro _ <;> omega
    · constructor <;> intro _ <;> omega
theorem cmp_ge {r : Nat → Int} {x y : Nat} (h : y < x) : ¬cmpF r x y < 0 ↔ ahd r y x := by
  rw [cmp_lt h]
  constructor
  · intro h1
    rcases ahd_total (r := r) (show x ≠ y by omega) with h2 | h2
    · exact absurd h2 h1
    · exact h2
  · exact ahd_asymm

/-- In order from a up to b. -/
def Srt (r : Nat → Int) (a b : Nat) (d : Array Nat) : Prop := ∀ i j, a ≤ i → i < j → j < b → ahd r d[i]! d[j]!

theorem ins_inner (r : Nat → Int) (a i : Nat) : ∀ (j : Nat) (d : Array Nat), a ≤ j → j ≤ i → i < d.size →
    (∀ p q, a ≤ p → p < q → q ≤ i → p ≠ j → q ≠ j → ahd r d[p]! d[q]!) → (∀ q, j < q → q ≤ i → ahd r d[j]! d[q]!) → (∀ p, a ≤ p → p < j → d[p]! < d[j]!) →
    Srt r a (i + 1) (insInner (ltOf (cmpF r)) a j d) ∧ PermIn a (i + 1) d (insInner (ltOf (cmpF r)) a j d) := by
  intro j
  induction j with
  | zero =>
    intro d ha hj hi h1 h2 h3
    rw [insInner_stop _ _ _ _ (.inl (Nat.zero_le _))]
    refine ⟨fun p q hp hpq hq => ?_, permIn_refl _ _ _⟩
    by_cases c : p = 0
    · subst c
      exact h2 q hpq (by omega)
    · exact h1 p q hp hpq (by omega) c (by omega)
  | succ j ih =>
    intro d ha hj hi h1 h2 h3
    by_cases c : a < j + 1 ∧ ltOf (cmpF r) d[j + 1]! d[j]! = true
    · obtain ⟨c1, c2⟩ := c
      rw [insInner_go _ a (j + 1) d c1 c2]
      simp only [Nat.add_sub_cancel]
      have e1 : (swp d (j + 1) j)[j]! = d[j + 1]! := swp_right d (j + 1) j (by omega)
      have e2 : (swp d (j + 1) j)[j + 1]! = d[j]! := swp_left d (j + 1) j (by omega) (by omega)
      have e3 : ∀ k, k ≠ j + 1 → k ≠ j → (swp d (j + 1) j)[k]! = d[k]! := fun k hk hk' => swp_other d _ _ k hk hk'
      have hlt : ahd r d[j + 1]! d[j]! := (cmp_lt (h3 j (by omega) (by omega))).1 (of_decide_eq_true c2)
      obtain ⟨s, p⟩ := ih (swp d (j + 1) j) (by omega) (by omega) (by rw [size_swp]; exact hi) (fun p q hp hpq hq n1 n2 => by
          by_cases d1 : p = j + 1
          · subst d1
            rw [e2, e3 q (by omega) (by omega)]
            exact h1 j q (by omega) (by omega) hq (by omega) (by omega)
          · rw [e3 p d1 n1]
            by_cases d2 : q = j + 1
            · subst d2
              rw [e2]
              exact h1 p j hp (by omega) (by omega) d1 (by omega)
            · rw [e3 q d2 n2]
              exact h1 p q hp hpq hq d1 d2) (fun q hq hqi => by
          rw [e1]
          by_cases d2 : q = j + 1
          · subst d2
            rw [e2]
            exact hlt
          · rw [e3 q d2 (by omega)]
            exact h2 q (by omega) hqi) (fun p hp hpj => by
          rw [e1, e3 p (by omega) (by omega)]
          exact h3 p hp (by omega))
      exact ⟨s, permIn_trans _ _ _ _ _ (swp_permIn d a (i + 1) (j + 1) j (by omega) (by omega) (by omega) (by omega) (by omega)) p⟩
    · have hs : j + 1 ≤ a ∨ ltOf (cmpF r) d[j + 1]! d[j]! = false := by
        by_cases c1 : j + 1 ≤ a
        · exact .inl c1
        · exact .inr (Bool.eq_false_iff.2 fun h => c ⟨by omega, h⟩)
      rw [insInner_stop _ _ _ _ (by simpa using hs)]
      refine ⟨fun p q hp hpq hq => ?_, permIn_refl _ _ _⟩
      by_cases d1 : p = j + 1
      · subst d1
        exact h2 q hpq (by omega)
      · by_cases d2 : q = j + 1
        · subst d2
          have hn : ¬ltOf (cmpF r) d[j + 1]! d[j]! = true := fun h => c ⟨by omega, h⟩
          have hge : ahd r d[j]! d[j + 1]! := (cmp_ge (h3 j (by omega) (by omega))).1 (fun h => hn (decide_eq_true h))
          by_cases d3 : p = j
          · subst d3; exact hge
          · exact ahd_trans (h1 p j hp (by omega) (by omega) d1 (by omega)) hge
        · exact h1 p q hp hpq (by omega) d1 d2

theorem ins_outer (r : Nat → Int) (a b : Nat) : ∀ (n i : Nat) (d : Array Nat), i + n = b → a ≤ i → b ≤ d.size → Srt r a i d → (∀ p q, a ≤ p → p < q → i ≤ q → q < b → d[p]! < d[q]!) →
    Srt r a b (insOuter (ltOf (cmpF r)) a b i d) ∧ PermIn a b d (insOuter (ltOf (cmpF r)) a b i d) := by
  intro n
  induction n with
  | zero =>
    intro i d hn ha hb hs hi
    rw [insOuter_stop _ _ _ _ _ (by omega)]
    obtain rfl : i = b := by omega
    exact ⟨hs, permIn_refl _ _ _⟩
  | succ n ih =>
    intro i d hn ha hb hs hi
    rw [insOuter_go _ _ _ _ _ (by omega)]
    obtain ⟨s, p⟩ := ins_inner r a i i d ha (Nat.le_refl _) (by omega) (fun p q hp hpq hq _ n2 => hs p q hp hpq (by omega)) (fun q h1 h2 => by omega) (fun p hp hpi => hi p i hp hpi (Nat.le_refl _) (by omega))
    have hsz : (insInner (ltOf (cmpF r)) a i d).size = d.size := p.1
    obtain ⟨s2, p2⟩ := ih (i + 1) (insInner (ltOf (cmpF r)) a i d) (by omega) (by omega) (by omega) s (fun p' q hp hpq hq hqb => by
      have e : (insInner (ltOf (cmpF r)) a i d)[q]! = d[q]! := p.2.1 q (.inr (by omega))
      rw [e]
      by_cases c : p' < i + 1
      · exact permIn_all _ _ a (i + 1) (fun x => x < d[q]!) (by omega) p (fun k hk hk' => hi k q hk (by omega) (by omega) hqb) p' hp c
      · rw [p.2.1 p' (.inr (by omega))]
        exact hi p' q hp hpq (by omega) hqb)
    refine ⟨s2, permIn_trans _ _ _ _ _ (permIn_mono _ _ a (i + 1) a b (Nat.le_refl _) (by omega) (by omega) p) p2⟩

/-- A block of rising places, put in order by insertion. -/
theorem ins_block (r : Nat → Int) (a b : Nat) (d : Array Nat) (hab : a ≤ b) (hb : b ≤ d.size) (hi : ∀ p q, a ≤ p → p < q → q < b → d[p]! < d[q]!) :
    Srt r a b (insertionSort (ltOf (cmpF r)) d a b) ∧ PermIn a b d (insertionSort (ltOf (cmpF r)) d a b) := by
  unfold insertionSort
  by_cases c : a < b
  · exact ins_outer r a b (b - (a + 1)) (a + 1) d (by omega) (by omega) hb (fun p q hp hpq hq => by omega) (fun p q hp hpq _ hq => hi p q hp hpq hq)
  · rw [insOuter_stop _ _ _ _ _ (by omega)]
    exact ⟨fun p q hp hpq hq => by omega, permIn_refl _ _ _⟩

/-! where a place comes to stand -/
/-- How many stand ahead of x. -/
def rankOf (r : Nat → Int) (n x : Nat) : Nat := (List.range n).countP (fun y => decide (r y > r x) || (decide (r y = r x) && decide (y < x)))
theorem rank_ahd (r : Nat → Int) (n x : Nat) : rankOf r n x = (List.range n).countP (fun y => (decide (r y > r x) || (decide (r y = r x) && decide (y < x)))) := rfl

theorem count_map_range (p : Nat → Bool) (n : Nat) (f : Nat → Nat) (i : Nat) (hi : i ≤ n) (h1 : ∀ k, k < i → p (f k) = true) (h2 : ∀ k, i ≤ k → k < n → p (f k) = false) : ((List.range n).map f).countP p = i := by
  rw [List.countP_map]
  induction n generalizing i with
  | zero => simp; omega
  | succ n ih =>
    rw [List.range_succ, List.countP_append]
    by_cases c : i ≤ n
    · rw [ih i c h1 (fun k hk hk' => h2 k hk (by omega))]
      simp [h2 n c (by omega)]
    · obtain rfl : i = n + 1 := by omega
      rw [ih n (Nat.le_refl _) (fun k hk => h1 k (by omega)) (fun k hk hk' => by omega)]
      simp [h1 n (by omega)]

theorem range_arr (n : Nat) (d : Array Nat) (hd : d.size = n) : (d.extract 0 n).toList = (List.range n).map fun k => d[k]! := by
  rw [extract_toList d 0 n (by omega), Nat.sub_zero, List.range_eq_range']

/-- In the order's row each place stands where its rank says. -/
theorem rank_at (r : Nat → Int) (n : Nat) (d : Array Nat) (hd : d.size = n) (hs : Srt r 0 n d) (hp : ((List.range n).map fun k => d[k]!).Perm (List.range n)) (i : Nat) (hi : i < n) : rankOf r n d[i]! = i := by
  unfold rankOf
  rw [← hp.countP_eq]
  refine count_map_range _ n (fun k => d[k]!) i (by omega) (fun k hk => ?_) (fun k hk hk' => ?_)
  · have := hs k i (by omega) hk hi
    unfold ahd at this
    rcases this with h | ⟨h, h'⟩
    · simp [h]
    · simp [h, h']
  · have : ¬ahd r d[k]! d[i]! := by
      rcases Nat.eq_or_lt_of_le hk with e | e
      · subst e; exact ahd_irrefl
      · exact ahd_asymm (hs i k (by omega) e hk')
    unfold ahd at this
    simp only [not_or, not_and] at this
    simp only [Bool.or_eq_false_iff, Bool.and_eq_false_iff, decide_eq_false_iff_not]
    refine ⟨this.1, ?_⟩
    by_cases c : r d[k]! = r d[i]!
    · exact .inr (this.2 c)
    · exact .inl c

theorem rank_congr {r r' : Nat → Int} {n x : Nat} (h : ∀ k, k < n → r k = r' k) (hx : x < n) : rankOf r n x = rankOf r' n x := by
  unfold rankOf
  refine List.countP_congr fun y hy => ?_
  rw [h y (List.mem_range.1 hy), h x hx]

/-! merging, in place -/
/-- Two stretches that don't meet, n long, put for one another. -/
def SwR (a b n : Nat) (d d' : Array Nat) : Prop := d'.size = d.size ∧ (∀ k, a ≤ k → k < a + n → d'[k]! = d[k - a + b]!) ∧ (∀ k, b ≤ k → k < b + n → d'[k]! = d[k - b + a]!) ∧ (∀ k, ¬(a ≤ k ∧ k < a + n) → ¬(b ≤ k ∧ k < b + n) → d'[k]! = d[k]!)
theorem SwR.zero (a b : Nat) (d : Array Nat) : SwR a b 0 d d := ⟨rfl, fun k h1 h2 => by omega, fun k h1 h2 => by omega, fun _ _ _ => rfl⟩
theorem SwR.step {a b n : Nat} {d d' : Array Nat} (h : SwR a b n d d') (hab : a + n < b) (hb : b + n < d.size) : SwR a b (n + 1) d (swp d' (a + n) (b + n)) := by
  obtain ⟨h0, h1, h2, h3⟩ := h
  have e1 : (swp d' (a + n) (b + n))[a + n]! = d'[b + n]! := swp_left d' _ _ (by omega) (by omega)
  have e2 : (swp d' (a + n) (b + n))[b + n]! = d'[a + n]! := swp_right d' _ _ (by omega)
  have e3 : ∀ k, k ≠ a + n → k ≠ b + n → (swp d' (a + n) (b + n))[k]! = d'[k]! := fun k hk hk' => swp_other d' _ _ k hk hk'
  refine ⟨by rw [size_swp, h0], fun k hk hk' => ?_, fun k hk hk' => ?_, fun k hk hk' => ?_⟩
  · by_cases c : k = a + n
    · subst c
      rw [e1, h3 (b + n) (by omega) (by omega)]
      congr 1; omega
    · rw [e3 k c (by omega), h1 k hk (by omega)]
  · by_cases c : k = b + n
    · subst c
      rw [e2, h3 (a + n) (by omega) (by omega)]
      congr 1; omega
    · rw [e3 k (by omega) c, h2 k hk (by omega)]
  · rw [e3 k (by omega) (by omega), h3 k (by omega) (by omega)]

/-- Two stretches side by side, the one put ahead of the other. -/
def Rot (a m b : Nat) (d d' : Array Nat) : Prop := d'.size = d.size ∧ (∀ k, k < a ∨ b ≤ k → d'[k]! = d[k]!) ∧ (∀ k, a ≤ k → k < a + (b - m) → d'[k]! = d[k + (m - a)]!) ∧ (∀ k, a + (b - m) ≤ k → k < b → d'[k]! = d[k - (b - m)]!)
theorem Rot.even {m i : Nat} {d d' : Array Nat} (hi : i ≤ m) (h : SwR (m - i) m i d d') : Rot (m - i) m (m + i) d d' := by
  obtain ⟨h0, h1, h2, h3⟩ := h
  refine ⟨h0, fun k hk => h3 k (by omega) (by omega), fun k hk hk' => ?_, fun k hk hk' => ?_⟩
  · rw [h1 k hk (by omega)]; congr 1; omega
  · rw [h2 k (by omega) hk']; congr 1; omega
theorem Rot.left {m i j : Nat} {d d1 d' : Array Nat} (hi : i ≤ m) (hij : j < i) (h : SwR (m - i) m j d d1) (hr : Rot (m - (i - j)) m (m + j) d1 d') : Rot (m - i) m (m + j) d d' := by
  obtain ⟨h0, h1, h2, h3⟩ := h
  obtain ⟨r0, r1, r2, r3⟩ := hr
  refine ⟨r0.trans h0, fun k hk => ?_, fun k hk hk' => ?_, fun k hk hk' => ?_⟩
  · rw [r1 k (by omega), h3 k (by omega) (by omega)]
  · rw [r1 k (by omega), h1 k hk (by omega)]; congr 1; omega
  · by_cases c : k < m - (i - j) + (m + j - m)
    · rw [r2 k (by omega) c, h2 _ (by omega) (by omega)]; congr 1; omega
    · rw [r3 k (by omega) hk', h3 _ (by omega) (by omega)]
theorem Rot.right {m i j : Nat} {d d1 d' : Array Nat} (hi : i ≤ m) (hij : i < j) (h : SwR (m - i) (m + j - i) i d d1) (hr : Rot (m - i) m (m + (j - i)) d1 d') : Rot (m - i) m (m + j) d d' := by
  obtain ⟨h0, h1, h2, h3⟩ := h
  obtain ⟨r0, r1, r2, r3⟩ := hr
  refine ⟨r0.trans h0, fun k hk => ?_, fun k hk hk' => ?_, fun k hk hk' => ?_⟩
  · rw [r1 k (by omega), h3 k (by omega) (by omega)]
  · by_cases c : k < m - i + (m + (j - i) - m)
    · rw [r2 k hk c, h3 _ (by omega) (by omega)]
    · rw [r3 k (by omega) (by omega), h1 _ (by omega) (by omega)]; congr 1; omega
  · rw [r1 k (by omega), h2 k (by omega) (by omega)]; congr 1; omega
theorem Rot.none {a m b : Nat} {d : Array Nat} (h : a = m ∨ m = b) (hab : a ≤ m) (hb : m ≤ b) : Rot a m b d d := by
  refine ⟨rfl, fun _ _ => rfl, fun k hk hk' => ?_, fun k hk hk' => ?_⟩
  · congr 1; omega
  · congr 1; omega

/-- What merging asks. -/
def Two (r : Nat → Int) (a m b : Nat) (d : Array Nat) : Prop := Srt r a m d ∧ Srt r m b d ∧ ∀ i j, a ≤ i → i < m → m ≤ j → j < b → d[i]! < d[j]!

theorem srt_le {r : Nat → Int} {a b : Nat} {d : Array Nat} (h : Srt r a b d) {i j : Nat} (hi : a ≤ i) (hij : i ≤ j) (hj : j < b) {z : Nat} (hz : ahd r d[j]! z) : ahd r d[i]! z := by
  rcases Nat.eq_or_lt_of_le hij with e | e
  · subst e; exact hz
  · exact ahd_trans (h i j hi e hj) hz
theorem le_srt {r : Nat → Int} {a b : Nat} {d : Array Nat} (h : Srt r a b d) {i j : Nat} (hi : a ≤ i) (hij : i ≤ j) (hj : j < b) {z : Nat} (hz : ahd r z d[i]!) : ahd r z d[j]! := by
  rcases Nat.eq_or_lt_of_le hij with e | e
  · subst e; exact hz
  · exact ahd_trans hz (h i j hi e hj)

/-- The four stretches, behind the turn. s: where the left one is cut; e: where the right one is; mid = s + (e - m). -/
theorem sym_split {r : Nat → Int} {a m b s e mid : Nat} {d d1 : Array Nat} (h : Two r a m b d) (h1 : a ≤ s) (h2 : s ≤ m) (h3 : m ≤ e) (h4 : e ≤ b) (hmid : mid = s + (e - m))
    (c1 : a < s → e < b → ahd r d[s - 1]! d[e]!) (c2 : m < e → s < m → ahd r d[e - 1]! d[s]!) (hr : Rot s m e d d1) :
    Two r a s mid d1 ∧ Two r mid e b d1 ∧ ∀ i j, a ≤ i → i < mid → mid ≤ j → j < b → ahd r d1[i]! d1[j]! := by
  obtain ⟨g1, g2, g3⟩ := h
  obtain ⟨r0, r1, r2, r3⟩ := hr
  have e1 : ∀ k, k < s → d1[k]! = d[k]! := fun k hk => r1 k (.inl hk)
  have e2 : ∀ k, s ≤ k → k < mid → d1[k]! = d[k + (m - s)]! := fun k hk hk' => r2 k hk (by omega)
  have e3 : ∀ k, mid ≤ k → k < e → d1[k]! = d[k - (e - m)]! := fun k hk hk' => r3 k (by omega) hk'
  have e4 : ∀ k, e ≤ k → d1[k]! = d[k]! := fun k hk => r1 k (.inr hk)
  refine ⟨⟨fun i j hi hij hj => ?_, fun i j hi hij hj => ?_, fun i j hi hij hj hjb => ?_⟩, ⟨fun i j hi hij hj => ?_, fun i j hi hij hj => ?_, fun i j hi hij hj hjb => ?_⟩, fun i j hi hij hj hjb => ?_⟩
  · rw [e1 i (by omega), e1 j hj]; exact g1 i j hi hij (by omega)
  · rw [e2 i hi (by omega), e2 j (by omega) hj]; exact g2 _ _ (by omega) (by omega) (by omega)
  · rw [e1 i hij, e2 j hj hjb]; exact g3 _ _ hi (by omega) (by omega) (by omega)
  · rw [e3 i hi (by omega), e3 j (by omega) hj]; exact g1 _ _ (by omega) (by omega) (by omega)
  · rw [e4 i hi, e4 j (by omega)]; exact g2 _ _ (by omega) hij hj
  · rw [e3 i hi hij, e4 j hj]; exact g3 _ _ (by omega) (by omega) (by omega) hjb
  · by_cases p1 : i < s
    · rw [e1 i p1]
      by_cases p2 : j < e
      · rw [e3 j hj p2]; exact g1 _ _ hi (by omega) (by omega)
      · rw [e4 j (by omega)]
        exact srt_le g1 hi (show i ≤ s - 1 by omega) (by omega) (le_srt g2 h3 (show e ≤ j by omega) hjb (c1 (by omega) (by omega)))
    · rw [e2 i (by omega) hij]
      by_cases p2 : j < e
      · rw [e3 j hj p2]
        exact srt_le g2 (show m ≤ i + (m - s) by omega) (show i + (m - s) ≤ e - 1 by omega) (by omega) (le_srt g1 h1 (show s ≤ j - (e - m) by omega) (by omega) (c2 (by omega) (by omega)))
      · rw [e4 j (by omega)]; exact g2 _ _ (by omega) (by omega) hjb

/-- Both halves put in order. -/
theorem sym_join {r : Nat → Int} {a mid b : Nat} {d1 d2 d3 : Array Nat} (hb : b ≤ d1.size) (ha : a ≤ mid) (hm : mid ≤ b) (hx : ∀ i j, a ≤ i → i < mid → mid ≤ j → j < b → ahd r d1[i]! d1[j]!)
    (s2 : Srt r a mid d2) (p2 : PermIn a mid d1 d2) (s3 : Srt r mid b d3) (p3 : PermIn mid b d2 d3) : Srt r a b d3 ∧ PermIn a b d1 d3 := by
  have z2 : d2.size = d1.size := p2.1
  refine ⟨fun i j hi hij hj => ?_, permIn_trans _ _ _ _ _ (permIn_mono _ _ _ _ _ _ (Nat.le_refl _) hm hb p2) (permIn_mono _ _ _ _ _ _ ha (Nat.le_refl _) (by omega) p3)⟩
  by_cases c : j < mid
  · rw [p3.2.1 i (.inl (by omega)), p3.2.1 j (.inl c)]
    exact s2 i j hi hij c
  · by_cases c2 : mid ≤ i
    · exact s3 i j c2 hij hj
    · rw [p3.2.1 i (.inl (by omega))]
      have hq : ∀ k, mid ≤ k → k < b → ahd r d2[i]! d2[k]! := fun k hk hk' => by
        rw [p2.2.1 k (.inr hk)]
        exact permIn_all _ _ a mid (fun x => ahd r x d1[k]!) (by omega) p2 (fun q hq hq' => hx q k hq hq' hk hk') i hi (by omega)
      exact permIn_all _ _ mid b (fun x => ahd r d2[i]! x) (by omega) p3 hq j (by omega) hj

/-- One element, put into the stretch behind it. -/
def Fwd (a k : Nat) (d d' : Array Nat) : Prop := (∀ p, a ≤ p → p < k → d'[p]! = d[p + 1]!) ∧ d'[k]! = d[a]! ∧ (∀ p, k < p → d'[p]! = d[p]!)
theorem Fwd.zero (a : Nat) (d : Array Nat) : Fwd a a d d := ⟨fun p h1 h2 => by omega, rfl, fun _ _ => rfl⟩
theorem Fwd.step {a k : Nat} {d d' : Array Nat} (h : Fwd a k d d') (hs : k + 1 < d'.size) : Fwd a (k + 1) d (swp d' k (k + 1)) := by
  obtain ⟨h1, h2, h3⟩ := h
  have e1 : (swp d' k (k + 1))[k]! = d'[k + 1]! := swp_left d' _ _ (by omega) (by omega)
  have e2 : (swp d' k (k + 1))[k + 1]! = d'[k]! := swp_right d' _ _ hs
  have e3 : ∀ q, q ≠ k → q ≠ k + 1 → (swp d' k (k + 1))[q]! = d'[q]! := fun q hq hq' => swp_other d' _ _ q hq hq'
  refine ⟨fun p hp hp' => ?_, by rw [e2, h2], fun p hp => by rw [e3 p (by omega) (by omega), h3 p (by omega)]⟩
  by_cases c : p = k
  · subst c; rw [e1, h3 _ (by omega)]
  · rw [e3 p c (by omega), h1 p hp (by omega)]
theorem Fwd.srt {r : Nat → Int} {a b i : Nat} {d d' : Array Nat} (h : Fwd a (i - 1) d d') (h2 : Two r a (a + 1) b d) (hi : a + 1 ≤ i) (hib : i ≤ b) (c1 : ∀ k, a + 1 ≤ k → k < i → ahd r d[k]! d[a]!) (c2 : ∀ k, i ≤ k → k < b → ahd r d[a]! d[k]!) : Srt r a b d' := by
  obtain ⟨f1, f2, f3⟩ := h
  obtain ⟨g1, g2, g3⟩ := h2
  intro p q hp hpq hq
  by_cases a1 : p < i - 1
  · rw [f1 p hp a1]
    by_cases a2 : q < i - 1
    · rw [f1 q (by omega) a2]; exact g2 _ _ (by omega) (by omega) (by omega)
    · by_cases a3 : q = i - 1
      · rw [a3, f2]; exact c1 _ (by omega) (by omega)
      · rw [f3 q (by omega)]; exact g2 _ _ (by omega) (by omega) hq
  · by_cases a3 : p = i - 1
    · rw [a3, f2, f3 q (by omega)]; exact c2 _ (by omega) hq
    · rw [f3 p (by omega), f3 q (by omega)]; exact g2 _ _ (by omega) hpq hq

/-- One element, put into the stretch ahead of it. -/
def Bwd (m k : Nat) (d d' : Array Nat) : Prop := (∀ p, k < p → p ≤ m → d'[p]! = d[p - 1]!) ∧ d'[k]! = d[m]! ∧ (∀ p, p < k → d'[p]! = d[p]!)
theorem Bwd.zero (m : Nat) (d : Array Nat) : Bwd m m d d := ⟨fun p h1 h2 => by omega, rfl, fun _ _ => rfl⟩
theorem Bwd.step {m k : Nat} {d d' : Array Nat} (h : Bwd m (k + 1) d d') (hs : k + 1 < d'.size) : Bwd m k d (swp d' (k + 1) k) := by
  obtain ⟨h1, h2, h3⟩ := h
  have e1 : (swp d' (k + 1) k)[k]! = d'[k + 1]! := swp_right d' _ _ (by omega)
  have e2 : (swp d' (k + 1) k)[k + 1]! = d'[k]! := swp_left d' _ _ hs (by omega)
  have e3 : ∀ q, q ≠ k + 1 → q ≠ k → (swp d' (k + 1) k)[q]! = d'[q]! := fun q hq hq' => swp_other d' _ _ q hq hq'
  refine ⟨fun p hp hp' => ?_, by rw [e1, h2], fun p hp => by rw [e3 p (by omega) (by omega), h3 p (by omega)]⟩
  by_cases c : p = k + 1
  · subst c; rw [e2, h3 _ (by omega)]; congr 1
  · rw [e3 p c (by omega), h1 p (by omega) hp']
theorem Bwd.srt {r : Nat → Int} {a m i : Nat} {d d' : Array Nat} (h : Bwd m i d d') (h2 : Two r a m (m + 1) d) (hi : a ≤ i) (him : i ≤ m) (c1 : ∀ k, a ≤ k → k < i → ahd r d[k]! d[m]!) (c2 : ∀ k, i ≤ k → k < m → ahd r d[m]! d[k]!) : Srt r a (m + 1) d' := by
  obtain ⟨f1, f2, f3⟩ := h
  obtain ⟨g1, g2, g3⟩ := h2
  intro p q hp hpq hq
  by_cases a1 : p < i
  · rw [f3 p a1]
    by_cases a2 : q < i
    · rw [f3 q a2]; exact g1 _ _ hp hpq (by omega)
    · by_cases a3 : q = i
      · rw [a3, f2]; exact c1 _ hp a1
      · rw [f1 q (by omega) (by omega)]; exact g1 _ _ hp (by omega) (by omega)
  · by_cases a3 : p = i
    · rw [a3, f2, f1 q (by omega) (by omega)]; exact c2 _ (by omega) (by omega)
    · rw [f1 p (by omega) (by omega), f1 q (by omega) (by omega)]; exact g1 _ _ (by omega) (by omega) (by omega)

end Go.Proofs.YtmocphafkimdpaaDoor.P


/- Stretches of a row, put for one another: slices.swapRangeCmpFunc and rotateCmpFunc. -/
namespace Go.Proofs.YtmocphafkimdpaaDoor.P
open Go.Shelf Go.RowKit Go.Lib Go.Sort

set_option maxHeartbeats 4000000 in
set_option maxRecDepth 1000000 in
theorem swap_range (enc : Nat → Value) (hO : OneCell enc) (g : Nat) (cb : Array Value) (blk off cap a b n : Nat) (d : Array Nat) (w : World) (hH : Holds enc w blk off d) (hab : a + n ≤ b) (hb : b + n ≤ d.size) (hsz : d.size < 4611686018427387904) :
    Calls Tryd.prog 133 #[.slice (some ⟨blk, off, none⟩) d.size cap, .int .i64 a, .int .i64 b, .int .i64 n, .func (.func g) #[] cb] w fun e w' =>
      e = .returned (.tuple #[]) ∧ ∃ q d', w' = (putRow enc w blk off d').drewN q ∧ SwR a b n d d' ∧ ∀ lo hi, lo ≤ a → b + n ≤ hi → hi ≤ d.size → PermIn lo hi d d' := by
  have mixed : Tryd.prog.follows .mixedOrders = true := by kernel_rfl
  have hcl0 := hO.cells
  simp only [Value.cells] at hcl0
  have hst := hO.store Tryd.prog
  have HST : Hid (w = (putRow enc w blk off d).drewN 0) := (putRow_self enc w blk off d hH).symm
  have HH : Hid (Holds enc w blk off d) := hH
  clear hH
  go_enter Tryd.func133, Tryd.ntmps133
  go_wp2
  go_loopg [10] n (fun g1 vi wr => ∃ (i q : Nat) (dk : Array Nat), vi = .int .i64 i ∧ i ≤ n ∧ n - i ≤ g1 ∧ dk.size = d.size ∧ wr = (putRow enc w blk off dk).drewN q ∧ Hid (SwR a b i d dk ∧ ∀ lo hi, lo ≤ a → b + n ≤ hi → hi ≤ d.size → PermIn lo hi d dk))
  case atStart => exact ⟨0, 0, d, rfl, by omega, by omega, rfl, HST.out, SwR.zero a b d, fun _ _ _ _ _ => permIn_refl _ _ _⟩
  case round =>
    obtain ⟨i, q, dk, rfl, hi, hg1, hsk, rfl, HI⟩ := hrel
    by_cases hlt : i < n
    · have hltz : (i : Int) < (n : Int) := by omega
      have hHj := holds_putRow enc w blk off d dk HH.out hsk
      obtain ⟨xa, hxa⟩ : ∃ x, dk[a + i]! = x := ⟨_, rfl⟩
      obtain ⟨xb, hxb⟩ : ∃ x, dk[b + i]! = x := ⟨_, rfl⟩
      obtain ⟨ca, fa⟩ := hHj (a + i) (by omega)
      obtain ⟨cb', fb⟩ := hHj (b + i) (by omega)
      rw [hxa] at ca
      rw [hxb] at cb'
      have za : (a : Int) + (i : Int) < (d.size : Int) := by omega
      have zb : (b : Int) + (i : Int) < (d.size : Int) := by omega
      have pa : (0 : Int) ≤ (a : Int) + (i : Int) := by omega
      have pb : (0 : Int) ≤ (b : Int) + (i : Int) := by omega
      have ea : ((a : Int) + (i : Int)).toNat = a + i := by omega
      have eb : ((b : Int) + (i : Int)).toNat = b + i := by omega
      have wa : IntKind.i64.wrap ((a : Int) + (i : Int)) = (a : Int) + (i : Int) := by rw [IntKind.wrap_i64]; omega
      have wb : IntKind.i64.wrap ((b : Int) + (i : Int)) = (b : Int) + (i : Int) := by rw [IntKind.wrap_i64]; omega
      have ca' : ((putRow enc w blk off dk).drewN q).cell? ⟨blk, off + (a + i), none⟩ = some (enc xa) := ca
      have cb2 : ((putRow enc w blk off dk).drewN q).cell? ⟨blk, off + (b + i), none⟩ = some (enc xb) := cb'
      have fa' : ((putRow enc w blk off dk).drewN q).frozen? ⟨blk, off + (a + i), none⟩ = false := fa
      have fb' : ((putRow enc w blk off dk).drewN q).frozen? ⟨blk, off + (b + i), none⟩ = false := fb
      clear ca cb' fa fb hHj
      generalize hwq : (putRow enc w blk off dk).drewN q = wq at ca' cb2 fa' fb' ⊢
      have HWQ : Hid ((putRow enc w blk off dk).drewN q = wq) := hwq
      clear hwq
      obtain ⟨ja, hja⟩ : ∃ j, j = a + i := ⟨_, rfl⟩
      obtain ⟨jb, hjb⟩ : ∃ j, j = b + i := ⟨_, rfl⟩
      rw [← hja] at ca' fa' ea
      rw [← hjb] at cb2 fb' eb
      have JA : Hid (ja = a + i) := hja
      have JB : Hid (jb = b + i) := hjb
      clear hja hjb
      go_wp2_with fail
      go_big_region_o
      all_goals go_wp2
      go_roundg (n - (i + 1))
      case measure => omega
      case rel =>
        refine ⟨i + 1, q + 1, swp dk (a + i) (b + i), by go_num, by omega, by omega, by rw [size_swp]; exact hsk, ?_, (show Hid _ from ?_)⟩
        · rw [JA.out, JB.out, ← HWQ.out, ← hxa, ← hxb]
          exact swap_worldC enc w blk off dk q (a + i) (b + i) (by omega) (by omega)
        · exact ⟨HI.out.1.step (by omega) (by omega), fun lo hi h1 h2 h3 => permIn_trans _ _ _ _ _ (HI.out.2 lo hi h1 h2 h3) (swp_permIn dk lo hi (a + i) (b + i) (by omega) (by omega) (by omega) (by omega) (by omega))⟩
    · have hltz : ¬ (i : Int) < (n : Int) := by omega
      obtain rfl : i = n := by omega
      go_wp2
      go_end0
      exact ⟨rfl, q, dk, rfl, HI.out.1, HI.out.2⟩
end Go.Proofs.YtmocphafkimdpaaDoor.P


/- Two stretches side by side, the one put ahead of the other: slices.rotateCmpFunc. -/
namespace Go.Proofs.YtmocphafkimdpaaDoor.P
open Go.Shelf Go.RowKit Go.Lib Go.Sort

theorem putRow_drewN' (enc : Nat → Value) (w : World) (blk off q : Nat) (d : Array Nat) : putRow enc (w.drewN q) blk off d = (putRow enc w blk off d).drewN q := rfl

set_option maxHeartbeats 4000000 in
set_option maxRecDepth 1000000 in
theorem rotate_row (enc : Nat → Value) (hO : OneCell enc) (g : Nat) (cb : Array Value) (blk off cap a m b : Nat) (d : Array Nat) (w : World) (hH : Holds enc w blk off d) (ham : a < m) (hmb : m < b) (hb : b ≤ d.size) (hsz : d.size < 4611686018427387904) :
    Calls Tryd.prog 132 #[.slice (some ⟨blk, off, none⟩) d.size cap, .int .i64 a, .int .i64 m, .int .i64 b, .func (.func g) #[] cb] w fun e w' =>
      e = .returned (.tuple #[]) ∧ ∃ q d', w' = (putRow enc w blk off d').drewN q ∧ Rot a m b d d' ∧ PermIn a b d d' := by
  have SW := Lib.hid (fun (dk : Array Nat) (W : World) (x y n : Nat) (h1 : Holds enc W blk off dk) (h2 : x + n ≤ y) (h3 : y + n ≤ dk.size) (h4 : dk.size = d.size) => by
    have := swap_range enc hO g cb blk off cap x y n dk W h1 h2 h3 (by omega)
    rw [h4] at this
    exact this)
  have HST : Hid (w = (putRow enc w blk off d).drewN 0) := (putRow_self enc w blk off d hH).symm
  have HH : Hid (Holds enc w blk off d) := hH
  clear hH
  have wma : IntKind.i64.wrap ((m : Int) - (a : Int)) = ((m - a : Nat) : Int) := by rw [IntKind.wrap_i64]; omega
  have wbm : IntKind.i64.wrap ((b : Int) - (m : Int)) = ((b - m : Nat) : Int) := by rw [IntKind.wrap_i64]; omega
  go_enter Tryd.func132, Tryd.ntmps132
  go_wp2
  go_loopg [10, 11] (b - a) (fun g1 vi vj wr => ∃ (i j q : Nat) (dk : Array Nat), vi = .int .i64 i ∧ vj = .int .i64 j ∧ 0 < i ∧ 0 < j ∧ i ≤ m - a ∧ j ≤ b - m ∧ i + j ≤ g1 ∧ dk.size = d.size ∧ wr = (putRow enc w blk off dk).drewN q ∧ Hid ((∀ d', Rot (m - i) m (m + j) dk d' → Rot a m b d d') ∧ PermIn a b d dk))
  case atStart => exact ⟨m - a, b - m, 0, d, rfl, rfl, by omega, by omega, by omega, by omega, by omega, rfl, HST.out, fun d' h => by rw [show m - (m - a) = a by omega, show m + (b - m) = b by omega] at h; exact h, permIn_refl _ _ _⟩
  case round =>
    obtain ⟨i, j, q, dk, rfl, rfl, h0i, h0j, hi, hj, hg1, hsk, rfl, HI⟩ := hrel
    have HK : Hid (Holds enc ((putRow enc w blk off dk).drewN q) blk off dk) := holds_putRow enc w blk off d dk HH.out hsk
    generalize hwq : (putRow enc w blk off dk).drewN q = wq at HK ⊢
    have HWQ : Hid ((putRow enc w blk off dk).drewN q = wq) := hwq
    clear hwq
    have wmi : IntKind.i64.wrap ((m : Int) - (i : Int)) = ((m - i : Nat) : Int) := by rw [IntKind.wrap_i64]; omega
    have fin : ∀ (q' : Nat) (d' : Array Nat), d'.size = d.size → (putRow enc wq blk off d').drewN q' = (putRow enc w blk off d').drewN (q + q') := fun q' d' h => by
      rw [← HWQ.out, putRow_drewN', putRow_putRow enc w blk off dk d' (by omega), World.drewN_drewN]
    have FIN := Lib.hid fin
    clear fin
    by_cases c : i = j
    · subst c
      have cz : ¬(i : Int) ≠ (i : Int) := by omega
      have S := Lib.hid (SW.out dk wq (m - i) m i HK.out (by omega) (by omega) hsk)
      go_wp2_with fail
      refine S.out.mono ?_
      rintro e w' ⟨rfl, q', d', rfl, hs, hp⟩
      have hd' : d'.size = d.size := hs.1.trans hsk
      go_wp2
      go_end0
      refine ⟨rfl, q + q', d', FIN.out q' d' hd', HI.out.1 d' (Rot.even (by omega) hs), permIn_trans _ _ _ _ _ HI.out.2 (hp a b (by omega) (by omega) (by omega))⟩
    · have cz : (i : Int) ≠ (j : Int) := by omega
      by_cases c2 : j < i
      · have cz2 : (j : Int) < (i : Int) := by omega
        have wij : IntKind.i64.wrap ((i : Int) - (j : Int)) = ((i - j : Nat) : Int) := by rw [IntKind.wrap_i64]; omega
        have S := Lib.hid (SW.out dk wq (m - i) m j HK.out (by omega) (by omega) hsk)
        go_wp2_with fail
        refine S.out.mono ?_
        rintro e w' ⟨rfl, q', d', rfl, hs, hp⟩
        have hd' : d'.size = d.size := hs.1.trans hsk
        go_wp2
        go_roundg (i - j + j)
        case measure => omega
        case rel => exact ⟨i - j, j, q + q', d', rfl, rfl, by omega, h0j, by omega, hj, by omega, hd', FIN.out q' d' hd', fun d'' h => HI.out.1 d'' (Rot.left (by omega) c2 hs h), permIn_trans _ _ _ _ _ HI.out.2 (hp a b (by omega) (by omega) (by omega))⟩
      · have cz2 : ¬(j : Int) < (i : Int) := by omega
        have wji : IntKind.i64.wrap ((j : Int) - (i : Int)) = ((j - i : Nat) : Int) := by rw [IntKind.wrap_i64]; omega
        obtain ⟨mj, hmj⟩ : ∃ x, x = m + j := ⟨_, rfl⟩
        obtain ⟨mji, hmji⟩ : ∃ x, x = m + j - i := ⟨_, rfl⟩
        have wmj : IntKind.i64.wrap ((m : Int) + (j : Int)) = (mj : Int) := by rw [IntKind.wrap_i64]; omega
        have wmji : IntKind.i64.wrap ((mj : Int) - (i : Int)) = (mji : Int) := by rw [IntKind.wrap_i64]; omega
        have S := Lib.hid (SW.out dk wq (m - i) mji i HK.out (by omega) (by omega) hsk)
        have HM : Hid (mji = m + j - i) := hmji
        clear hmj hmji
        go_wp2_with fail
        refine S.out.mono ?_
        rintro e w' ⟨rfl, q', d', rfl, hs, hp⟩
        have hd' : d'.size = d.size := hs.1.trans hsk
        go_wp2
        go_roundg (i + (j - i))
        case measure => omega
        case rel => exact ⟨i, j - i, q + q', d', rfl, rfl, h0i, by omega, hi, by omega, by omega, hd', FIN.out q' d' hd', fun d'' h => HI.out.1 d'' (Rot.right (by omega) (by omega) (HM.out ▸ hs) h), permIn_trans _ _ _ _ _ HI.out.2 (hp a b (by omega) (by have := HM.out; omega) (by omega))⟩
end Go.Proofs.YtmocphafkimdpaaDoor.P


/- Two stretches in order, side by side, merged in place: slices.symMergeCmpFunc. -/
namespace Go.Proofs.YtmocphafkimdpaaDoor.P
open Go.Shelf Go.RowKit Go.Lib Go.Sort

/-- A comparison that reads alone, whatever the row holds. -/
def CmpAll (enc : Nat → Value) (r : Nat → Int) (g : Nat) (cb : Array Value) (blk off size : Nat) (w : World) : Prop :=
  ∀ (X : Array Nat), X.size = size → ∀ (x y q n : Nat), Calls Tryd.prog g (#[enc x, enc y] ++ cb) (((putRow enc w blk off X).drewN q).drewN n) fun e w' => e = .returned (.int .i64 (cmpF r x y)) ∧ ∃ q', w' = (((putRow enc w blk off X).drewN q).drewN n).drewN q'

set_option maxHeartbeats 8000000 in
set_option maxRecDepth 1000000 in
theorem sym_one (enc : Nat → Value) (hO : OneCell enc) (r : Nat → Int) (g : Nat) (cb : Array Value) (blk off cap a b : Nat) (d : Array Nat) (w : World)
    (eg : ∀ args w, (callFunc g args).run Tryd.prog w = .ok (.enter g args) w) (hcmp : CmpAll enc r g cb blk off d.size w) (hH : Holds enc w blk off d)
    (hab : a + 1 < b) (hb : b ≤ d.size) (hsz : d.size < 4611686018427387904) (h2 : Two r a (a + 1) b d) :
    Calls Tryd.prog 129 #[.slice (some ⟨blk, off, none⟩) d.size cap, .int .i64 a, .int .i64 ((a + 1 : Nat) : Int), .int .i64 b, .func (.func g) #[] cb] w fun e w' =>
      e = .returned (.tuple #[]) ∧ ∃ q d', w' = (putRow enc w blk off d').drewN q ∧ Srt r a b d' ∧ PermIn a b d d' := by
  have mixed : Tryd.prog.follows .mixedOrders = true := by kernel_rfl
  have hcl0 := hO.cells
  simp only [Value.cells] at hcl0
  have hst := hO.store Tryd.prog
  have HC : Aside (CmpAll enc r g cb blk off d.size w) := hcmp
  have HST : Hid (w = (putRow enc w blk off d).drewN 0) := (putRow_self enc w blk off d hH).symm
  have HH : Hid (Holds enc w blk off d) := hH
  have H2 : Hid (Two r a (a + 1) b d) := h2
  clear hH hcmp h2
  obtain ⟨m, hm⟩ : ∃ m, m = a + 1 := ⟨_, rfl⟩
  have M : Hid (m = a + 1) := hm
  rw [← hm]
  have wma : IntKind.i64.wrap ((m : Int) - (a : Int)) = 1 := by rw [IntKind.wrap_i64]; omega
  clear hm
  go_enter Tryd.func129, Tryd.ntmps129
  go_wp2
  go_loopg [10, 11] (b - m) (fun g1 vi vj wr => ∃ (i j q : Nat), vi = .int .i64 i ∧ vj = .int .i64 j ∧ m ≤ i ∧ i ≤ j ∧ j ≤ b ∧ j - i ≤ g1 ∧ wr = (putRow enc w blk off d).drewN q ∧ Hid ((∀ k, m ≤ k → k < i → ahd r d[k]! d[a]!) ∧ ∀ k, j ≤ k → k < b → ahd r d[a]! d[k]!))
  case atStart => exact ⟨m, b, 0, rfl, rfl, Nat.le_refl _, by have := M.out; omega, Nat.le_refl _, Nat.le_refl _, HST.out, fun k h1 h2 => by omega, fun k h1 h2 => by omega⟩
  case round =>
    obtain ⟨i, j, q, rfl, rfl, hmi, hij, hjb, hg1, rfl, HI⟩ := hrel
    by_cases hlt : i < j
    · have hltz : (i : Int) < (j : Int) := by omega
      obtain ⟨h, hh⟩ : ∃ h, h = (i + j) / 2 := ⟨_, rfl⟩
      have hHj := holds_putRow enc w blk off d d HH.out rfl
      obtain ⟨xh, hxh⟩ : ∃ x, d[h]! = x := ⟨_, rfl⟩
      obtain ⟨xa, hxa⟩ : ∃ x, d[a]! = x := ⟨_, rfl⟩
      obtain ⟨ch, _⟩ := hHj h (by omega)
      obtain ⟨ca, _⟩ := hHj a (by have := M.out; omega)
      rw [hxh] at ch
      rw [hxa] at ca
      have eh : ((i : Int) + (j : Int)) / 2 = (h : Int) := by omega
      have p0 : (0 : Int) ≤ (h : Int) := by omega
      have p1 : (h : Int) < (d.size : Int) := by omega
      have p2 : (a : Int) < (d.size : Int) := by have := M.out; omega
      have wij : IntKind.i64.wrap ((i : Int) + (j : Int)) = (i : Int) + (j : Int) := by rw [IntKind.wrap_i64]; omega
      have ch' : ((putRow enc w blk off d).drewN q).cell? ⟨blk, off + h, none⟩ = some (enc xh) := ch
      have ca' : ((putRow enc w blk off d).drewN q).cell? ⟨blk, off + a, none⟩ = some (enc xa) := ca
      have hc := HC.out d rfl xh xa q
      have hidx : d[a]! < d[h]! := H2.out.2.2 a h (Nat.le_refl _) (by have := M.out; omega) (by have := M.out; omega) (by omega)
      rw [hxa, hxh] at hidx
      have HX : Hid (d[h]! = xh ∧ d[a]! = xa ∧ xa < xh ∧ h = (i + j) / 2) := ⟨hxh, hxa, hidx, hh⟩
      clear ch ca hHj hxh hxa hidx hh
      generalize hwq : (putRow enc w blk off d).drewN q = wq at ch' ca' hc ⊢
      have HWQ : Hid ((putRow enc w blk off d).drewN q = wq) := hwq
      clear hwq
      by_cases hlv : cmpF r xh xa < 0
      · go_wp2_with fail
        go_quiet_o (first | (go_at_fn g; refine Calls.quiet_of (hc _)))
        go_wp2
        go_roundg (j - (h + 1))
        case measure => have := HX.out; omega
        case rel =>
          obtain ⟨x1, x2, x3, x4⟩ := HX.out
          refine ⟨h + 1, j, q + nq, by go_num, rfl, by omega, by omega, hjb, by omega, by rw [← HWQ.out, World.drewN_drewN], (show Hid _ from ⟨fun k hk hk' => ?_, HI.out.2⟩)⟩
          have hl := (cmp_lt x3).1 hlv
          rw [← x1, ← x2] at hl
          exact srt_le H2.out.2.1 (by have := M.out; omega) (show k ≤ h by omega) (by omega) hl
      · go_wp2_with fail
        go_quiet_o (first | (go_at_fn g; refine Calls.quiet_of (hc _)))
        go_wp2
        go_roundg (h - i)
        case measure => have := HX.out; omega
        case rel =>
          obtain ⟨x1, x2, x3, x4⟩ := HX.out
          refine ⟨i, h, q + nq, rfl, rfl, hmi, by omega, by omega, by omega, by rw [← HWQ.out, World.drewN_drewN], (show Hid _ from ⟨HI.out.1, fun k hk hk' => ?_⟩)⟩
          have hl := (cmp_ge (r := r) x3).1 (by omega)
          rw [← x1, ← x2] at hl
          exact le_srt H2.out.2.1 (show a + 1 ≤ h by have := M.out; omega) hk hk' hl
    · have hltz : ¬(i : Int) < (j : Int) := by omega
      obtain rfl : i = j := by omega
      clear hltz hg1 hij
      have wi1 : IntKind.i64.wrap ((i : Int) - 1) = (i : Int) - 1 := by rw [IntKind.wrap_i64]; omega
      have hai : a + 1 ≤ i := by have := M.out; omega
      have HQ : Hid ((putRow enc w blk off d).drewN q = (putRow enc w blk off d).drewN q) := rfl
      go_wp2
      go_loopg [13] (i - a) (fun g2 vk wr2 => ∃ (k q2 : Nat) (dk : Array Nat), vk = .int .i64 k ∧ a ≤ k ∧ k ≤ i - 1 ∧ i - k ≤ g2 ∧ dk.size = d.size ∧ wr2 = (putRow enc w blk off dk).drewN q2 ∧ Hid (Fwd a k d dk ∧ PermIn a b d dk))
      case atStart => exact ⟨a, q, d, rfl, Nat.le_refl _, by omega, by omega, rfl, rfl, Fwd.zero a d, permIn_refl _ _ _⟩
      case round =>
        obtain ⟨k, q2, dk, rfl, hak, hki, hg2, hsk, rfl, HF⟩ := hrel
        by_cases hkl : k < i - 1
        · have hkz : (k : Int) < (i : Int) - 1 := by omega
          have hHj := holds_putRow enc w blk off d dk HH.out hsk
          obtain ⟨xj, hxj⟩ : ∃ x, dk[k + 1]! = x := ⟨_, rfl⟩
          obtain ⟨xp, hxp⟩ : ∃ x, dk[k]! = x := ⟨_, rfl⟩
          obtain ⟨cj, fj⟩ := hHj (k + 1) (by omega)
          obtain ⟨cp, fp⟩ := hHj k (by omega)
          rw [hxj] at cj
          rw [hxp] at cp
          clear hHj
          have jz : (k : Int) + 1 < (d.size : Int) := by omega
          have jz1 : (k : Int) < (d.size : Int) := by omega
          have p0 : (0 : Int) ≤ (k : Int) + 1 := by omega
          have e0 : ((k : Int) + 1).toNat = k + 1 := by omega
          have cj' : ((putRow enc w blk off dk).drewN q2).cell? ⟨blk, off + (k + 1), none⟩ = some (enc xj) := cj
          have cp' : ((putRow enc w blk off dk).drewN q2).cell? ⟨blk, off + k, none⟩ = some (enc xp) := cp
          have fj' : ((putRow enc w blk off dk).drewN q2).frozen? ⟨blk, off + (k + 1), none⟩ = false := fj
          have fp' : ((putRow enc w blk off dk).drewN q2).frozen? ⟨blk, off + k, none⟩ = false := fp
          clear cj cp fj fp
          generalize hwq : (putRow enc w blk off dk).drewN q2 = wq at cj' cp' fj' fp' ⊢
          have HWQ : Hid ((putRow enc w blk off dk).drewN q2 = wq) := hwq
          clear hwq
          obtain ⟨j1, hj1⟩ : ∃ j1, j1 = k + 1 := ⟨_, rfl⟩
          rw [← hj1] at cj' fj' e0
          have J1 : Hid (j1 = k + 1) := hj1
          clear hj1
          go_wp2_with fail
          go_big_region_o
          all_goals go_wp2
          go_roundg (i - (k + 1))
          case measure => omega
          case rel =>
            refine ⟨k + 1, q2 + 1, swp dk k (k + 1), by go_num, by omega, by omega, by omega, by rw [size_swp]; exact hsk, ?_, (show Hid _ from ⟨HF.out.1.step (by omega), permIn_trans _ _ _ _ _ HF.out.2 (swp_permIn dk a b k (k + 1) (by omega) (by omega) (by omega) (by omega) (by omega))⟩)⟩
            rw [J1.out, ← HWQ.out, ← hxp, ← hxj]
            exact swap_worldC enc w blk off dk q2 k (k + 1) (by omega) (by omega)
        · have hkz : ¬(k : Int) < (i : Int) - 1 := by omega
          obtain rfl : k = i - 1 := by omega
          go_wp2
          refine bodyPost_ret (results_none rfl _ _ _) rfl ?_
          exact ⟨rfl, q2, dk, rfl, Fwd.srt HF.out.1 H2.out hai hjb (fun k h1 h2 => HI.out.1 k (by have := M.out; omega) h2) HI.out.2, HF.out.2⟩

set_option maxHeartbeats 8000000 in
set_option maxRecDepth 1000000 in
theorem sym_last (enc : Nat → Value) (hO : OneCell enc) (r : Nat → Int) (g : Nat) (cb : Array Value) (blk off cap a m : Nat) (d : Array Nat) (w : World)
    (eg : ∀ args w, (callFunc g args).run Tryd.prog w = .ok (.enter g args) w) (hcmp : CmpAll enc r g cb blk off d.size w) (hH : Holds enc w blk off d)
    (ham : a + 1 < m) (hb : m + 1 ≤ d.size) (hsz : d.size < 4611686018427387904) (h2 : Two r a m (m + 1) d) :
    Calls Tryd.prog 129 #[.slice (some ⟨blk, off, none⟩) d.size cap, .int .i64 a, .int .i64 m, .int .i64 ((m + 1 : Nat) : Int), .func (.func g) #[] cb] w fun e w' =>
      e = .returned (.tuple #[]) ∧ ∃ q d', w' = (putRow enc w blk off d').drewN q ∧ Srt r a (m + 1) d' ∧ PermIn a (m + 1) d d' := by
  have mixed : Tryd.prog.follows .mixedOrders = true := by kernel_rfl
  have hcl0 := hO.cells
  simp only [Value.cells] at hcl0
  have hst := hO.store Tryd.prog
  have HC : Aside (CmpAll enc r g cb blk off d.size w) := hcmp
  have HST : Hid (w = (putRow enc w blk off d).drewN 0) := (putRow_self enc w blk off d hH).symm
  have HH : Hid (Holds enc w blk off d) := hH
  have H2 : Hid (Two r a m (m + 1) d) := h2
  clear hH hcmp h2
  obtain ⟨b, hbm⟩ : ∃ b, b = m + 1 := ⟨_, rfl⟩
  have M : Hid (b = m + 1) := hbm
  rw [← hbm]
  obtain ⟨ma, hma⟩ : ∃ x, x = m - a := ⟨_, rfl⟩
  have wma : IntKind.i64.wrap ((m : Int) - (a : Int)) = (ma : Int) := by rw [IntKind.wrap_i64]; omega
  have wbm : IntKind.i64.wrap ((b : Int) - (m : Int)) = 1 := by rw [IntKind.wrap_i64]; omega
  have nma : ¬(ma : Int) = 1 := by omega
  have nmb : ((ma : Int) == 1) = false := beq_eq_false_iff_ne.2 nma
  clear hbm hma
  go_enter Tryd.func129, Tryd.ntmps129
  go_wp2
  go_loopg [14, 15] (m - a) (fun g1 vi vj wr => ∃ (i j q : Nat), vi = .int .i64 i ∧ vj = .int .i64 j ∧ a ≤ i ∧ i ≤ j ∧ j ≤ m ∧ j - i ≤ g1 ∧ wr = (putRow enc w blk off d).drewN q ∧ Hid ((∀ k, a ≤ k → k < i → ahd r d[k]! d[m]!) ∧ ∀ k, j ≤ k → k < m → ahd r d[m]! d[k]!))
  case atStart => exact ⟨a, m, 0, rfl, rfl, Nat.le_refl _, by omega, Nat.le_refl _, Nat.le_refl _, HST.out, fun k h1 h2 => by omega, fun k h1 h2 => by omega⟩
  case round =>
    obtain ⟨i, j, q, rfl, rfl, hai, hij, hjm, hg1, rfl, HI⟩ := hrel
    by_cases hlt : i < j
    · have hltz : (i : Int) < (j : Int) := by omega
      obtain ⟨h, hh⟩ : ∃ h, h = (i + j) / 2 := ⟨_, rfl⟩
      have hHj := holds_putRow enc w blk off d d HH.out rfl
      obtain ⟨xh, hxh⟩ : ∃ x, d[h]! = x := ⟨_, rfl⟩
      obtain ⟨xm, hxm⟩ : ∃ x, d[m]! = x := ⟨_, rfl⟩
      obtain ⟨ch, _⟩ := hHj h (by omega)
      obtain ⟨cm, _⟩ := hHj m (by omega)
      rw [hxh] at ch
      rw [hxm] at cm
      have eh : ((i : Int) + (j : Int)) / 2 = (h : Int) := by omega
      have p0 : (0 : Int) ≤ (h : Int) := by omega
      have p1 : (h : Int) < (d.size : Int) := by omega
      have p2 : (m : Int) < (d.size : Int) := by omega
      have wij : IntKind.i64.wrap ((i : Int) + (j : Int)) = (i : Int) + (j : Int) := by rw [IntKind.wrap_i64]; omega
      have ch' : ((putRow enc w blk off d).drewN q).cell? ⟨blk, off + h, none⟩ = some (enc xh) := ch
      have cm' : ((putRow enc w blk off d).drewN q).cell? ⟨blk, off + m, none⟩ = some (enc xm) := cm
      have hc := HC.out d rfl xm xh q
      have hidx : d[h]! < d[m]! := H2.out.2.2 h m (by omega) (by omega) (Nat.le_refl _) (by omega)
      rw [hxm, hxh] at hidx
      have HX : Hid (d[h]! = xh ∧ d[m]! = xm ∧ xh < xm ∧ h = (i + j) / 2) := ⟨hxh, hxm, hidx, hh⟩
      clear ch cm hHj hxh hxm hidx hh
      generalize hwq : (putRow enc w blk off d).drewN q = wq at ch' cm' hc ⊢
      have HWQ : Hid ((putRow enc w blk off d).drewN q = wq) := hwq
      clear hwq
      by_cases hlv : cmpF r xm xh < 0
      · go_wp2_with fail
        go_quiet_o (first | (go_at_fn g; refine Calls.quiet_of (hc _)))
        go_wp2
        go_roundg (h - i)
        case measure => have := HX.out; omega
        case rel =>
          obtain ⟨x1, x2, x3, x4⟩ := HX.out
          refine ⟨i, h, q + nq, rfl, rfl, hai, by omega, by omega, by omega, by rw [← HWQ.out, World.drewN_drewN], (show Hid _ from ⟨HI.out.1, fun k hk hk' => ?_⟩)⟩
          have hl := (cmp_lt (r := r) x3).1 hlv
          rw [← x1, ← x2] at hl
          exact le_srt H2.out.1 (show a ≤ h by omega) hk hk' hl
      · go_wp2_with fail
        go_quiet_o (first | (go_at_fn g; refine Calls.quiet_of (hc _)))
        go_wp2
        · go_roundg (j - (h + 1))
          case measure => have := HX.out; omega
          case rel =>
            obtain ⟨x1, x2, x3, x4⟩ := HX.out
            refine ⟨h + 1, j, q + nq, by go_num, rfl, by omega, by omega, hjm, by omega, by rw [← HWQ.out, World.drewN_drewN], (show Hid _ from ⟨fun k hk hk' => ?_, HI.out.2⟩)⟩
            have hl := (cmp_ge (r := r) x3).1 (by omega)
            rw [← x1, ← x2] at hl
            exact srt_le H2.out.1 hk (show k ≤ h by omega) (by omega) hl
        · rename_i hx
          exact absurd hx (by simp; omega)
    · have hltz : ¬(i : Int) < (j : Int) := by omega
      obtain rfl : i = j := by omega
      clear hltz hg1 hij
      go_wp2
      go_loopg [17] (m - i) (fun g2 vk wr2 => ∃ (k q2 : Nat) (dk : Array Nat), vk = .int .i64 k ∧ i ≤ k ∧ k ≤ m ∧ k - i ≤ g2 ∧ dk.size = d.size ∧ wr2 = (putRow enc w blk off dk).drewN q2 ∧ Hid (Bwd m k d dk ∧ PermIn a (m + 1) d dk))
      case atStart => exact ⟨m, q, d, rfl, hjm, Nat.le_refl _, Nat.le_refl _, rfl, rfl, Bwd.zero m d, permIn_refl _ _ _⟩
      case round =>
        obtain ⟨k, q2, dk, rfl, hik, hkm, hg2, hsk, rfl, HF⟩ := hrel
        by_cases hkl : i < k
        · obtain ⟨kp, rfl⟩ : ∃ kp, k = kp + 1 := ⟨k - 1, by omega⟩
          have hkz : (i : Int) < (kp : Int) + 1 := by omega
          have hHj := holds_putRow enc w blk off d dk HH.out hsk
          obtain ⟨xj, hxj⟩ : ∃ x, dk[kp + 1]! = x := ⟨_, rfl⟩
          obtain ⟨xp, hxp⟩ : ∃ x, dk[kp]! = x := ⟨_, rfl⟩
          obtain ⟨cj, fj⟩ := hHj (kp + 1) (by omega)
          obtain ⟨cp, fp⟩ := hHj kp (by omega)
          rw [hxj] at cj
          rw [hxp] at cp
          clear hHj
          have hwp : IntKind.i64.wrap (kp : Int) = (kp : Int) := by rw [IntKind.wrap_i64]; omega
          have jz : (kp : Int) + 1 < (d.size : Int) := by omega
          have jz1 : (kp : Int) < (d.size : Int) := by omega
          have p0 : (0 : Int) ≤ (kp : Int) + 1 := by omega
          have e0 : ((kp : Int) + 1).toNat = kp + 1 := by omega
          have cj' : ((putRow enc w blk off dk).drewN q2).cell? ⟨blk, off + (kp + 1), none⟩ = some (enc xj) := cj
          have cp' : ((putRow enc w blk off dk).drewN q2).cell? ⟨blk, off + kp, none⟩ = some (enc xp) := cp
          have fj' : ((putRow enc w blk off dk).drewN q2).frozen? ⟨blk, off + (kp + 1), none⟩ = false := fj
          have fp' : ((putRow enc w blk off dk).drewN q2).frozen? ⟨blk, off + kp, none⟩ = false := fp
          clear cj cp fj fp
          generalize hwq : (putRow enc w blk off dk).drewN q2 = wq at cj' cp' fj' fp' ⊢
          have HWQ : Hid ((putRow enc w blk off dk).drewN q2 = wq) := hwq
          clear hwq
          obtain ⟨j1, hj1⟩ : ∃ j1, j1 = kp + 1 := ⟨_, rfl⟩
          rw [← hj1] at cj' fj' e0
          have J1 : Hid (j1 = kp + 1) := hj1
          clear hj1
          go_wp2_with fail
          go_big_region_o
          all_goals go_wp2
          go_roundg (kp - i)
          case measure => omega
          case rel =>
            refine ⟨kp, q2 + 1, swp dk (kp + 1) kp, by first | rfl | go_num, by omega, by omega, Nat.le_refl _, by rw [size_swp]; exact hsk, ?_, (show Hid _ from ⟨HF.out.1.step (by omega), permIn_trans _ _ _ _ _ HF.out.2 (swp_permIn dk a (m + 1) (kp + 1) kp (by omega) (by omega) (by omega) (by omega) (by omega))⟩)⟩
            rw [J1.out, ← HWQ.out, ← hxp, ← hxj]
            exact swap_worldC enc w blk off dk q2 (kp + 1) kp (by omega) (by omega)
        · have hkz : ¬(i : Int) < (k : Int) := by omega
          obtain rfl : i = k := by omega
          go_wp2
          refine bodyPost_ret (results_none rfl _ _ _) rfl ?_
          refine ⟨rfl, q2, dk, rfl, ?_, ?_⟩
          · rw [M.out]; exact Bwd.srt HF.out.1 H2.out hai hjm HI.out.1 HI.out.2
          · rw [M.out]; exact HF.out.2
end Go.Proofs.YtmocphafkimdpaaDoor.P
