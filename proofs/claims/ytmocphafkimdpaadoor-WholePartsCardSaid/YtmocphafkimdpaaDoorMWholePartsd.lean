/- A part of the proof of WholeParts's card: 'WholeParts' answers true for every input (the conditions: those of the given statement alone). Merged by a program (wip/merge.py) out of: HWholeParts. -/
import Derived.Test.YtmocphafkimdpaaDoorMWholePartsa
import Derived.Test.YtmocphafkimdpaaDoorMWholePartsc

/- WholeParts answers true for every amount, rates and way: the plain law. -/
namespace Go.Proofs.YtmocphafkimdpaaDoor.P
open Go.RowKit Go.Proofs.YtmocphafkimdpaaDoorW.PrintWords Go.Proofs.YtmocphafkimdpaaDoorW.PrintLast Go.Proofs.YtmocphafkimdpaaDoorW.PrintMore
set_option linter.unusedVariables false
set_option linter.unusedSimpArgs false

theorem floor4_f (n : Int) (h0 : -1000000000000000 ≤ n) (h1 : n ≤ 1000000000000000) : frac_floor.f n 10000 = some (n / 10000, n % 10000) := by
  unfold frac_floor.f
  rw [if_neg (by decide)]
  by_cases hs : 0 ≤ n
  · rw [Int.tdiv_eq_ediv_of_nonneg hs, Int.tmod_eq_emod_of_nonneg hs, if_neg (by omega), w64 (by omega) (by omega)]
  · obtain ⟨m, rfl⟩ : ∃ m : Int, n = -m := ⟨-n, by omega⟩
    have hm : 0 ≤ m := by omega
    rw [Int.neg_tdiv, Int.neg_tmod, Int.tdiv_eq_ediv_of_nonneg hm, Int.tmod_eq_emod_of_nonneg hm]
    by_cases c : m % 10000 = 0
    · rw [if_neg (by omega), w64 (by omega) (by omega)]
      congr 2 <;> omega
    · rw [if_pos (by omega), w64 (x := -(m / 10000)) (by omega) (by omega), w64 (by omega) (by omega), w64 (by omega) (by omega)]
      congr 2 <;> omega
theorem nearer_ex (a b d m : Int) : ∃ r, frac_nearer.f a b d m = some r := by
  unfold frac_nearer.f
  repeat' split
  all_goals exact ⟨_, rfl⟩
theorem round4_ev (n mode : Int) (hm : 1 ≤ mode ∧ mode ≤ 6) (h0 : -1000000000000000 ≤ n) (h1 : n ≤ 1000000000000000) : ∃ r, Ev (fun k => frac_Round.f k n 10000 mode) (r, 0) ∧ (r = n / 10000 ∨ (r = n / 10000 + 1 ∧ 0 < n % 10000)) := by
  have go : ∀ r : Int, Ev (fun k => (frac_floor.f n 10000).bind fun bt265 => (if bt265.2 > 0 then ((frac_nearer.f bt265.1 bt265.2 10000 mode).bind fun t267 => (if t267 = true then (some (wrap64 (bt265.1 + 1), (0 : Int))) else (some (bt265.1, 0)))) else (some (bt265.1, 0)))) (r, 0) → Ev (fun k => frac_Round.f k n 10000 mode) (r, 0) := by
    intro r h
    unfold frac_Round.f
    have hmf : frac_Mode.f mode = some true := by
      unfold frac_Mode.f
      rw [if_pos hm.1, decide_eq_true hm.2]
    refine Ev.neg (by decide) (Ev.bindc hmf ?_)
    refine Ev.shift (fun k => by rw [frac_Round.j0]) ?_
    exact Ev.neg (by decide) h
  rw [floor4_f n h0 h1] at go
  by_cases c : n % 10000 > 0
  · obtain ⟨b, hb⟩ := nearer_ex (n / 10000) (n % 10000) 10000 mode
    cases b with
    | true =>
      refine ⟨n / 10000 + 1, go _ ?_, .inr ⟨rfl, c⟩⟩
      refine Ev.bindc rfl (Ev.pos c (Ev.bindc hb (Ev.pos rfl ?_)))
      rw [w64 (by omega) (by omega)]
      exact Ev.now
    | false => exact ⟨n / 10000, go _ (Ev.bindc rfl (Ev.pos c (Ev.bindc hb (Ev.neg (by decide) Ev.now)))), .inl rfl⟩
  · exact ⟨n / 10000, go _ (Ev.bindc rfl (Ev.neg c Ev.now)), .inl rfl⟩

theorem prod_b (x r : Int) (hx : okAmt x = true) (hr : 0 ≤ r ∧ r ≤ 10000) : -1000000000000000 ≤ x * r ∧ x * r ≤ 1000000000000000 := by
  obtain ⟨a, b⟩ := (okAmt_iff x).1 hx
  constructor
  · have h := Int.mul_le_mul_of_nonneg_right a hr.1
    have h2 : -100000000000 * 10000 ≤ -100000000000 * r := Int.mul_le_mul_of_nonpos_left (by decide) hr.2
    omega
  · have h := Int.mul_le_mul_of_nonneg_right b hr.1
    omega
theorem part_ev (x r : Int) (hx : okAmt x = true) (hr : 0 ≤ r ∧ r ≤ 10000) : Ev (fun k => frac_Part.f k x r) (x * r, 0) := by
  obtain ⟨h0, h1⟩ := prod_b x r hx hr
  unfold frac_Part.f
  have hrf : frac_Rate.f r = some true := by
    unfold frac_Rate.f
    rw [if_pos hr.1, decide_eq_true hr.2]
  refine Ev.bind (mright_ev [x] (by simp)) (Ev.pos (by simp [hx]) (Ev.bindc hrf (Ev.pos rfl ?_)))
  rw [w64 (by omega) (by omega)]
  exact Ev.now
theorem take_ev (x r mode : Int) (hx : okAmt x = true) (hr : 0 ≤ r ∧ r ≤ 10000) (hm : 1 ≤ mode ∧ mode ≤ 6) : ∃ c, Ev (fun k => frac_Take.f k x r mode) (c, 0) ∧ (c = x * r / 10000 ∨ (c = x * r / 10000 + 1 ∧ 0 < x * r % 10000)) := by
  obtain ⟨h0, h1⟩ := prod_b x r hx hr
  obtain ⟨c, hc, hcb⟩ := round4_ev (x * r) mode hm h0 h1
  refine ⟨c, ?_, hcb⟩
  unfold frac_Take.f
  refine Ev.bind (part_ev x r hx hr) (Ev.pos rfl (Ev.bind (a := (c, 0)) ?_ Ev.now))
  unfold frac_Coins.f
  have hrf : frac_Right.f (x * r) = some true := by
    unfold frac_Right.f
    rw [if_pos (by omega), decide_eq_true (by omega)]
  exact Ev.bindc hrf (Ev.pos rfl (Ev.bind hc Ev.now))

/-- Each part of a spread is near what a rounding makes of it. -/
theorem near (x r p c : Int) (hp : (x < 0 ∧ ∃ q, p = -q ∧ (q = (x.natAbs : Int) * r / 10000 ∨ q = (x.natAbs : Int) * r / 10000 + 1)) ∨ (0 ≤ x ∧ (p = (x.natAbs : Int) * r / 10000 ∨ p = (x.natAbs : Int) * r / 10000 + 1)))
    (hc : c = x * r / 10000 ∨ (c = x * r / 10000 + 1 ∧ 0 < x * r % 10000)) : p - c ≤ 1 ∧ -1 ≤ p - c := by
  rcases hp with ⟨hx, q, rfl, hq⟩ | ⟨hx, hq⟩
  · have e : (x.natAbs : Int) * r = -(x * r) := by rw [show (x.natAbs : Int) = -x by omega, Int.neg_mul]
    rw [e] at hq
    generalize x * r = y at hq hc
    omega
  · have e : (x.natAbs : Int) * r = x * r := by rw [show (x.natAbs : Int) = x by omega]
    rw [e] at hq
    generalize x * r = y at hq hc
    omega

theorem sum_same (sg : Bool) : ∀ (t : List Int) (s : Int), (∀ y ∈ t, if sg = true then y ≤ 0 else 0 ≤ y) → okAmt s = true → okAmt (s + sumZ t) = true → (if sg = true then s ≤ 0 else 0 ≤ s) → sumOf s t = (s + sumZ t, 0)
  | [], s, _, _, _, _ => by simp [sumOf, sumZ]
  | a :: t, s, hy, hs, ht, hz => by
    have ha := hy a (by simp)
    have hs' := (okAmt_iff s).1 hs
    have ht' := (okAmt_iff _).1 ht
    simp only [sumZ] at ht'
    have hrest : if sg = true then sumZ t ≤ 0 else 0 ≤ sumZ t := by
      cases sg with
      | true =>
        have := sumZ_le t 0 (fun y hy' => by simpa using hy y (List.mem_cons_of_mem _ hy'))
        simp at this ⊢
        exact this
      | false =>
        have := sumZ_nonneg t (fun y hy' => by simpa using hy y (List.mem_cons_of_mem _ hy'))
        simpa using this
    have h1 : okAmt a = true ∧ okAmt (s + a) = true ∧ (if sg = true then s + a ≤ 0 else 0 ≤ s + a) := by
      rw [okAmt_iff, okAmt_iff]
      cases sg <;> simp at ha hz hrest ⊢ <;> omega
    rw [sumOf, if_pos (by rw [h1.1, h1.2.1]; rfl)]
    rw [sum_same sg t (s + a) (fun y hy' => hy y (List.mem_cons_of_mem _ hy')) h1.2.1 (by simp only [sumZ] at ht; rw [show s + a + sumZ t = s + (a + sumZ t) by omega]; exact ht) h1.2.2]
    simp only [sumZ]
    congr 1
    omega

theorem okAmt_right (x : Int) : Ev (fun k => stipendtop_right.f k [x]) (okAmt x) := by
  unfold stipendtop_right.f
  refine Ev.shift (fun k => by rw [stipendtop_right.l0]) ?_
  refine Ev.pos (by simp) (Ev.pos (by decide) (Ev.pos (by simp) ?_))
  rw [show rd [x] 0 = x from rfl]
  by_cases c : x > 100000000000
  · refine (Ev.pos c Ev.now).res ?_
    symm; rw [Bool.eq_false_iff]; intro h; have := (okAmt_iff x).1 h; omega
  · refine Ev.neg c ?_
    by_cases d : x < -100000000000
    · refine (Ev.pos d Ev.now).res ?_
      symm; rw [Bool.eq_false_iff]; intro h; have := (okAmt_iff x).1 h; omega
    · refine Ev.neg d ?_
      rw [show wrap64 (0 + 1) = 1 from w64 (by decide) (by decide)]
      refine Ev.shift (fun k => by rw [stipendtop_right.l0]) ?_
      exact (Ev.neg (by simp) Ev.now).res ((okAmt_iff x).2 (by omega)).symm

theorem wparts_l1_ev (x mode : Int) (hx : okAmt x = true) (hm : 1 ≤ mode ∧ mode ≤ 6) (w : List Int) (hw : ∀ a ∈ w, 0 ≤ a ∧ a ≤ 10000) (hwl : w.length ≤ 30) (hw0 : 0 < w.length) (hs : sumZ w = 10000) :
    ∀ (t : List Int) (i : Nat) (al co : Int), w.drop i = t → i ≤ w.length → al = x * sumZ (w.take i) → -9999 * (i : Int) ≤ 10000 * co - al → 10000 * co - al ≤ 9999 * (i : Int) →
    Ev (fun k => stipendtop_WholeParts.l1 k x w mode al co (spreadOf x w) w (w.length : Int) (i : Int)) true
  | [], i, al, co, h, hi, ha, hc1, hc2 => by
    have hx' := (okAmt_iff x).1 hx
    have hi2 : w.length ≤ i := by simpa using h
    rw [List.take_of_length_le hi2, hs] at ha
    have hof : Ev (fun k => frac_Of.f k x) (x * 10000, 0) := by
      unfold frac_Of.f
      refine Ev.bind (mright_ev [x] (by simp)) (Ev.pos (by simp [hx]) ?_)
      rw [w64 (by omega) (by omega)]
      exact Ev.now
    have hsum : Ev (fun k => money_Sum.f k (spreadOf x w)) (x, 0) := by
      refine (sum_ev _ (by rw [spread_len]; omega)).res ?_
      have hss := spread_sum x w (by omega)
      have hpn : ∀ y ∈ partsOf (x.natAbs : Int) w, 0 ≤ y := by
        intro y hy
        obtain ⟨j, hj⟩ := List.mem_iff_getElem?.1 hy
        have hjl : j < w.length := by have := (List.getElem?_eq_some_iff.1 hj).1; rwa [parts_len] at this
        obtain ⟨p, hp, hp2⟩ := parts_at_ex (x.natAbs : Int) w j w[j] (List.getElem?_eq_getElem hjl)
        rw [hj] at hp
        injection hp with hp
        subst hp
        have := Int.ediv_nonneg (Int.mul_nonneg (show (0 : Int) ≤ x.natAbs by omega) (hw w[j] (List.getElem_mem hjl)).1) (show (0 : Int) ≤ sumZ w by omega)
        omega
      have := sum_same (decide (x < 0)) (spreadOf x w) 0 (fun y hy => by
        unfold spreadOf at hy
        by_cases c : x < 0
        · rw [if_pos c] at hy
          obtain ⟨z, hz, rfl⟩ := List.mem_map.1 hy
          have := hpn z hz
          simp [c]; omega
        · rw [if_neg c] at hy
          have := hpn y hy
          simp [c]; omega) (by decide) (by rw [hss, Int.zero_add]; exact hx) (by split <;> decide)
      rw [this, hss, Int.zero_add]
    refine Ev.shift (fun k => by rw [stipendtop_WholeParts.l1]) ?_
    refine Ev.neg (by omega) (Ev.bind hof (Ev.bind hsum (Ev.pos rfl (Ev.pos rfl (Ev.pos ha (Ev.pos rfl ?_))))))
    have hil : i = w.length := by omega
    rw [w64 (x := co - x) (by omega) (by omega), w64 (x := x - co) (by omega) (by omega)]
    exact Ev.pos (by omega) (Ev.const (by rw [decide_eq_true (by omega)]))
  | r :: t, i, al, co, h, hi, ha, hc1, hc2 => by
    obtain ⟨h1, h2, h3⟩ := drop_cons_get h
    have hx' := (okAmt_iff x).1 hx
    have hr := hw r (List.mem_of_getElem? h1)
    obtain ⟨p0, p1⟩ := prod_b x r hx hr
    obtain ⟨c, hc, hcb⟩ := take_ev x r mode hx hr hm
    have htk : w.take (i + 1) = w.take i ++ [r] := by rw [List.take_add_one, h1]; rfl
    have hti : 0 ≤ sumZ (w.take i) ∧ sumZ (w.take i) + r ≤ 10000 := by
      have g1 := sumZ_nonneg (w.take i) (fun y hy => (hw y (List.mem_of_mem_take hy)).1)
      have g2 := sumZ_nonneg (w.drop (i + 1)) (fun y hy => (hw y (List.mem_of_mem_drop hy)).1)
      have e : sumZ w = sumZ (w.take (i + 1)) + sumZ (w.drop (i + 1)) := by rw [← sumZ_append, List.take_append_drop]
      rw [htk, sumZ_append] at e
      simp [sumZ] at e
      omega
    obtain ⟨q0, q1⟩ := prod_b x (sumZ (w.take i)) hx ⟨hti.1, by omega⟩
    rw [← ha] at q0 q1
    -- the part of the spread
    obtain ⟨p, hp, hpq⟩ := parts_at_ex (x.natAbs : Int) w i r h1
    rw [hs] at hpq
    obtain ⟨sp, hsp, hnear⟩ : ∃ sp, (spreadOf x w)[i]? = some sp ∧ (sp - c ≤ 1 ∧ -1 ≤ sp - c) := by
      unfold spreadOf
      by_cases cx : x < 0
      · rw [if_pos cx]
        exact ⟨-p, by rw [List.getElem?_map, hp]; rfl, near x r (-p) c (.inl ⟨cx, p, rfl, hpq⟩) hcb⟩
      · rw [if_neg cx]
        exact ⟨p, hp, near x r p c (.inr ⟨by omega, hpq⟩) hcb⟩
    have hcbd : -9999 ≤ 10000 * c - x * r ∧ 10000 * c - x * r ≤ 9999 := by
      generalize x * r = y at hcb
      omega
    refine Ev.shift (fun k => by rw [stipendtop_WholeParts.l1]) ?_
    refine Ev.pos (by omega) (Ev.pos (by omega) (Ev.pos (by omega) ?_))
    rw [rdi h1]
    refine Ev.bind (part_ev x r hx hr) (Ev.bind hc (Ev.pos rfl ?_))
    refine Ev.shift (fun k => by rw [stipendtop_WholeParts.j5]) ?_
    refine Ev.neg (by simp) (Ev.pos (by omega) (Ev.pos (by rw [spread_len]; omega) ?_))
    rw [rdi hsp, w64 (x := sp - c) (by omega) (by omega)]
    refine Ev.neg (by omega) (Ev.neg (by omega) ?_)
    rw [show wrap64 ((i : Int) + 1) = ((i + 1 : Nat) : Int) by rw [w64 (by omega) (by omega)]; rfl, w64 (x := al + x * r) (by omega) (by omega), w64 (x := co + c) (by omega) (by omega)]
    refine wparts_l1_ev x mode hx hm w hw hwl hw0 hs t (i + 1) (al + x * r) (co + c) h2 (by omega) ?_ (by omega) (by omega)
    rw [htk, sumZ_append, Int.mul_add, ← ha]
    simp [sumZ]

theorem wparts_l0_ev (x mode : Int) (hx : okAmt x = true) (hm : 1 ≤ mode ∧ mode ≤ 6) (w : List Int) (hwl : w.length ≤ 30) (hw0 : 0 < w.length) : ∀ (t : List Int) (i : Nat) (s : Int), w.drop i = t → i ≤ w.length → (∀ a ∈ w.take i, 0 ≤ a ∧ a ≤ 10000) → s = sumZ (w.take i) →
    Ev (fun k => stipendtop_WholeParts.l0 k x w mode s (w.take i) w (w.length : Int) (i : Int)) true
  | [], i, s, h, hi, hok, hs => by
    have hi2 : w.length ≤ i := by simpa using h
    rw [List.take_of_length_le hi2] at hok hs ⊢
    refine Ev.shift (fun k => by rw [stipendtop_WholeParts.l0]) ?_
    refine Ev.neg (by omega) ?_
    by_cases c : s = 10000
    · refine Ev.pos c ?_
      have hsp := spread_ev x w (by omega)
      have e : (if okAmt x = true then (if w.length = 0 ∨ 64 < w.length then (([] : List Int), (2 : Int)) else spreadsOf x w) else ([], 10)) = (spreadOf x w, 0) := by
        rw [if_pos hx, if_neg (by omega)]
        unfold spreadsOf
        rw [if_pos (List.all_eq_true.2 fun a ha => (okW_iff a).2 (by have := hok a ha; omega)), if_neg (by omega)]
      rw [e] at hsp
      refine Ev.bind hsp (Ev.pos rfl ?_)
      refine Ev.shift (fun k => by rw [stipendtop_WholeParts.j3]) ?_
      refine Ev.neg (by rw [spread_len]; simp) ?_
      exact wparts_l1_ev x mode hx hm w hok hwl hw0 (by omega) w 0 0 0 rfl (Nat.zero_le _) (by simp [sumZ]) (by decide) (by decide)
    · exact Ev.neg c Ev.now
  | a :: t, i, s, h, hi, hok, hs => by
    obtain ⟨h1, h2, h3⟩ := drop_cons_get h
    have htk : w.take (i + 1) = w.take i ++ [a] := by rw [List.take_add_one, h1]; rfl
    have hsb : 0 ≤ s ∧ s ≤ 300000 := by
      rw [hs]
      have g1 := sumZ_nonneg _ (fun y hy => (hok y hy).1)
      have g2 := sumZ_le _ 10000 (fun y hy => (hok y hy).2)
      simp only [List.length_take] at g2
      omega
    refine Ev.shift (fun k => by rw [stipendtop_WholeParts.l0]) ?_
    refine Ev.pos (by omega) (Ev.pos (by omega) (Ev.pos (by omega) ?_))
    rw [rdi h1]
    by_cases c1 : a < 0
    · exact Ev.pos c1 Ev.now
    · refine Ev.neg c1 ?_
      by_cases c2 : a > 10000
      · exact Ev.pos c2 Ev.now
      · refine Ev.neg c2 (Ev.pos (by simp; omega) ?_)
        rw [show wrap64 ((i : Int) + 1) = ((i + 1 : Nat) : Int) by rw [w64 (by omega) (by omega)]; rfl, w64 (x := s + a) (by omega) (by omega), ← htk]
        refine wparts_l0_ev x mode hx hm w hwl hw0 t (i + 1) (s + a) h2 (by omega) (fun y hy => ?_) ?_
        · rw [htk] at hy
          rcases List.mem_append.1 hy with hy | hy
          · exact hok y hy
          · simp at hy; subst hy; omega
        · rw [htk, sumZ_append, ← hs]
          simp [sumZ]

theorem wholeParts_true (x : Int) (w : List Int) (mode : Int) (_g : (Lit.int .i64 x).wf = true) (_g1 : okL okI w) (_g2 : (Lit.int .i64 mode).wf = true) : ∃ k, stipendtop_WholeParts.f k x w mode = some true := by
  apply Ev.get
  unfold stipendtop_WholeParts.f
  have ht : Ev (fun k => frac_Take.f k 200 5000 4) (100, 0) := Ev.of_mono (frac_Take.mono _ _ _) (k := 40) (by kernel_rfl)
  refine Ev.bind ht (Ev.pos rfl (Ev.pos rfl (Ev.bindc (text_f 100 (by decide) (by decide)) ?_)))
  have e : ((⟨(textOf 100).toArray⟩ : ByteArray).toList != ([49, 46, 48, 48] : List UInt8)) = false := by
    rw [show (⟨(textOf 100).toArray⟩ : ByteArray).toList = textOf 100 from bs_toList _]
    unfold textOf
    rw [show ((100 : Int).natAbs / 100) = 1 from rfl, dec_small 1 (by decide)]
    decide
  rw [e]
  refine Ev.shift (fun k => by rw [stipendtop_WholeParts.j0]) ?_
  refine Ev.neg (by decide) (Ev.bind (okAmt_right x) ?_)
  have hj : Ev (fun k => stipendtop_WholeParts.j1 k x w mode true) true := by
    refine Ev.shift (fun k => by rw [stipendtop_WholeParts.j1]) ?_
    exact Ev.pos rfl Ev.now
  by_cases hx : okAmt x = true
  · refine Ev.pos hx ?_
    by_cases c0 : w.length = 0
    · exact Ev.pos (by omega) hj
    · refine Ev.neg (by omega) ?_
      by_cases c1 : w.length > 30
      · exact Ev.pos (by omega) hj
      · refine Ev.neg (by omega) ?_
        by_cases c2 : mode < 1
        · exact Ev.pos c2 hj
        · refine Ev.neg c2 ?_
          by_cases c3 : mode > 6
          · rw [decide_eq_true c3]; exact hj
          · rw [decide_eq_false c3]
            refine Ev.shift (fun k => by rw [stipendtop_WholeParts.j1]) ?_
            refine Ev.neg (by decide) ?_
            exact wparts_l0_ev x mode hx (by omega) w (by omega) (by omega) w 0 0 rfl (Nat.zero_le _) (by simp) (by simp [sumZ])
  · exact Ev.neg hx hj
end Go.Proofs.YtmocphafkimdpaaDoor.P
