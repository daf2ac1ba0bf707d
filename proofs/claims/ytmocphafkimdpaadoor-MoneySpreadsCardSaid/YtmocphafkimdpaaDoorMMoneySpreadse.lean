/- A part of the proof of MoneySpreads's card: 'MoneySpreads' answers true for every input (the conditions: those of the given statement alone). Merged by a program (wip/merge.py) out of: HMoneySpreads. -/
import Derived.Test.YtmocphafkimdpaaDoorMMoneySpreadsc
import Derived.Test.YtmocphafkimdpaaDoorBMoneyj
import Derived.Test.YtmocphafkimdpaaDoorMMoneySpreadsd

/- MoneySpreads answers true for every amount and all weights: the plain law. -/
namespace Go.Proofs.YtmocphafkimdpaaDoor.P
open Go.RowKit Go.Sort Go.Proofs.YtmocphafkimdpaaDoorW.PrintWords Go.Proofs.YtmocphafkimdpaaDoorW.PrintLast Go.Proofs.YtmocphafkimdpaaDoorW.PrintMore
set_option linter.unusedVariables false
set_option linter.unusedSimpArgs false

theorem sumZ_mem_le (w : List Int) (h : ∀ a ∈ w, 0 ≤ a) : ∀ a ∈ w, a ≤ sumZ w := by
 induction w with
 | nil => intro a ha; cases ha
 | cons b t ih =>
  intro a ha
  have h0 := sumZ_nonneg t (fun y hy => h y (List.mem_cons_of_mem _ hy))
  have h1 := h b (by simp)
  simp only [sumZ]
  rcases List.mem_cons.1 ha with e | ha
  ·omega
  ·have := ih (fun y hy => h y (List.mem_cons_of_mem _ hy)) a ha; omega

/-- A part is at most one from its own. -/
theorem part_near {x A w p : Int} (hA : 0 < A) (hw : 0 ≤ w) (hwA : w ≤ A) (hx : (x.natAbs : Int) ≤ 100000000000) (hp : p = (x.natAbs : Int) * w / A ∨ p = (x.natAbs : Int) * w / A + 1) :
  (-A ≤ p * A - (x.natAbs : Int) * w ∧ p * A - (x.natAbs : Int) * w ≤ A) ∧ 0 ≤ p ∧ p ≤ 100000000001 := by
 have h0 : 0 ≤ (x.natAbs : Int) * w := Int.mul_nonneg (by omega) hw
 have h1 : (x.natAbs : Int) * w ≤ (x.natAbs : Int) * A := Int.mul_le_mul_of_nonneg_left hwA (by omega)
 have hd : (x.natAbs : Int) * w / A ≤ (x.natAbs : Int) := Int.ediv_le_of_le_mul hA h1
 have hd0 : 0 ≤ (x.natAbs : Int) * w / A := Int.ediv_nonneg h0 (by omega)
 have e1 := Int.emod_add_mul_ediv ((x.natAbs : Int) * w) A
 have e2 := Int.emod_nonneg ((x.natAbs : Int) * w) (by omega : A ≠ 0)
 have e3 := Int.emod_lt_of_pos ((x.natAbs : Int) * w) hA
 generalize (x.natAbs : Int) * w = P at *
 generalize P / A = q at *
 generalize P % A = r at *
 rw [Int.mul_comm A q] at e1
 generalize hqA : q * A = Q at *
 have ha : (q + 1) * A = Q + A := by rw [Int.add_mul, hqA, Int.one_mul]
 rcases hp with rfl | rfl
 ·rw [hqA]; omega
 ·rw [ha]; omega

theorem spread_at (x : Int) (w : List Int) (i : Nat) (a : Int) (hi : w[i]? = some a) : ∃ p, (spreadOf x w)[i]? = some p ∧ ∃ m, (m = (x.natAbs : Int) * a / sumZ w ∨ m = (x.natAbs : Int) * a / sumZ w + 1) ∧ p = if x < 0 then -m else m := by
 obtain ⟨m, hm, hm2⟩ := parts_at_ex (x.natAbs : Int) w i a hi
 unfold spreadOf
 by_cases c : x < 0
 ·rw [if_pos c]
  exact ⟨-m, by rw [List.getElem?_map, hm]; rfl, m, hm2, by rw [if_pos c]⟩
 ·rw [if_neg c]
  exact ⟨m, hm, m, hm2, by rw [if_neg c]⟩

section
variable (x : Int) (w : List Int) (hx : okAmt x = true) (hw : ∀ a ∈ w, 0 ≤ a ∧ a ≤ 1048576) (hwl : w.length ≤ 64) (ha0 : 0 < sumZ w)
include hx hw hwl ha0

theorem far_ok (i : Nat) (a p : Int) (hi : w[i]? = some a) (hp : (spreadOf x w)[i]? = some p) : math_Abs.f x a (sumZ w) p = some false ∧ -100000000001 ≤ p ∧ p ≤ 100000000001 := by
 have hx' := (okAmt_iff x).1 hx
 have hwa := hw a (List.mem_of_getElem? hi)
 have hle := sumZ_mem_le w (fun y hy => (hw y hy).1) a (List.mem_of_getElem? hi)
 have hall : sumZ w ≤ 67108864 := by
  have := sumZ_le w 1048576 (fun y hy => (hw y hy).2)
  omega
 obtain ⟨p', hp', m, hm, hpm⟩ := spread_at x w i a hi
 rw [hp] at hp'
 injection hp' with hp'
 subst hp'
 obtain ⟨⟨g1, g2⟩, g3, g4⟩ := part_near (x := x) ha0 hwa.1 hle (by omega) hm
 by_cases c : x < 0
 ·rw [if_pos c] at hpm
  have e1 : p * sumZ w = -(m * sumZ w) := by rw [hpm, Int.neg_mul]
  have e2 : x * a = -((x.natAbs : Int) * a) := by rw [← Int.neg_mul]; congr 1; omega
  refine ⟨math_Abs_ok x a (sumZ w) p (by omega) hwa.1 hwa.2 hle ha0 hall ?_ ?_ (by omega), by omega, by omega⟩
  ·rw [e1, e2]; omega
  ·rw [e1, e2]; omega
 ·rw [if_neg c] at hpm
  have e1 : p * sumZ w = m * sumZ w := by rw [hpm]
  have e2 : x * a = (x.natAbs : Int) * a := by congr 1; omega
  refine ⟨math_Abs_ok x a (sumZ w) p (by omega) hwa.1 hwa.2 hle ha0 hall ?_ ?_ (by omega), by omega, by omega⟩
  ·rw [e1, e2]; omega
  ·rw [e1, e2]; omega

theorem ms_l2 (l : List Int) (hl : l.length ≤ 64) : ∀ (d i : Nat), i + d = l.length → Ev (fun k => stipendlaw01_MoneySpreads.l2 k l l (l.length : Int) (i : Int)) true := by
 have _ := hx; have _ := hw; have _ := hwl; have _ := ha0
 intro d
 induction d with
 | zero =>
  intro i hi
  refine Ev.shift (fun k => by rw [stipendlaw01_MoneySpreads.l2]) ?_
  exact Ev.neg (by omega) Ev.now
 | succ d ih =>
  intro i hi
  refine Ev.shift (fun k => by rw [stipendlaw01_MoneySpreads.l2]) ?_
  refine Ev.pos (by omega) (Ev.pos (by omega) (Ev.pos (by omega) (Ev.pos (by omega) (Ev.pos rfl ?_))))
  rw [show wrap64 ((i : Int) + 1) = ((i + 1 : Nat) : Int) by rw [w64 (by omega) (by omega)]; rfl]
  exact ih (i + 1) (by omega)

theorem ms_j4 (b : Bool) (hb : b = false → -1000000 ≤ x ∧ x ≤ 1000000) : Ev (fun k => stipendlaw01_MoneySpreads.j4 k x w (spreadOf x w) b) true := by
 refine Ev.shift (fun k => by rw [stipendlaw01_MoneySpreads.j4]) ?_
 cases b with
 | true => exact Ev.pos rfl Ev.now
 | false =>
  have hxx := hb rfl
  refine Ev.neg (by decide) (Ev.bind (ref_spread_ev x w (x.natAbs : Int) (sumZ w) rfl (by omega) hw hwl ha0 rfl) ?_)
  exact ms_l2 x w hx hw hwl ha0 (spreadOf x w) (by rw [spread_len]; omega) (spreadOf x w).length 0 (by omega)

theorem ms_l1 : ∀ (u : List Int) (i : Nat) (s : Int), (spreadOf x w).drop i = u → i ≤ w.length → s = sumZ ((spreadOf x w).take i) → Ev (fun k => stipendlaw01_MoneySpreads.l1 k x w (spreadOf x w) (sumZ w) s (spreadOf x w) ((spreadOf x w).length : Int) (i : Int)) true
 | [], i, s, h, hi, hs => by
  have hsl : (spreadOf x w).length = w.length := spread_len x w
  have hi2 : (spreadOf x w).length ≤ i := by simpa using h
  rw [List.take_of_length_le hi2, spread_sum x w ha0] at hs
  refine Ev.shift (fun k => by rw [stipendlaw01_MoneySpreads.l1]) ?_
  refine Ev.neg (by omega) (Ev.pos hs ?_)
  by_cases c : x > 1000000
  ·exact Ev.pos c (ms_j4 x w hx hw hwl ha0 true (fun h => by cases h))
  ·refine Ev.neg c (ms_j4 x w hx hw hwl ha0 _ (fun h => ?_))
   have := of_decide_eq_false h
   omega
 | p :: u, i, s, h, hi, hs => by
  have hsl : (spreadOf x w).length = w.length := spread_len x w
  obtain ⟨h1, h2, h3⟩ := drop_cons_get h
  have hiw : i < w.length := by omega
  have hwi : w[i]? = some w[i] := List.getElem?_eq_getElem hiw
  have htk : (spreadOf x w).take (i + 1) = (spreadOf x w).take i ++ [p] := by rw [List.take_add_one, h1]; rfl
  obtain ⟨f1, f2, f3⟩ := far_ok x w hx hw hwl ha0 i w[i] p hwi h1
  have hpb : ∀ y ∈ (spreadOf x w).take i, -100000000001 ≤ y ∧ y ≤ 100000000001 := fun y hy => by
   obtain ⟨j, hj⟩ := List.mem_iff_getElem?.1 (List.mem_of_mem_take hy)
   have hjl : j < w.length := by have := (List.getElem?_eq_some_iff.1 hj).1; omega
   exact (far_ok x w hx hw hwl ha0 j w[j] y (List.getElem?_eq_getElem hjl) hj).2
  have hs1 : s ≤ 100000000001 * 64 := by
   have := sumZ_le _ 100000000001 (fun y hy => (hpb y hy).2)
   rw [List.length_take] at this
   rw [hs]
   refine Int.le_trans this ?_
   have : ((min i (spreadOf x w).length : Nat) : Int) ≤ 64 := by omega
   omega
  have hs2 : -(100000000001 * 64) ≤ s := by
   have := sumZ_le (((spreadOf x w).take i).map fun y => -y) 100000000001 (fun y hy => by
    obtain ⟨z, hz, rfl⟩ := List.mem_map.1 hy
    have := hpb z hz
    omega)
   rw [sumZ_neg, List.length_map, List.length_take, ← hs] at this
   have h64 : ((min i (spreadOf x w).length : Nat) : Int) ≤ 64 := by omega
   omega
  refine Ev.shift (fun k => by rw [stipendlaw01_MoneySpreads.l1]) ?_
  refine Ev.pos (by omega) (Ev.pos (by omega) (Ev.pos (by omega) (Ev.pos (by omega) ?_)))
  rw [rdi h1, rdi hwi]
  refine Ev.bindc f1 (Ev.neg (by decide) ?_)
  rw [w64 (x := s + p) (by omega) (by omega), show wrap64 ((i : Int) + 1) = ((i + 1 : Nat) : Int) by rw [w64 (by omega) (by omega)]; rfl]
  refine ms_l1 u (i + 1) (s + p) h2 (by omega) ?_
  rw [htk, sumZ_append, ← hs]
  simp [sumZ]
end

theorem ms_l0 (x : Int) (hx : okAmt x = true) (w : List Int) (hwl : w.length ≤ 64) (hw0 : 0 < w.length) : ∀ (t : List Int) (i : Nat) (s : Int), w.drop i = t → i ≤ w.length → (∀ a ∈ w.take i, okW a = true) → s = sumZ (w.take i) →
  Ev (fun k => stipendlaw01_MoneySpreads.l0 k x w (spreadsOf x w).1 (spreadsOf x w).2 s w (w.length : Int) (i : Int)) true
 | [], i, s, h, hi, hok, hs => by
  have hi2 : w.length ≤ i := by simpa using h
  rw [List.take_of_length_le hi2] at hok hs
  have hall : w.all okW = true := List.all_eq_true.2 hok
  have hok' : ∀ a ∈ w, 0 ≤ a ∧ a ≤ 1048576 := fun a ha => (okW_iff a).1 (hok a ha)
  have h0 := sumZ_nonneg w (fun a ha => (hok' a ha).1)
  refine Ev.shift (fun k => by rw [stipendlaw01_MoneySpreads.l0]) ?_
  refine Ev.neg (by omega) ?_
  by_cases c : sumZ w = 0
  ·have e : spreadsOf x w = ([], 1) := by unfold spreadsOf; rw [if_pos hall, if_pos c]
   rw [e]
   exact Ev.pos (by omega) (Ev.pos rfl (Ev.const rfl))
  ·have e : spreadsOf x w = (spreadOf x w, 0) := by unfold spreadsOf; rw [if_pos hall, if_neg c]
   rw [e]
   refine Ev.neg (by omega) (Ev.pos rfl ?_)
   have hne : (((spreadOf x w).length : Int) != (w.length : Int)) = false := by rw [spread_len]; simp
   show Ev (fun k => stipendlaw01_MoneySpreads.j2 k x w (spreadOf x w) s (((spreadOf x w).length : Int) != (w.length : Int))) true
   rw [hne]
   refine Ev.shift (fun k => by rw [stipendlaw01_MoneySpreads.j2]) ?_
   refine Ev.neg (by decide) ?_
   rw [hs]
   exact ms_l1 x w hx hok' hwl (by omega) (spreadOf x w) 0 0 rfl (Nat.zero_le _) (by simp [sumZ])
 | a :: t, i, s, h, hi, hok, hs => by
  obtain ⟨h1, h2, h3⟩ := drop_cons_get h
  have htk : w.take (i + 1) = w.take i ++ [a] := by rw [List.take_add_one, h1]; rfl
  have hsb : 0 ≤ s ∧ s ≤ 67108864 := by
   rw [hs]
   have hb : ∀ y ∈ w.take i, 0 ≤ y ∧ y ≤ 1048576 := fun y hy => (okW_iff y).1 (hok y hy)
   have g1 := sumZ_nonneg _ (fun y hy => (hb y hy).1)
   have g2 := sumZ_le _ 1048576 (fun y hy => (hb y hy).2)
   simp only [List.length_take] at g2
   omega
  have hbad : okW a = false → spreadsOf x w = ([], 1) := by
   intro hb
   unfold spreadsOf
   rw [if_neg]
   intro hall
   have := List.all_eq_true.1 hall a (List.mem_of_getElem? h1)
   rw [hb] at this
   cases this
  refine Ev.shift (fun k => by rw [stipendlaw01_MoneySpreads.l0]) ?_
  refine Ev.pos (by omega) (Ev.pos (by omega) (Ev.pos (by omega) ?_))
  rw [rdi h1]
  by_cases c1 : a < 0
  ·rw [hbad (Bool.eq_false_iff.2 fun h => by have := (okW_iff a).1 h; omega)]
   exact Ev.pos c1 (Ev.pos rfl (Ev.const rfl))
  ·refine Ev.neg c1 ?_
   by_cases c2 : a > 1048576
   ·rw [hbad (Bool.eq_false_iff.2 fun h => by have := (okW_iff a).1 h; omega)]
    exact Ev.pos c2 (Ev.pos rfl (Ev.const rfl))
   ·refine Ev.neg c2 ?_
    rw [show wrap64 ((i : Int) + 1) = ((i + 1 : Nat) : Int) by rw [w64 (by omega) (by omega)]; rfl, w64 (x := s + a) (by omega) (by omega)]
    refine ms_l0 x hx w hwl hw0 t (i + 1) (s + a) h2 (by omega) (fun y hy => ?_) ?_
    ·rw [htk] at hy
     rcases List.mem_append.1 hy with hy | hy
     ·exact hok y hy
     ·simp at hy; subst hy; exact (okW_iff _).2 (by omega)
    ·rw [htk, sumZ_append, ← hs]
     simp [sumZ]

theorem moneySpreads_true (x : Int) (w : List Int) (gx : (Lit.int .i64 x).wf = true) (g : okL okI w) : ∃ k, stipendlaw01_MoneySpreads.f k x w = some true := by
 apply Ev.get
 unfold stipendlaw01_MoneySpreads.f
 refine Ev.bind counts_ev (Ev.pos rfl ?_)
 by_cases c : w.length > 100
 ·exact Ev.pos (by omega) Ev.now
 refine Ev.neg (by omega) (Ev.bind (spread_ev x w (by omega)) (Ev.bindc (refRight_f x) ?_))
 by_cases hx : okAmt x = true
 ·rw [if_pos hx]
  refine Ev.pos hx ?_
  have hbad : (w.length = 0 ∨ 64 < w.length) → Ev (fun k => stipendlaw01_MoneySpreads.j0 k x w [] 2 true) true := fun _ => by
   refine Ev.shift (fun k => by rw [stipendlaw01_MoneySpreads.j0]) ?_
   exact Ev.pos rfl (Ev.pos rfl (Ev.const rfl))
  by_cases c0 : w.length = 0
  ·rw [if_pos (.inl c0)]
   exact Ev.pos (by omega) (hbad (.inl c0))
  ·refine Ev.neg (by omega) ?_
   by_cases c1 : 64 < w.length
   ·rw [if_pos (.inr c1), decide_eq_true (show (w.length : Int) > 64 by omega)]
    exact hbad (.inr c1)
   ·rw [if_neg (fun h => h.elim c0 c1), decide_eq_false (show ¬(w.length : Int) > 64 by omega)]
    refine Ev.shift (fun k => by rw [stipendlaw01_MoneySpreads.j0]) ?_
    refine Ev.neg (by decide) ?_
    exact ms_l0 x hx w (by omega) (by omega) w 0 0 rfl (Nat.zero_le _) (by simp) (by simp [sumZ])
 ·rw [if_neg hx]
  exact Ev.neg hx (Ev.pos rfl (Ev.const rfl))
end Go.Proofs.YtmocphafkimdpaaDoor.P
