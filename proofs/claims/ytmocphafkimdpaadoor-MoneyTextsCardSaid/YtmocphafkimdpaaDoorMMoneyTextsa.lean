/- A part of the proof of MoneyTexts's card: 'MoneyTexts' answers true for every input (the conditions: those of the given statement alone). Merged by a program (wip/merge.py) out of: GPText, Pf96, Pf58, Pf13, HMoneyTexts. -/
import Derived.Test.YtmocphafkimdpaaDoorBMoneyj
import Derived.Test.YtmocphafkimdpaaDoorBMoneya
import Derived.Test.YtmocphafkimdpaaDoorBMoneyg
import Derived.Test.YtmocphafkimdpaaDoorBMoneyi

/- What money.Text writes, money.Parse reads. -/
namespace Go.Proofs.YtmocphafkimdpaaDoor.P
open Go.RowKit Go.Proofs.YtmocphafkimdpaaDoorW.PrintWords Go.Proofs.YtmocphafkimdpaaDoorW.PrintLast Go.Proofs.YtmocphafkimdpaaDoorW.PrintMore
set_option linter.unusedVariables false

theorem dgN_all : ∀ d : Fin 10, (UInt8.ofNat (48 + d.val)).toNat = 48 + d.val := by decide
theorem dgN (d : Nat) (h : d < 10) : (UInt8.ofNat (48 + d)).toNat = 48 + d := dgN_all ⟨d, h⟩
theorem dig_dg (d : Nat) (h : d < 10) : dig (UInt8.ofNat (48 + d)) = true := by
  rw [dig_iff, dgN d h]; omega
theorem dec_step (q : Nat) (h : ¬q < 10) : Lib.decDigits q = Lib.decDigits (q / 10) ++ [UInt8.ofNat (48 + q % 10)] := by
  rw [Lib.decDigits, dif_neg h]
theorem valFrom_snoc (l : List UInt8) (c : UInt8) : ∀ n, valFrom n (l ++ [c]) = 10 * valFrom n l + (c.toNat - 48) := by
  induction l with
  | nil => intro n; rfl
  | cons a t ih => intro n; exact ih _
theorem dec_facts (q : Nat) : (Lib.decDigits q).all dig = true ∧ valFrom 0 (Lib.decDigits q) = q ∧ (0 < q → ∃ c t, Lib.decDigits q = c :: t ∧ c.toNat ≠ 48) ∧ Lib.decDigits q ≠ [] := by
  induction q using Nat.strongRecOn with
  | _ q ih =>
    by_cases h : q < 10
    · rw [dec_small q h]
      refine ⟨by simp only [List.all_cons, List.all_nil, Bool.and_true]; exact dig_dg q h, ?_, fun h0 => ⟨_, [], rfl, by rw [dgN q h]; omega⟩, by simp⟩
      show 10 * 0 + ((UInt8.ofNat (48 + q)).toNat - 48) = q
      rw [dgN q h]; omega
    · obtain ⟨h1, h2, h3, h4⟩ := ih (q / 10) (by omega)
      have hm : q % 10 < 10 := Nat.mod_lt _ (by decide)
      rw [dec_step q h]
      refine ⟨by simp only [List.all_append, h1, Bool.true_and, List.all_cons, List.all_nil, Bool.and_true]; exact dig_dg _ hm, ?_, fun _ => ?_, by simp⟩
      · rw [valFrom_snoc, h2, dgN _ hm]; omega
      · obtain ⟨c, t, e, hc⟩ := h3 (by omega)
        exact ⟨c, t ++ [_], by rw [e]; rfl, hc⟩
theorem dec_len_le : ∀ (m q : Nat), q < 10 ^ (m + 1) → (Lib.decDigits q).length ≤ m + 1 := by
  intro m
  induction m with
  | zero =>
    intro q h
    rw [dec_small q (by simpa using h)]
    simp
  | succ m ih =>
    intro q h
    by_cases h1 : q < 10
    · rw [dec_small q h1]; simp
    · rw [dec_step q h1]
      have := ih (q / 10) (by rw [Nat.pow_succ] at h; omega)
      simp
      omega
theorem wholeOk_head (c : UInt8) (t : List UInt8) (h : c.toNat ≠ 48) : wholeOk (c :: t) = true := by
  cases t <;> simp [wholeOk, h]
theorem dec_whole (q : Nat) : wholeOk (Lib.decDigits q) = true := by
  by_cases h : q < 10
  · rw [dec_small q h]; rfl
  · obtain ⟨_, _, h3, _⟩ := dec_facts q
    obtain ⟨c, t, e, hc⟩ := h3 (by omega)
    rw [e]; exact wholeOk_head c t hc

/-- The digits of a text, without its sign. -/
def bodyText (n : Nat) : List UInt8 := Lib.decDigits (n / 100) ++ [46, UInt8.ofNat (48 + n % 100 / 10), UInt8.ofNat (48 + n % 10)]
theorem textOf_body (x : Int) : textOf x = (if x < 0 then [45] else []) ++ bodyText x.natAbs := by
  unfold textOf bodyText
  simp
theorem part_text (neg : Bool) (n : Nat) (hn : neg = true → 0 < n) : partOf neg (Lib.decDigits (n / 100)) (n % 100) = if okAmt (sgn neg * (n : Int)) = true then (sgn neg * (n : Int), 0) else (0, 10) := by
  obtain ⟨h1, h2, h3, h4⟩ := dec_facts (n / 100)
  unfold partOf
  rw [h1, h2, dec_whole, Bool.true_and, Bool.true_and]
  rw [show n / 100 * 100 + n % 100 = n by omega]
  by_cases c : 12 < (Lib.decDigits (n / 100)).length
  · have hq : ¬n / 100 < 10 ^ 12 := fun h => by have := dec_len_le 11 (n / 100) h; omega
    have hw : wholeOk ((Lib.decDigits (n / 100)).take 12) = true := by
      obtain ⟨c, t, e, hc⟩ := h3 (by omega)
      rw [e]
      exact wholeOk_head c _ hc
    rw [if_pos c, if_pos hw, if_neg]
    rw [okAmt_iff]
    cases neg <;> simp [sgn] <;> omega
  · rw [if_neg c, if_pos rfl, if_neg]
    intro h
    have := hn h.1
    omega
theorem body_text (neg : Bool) (n : Nat) (h : n < 10000000000000000000) (hn : neg = true → 0 < n) : bodyOf neg (bodyText n) = if okAmt (sgn neg * (n : Int)) = true then (sgn neg * (n : Int), 0) else (0, 10) := by
  have hl := dec_len_le 16 (n / 100) (by omega)
  have hne := (dec_facts (n / 100)).2.2.2
  have hpos : 0 < (Lib.decDigits (n / 100)).length := List.length_pos_iff.2 hne
  rw [← part_text neg n hn]
  unfold bodyOf bodyText
  generalize Lib.decDigits (n / 100) = D at hl hpos ⊢
  have e1 : (D ++ [46, UInt8.ofNat (48 + n % 100 / 10), UInt8.ofNat (48 + n % 10)]).length = D.length + 3 := by simp
  rw [e1]
  have g0 : (D ++ [46, UInt8.ofNat (48 + n % 100 / 10), UInt8.ofNat (48 + n % 10)])[D.length + 3 - 3]? = some 46 := by
    rw [show D.length + 3 - 3 = D.length by omega]; simp
  have g1 : (D ++ [46, UInt8.ofNat (48 + n % 100 / 10), UInt8.ofNat (48 + n % 10)]).getD (D.length + 3 - 2) 0 = UInt8.ofNat (48 + n % 100 / 10) := by
    rw [show D.length + 3 - 2 = D.length + 1 by omega, List.getD_eq_getElem?_getD, List.getElem?_append_right (by omega), show D.length + 1 - D.length = 1 by omega]; rfl
  have g2 : (D ++ [46, UInt8.ofNat (48 + n % 100 / 10), UInt8.ofNat (48 + n % 10)]).getD (D.length + 3 - 1) 0 = UInt8.ofNat (48 + n % 10) := by
    rw [show D.length + 3 - 1 = D.length + 2 by omega, List.getD_eq_getElem?_getD, List.getElem?_append_right (by omega), show D.length + 2 - D.length = 2 by omega]; rfl
  rw [g1, g2, if_neg (by omega), if_pos ⟨by omega, g0⟩, if_pos ⟨dig_dg _ (by omega), dig_dg _ (by omega)⟩, dgN _ (by omega), dgN _ (by omega)]
  rw [show D.length + 3 - 3 = D.length by omega, List.take_left' rfl]
  congr 1
  omega
theorem parse_text (x : Int) (h0 : -9223372036854775808 ≤ x) (h1 : x ≤ 9223372036854775807) : parseOf (textOf x) = if okAmt x = true then (x, 0) else (0, 10) := by
  rw [textOf_body]
  by_cases hx : x < 0
  · rw [if_pos hx]
    show bodyOf true (bodyText x.natAbs) = _
    rw [body_text true x.natAbs (by omega) (fun _ => by omega)]
    rw [show sgn true * (x.natAbs : Int) = x by simp [sgn]; omega]
  · rw [if_neg hx, List.nil_append]
    have hd : ∃ c t, bodyText x.natAbs = c :: t ∧ c ≠ 45 := by
      obtain ⟨ha, _, _, hne⟩ := dec_facts (x.natAbs / 100)
      unfold bodyText
      cases e : Lib.decDigits (x.natAbs / 100) with
      | nil => exact absurd e hne
      | cons c t =>
        refine ⟨c, _, rfl, fun h => ?_⟩
        rw [e] at ha
        simp only [List.all_cons, Bool.and_eq_true] at ha
        have := (dig_iff c).1 ha.1
        rw [h] at this
        exact absurd this.1 (by decide)
    have hp : parseOf (bodyText x.natAbs) = bodyOf false (bodyText x.natAbs) := by
      obtain ⟨c, t, e, hc⟩ := hd
      rw [e]
      unfold parseOf
      split
      · rename_i h; injection h with h; exact absurd h hc
      · rfl
    rw [hp, body_text false x.natAbs (by omega) (fun h => by cases h)]
    rw [show sgn false * (x.natAbs : Int) = x by simp [sgn]; omega]
theorem text_len (x : Int) (h0 : -9223372036854775808 ≤ x) (h1 : x ≤ 9223372036854775807) : (textOf x).length ≤ 30 := by
  have := dec_len_le 16 (x.natAbs / 100) (by omega)
  rw [textOf_body]
  unfold bodyText
  split <;> simp <;> omega
end Go.Proofs.YtmocphafkimdpaaDoor.P


-- written by a program (a patched copy of the kit's print: wip/mkprint.py); Lean checks it
namespace Go.Proofs.YtmocphafkimdpaaDoor.P
open Go.RowKit Go.Proofs.YtmocphafkimdpaaDoorW.PrintWords Go.Proofs.YtmocphafkimdpaaDoorW.PrintLast Go.Proofs.YtmocphafkimdpaaDoorW.PrintMore
attribute [local go_sem] max2_int min2_int max_two min_two max_three min_three max_four min_four   -- for this text's walks alone
set_option linter.unusedVariables false
set_option linter.unusedSimpArgs false

/-! ### stipendref01_under: function 96 -/
mutual
def stipendref01_under.j0 : Nat → Int → Int → Option (ByteArray)
 | 0, _, _ => none
 | k + 1, x5, x6 => stipendref01_under.l0 k x6 (strOfNums (([46, (wrap64 (48 + (wrap64 (Int.tdiv x5 10)))) % 256, (wrap64 (48 + (Int.tmod x5 10))) % 256] : List Int)))
def stipendref01_under.l0 : Nat → Int → ByteArray → Option (ByteArray)
 | 0, _, _ => none
 | k + 1, x6, x7 => (some (([(wrap64 (48 + (Int.tmod x6 10))) % 256] : List Int) : List Int)).bind fun y552 => (if (strOfNums y552).size + x7.size ≤ 9223372036854775807 then (if (wrap64 (Int.tdiv x6 10)) = 0 then (some ((strOfNums y552) ++ x7)) else (stipendref01_under.l0 k (wrap64 (Int.tdiv x6 10)) ((strOfNums y552) ++ x7))) else (none))
end
def stipendref01_under.f (k : Nat) (a0 : Int) (a1 : Int) : Option (ByteArray) := if (wrap64 ((Int.tmod a0 100) + a1)) = 100 then (stipendref01_under.j0 k 0 (wrap64 ((wrap64 (Int.tdiv a0 100)) + 1))) else (stipendref01_under.j0 k (wrap64 ((Int.tmod a0 100) + a1)) (wrap64 (Int.tdiv a0 100)))
theorem stipendref01_under.mono_l : ∀ k, (∀ y0 y1, LeO (stipendref01_under.j0 k y0 y1) (stipendref01_under.j0 (k + 1) y0 y1)) ∧ (∀ y0 y1, LeO (stipendref01_under.l0 k y0 y1) (stipendref01_under.l0 (k + 1) y0 y1))
 | 0 => ⟨fun _ _ r h => by simp [stipendref01_under.j0] at h, fun _ _ r h => by simp [stipendref01_under.l0] at h⟩
 | k + 1 => by
  obtain ⟨ih0, ih1⟩ := stipendref01_under.mono_l k
  refine ⟨?_, ?_⟩
  ·intro y0 y1
   unfold stipendref01_under.j0
   repeat' first
   | (with_reducible exact ih0 _ _)
   | (with_reducible exact ih1 _ _)
   | (with_reducible exact LeO.refl _)
   | (with_reducible exact LeO.none _)
   | (with_reducible refine LeO.ite ?_ ?_)
   | (with_reducible refine LeO.bind ?_ (fun _ => ?_))
   | exact ih0 _ _
   | exact ih1 _ _
   | exact LeO.none _
   | refine LeO.ite ?_ ?_
   | refine LeO.bind ?_ (fun _ => ?_)
  ·intro y0 y1
   unfold stipendref01_under.l0
   repeat' first
   | (with_reducible exact ih0 _ _)
   | (with_reducible exact ih1 _ _)
   | (with_reducible exact LeO.refl _)
   | (with_reducible exact LeO.none _)
   | (with_reducible refine LeO.ite ?_ ?_)
   | (with_reducible refine LeO.bind ?_ (fun _ => ?_))
   | exact ih0 _ _
   | exact ih1 _ _
   | exact LeO.none _
   | refine LeO.ite ?_ ?_
   | refine LeO.bind ?_ (fun _ => ?_)
theorem stipendref01_under.mono : ∀ a0 a1 k, LeO (stipendref01_under.f k a0 a1) (stipendref01_under.f (k + 1) a0 a1) := by
 intro a0 a1 k
 obtain ⟨ih0, ih1⟩ := stipendref01_under.mono_l k
 unfold stipendref01_under.f
 repeat' first
   | (with_reducible exact ih0 _ _)
   | (with_reducible exact ih1 _ _)
   | (with_reducible exact LeO.refl _)
   | (with_reducible exact LeO.none _)
   | (with_reducible refine LeO.ite ?_ ?_)
   | (with_reducible refine LeO.bind ?_ (fun _ => ?_))
   | exact ih0 _ _
   | exact ih1 _ _
   | exact LeO.none _
   | refine LeO.ite ?_ ?_
   | refine LeO.bind ?_ (fun _ => ?_)
set_option maxHeartbeats 8000000 in
set_option maxRecDepth 100000 in
theorem stipendref01_under.calls (k : Nat) (a0 : Int) (a1 : Int) (r : ByteArray) (w : World) (h : stipendref01_under.f k a0 a1 = some r) :
  Calls Tryd.prog 96 #[.int .i64 a0, .int .i64 a1] w fun e w' => e = .returned (.string r) ∧ Below w.heap.size w w' := by
 have HB := Aside0.mk (Below.refl w.heap.size w)
 have H : (if (wrap64 ((Int.tmod a0 100) + a1)) = 100 then (stipendref01_under.j0 k 0 (wrap64 ((wrap64 (Int.tdiv a0 100)) + 1))) else (stipendref01_under.j0 k (wrap64 ((Int.tmod a0 100) + a1)) (wrap64 (Int.tdiv a0 100)))) = some r := h
 clear h
 have HC3 := Aside0.mk H
 clear H
 go_enter Tryd.func96, Tryd.ntmps96
 go_upto_if 15 with (fail)
 go_cut [5, 6] (fun v5 v6 wc => ∃ (kq : Nat) (x5_2 : Int) (x6_2 : Int), v5 = .int .i64 x5_2 ∧ v6 = .int .i64 x6_2 ∧ Aside0 (stipendref01_under.j0 kq x5_2 x6_2 = some r) ∧ Aside0 (kq ≤ k) ∧ Aside0 (Below w.heap.size w wc))
 case first =>
  have H := HC3.out
  clear HC3
  by_cases c4 : (wrap64 ((Int.tmod a0 100) + a1)) = 100
  ·rw [if_pos c4] at H
   have c4b0 : ((wrap64 ((Int.tmod a0 100) + a1)) == 100) = true := beq_iff_eq.mpr c4
   have c4b1 : ((wrap64 ((Int.tmod a0 100) + a1)) != 100) = false := bne_eq_false_iff_eq.mpr c4
   clear c4
   (first | rw [c4b0] | (simp only [i64_w, i32_w]; rw [c4b0]) | skip)
   have H' := Aside0.mk H
   clear H
   go_wp2
   go_meet
   case rel => exact ⟨_, (0), (wrap64 ((wrap64 (Int.tdiv a0 100)) + 1)), (by first | rfl | (simp; done) | (simp [*]; done)), (by first | rfl | (simp; done) | (simp [*]; done)), H', ⟨by first | omega | exact Nat.le_refl _⟩, ⟨by repeat (first | (with_reducible first | exact HB.out | apply below_alloc | apply pw_below_drewN | apply below_drew1) | exact HB.out)⟩⟩
  ·rw [if_neg c4] at H
   have c4b0 : ((wrap64 ((Int.tmod a0 100) + a1)) == 100) = false := beq_eq_false_iff_ne.mpr c4
   have c4b1 : ((wrap64 ((Int.tmod a0 100) + a1)) != 100) = true := bne_iff_ne.mpr c4
   (first | rw [c4b0] | (simp only [i64_w, i32_w]; rw [c4b0]) | skip)
   have H' := Aside0.mk H
   clear H
   go_wp2
   go_meet
   case rel => exact ⟨_, (wrap64 ((Int.tmod a0 100) + a1)), (wrap64 (Int.tdiv a0 100)), (by first | rfl | (simp; done) | (simp [*]; done)), (by first | rfl | (simp; done) | (simp [*]; done)), H', ⟨by first | omega | exact Nat.le_refl _⟩, ⟨by repeat (first | (with_reducible first | exact HB.out | apply below_alloc | apply pw_below_drewN | apply below_drew1) | exact HB.out)⟩⟩
 case rest =>
  clear HC3
  try clear p2
  try clear c4
  try clear c4b0
  try clear c4b1
  obtain ⟨kq, x5_2, x6_2, rfl, rfl, HA, HJ2, HB⟩ := hcut
  cases kq with
  | zero => exact absurd HA.out (by simp [stipendref01_under.j0])
  | succ kj2 =>
   have H := HA.out
   clear HA
   simp only [stipendref01_under.j0] at H
   obtain ⟨y549, hy549⟩ : ∃ y_ : List Int, y_ = (([46, (wrap64 (48 + (wrap64 (Int.tdiv x5_2 10)))) % 256, (wrap64 (48 + (Int.tmod x5_2 10))) % 256] : List Int)) := ⟨_, rfl⟩
   replace H : (stipendref01_under.l0 kj2 x6_2 (strOfNums y549)) = some r := by first | (rw [hy549]; with_reducible exact H) | (have H2_ := (Option.bind_some _ _).symm.trans H; rw [hy549]; with_reducible exact H2_) | (have H2_ := (Option.bind_some _ _).symm.trans H; with_reducible exact H2_) | with_reducible exact H | (rw [hy549]; exact H) | exact H
   have Ny549 := Aside0.mk hy549
   clear hy549
   have H' := Aside0.mk H
   clear H
   go_wp2_with (first | ((with_reducible refine gate_dst (N := 26) rfl ?_); refine Kd.R_lit (Kd.int .u8) _ 5 ?hg (N := 26) ?hd (xs := ([46, (wrap64 (48 + (wrap64 (Int.tdiv x5_2 10)))) % 256, (wrap64 (48 + (Int.tmod x5_2 10))) % 256] : List Int)) (inner := [.int .u8 46, .int .u8 ((wrap64 (48 + (wrap64 (Int.tdiv x5_2 10)))) % 256), .int .u8 ((wrap64 (48 + (Int.tmod x5_2 10))) % 256)]) (ok := fun _ => True) (okp := fun _ => True) ?hr ?hp (fun _ hk => hk) trivial (Below.refl _ _) (Nat.le_refl _) (by simp) ?_; (case hd => rfl); (case hg => rfl); (case hr => first | (go_simp; done) | (go_simp; rfl)); (case hp => exact (Reps.one (show Kd.M (Kd.int .u8) _ _ _ 46 [.int .u8 46] from rfl) (Reps.one (show Kd.M (Kd.int .u8) _ _ _ ((wrap64 (48 + (wrap64 (Int.tdiv x5_2 10)))) % 256) [.int .u8 ((wrap64 (48 + (wrap64 (Int.tdiv x5_2 10)))) % 256)] from rfl) (Reps.one (show Kd.M (Kd.int .u8) _ _ _ ((wrap64 (48 + (Int.tmod x5_2 10))) % 256) [.int .u8 ((wrap64 (48 + (Int.tmod x5_2 10))) % 256)] from rfl) (Reps.none _ _))))); intro v550 w5 ho6 hb hg_ hnew_; clear hg_ hnew_; (first | rw [← Ny549.out] at ho6 | (simp only [Int.reduceToNat] at ho6; rw [← Ny549.out] at ho6)); have n0_ := Aside0.mk (Kd.R_lower ho6 (below_size (by repeat (first | (with_reducible first | exact HB.out | apply below_alloc | apply pw_below_drewN | apply below_drew1) | exact HB.out)))); have n1_ := Aside0.mk (below_step (by repeat (first | (with_reducible first | exact HB.out | apply below_alloc | apply pw_below_drewN | apply below_drew1) | exact HB.out)) hb); clear HB; have HO551 := n0_; have HB := n1_; clear n0_ n1_; clear hb ho6; have hcv7 := own_string (P := Tryd.prog) Tryd.underlying164 Tryd.underlying5 Tryd.underlying9 (Kd.own_of_R HO551.out)))
   go_loopg [6, 7] kj2 (fun kq v6 v7 w' => ∃ (x6_2 : Int) (x7_2 : ByteArray), v6 = .int .i64 x6_2 ∧ v7 = .string x7_2 ∧ Aside0 (stipendref01_under.l0 kq x6_2 x7_2 = some r) ∧ Aside0 (kq ≤ kj2) ∧ Aside0 (Below w.heap.size w w'))
   case atStart => exact ⟨(x6_2), (strOfNums y549), (by first | rfl | (simp; done) | (simp [*]; done)), (by first | rfl | (simp; done) | (simp [*]; done)), H', ⟨Nat.le_refl _⟩, ⟨by repeat (first | (with_reducible first | exact HB.out | apply below_alloc | apply pw_below_drewN | apply below_drew1) | exact HB.out)⟩⟩
   case round =>
    clear H'
    try clear p2
    try clear c4
    try clear c4b0
    try clear c4b1
    try clear p6
    try clear hcv7
    try clear p2
    obtain ⟨x6_2, x7_2, rfl, rfl, HA, HK2, HB⟩ := hrel
    cases gk with
    | zero => exact absurd HA.out (by simp [stipendref01_under.l0])
    | succ k2 =>
     have H := HA.out
     clear HA
     simp only [stipendref01_under.l0] at H
     obtain ⟨y552, hy552⟩ : ∃ y_ : List Int, y_ = (([(wrap64 (48 + (Int.tmod x6_2 10))) % 256] : List Int)) := ⟨_, rfl⟩
     replace H : (if (strOfNums y552).size + x7_2.size ≤ 9223372036854775807 then (if (wrap64 (Int.tdiv x6_2 10)) = 0 then (some ((strOfNums y552) ++ x7_2)) else (stipendref01_under.l0 k2 (wrap64 (Int.tdiv x6_2 10)) ((strOfNums y552) ++ x7_2))) else (none)) = some r := by first | (rw [hy552]; with_reducible exact H) | (have H2_ := (Option.bind_some _ _).symm.trans H; rw [hy552]; with_reducible exact H2_) | (have H2_ := (Option.bind_some _ _).symm.trans H; with_reducible exact H2_) | with_reducible exact H | (rw [hy552]; exact H) | exact H
     have Ny552 := Aside0.mk hy552
     clear hy552
     by_cases c8 : (strOfNums y552).size + x7_2.size ≤ 9223372036854775807
     ·rw [if_pos c8] at H
      have c8b0 := eq_true c8
      have c8b1 : decide ((strOfNums y552).size + x7_2.size ≤ 9223372036854775807) = true := decide_eq_true c8
      try have c8b2 : (9223372036854775807 < (strOfNums y552).size + x7_2.size) = False := eq_false (Nat.not_lt.2 c8)
      (try (have c8s := c8b2; simp only [ByteArray.size_append] at c8s))
      by_cases c9 : (wrap64 (Int.tdiv x6_2 10)) = 0
      ·rw [if_pos c9] at H
       have c9b0 : ((wrap64 (Int.tdiv x6_2 10)) == 0) = true := beq_iff_eq.mpr c9
       have c9b1 : ((wrap64 (Int.tdiv x6_2 10)) != 0) = false := bne_eq_false_iff_eq.mpr c9
       clear c9
       obtain rfl := Option.some.inj H
       go_wp2_with (first | ((with_reducible refine gate_dst (N := 32) rfl ?_); refine Kd.R_lit (Kd.int .u8) _ 5 ?hg (N := 32) ?hd (xs := ([(wrap64 (48 + (Int.tmod x6_2 10))) % 256] : List Int)) (inner := [.int .u8 ((wrap64 (48 + (Int.tmod x6_2 10))) % 256)]) (ok := fun _ => True) (okp := fun _ => True) ?hr ?hp (fun _ hk => hk) trivial (Below.refl _ _) (Nat.le_refl _) (by simp) ?_; (case hd => rfl); (case hg => rfl); (case hr => first | (go_simp; done) | (go_simp; rfl)); (case hp => exact (Reps.one (show Kd.M (Kd.int .u8) _ _ _ ((wrap64 (48 + (Int.tmod x6_2 10))) % 256) [.int .u8 ((wrap64 (48 + (Int.tmod x6_2 10))) % 256)] from rfl) (Reps.none _ _))); intro v553 w10 ho11 hb hg_ hnew_; clear hg_ hnew_; (first | rw [← Ny552.out] at ho11 | (simp only [Int.reduceToNat] at ho11; rw [← Ny552.out] at ho11)); have n0_ := Aside0.mk (Kd.R_lower ho11 (below_size (by repeat (first | (with_reducible first | exact HB.out | apply below_alloc | apply pw_below_drewN | apply below_drew1) | exact HB.out)))); have n1_ := Aside0.mk (below_step (by repeat (first | (with_reducible first | exact HB.out | apply below_alloc | apply pw_below_drewN | apply below_drew1) | exact HB.out)) hb); clear HB; have HO554 := n0_; have HB := n1_; clear n0_ n1_; clear hb ho11; have hcv12 := own_string (P := Tryd.prog) Tryd.underlying164 Tryd.underlying5 Tryd.underlying9 (Kd.own_of_R HO554.out)))
       go_ret
       exact ⟨by first | rfl | (simp [errW_none, errW_some] <;> rfl) | (simp [*, errW_none, errW_some] <;> rfl), by repeat (first | (with_reducible first | exact HB.out | apply below_alloc | apply pw_below_drewN | apply below_drew1) | exact HB.out)⟩
      ·rw [if_neg c9] at H
       have c9b0 : ((wrap64 (Int.tdiv x6_2 10)) == 0) = false := beq_eq_false_iff_ne.mpr c9
       have c9b1 : ((wrap64 (Int.tdiv x6_2 10)) != 0) = true := bne_iff_ne.mpr c9
       have H' := Aside0.mk H
       clear H
       go_wp2_with (first | ((with_reducible refine gate_dst (N := 32) rfl ?_); refine Kd.R_lit (Kd.int .u8) _ 5 ?hg (N := 32) ?hd (xs := ([(wrap64 (48 + (Int.tmod x6_2 10))) % 256] : List Int)) (inner := [.int .u8 ((wrap64 (48 + (Int.tmod x6_2 10))) % 256)]) (ok := fun _ => True) (okp := fun _ => True) ?hr ?hp (fun _ hk => hk) trivial (Below.refl _ _) (Nat.le_refl _) (by simp) ?_; (case hd => rfl); (case hg => rfl); (case hr => first | (go_simp; done) | (go_simp; rfl)); (case hp => exact (Reps.one (show Kd.M (Kd.int .u8) _ _ _ ((wrap64 (48 + (Int.tmod x6_2 10))) % 256) [.int .u8 ((wrap64 (48 + (Int.tmod x6_2 10))) % 256)] from rfl) (Reps.none _ _))); intro v553 w13 ho14 hb hg_ hnew_; clear hg_ hnew_; (first | rw [← Ny552.out] at ho14 | (simp only [Int.reduceToNat] at ho14; rw [← Ny552.out] at ho14)); have n0_ := Aside0.mk (Kd.R_lower ho14 (below_size (by repeat (first | (with_reducible first | exact HB.out | apply below_alloc | apply pw_below_drewN | apply below_drew1) | exact HB.out)))); have n1_ := Aside0.mk (below_step (by repeat (first | (with_reducible first | exact HB.out | apply below_alloc | apply pw_below_drewN | apply below_drew1) | exact HB.out)) hb); clear HB; have HO554 := n0_; have HB := n1_; clear n0_ n1_; clear hb ho14; have hcv15 := own_string (P := Tryd.prog) Tryd.underlying164 Tryd.underlying5 Tryd.underlying9 (Kd.own_of_R HO554.out)))
       go_roundg k2
       case measure => have := HJ2.out; have := HK2.out; omega
       case rel => exact ⟨(wrap64 (Int.tdiv x6_2 10)), ((strOfNums y552) ++ x7_2), (by first | rfl | (simp; done) | (simp [*]; done)), (by first | rfl | (simp; done) | (simp [*]; done)), H', ⟨by have := HJ2.out; have := HK2.out; omega⟩, ⟨by repeat (first | (with_reducible first | exact HB.out | apply below_alloc | apply pw_below_drewN | apply below_drew1) | exact HB.out)⟩⟩
     ·rw [if_neg c8] at H
      exact absurd H (by simp)

end Go.Proofs.YtmocphafkimdpaaDoor.P


-- written by a program (a patched copy of the kit's print: wip/mkprint.py); Lean checks it
namespace Go.Proofs.YtmocphafkimdpaaDoor.P
open Go.RowKit Go.Proofs.YtmocphafkimdpaaDoorW.PrintWords Go.Proofs.YtmocphafkimdpaaDoorW.PrintLast Go.Proofs.YtmocphafkimdpaaDoorW.PrintMore
attribute [local go_sem] max2_int min2_int max_two min_two max_three min_three max_four min_four   -- for this text's walks alone
set_option linter.unusedVariables false
set_option linter.unusedSimpArgs false

/-! ### stipendref01_Text: function 58 -/
def stipendref01_Text.f (k : Nat) (a0 : Int) : Option (ByteArray) := if a0 < 0 then ((stipendref01_under.f k (wrap64 (-(wrap64 (a0 + 1)))) 1).bind fun t555 => (if 1 + t555.size ≤ 9223372036854775807 then (some ((⟨#[45]⟩ : ByteArray) ++ t555)) else (none))) else ((stipendref01_under.f k a0 0).bind fun t556 => (some t556))
theorem stipendref01_Text.mono : ∀ a0 k, LeO (stipendref01_Text.f k a0) (stipendref01_Text.f (k + 1) a0) := by
 intro a0 k
 unfold stipendref01_Text.f
 repeat' first
   | (with_reducible exact stipendref01_under.mono _ _ _)
   | (with_reducible exact LeO.refl _)
   | (with_reducible exact LeO.none _)
   | (with_reducible refine LeO.ite ?_ ?_)
   | (with_reducible refine LeO.bind ?_ (fun _ => ?_))
   | exact stipendref01_under.mono _ _ _
   | exact LeO.none _
   | refine LeO.ite ?_ ?_
   | refine LeO.bind ?_ (fun _ => ?_)
set_option maxHeartbeats 8000000 in
set_option maxRecDepth 100000 in
theorem stipendref01_Text.calls (k : Nat) (a0 : Int) (r : ByteArray) (w : World) (h : stipendref01_Text.f k a0 = some r) :
  Calls Tryd.prog 58 #[.int .i64 a0] w fun e w' => e = .returned (.string r) ∧ Below w.heap.size w w' := by
 have HB := Aside0.mk (Below.refl w.heap.size w)
 have H : (if a0 < 0 then ((stipendref01_under.f k (wrap64 (-(wrap64 (a0 + 1)))) 1).bind fun t555 => (if 1 + t555.size ≤ 9223372036854775807 then (some ((⟨#[45]⟩ : ByteArray) ++ t555)) else (none))) else ((stipendref01_under.f k a0 0).bind fun t556 => (some t556))) = some r := h
 clear h
 by_cases c2 : a0 < 0
 ·rw [if_pos c2] at H
  have c2b0 : decide (a0 < 0) = true := decide_eq_true c2
  clear c2
  replace H := Option.bind_eq_some_iff.mp H
  obtain ⟨t555, A30, H⟩ := H
  replace H : (if 1 + t555.size ≤ 9223372036854775807 then (some ((⟨#[45]⟩ : ByteArray) ++ t555)) else (none)) = some r := H
  have A3 := Aside0.mk A30
  clear A30
  by_cases c4 : 1 + t555.size ≤ 9223372036854775807
  ·rw [if_pos c4] at H
   have c4b0 := eq_true c4
   have c4b1 : decide (1 + t555.size ≤ 9223372036854775807) = true := decide_eq_true c4
   try have c4b2 : (9223372036854775807 < 1 + t555.size) = False := eq_false (Nat.not_lt.2 c4)
   (try (have c4s := c4b2; simp only [ByteArray.size_append] at c4s))
   obtain rfl := Option.some.inj H
   go_enter Tryd.func58, Tryd.ntmps58
   go_wp2_with (first | ((with_reducible refine gate_callee (f := 96) rfl ?_); refine goesL_ (some 8) rfl rfl Tryd.func96 (by kernel_rfl) rfl #[.int .i64 (wrap64 (-(wrap64 (a0 + 1)))), .int .i64 1] rfl (by (try simp only [List.map_toArray, List.map_cons, List.map_nil]); first | done | rfl | (simp only [List.length_drop, List.length_take]; rfl)) ?_; (with_reducible refine (stipendref01_under.calls k (wrap64 (-(wrap64 (a0 + 1)))) 1 t555 _ A3.out).mono ?_); rintro e w5 ⟨rfl, hb⟩; refine ⟨_, rfl, ?_⟩; have n0_ := Aside0.mk (below_step (by repeat (first | (with_reducible first | exact HB.out | apply below_alloc | apply pw_below_drewN | apply below_drew1) | exact HB.out)) hb); clear HB; have HB := n0_; clear n0_; (try clear hb); (try clear hb2); (try clear hk); (try clear hi)))
   go_ret
   exact ⟨by first | rfl | (simp [errW_none, errW_some] <;> rfl) | (simp [*, errW_none, errW_some] <;> rfl), by repeat (first | (with_reducible first | exact HB.out | apply below_alloc | apply pw_below_drewN | apply below_drew1) | exact HB.out)⟩
  ·rw [if_neg c4] at H
   exact absurd H (by simp)
 ·rw [if_neg c2] at H
  have c2b0 : decide (a0 < 0) = false := decide_eq_false c2
  clear c2
  replace H := Option.bind_eq_some_iff.mp H
  obtain ⟨t556, A60, H⟩ := H
  replace H : (some t556) = some r := H
  have A6 := Aside0.mk A60
  clear A60
  obtain rfl := Option.some.inj H
  go_enter Tryd.func58, Tryd.ntmps58
  go_wp2_with (first | ((with_reducible refine gate_callee (f := 96) rfl ?_); refine goesL_ (some 11) rfl rfl Tryd.func96 (by kernel_rfl) rfl #[.int .i64 a0, .int .i64 0] rfl (by (try simp only [List.map_toArray, List.map_cons, List.map_nil]); first | done | rfl | (simp only [List.length_drop, List.length_take]; rfl)) ?_; (with_reducible refine (stipendref01_under.calls k a0 0 t556 _ A6.out).mono ?_); rintro e w7 ⟨rfl, hb⟩; refine ⟨_, rfl, ?_⟩; have n0_ := Aside0.mk (below_step (by repeat (first | (with_reducible first | exact HB.out | apply below_alloc | apply pw_below_drewN | apply below_drew1) | exact HB.out)) hb); clear HB; have HB := n0_; clear n0_; (try clear hb); (try clear hb2); (try clear hk); (try clear hi)))
  go_ret
  exact ⟨by first | rfl | (simp [errW_none, errW_some] <;> rfl) | (simp [*, errW_none, errW_some] <;> rfl), by repeat (first | (with_reducible first | exact HB.out | apply below_alloc | apply pw_below_drewN | apply below_drew1) | exact HB.out)⟩

end Go.Proofs.YtmocphafkimdpaaDoor.P


-- written by a program (a patched copy of the kit's print: wip/mkprint.py); Lean checks it
namespace Go.Proofs.YtmocphafkimdpaaDoor.P
open Go.RowKit Go.Proofs.YtmocphafkimdpaaDoorW.PrintWords Go.Proofs.YtmocphafkimdpaaDoorW.PrintLast Go.Proofs.YtmocphafkimdpaaDoorW.PrintMore
attribute [local go_sem] max2_int min2_int max_two min_two max_three min_three max_four min_four   -- for this text's walks alone
set_option linter.unusedVariables false
set_option linter.unusedSimpArgs false

/-! ### stipendlaw01_MoneyTexts: function 13 -/
def stipendlaw01_MoneyTexts.f (k : Nat) (a0 : Int) : Option (Bool) := (stipendlaw01_counts.f k).bind fun t557 => (if t557 = true then ((money_Text.f a0).bind fun t558 => ((stipendref01_Text.f k a0).bind fun t559 => (if t558.toList = t559.toList then ((money_Parse.f k t558).bind fun bt560 => ((stipendref01_Right.f a0).bind fun t562 => (if t562 = true then (if bt560.2 = 0 then (some (bt560.1 == a0)) else (some false)) else (if bt560.2 = 10 then (some (bt560.1 == 0)) else (some false))))) else (some false)))) else (some false))
theorem stipendlaw01_MoneyTexts.mono : ∀ a0 k, LeO (stipendlaw01_MoneyTexts.f k a0) (stipendlaw01_MoneyTexts.f (k + 1) a0) := by
 intro a0 k
 unfold stipendlaw01_MoneyTexts.f
 repeat' first
   | (with_reducible exact money_Parse.mono _ _)
   | (with_reducible exact stipendlaw01_counts.mono _)
   | (with_reducible exact stipendref01_Text.mono _ _)
   | (with_reducible exact LeO.refl _)
   | (with_reducible exact LeO.none _)
   | (with_reducible refine LeO.ite ?_ ?_)
   | (with_reducible refine LeO.bind ?_ (fun _ => ?_))
   | exact money_Parse.mono _ _
   | exact stipendlaw01_counts.mono _
   | exact stipendref01_Text.mono _ _
   | exact LeO.none _
   | refine LeO.ite ?_ ?_
   | refine LeO.bind ?_ (fun _ => ?_)
set_option maxHeartbeats 8000000 in
set_option maxRecDepth 100000 in
theorem stipendlaw01_MoneyTexts.calls (k : Nat) (a0 : Int) (r : Bool) (w : World) (h : stipendlaw01_MoneyTexts.f k a0 = some r) (hG : GTab w := by first | exact GTab.below HG.out (by repeat (first | (with_reducible first | exact HB.out | apply below_alloc | apply pw_below_drewN | apply below_drew1 | apply below_drew) | exact HB.out)) | exact HG.out) :
  Calls Tryd.prog 13 #[.int .i64 a0] w fun e w' => e = .returned (.bool r) ∧ Below w.heap.size w w' := by
 have HG := Aside0.mk hG; clear hG
 have HB := Aside0.mk (Below.refl w.heap.size w)
 have H : ((stipendlaw01_counts.f k).bind fun t557 => (if t557 = true then ((money_Text.f a0).bind fun t558 => ((stipendref01_Text.f k a0).bind fun t559 => (if t558.toList = t559.toList then ((money_Parse.f k t558).bind fun bt560 => ((stipendref01_Right.f a0).bind fun t562 => (if t562 = true then (if bt560.2 = 0 then (some (bt560.1 == a0)) else (some false)) else (if bt560.2 = 10 then (some (bt560.1 == 0)) else (some false))))) else (some false)))) else (some false))) = some r := h
 clear h
 replace H := Option.bind_eq_some_iff.mp H
 obtain ⟨t557, A20, H⟩ := H
 replace H : (if t557 = true then ((money_Text.f a0).bind fun t558 => ((stipendref01_Text.f k a0).bind fun t559 => (if t558.toList = t559.toList then ((money_Parse.f k t558).bind fun bt560 => ((stipendref01_Right.f a0).bind fun t562 => (if t562 = true then (if bt560.2 = 0 then (some (bt560.1 == a0)) else (some false)) else (if bt560.2 = 10 then (some (bt560.1 == 0)) else (some false))))) else (some false)))) else (some false)) = some r := H
 have A2 := Aside0.mk A20
 clear A20
 by_cases c3 : t557 = true
 ·subst c3
  have H1 : ((money_Text.f a0).bind fun t558 => ((stipendref01_Text.f k a0).bind fun t559 => (if t558.toList = t559.toList then ((money_Parse.f k t558).bind fun bt560 => ((stipendref01_Right.f a0).bind fun t562 => (if t562 = true then (if bt560.2 = 0 then (some (bt560.1 == a0)) else (some false)) else (if bt560.2 = 10 then (some (bt560.1 == 0)) else (some false))))) else (some false)))) = some r := by rw [if_pos rfl] at H; exact H
  clear H
  have H := H1
  clear H1
  replace H := Option.bind_eq_some_iff.mp H
  obtain ⟨t558, A40, H⟩ := H
  replace H : ((stipendref01_Text.f k a0).bind fun t559 => (if t558.toList = t559.toList then ((money_Parse.f k t558).bind fun bt560 => ((stipendref01_Right.f a0).bind fun t562 => (if t562 = true then (if bt560.2 = 0 then (some (bt560.1 == a0)) else (some false)) else (if bt560.2 = 10 then (some (bt560.1 == 0)) else (some false))))) else (some false))) = some r := H
  have A4 := Aside0.mk A40
  clear A40
  replace H := Option.bind_eq_some_iff.mp H
  obtain ⟨t559, A50, H⟩ := H
  replace H : (if t558.toList = t559.toList then ((money_Parse.f k t558).bind fun bt560 => ((stipendref01_Right.f a0).bind fun t562 => (if t562 = true then (if bt560.2 = 0 then (some (bt560.1 == a0)) else (some false)) else (if bt560.2 = 10 then (some (bt560.1 == 0)) else (some false))))) else (some false)) = some r := H
  have A5 := Aside0.mk A50
  clear A50
  by_cases c6 : t558.toList = t559.toList
  ·rw [if_pos c6] at H
   have c6b0 : (t558.toList == t559.toList) = true := beq_iff_eq.mpr c6
   have c6b1 : (t558.toList != t559.toList) = false := bne_eq_false_iff_eq.mpr c6
   clear c6
   replace H := Option.bind_eq_some_iff.mp H
   obtain ⟨⟨t560, t561⟩, A70, H⟩ := H
   replace H : ((stipendref01_Right.f a0).bind fun t562 => (if t562 = true then (if t561 = 0 then (some (t560 == a0)) else (some false)) else (if t561 = 10 then (some (t560 == 0)) else (some false)))) = some r := H
   have A7 := Aside0.mk A70
   clear A70
   replace H := Option.bind_eq_some_iff.mp H
   obtain ⟨t562, A80, H⟩ := H
   replace H : (if t562 = true then (if t561 = 0 then (some (t560 == a0)) else (some false)) else (if t561 = 10 then (some (t560 == 0)) else (some false))) = some r := H
   have A8 := Aside0.mk A80
   clear A80
   by_cases c9 : t562 = true
   ·subst c9
    have H1 : (if t561 = 0 then (some (t560 == a0)) else (some false)) = some r := by rw [if_pos rfl] at H; exact H
    clear H
    have H := H1
    clear H1
    by_cases c10 : t561 = 0
    ·rw [if_pos c10] at H
     have c10b0 : (t561 == 0) = true := beq_iff_eq.mpr c10
     have c10b1 : (t561 != 0) = false := bne_eq_false_iff_eq.mpr c10
     clear c10
     obtain rfl := Option.some.inj H
     go_enter Tryd.func13, Tryd.ntmps13
     go_wp2_with (first | ((with_reducible refine gate_callee (f := 57) rfl ?_); refine goesL_ (some 6) rfl rfl Tryd.func57 (by kernel_rfl) rfl #[] rfl (by (try simp only [List.map_toArray, List.map_cons, List.map_nil]); first | done | rfl | (simp only [List.length_drop, List.length_take]; rfl)) ?_; (with_reducible refine (stipendlaw01_counts.calls k  true _ A2.out).mono ?_); rintro e w11 ⟨rfl, hb⟩; refine ⟨_, rfl, ?_⟩; have n0_ := Aside0.mk (below_step (by repeat (first | (with_reducible first | exact HB.out | apply below_alloc | apply pw_below_drewN | apply below_drew1) | exact HB.out)) hb); clear HB; have HB := n0_; clear n0_; (try clear hb); (try clear hb2); (try clear hk); (try clear hi)) | ((with_reducible refine gate_callee (f := 39) rfl ?_); refine goesL_ (some 9) rfl rfl Tryd.func39 (by kernel_rfl) rfl #[.int .i64 a0] rfl (by (try simp only [List.map_toArray, List.map_cons, List.map_nil]); first | done | rfl | (simp only [List.length_drop, List.length_take]; rfl)) ?_; (with_reducible refine (money_Text.calls a0 t558 _ A4.out).mono ?_); rintro e w12 ⟨rfl, hb⟩; refine ⟨_, rfl, ?_⟩; have n0_ := Aside0.mk (below_step (by repeat (first | (with_reducible first | exact HB.out | apply below_alloc | apply pw_below_drewN | apply below_drew1) | exact HB.out)) hb); clear HB; have HB := n0_; clear n0_; (try clear hb); (try clear hb2); (try clear hk); (try clear hi)) | ((with_reducible refine gate_callee (f := 58) rfl ?_); refine goesL_ (some 12) rfl rfl Tryd.func58 (by kernel_rfl) rfl #[.int .i64 a0] rfl (by (try simp only [List.map_toArray, List.map_cons, List.map_nil]); first | done | rfl | (simp only [List.length_drop, List.length_take]; rfl)) ?_; (with_reducible refine (stipendref01_Text.calls k a0 t559 _ A5.out).mono ?_); rintro e w13 ⟨rfl, hb⟩; refine ⟨_, rfl, ?_⟩; have n0_ := Aside0.mk (below_step (by repeat (first | (with_reducible first | exact HB.out | apply below_alloc | apply pw_below_drewN | apply below_drew1) | exact HB.out)) hb); clear HB; have HB := n0_; clear n0_; (try clear hb); (try clear hb2); (try clear hk); (try clear hi)) | ((with_reducible refine gate_callee (f := 47) rfl ?_); refine goesL_ (some 16) rfl rfl Tryd.func47 (by kernel_rfl) rfl #[.string t558] rfl (by (try simp only [List.map_toArray, List.map_cons, List.map_nil]); first | done | rfl | (simp only [List.length_drop, List.length_take]; rfl)) ?_; (with_reducible refine (money_Parse.calls k t558 t560 t561 _ A7.out).mono ?_); rintro e w14 ⟨rfl, hb⟩; refine ⟨_, rfl, ?_⟩; have n0_ := Aside0.mk (below_step (by repeat (first | (with_reducible first | exact HB.out | apply below_alloc | apply pw_below_drewN | apply below_drew1) | exact HB.out)) hb); clear HB; have HB := n0_; clear n0_; (try clear hb); (try clear hb2); (try clear hk); (try clear hi)) | ((with_reducible refine gate_callee (f := 59) rfl ?_); refine goesL_ (some 20) rfl rfl Tryd.func59 (by kernel_rfl) rfl #[.int .i64 a0] rfl (by (try simp only [List.map_toArray, List.map_cons, List.map_nil]); first | done | rfl | (simp only [List.length_drop, List.length_take]; rfl)) ?_; (with_reducible refine (stipendref01_Right.calls a0 true _ A8.out).mono ?_); rintro e w' ⟨rfl, ⟨nd, rfl⟩⟩; refine ⟨_, rfl, ?_⟩))
     go_ret
     exact ⟨by first | rfl | (simp [errW_none, errW_some] <;> rfl) | (simp [*, errW_none, errW_some] <;> rfl), by repeat (first | (with_reducible first | exact HB.out | apply below_alloc | apply pw_below_drewN | apply below_drew1) | exact HB.out)⟩
    ·rw [if_neg c10] at H
     have c10b0 : (t561 == 0) = false := beq_eq_false_iff_ne.mpr c10
     have c10b1 : (t561 != 0) = true := bne_iff_ne.mpr c10
     obtain rfl := Option.some.inj H
     go_enter Tryd.func13, Tryd.ntmps13
     go_wp2_with (first | ((with_reducible refine gate_callee (f := 57) rfl ?_); refine goesL_ (some 6) rfl rfl Tryd.func57 (by kernel_rfl) rfl #[] rfl (by (try simp only [List.map_toArray, List.map_cons, List.map_nil]); first | done | rfl | (simp only [List.length_drop, List.length_take]; rfl)) ?_; (with_reducible refine (stipendlaw01_counts.calls k  true _ A2.out).mono ?_); rintro e w15 ⟨rfl, hb⟩; refine ⟨_, rfl, ?_⟩; have n0_ := Aside0.mk (below_step (by repeat (first | (with_reducible first | exact HB.out | apply below_alloc | apply pw_below_drewN | apply below_drew1) | exact HB.out)) hb); clear HB; have HB := n0_; clear n0_; (try clear hb); (try clear hb2); (try clear hk); (try clear hi)) | ((with_reducible refine gate_callee (f := 39) rfl ?_); refine goesL_ (some 9) rfl rfl Tryd.func39 (by kernel_rfl) rfl #[.int .i64 a0] rfl (by (try simp only [List.map_toArray, List.map_cons, List.map_nil]); first | done | rfl | (simp only [List.length_drop, List.length_take]; rfl)) ?_; (with_reducible refine (money_Text.calls a0 t558 _ A4.out).mono ?_); rintro e w16 ⟨rfl, hb⟩; refine ⟨_, rfl, ?_⟩; have n0_ := Aside0.mk (below_step (by repeat (first | (with_reducible first | exact HB.out | apply below_alloc | apply pw_below_drewN | apply below_drew1) | exact HB.out)) hb); clear HB; have HB := n0_; clear n0_; (try clear hb); (try clear hb2); (try clear hk); (try clear hi)) | ((with_reducible refine gate_callee (f := 58) rfl ?_); refine goesL_ (some 12) rfl rfl Tryd.func58 (by kernel_rfl) rfl #[.int .i64 a0] rfl (by (try simp only [List.map_toArray, List.map_cons, List.map_nil]); first | done | rfl | (simp only [List.length_drop, List.length_take]; rfl)) ?_; (with_reducible refine (stipendref01_Text.calls k a0 t559 _ A5.out).mono ?_); rintro e w17 ⟨rfl, hb⟩; refine ⟨_, rfl, ?_⟩; have n0_ := Aside0.mk (below_step (by repeat (first | (with_reducible first | exact HB.out | apply below_alloc | apply pw_below_drewN | apply below_drew1) | exact HB.out)) hb); clear HB; have HB := n0_; clear n0_; (try clear hb); (try clear hb2); (try clear hk); (try clear hi)) | ((with_reducible refine gate_callee (f := 47) rfl ?_); refine goesL_ (some 16) rfl rfl Tryd.func47 (by kernel_rfl) rfl #[.string t558] rfl (by (try simp only [List.map_toArray, List.map_cons, List.map_nil]); first | done | rfl | (simp only [List.length_drop, List.length_take]; rfl)) ?_; (with_reducible refine (money_Parse.calls k t558 t560 t561 _ A7.out).mono ?_); rintro e w18 ⟨rfl, hb⟩; refine ⟨_, rfl, ?_⟩; have n0_ := Aside0.mk (below_step (by repeat (first | (with_reducible first | exact HB.out | apply below_alloc | apply pw_below_drewN | apply below_drew1) | exact HB.out)) hb); clear HB; have HB := n0_; clear n0_; (try clear hb); (try clear hb2); (try clear hk); (try clear hi)) | ((with_reducible refine gate_callee (f := 59) rfl ?_); refine goesL_ (some 20) rfl rfl Tryd.func59 (by kernel_rfl) rfl #[.int .i64 a0] rfl (by (try simp only [List.map_toArray, List.map_cons, List.map_nil]); first | done | rfl | (simp only [List.length_drop, List.length_take]; rfl)) ?_; (with_reducible refine (stipendref01_Right.calls a0 true _ A8.out).mono ?_); rintro e w' ⟨rfl, ⟨nd, rfl⟩⟩; refine ⟨_, rfl, ?_⟩))
     go_ret
     exact ⟨by first | rfl | (simp [errW_none, errW_some] <;> rfl) | (simp [*, errW_none, errW_some] <;> rfl), by repeat (first | (with_reducible first | exact HB.out | apply below_alloc | apply pw_below_drewN | apply below_drew1) | exact HB.out)⟩
   ·replace c9 := Bool.eq_false_iff.mpr c9
    subst c9
    have H1 : (if t561 = 10 then (some (t560 == 0)) else (some false)) = some r := by rw [if_neg (show ¬ (false = true) by decide)] at H; exact H
    clear H
    have H := H1
    clear H1
    by_cases c19 : t561 = 10
    ·rw [if_pos c19] at H
     have c19b0 : (t561 == 10) = true := beq_iff_eq.mpr c19
     have c19b1 : (t561 != 10) = false := bne_eq_false_iff_eq.mpr c19
     clear c19
     obtain rfl := Option.some.inj H
     go_enter Tryd.func13, Tryd.ntmps13
     go_wp2_with (first | ((with_reducible refine gate_callee (f := 57) rfl ?_); refine goesL_ (some 6) rfl rfl Tryd.func57 (by kernel_rfl) rfl #[] rfl (by (try simp only [List.map_toArray, List.map_cons, List.map_nil]); first | done | rfl | (simp only [List.length_drop, List.length_take]; rfl)) ?_; (with_reducible refine (stipendlaw01_counts.calls k  true _ A2.out).mono ?_); rintro e w20 ⟨rfl, hb⟩; refine ⟨_, rfl, ?_⟩; have n0_ := Aside0.mk (below_step (by repeat (first | (with_reducible first | exact HB.out | apply below_alloc | apply pw_below_drewN | apply below_drew1) | exact HB.out)) hb); clear HB; have HB := n0_; clear n0_; (try clear hb); (try clear hb2); (try clear hk); (try clear hi)) | ((with_reducible refine gate_callee (f := 39) rfl ?_); refine goesL_ (some 9) rfl rfl Tryd.func39 (by kernel_rfl) rfl #[.int .i64 a0] rfl (by (try simp only [List.map_toArray, List.map_cons, List.map_nil]); first | done | rfl | (simp only [List.length_drop, List.length_take]; rfl)) ?_; (with_reducible refine (money_Text.calls a0 t558 _ A4.out).mono ?_); rintro e w21 ⟨rfl, hb⟩; refine ⟨_, rfl, ?_⟩; have n0_ := Aside0.mk (below_step (by repeat (first | (with_reducible first | exact HB.out | apply below_alloc | apply pw_below_drewN | apply below_drew1) | exact HB.out)) hb); clear HB; have HB := n0_; clear n0_; (try clear hb); (try clear hb2); (try clear hk); (try clear hi)) | ((with_reducible refine gate_callee (f := 58) rfl ?_); refine goesL_ (some 12) rfl rfl Tryd.func58 (by kernel_rfl) rfl #[.int .i64 a0] rfl (by (try simp only [List.map_toArray, List.map_cons, List.map_nil]); first | done | rfl | (simp only [List.length_drop, List.length_take]; rfl)) ?_; (with_reducible refine (stipendref01_Text.calls k a0 t559 _ A5.out).mono ?_); rintro e w22 ⟨rfl, hb⟩; refine ⟨_, rfl, ?_⟩; have n0_ := Aside0.mk (below_step (by repeat (first | (with_reducible first | exact HB.out | apply below_alloc | apply pw_below_drewN | apply below_drew1) | exact HB.out)) hb); clear HB; have HB := n0_; clear n0_; (try clear hb); (try clear hb2); (try clear hk); (try clear hi)) | ((with_reducible refine gate_callee (f := 47) rfl ?_); refine goesL_ (some 16) rfl rfl Tryd.func47 (by kernel_rfl) rfl #[.string t558] rfl (by (try simp only [List.map_toArray, List.map_cons, List.map_nil]); first | done | rfl | (simp only [List.length_drop, List.length_take]; rfl)) ?_; (with_reducible refine (money_Parse.calls k t558 t560 t561 _ A7.out).mono ?_); rintro e w23 ⟨rfl, hb⟩; refine ⟨_, rfl, ?_⟩; have n0_ := Aside0.mk (below_step (by repeat (first | (with_reducible first | exact HB.out | apply below_alloc | apply pw_below_drewN | apply below_drew1) | exact HB.out)) hb); clear HB; have HB := n0_; clear n0_; (try clear hb); (try clear hb2); (try clear hk); (try clear hi)) | ((with_reducible refine gate_callee (f := 59) rfl ?_); refine goesL_ (some 20) rfl rfl Tryd.func59 (by kernel_rfl) rfl #[.int .i64 a0] rfl (by (try simp only [List.map_toArray, List.map_cons, List.map_nil]); first | done | rfl | (simp only [List.length_drop, List.length_take]; rfl)) ?_; (with_reducible refine (stipendref01_Right.calls a0 false _ A8.out).mono ?_); rintro e w' ⟨rfl, ⟨nd, rfl⟩⟩; refine ⟨_, rfl, ?_⟩))
     go_ret
     exact ⟨by first | rfl | (simp [errW_none, errW_some] <;> rfl) | (simp [*, errW_none, errW_some] <;> rfl), by repeat (first | (with_reducible first | exact HB.out | apply below_alloc | apply pw_below_drewN | apply below_drew1) | exact HB.out)⟩
    ·rw [if_neg c19] at H
     have c19b0 : (t561 == 10) = false := beq_eq_false_iff_ne.mpr c19
     have c19b1 : (t561 != 10) = true := bne_iff_ne.mpr c19
     obtain rfl := Option.some.inj H
     go_enter Tryd.func13, Tryd.ntmps13
     go_wp2_with (first | ((with_reducible refine gate_callee (f := 57) rfl ?_); refine goesL_ (some 6) rfl rfl Tryd.func57 (by kernel_rfl) rfl #[] rfl (by (try simp only [List.map_toArray, List.map_cons, List.map_nil]); first | done | rfl | (simp only [List.length_drop, List.length_take]; rfl)) ?_; (with_reducible refine (stipendlaw01_counts.calls k  true _ A2.out).mono ?_); rintro e w24 ⟨rfl, hb⟩; refine ⟨_, rfl, ?_⟩; have n0_ := Aside0.mk (below_step (by repeat (first | (with_reducible first | exact HB.out | apply below_alloc | apply pw_below_drewN | apply below_drew1) | exact HB.out)) hb); clear HB; have HB := n0_; clear n0_; (try clear hb); (try clear hb2); (try clear hk); (try clear hi)) | ((with_reducible refine gate_callee (f := 39) rfl ?_); refine goesL_ (some 9) rfl rfl Tryd.func39 (by kernel_rfl) rfl #[.int .i64 a0] rfl (by (try simp only [List.map_toArray, List.map_cons, List.map_nil]); first | done | rfl | (simp only [List.length_drop, List.length_take]; rfl)) ?_; (with_reducible refine (money_Text.calls a0 t558 _ A4.out).mono ?_); rintro e w25 ⟨rfl, hb⟩; refine ⟨_, rfl, ?_⟩; have n0_ := Aside0.mk (below_step (by repeat (first | (with_reducible first | exact HB.out | apply below_alloc | apply pw_below_drewN | apply below_drew1) | exact HB.out)) hb); clear HB; have HB := n0_; clear n0_; (try clear hb); (try clear hb2); (try clear hk); (try clear hi)) | ((with_reducible refine gate_callee (f := 58) rfl ?_); refine goesL_ (some 12) rfl rfl Tryd.func58 (by kernel_rfl) rfl #[.int .i64 a0] rfl (by (try simp only [List.map_toArray, List.map_cons, List.map_nil]); first | done | rfl | (simp only [List.length_drop, List.length_take]; rfl)) ?_; (with_reducible refine (stipendref01_Text.calls k a0 t559 _ A5.out).mono ?_); rintro e w26 ⟨rfl, hb⟩; refine ⟨_, rfl, ?_⟩; have n0_ := Aside0.mk (below_step (by repeat (first | (with_reducible first | exact HB.out | apply below_alloc | apply pw_below_drewN | apply below_drew1) | exact HB.out)) hb); clear HB; have HB := n0_; clear n0_; (try clear hb); (try clear hb2); (try clear hk); (try clear hi)) | ((with_reducible refine gate_callee (f := 47) rfl ?_); refine goesL_ (some 16) rfl rfl Tryd.func47 (by kernel_rfl) rfl #[.string t558] rfl (by (try simp only [List.map_toArray, List.map_cons, List.map_nil]); first | done | rfl | (simp only [List.length_drop, List.length_take]; rfl)) ?_; (with_reducible refine (money_Parse.calls k t558 t560 t561 _ A7.out).mono ?_); rintro e w27 ⟨rfl, hb⟩; refine ⟨_, rfl, ?_⟩; have n0_ := Aside0.mk (below_step (by repeat (first | (with_reducible first | exact HB.out | apply below_alloc | apply pw_below_drewN | apply below_drew1) | exact HB.out)) hb); clear HB; have HB := n0_; clear n0_; (try clear hb); (try clear hb2); (try clear hk); (try clear hi)) | ((with_reducible refine gate_callee (f := 59) rfl ?_); refine goesL_ (some 20) rfl rfl Tryd.func59 (by kernel_rfl) rfl #[.int .i64 a0] rfl (by (try simp only [List.map_toArray, List.map_cons, List.map_nil]); first | done | rfl | (simp only [List.length_drop, List.length_take]; rfl)) ?_; (with_reducible refine (stipendref01_Right.calls a0 false _ A8.out).mono ?_); rintro e w' ⟨rfl, ⟨nd, rfl⟩⟩; refine ⟨_, rfl, ?_⟩))
     go_ret
     exact ⟨by first | rfl | (simp [errW_none, errW_some] <;> rfl) | (simp [*, errW_none, errW_some] <;> rfl), by repeat (first | (with_reducible first | exact HB.out | apply below_alloc | apply pw_below_drewN | apply below_drew1) | exact HB.out)⟩
  ·rw [if_neg c6] at H
   have c6b0 : (t558.toList == t559.toList) = false := beq_eq_false_iff_ne.mpr c6
   have c6b1 : (t558.toList != t559.toList) = true := bne_iff_ne.mpr c6
   obtain rfl := Option.some.inj H
   go_enter Tryd.func13, Tryd.ntmps13
   go_wp2_with (first | ((with_reducible refine gate_callee (f := 57) rfl ?_); refine goesL_ (some 6) rfl rfl Tryd.func57 (by kernel_rfl) rfl #[] rfl (by (try simp only [List.map_toArray, List.map_cons, List.map_nil]); first | done | rfl | (simp only [List.length_drop, List.length_take]; rfl)) ?_; (with_reducible refine (stipendlaw01_counts.calls k  true _ A2.out).mono ?_); rintro e w28 ⟨rfl, hb⟩; refine ⟨_, rfl, ?_⟩; have n0_ := Aside0.mk (below_step (by repeat (first | (with_reducible first | exact HB.out | apply below_alloc | apply pw_below_drewN | apply below_drew1) | exact HB.out)) hb); clear HB; have HB := n0_; clear n0_; (try clear hb); (try clear hb2); (try clear hk); (try clear hi)) | ((with_reducible refine gate_callee (f := 39) rfl ?_); refine goesL_ (some 9) rfl rfl Tryd.func39 (by kernel_rfl) rfl #[.int .i64 a0] rfl (by (try simp only [List.map_toArray, List.map_cons, List.map_nil]); first | done | rfl | (simp only [List.length_drop, List.length_take]; rfl)) ?_; (with_reducible refine (money_Text.calls a0 t558 _ A4.out).mono ?_); rintro e w29 ⟨rfl, hb⟩; refine ⟨_, rfl, ?_⟩; have n0_ := Aside0.mk (below_step (by repeat (first | (with_reducible first | exact HB.out | apply below_alloc | apply pw_below_drewN | apply below_drew1) | exact HB.out)) hb); clear HB; have HB := n0_; clear n0_; (try clear hb); (try clear hb2); (try clear hk); (try clear hi)) | ((with_reducible refine gate_callee (f := 58) rfl ?_); refine goesL_ (some 12) rfl rfl Tryd.func58 (by kernel_rfl) rfl #[.int .i64 a0] rfl (by (try simp only [List.map_toArray, List.map_cons, List.map_nil]); first | done | rfl | (simp only [List.length_drop, List.length_take]; rfl)) ?_; (with_reducible refine (stipendref01_Text.calls k a0 t559 _ A5.out).mono ?_); rintro e w30 ⟨rfl, hb⟩; refine ⟨_, rfl, ?_⟩; have n0_ := Aside0.mk (below_step (by repeat (first | (with_reducible first | exact HB.out | apply below_alloc | apply pw_below_drewN | apply below_drew1) | exact HB.out)) hb); clear HB; have HB := n0_; clear n0_; (try clear hb); (try clear hb2); (try clear hk); (try clear hi)))
   go_ret
   exact ⟨by first | rfl | (simp [errW_none, errW_some] <;> rfl) | (simp [*, errW_none, errW_some] <;> rfl), by repeat (first | (with_reducible first | exact HB.out | apply below_alloc | apply pw_below_drewN | apply below_drew1) | exact HB.out)⟩
 ·replace c3 := Bool.eq_false_iff.mpr c3
  subst c3
  have H1 : (some false) = some r := by rw [if_neg (show ¬ (false = true) by decide)] at H; exact H
  clear H
  have H := H1
  clear H1
  obtain rfl := Option.some.inj H
  go_enter Tryd.func13, Tryd.ntmps13
  go_wp2_with (first | ((with_reducible refine gate_callee (f := 57) rfl ?_); refine goesL_ (some 6) rfl rfl Tryd.func57 (by kernel_rfl) rfl #[] rfl (by (try simp only [List.map_toArray, List.map_cons, List.map_nil]); first | done | rfl | (simp only [List.length_drop, List.length_take]; rfl)) ?_; (with_reducible refine (stipendlaw01_counts.calls k  false _ A2.out).mono ?_); rintro e w31 ⟨rfl, hb⟩; refine ⟨_, rfl, ?_⟩; have n0_ := Aside0.mk (below_step (by repeat (first | (with_reducible first | exact HB.out | apply below_alloc | apply pw_below_drewN | apply below_drew1) | exact HB.out)) hb); clear HB; have HB := n0_; clear n0_; (try clear hb); (try clear hb2); (try clear hk); (try clear hi)))
  go_ret
  exact ⟨by first | rfl | (simp [errW_none, errW_some] <;> rfl) | (simp [*, errW_none, errW_some] <;> rfl), by repeat (first | (with_reducible first | exact HB.out | apply below_alloc | apply pw_below_drewN | apply below_drew1) | exact HB.out)⟩

end Go.Proofs.YtmocphafkimdpaaDoor.P


/- MoneyTexts answers true for every number: the plain law. -/
namespace Go.Proofs.YtmocphafkimdpaaDoor.P
open Go.RowKit Go.Proofs.YtmocphafkimdpaaDoorW.PrintWords Go.Proofs.YtmocphafkimdpaaDoorW.PrintLast Go.Proofs.YtmocphafkimdpaaDoorW.PrintMore
set_option linter.unusedVariables false
set_option linter.unusedSimpArgs false

theorem under_l0_ev : ∀ (m h : Nat) (s : List UInt8), h ≤ m → s.length + h ≤ 4000000000000000000 → Ev (fun k => stipendref01_under.l0 k (h : Int) (bs s)) (bs (Lib.decDigits h ++ s)) := by
  intro m
  induction m using Nat.strongRecOn with
  | _ m ih =>
    intro h s hm hs
    refine Ev.shift (fun k => by rw [stipendref01_under.l0]) ?_
    refine Ev.bindc rfl ?_
    rw [Int.tdiv_eq_ediv_of_nonneg (by omega), Int.tmod_eq_emod_of_nonneg (by omega), w64 (x := (h : Int) / 10) (by omega) (by omega), w64 (x := 48 + (h : Int) % 10) (by omega) (by omega)]
    have e0 : (48 + (h : Int) % 10) % 256 = ((48 + h % 10 : Nat) : Int) := by omega
    have e1 : strOfNums [(48 + (h : Int) % 10) % 256] = bs [UInt8.ofNat (48 + h % 10)] := by
      rw [e0]; rfl
    rw [e1, bs_size, bs_size, ba_append]
    refine Ev.pos (by simp only [List.length_cons, List.length_nil]; omega) ?_
    by_cases c : h < 10
    · refine (Ev.pos (by omega) Ev.now).res ?_
      rw [dec_small h c, show h % 10 = h by omega]
    · refine Ev.neg (by omega) ?_
      have e2 : (h : Int) / 10 = ((h / 10 : Nat) : Int) := by omega
      rw [e2]
      refine (ih (h / 10) (by omega) (h / 10) _ (Nat.le_refl _) (by simp only [List.length_append, List.length_cons, List.length_nil]; omega)).res ?_
      rw [dec_step h c, List.append_assoc]
theorem under_ev (x more : Nat) (hx : x < 9300000000000000000) (hm : more ≤ 1) : Ev (fun k => stipendref01_under.f k (x : Int) (more : Int)) (bs (bodyText (x + more))) := by
  unfold stipendref01_under.f
  have h1 : ∀ low high : Nat, low < 100 → high < 100000000000000000 → low = (x + more) % 100 → high = (x + more) / 100 → Ev (fun k => stipendref01_under.j0 k (low : Int) (high : Int)) (bs (bodyText (x + more))) := by
    intro low high hl hh el eh
    refine Ev.shift (fun k => by rw [stipendref01_under.j0]) ?_
    rw [Int.tdiv_eq_ediv_of_nonneg (by omega), Int.tmod_eq_emod_of_nonneg (by omega), w64 (x := (low : Int) / 10) (by omega) (by omega), w64 (x := 48 + (low : Int) / 10) (by omega) (by omega), w64 (x := 48 + (low : Int) % 10) (by omega) (by omega)]
    have e0 : (48 + (low : Int) / 10) % 256 = ((48 + low / 10 : Nat) : Int) := by omega
    have e1 : (48 + (low : Int) % 10) % 256 = ((48 + low % 10 : Nat) : Int) := by omega
    have e2 : strOfNums [46, (48 + (low : Int) / 10) % 256, (48 + (low : Int) % 10) % 256] = bs [46, UInt8.ofNat (48 + low / 10), UInt8.ofNat (48 + low % 10)] := by
      rw [e0, e1]; rfl
    rw [e2]
    refine (under_l0_ev high high _ (Nat.le_refl _) (by simp only [List.length_cons, List.length_nil]; omega)).res ?_
    unfold bodyText
    rw [eh, el, show (x + more) % 100 % 10 = (x + more) % 10 by omega]
  rw [Int.tdiv_eq_ediv_of_nonneg (by omega), Int.tmod_eq_emod_of_nonneg (by omega), w64 (x := (x : Int) / 100) (by omega) (by omega), w64 (x := (x : Int) % 100 + (more : Int)) (by omega) (by omega), w64 (x := (x : Int) / 100 + 1) (by omega) (by omega)]
  by_cases c : x % 100 + more = 100
  · refine Ev.pos (by omega) ?_
    have e : (x : Int) / 100 + 1 = ((x / 100 + 1 : Nat) : Int) := by omega
    rw [e]
    exact h1 0 (x / 100 + 1) (by decide) (by omega) (by omega) (by omega)
  · refine Ev.neg (by omega) ?_
    have e : (x : Int) / 100 = ((x / 100 : Nat) : Int) := by omega
    have e2 : (x : Int) % 100 + (more : Int) = ((x % 100 + more : Nat) : Int) := by omega
    rw [e, e2]
    exact h1 (x % 100 + more) (x / 100) (by omega) (by omega) (by omega) (by omega)
theorem reftext_ev (x : Int) (h0 : -9223372036854775808 ≤ x) (h1 : x ≤ 9223372036854775807) : Ev (fun k => stipendref01_Text.f k x) (bs (textOf x)) := by
  unfold stipendref01_Text.f
  rw [textOf_body]
  by_cases c : x < 0
  · rw [if_pos c]
    refine Ev.pos c ?_
    rw [w64 (x := x + 1) (by omega) (by omega), w64 (x := -(x + 1)) (by omega) (by omega)]
    have e : -(x + 1) = ((x.natAbs - 1 : Nat) : Int) := by omega
    rw [e]
    refine Ev.bind (under_ev (x.natAbs - 1) 1 (by omega) (by decide)) ?_
    rw [show x.natAbs - 1 + 1 = x.natAbs by omega, bs_size]
    have hl := dec_len_le 16 (x.natAbs / 100) (by omega)
    refine Ev.pos (by unfold bodyText; simp only [List.length_append, List.length_cons, List.length_nil]; omega) (Ev.const ?_)
    rw [show (⟨#[45]⟩ : ByteArray) = bs [45] from rfl, ba_append]
  · rw [if_neg c, List.nil_append]
    refine Ev.neg c ?_
    have e : x = ((x.natAbs : Nat) : Int) := by omega
    have h := under_ev x.natAbs 0 (by omega) (by decide)
    rw [← e] at h
    exact Ev.bind h Ev.now

theorem moneyTexts_true (x : Int) (g : (Lit.int .i64 x).wf = true) : ∃ k, stipendlaw01_MoneyTexts.f k x = some true := by
  obtain ⟨h0, h1⟩ := i64b g
  apply Ev.get
  unfold stipendlaw01_MoneyTexts.f
  have hl := text_len x h0 h1
  refine Ev.bind counts_ev (Ev.pos rfl (Ev.bindc (text_f x h0 h1) (Ev.bind (reftext_ev x h0 h1) (Ev.pos rfl (Ev.bind (parse_bs_ev (textOf x) (by omega)) (Ev.bindc (refRight_f x) ?_))))))
  by_cases c : okAmt x = true
  · have e : parseOf (textOf x) = (x, 0) := (parse_text x h0 h1).trans (if_pos c)
    rw [e]
    exact Ev.pos c (Ev.pos rfl (Ev.const (by simp)))
  · have e : parseOf (textOf x) = (0, 10) := (parse_text x h0 h1).trans (if_neg c)
    rw [e]
    exact Ev.neg c (Ev.pos rfl (Ev.const rfl))
end Go.Proofs.YtmocphafkimdpaaDoor.P
