/- A part of the proof of the cards of Money..: each of these statements answers true for every input (the conditions: those of the given statements alone). Merged by a program (wip/merge.py) out of: GStable, GGive. -/
import Derived.Test.YtmocphafkimdpaaDoorBMoneyc
import Derived.Test.YtmocphafkimdpaaDoorBMoneya

/- A stable sort of few places: slices.stableCmpFunc and SortStableFunc, at fewer than eighty. -/
namespace Go.Proofs
open Go.Shelf
def Tryd.srt_ren : Go.Shelf.Ren := ⟨fun | 20 => 128 | n => n, fun | 22 => 52 | 24 => 3 | 25 => 163 | n => n, fun | n => n⟩
theorem Tryd.srt_lays : SlLaysF.n20 Tryd.prog Tryd.srt_ren := {
  mixed := by kernel_rfl
  f20 := ⟨Tryd.f128.name, by decide, Tryd.func128.trans (congrArg some (by kernel_rfl))⟩
  t0 := Tryd.underlying0
  a0 := Tryd.isAgg0
  z0 := Tryd.sizeOf0
  v0 := Tryd.zeroValue0
  t3 := Tryd.underlying3
  a3 := Tryd.isAgg3
  z3 := Tryd.sizeOf3
  v3 := Tryd.zeroValue3
  t4 := Tryd.underlying4
  a4 := Tryd.isAgg4
  z4 := Tryd.sizeOf4
  v4 := Tryd.zeroValue4
  t22 := Tryd.underlying52
  a22 := Tryd.isAgg52
  z22 := Tryd.sizeOf52
  v22 := Tryd.zeroValue52
  a24 := Tryd.isAgg3
  z24 := Tryd.sizeOf3
  t25 := Tryd.underlying163
  a25 := Tryd.isAgg163
  z25 := Tryd.sizeOf163
  v25 := Tryd.zeroValue163 }
end Go.Proofs
namespace Go.Proofs.YtmocphafkimdpaaDoor.P
open Go.Shelf Go.RowKit Go.Lib Go.Sort

/-- Stretches of s, each in order, one behind the other. -/
def Runs (r : Nat → Int) (s n : Nat) (d : Array Nat) : Prop := (∀ i j, i < j → j < n → i / s = j / s → ahd r d[i]! d[j]!) ∧ ∀ i j, i < n → j < n → i / s < j / s → d[i]! < d[j]!
/-- Up to a, two stretches each have been merged. -/
def Half (r : Nat → Int) (s a n : Nat) (d : Array Nat) : Prop := (∀ i j, i < j → j < n → i / (2 * s) = j / (2 * s) → j < a ∨ i / s = j / s → ahd r d[i]! d[j]!) ∧ (∀ i j, i < n → j < n → i / (2 * s) < j / (2 * s) → d[i]! < d[j]!) ∧ ∀ i j, i < n → j < n → a ≤ i → i / s < j / s → d[i]! < d[j]!
/-- Up to a, each stretch of twenty is in order. -/
def First (r : Nat → Int) (a n : Nat) (d : Array Nat) : Prop := (∀ i j, i < j → j < n → i / 20 = j / 20 → j < a → ahd r d[i]! d[j]!) ∧ (∀ i j, i < n → j < n → i / 20 < j / 20 → d[i]! < d[j]!) ∧ ∀ i j, i < j → j < n → a ≤ i → d[i]! < d[j]!

theorem First.start {r : Nat → Int} {n : Nat} {d : Array Nat} (h : ∀ p q, p < q → q < n → d[p]! < d[q]!) : First r 0 n d :=
  ⟨fun i j a b c e => by omega, fun i j a b c => h i j (by omega) b, fun i j a b c => h i j a b⟩
theorem First.step {r : Nat → Int} {t n e : Nat} {d d' : Array Nat} (h : First r (20 * t) n d) (hn : n ≤ d.size) (he : e ≤ n) (he2 : e = 20 * t + 20 ∨ e = n ∧ n ≤ 20 * t + 20) (hte : 20 * t ≤ e) (hs : Srt r (20 * t) e d') (hp : PermIn (20 * t) e d d') : First r (20 * t + 20) n d' := by
  obtain ⟨h1, h2, h3⟩ := h
  obtain ⟨p0, p1, p2⟩ := hp
  have hp : PermIn (20 * t) e d d' := ⟨p0, p1, p2⟩
  refine ⟨fun i j a b c f => ?_, fun i j a b c => ?_, fun i j a b c => ?_⟩
  · by_cases g : 20 * t ≤ i
    · exact hs i j g a (by omega)
    · rw [p1 i (.inl (by omega)), p1 j (.inl (by omega))]
      exact h1 i j a b c (by omega)
  · by_cases g : i < 20 * t
    · rw [p1 i (.inl g)]
      by_cases g2 : j < 20 * t
      · rw [p1 j (.inl g2)]; exact h2 i j a b c
      · by_cases g3 : e ≤ j
        · rw [p1 j (.inr g3)]; exact h2 i j a b c
        · exact permIn_all _ _ _ _ (fun x => d[i]! < x) (by omega) hp (fun k hk hk' => h2 i k a (by omega) (by omega)) j (by omega) (by omega)
    · by_cases g2 : i < e
      · rw [p1 j (.inr (by omega))]
        exact permIn_all _ _ _ _ (fun x => x < d[j]!) (by omega) hp (fun k hk hk' => h2 k j (by omega) b (by omega)) i (by omega) g2
      · rw [p1 i (.inr (by omega)), p1 j (.inr (by omega))]; exact h2 i j a b c
  · rw [p1 i (.inr (by omega)), p1 j (.inr (by omega))]
    exact h3 i j a b (by omega)
theorem First.runs {r : Nat → Int} {a n : Nat} {d : Array Nat} (h : First r a n d) (ha : n ≤ a) : Runs r 20 n d := ⟨fun i j a b c => h.1 i j a b c (by omega), h.2.1⟩

theorem Half.start {r : Nat → Int} {s n : Nat} {d : Array Nat} (hs : s = 20 ∨ s = 40) (h : Runs r s n d) : Half r s 0 n d := by
  refine ⟨fun i j a b c e => ?_, fun i j a b c => h.2 i j a b ?_, fun i j a b _ c => h.2 i j a b c⟩
  · rcases e with e | e
    · omega
    · exact h.1 i j a b e
  · rcases hs with rfl | rfl <;> omega
theorem Half.two {r : Nat → Int} {s t n e : Nat} {d : Array Nat} (hs : s = 20 ∨ s = 40) (h : Half r s (2 * s * t) n d) (he : e ≤ n) (hme : 2 * s * t + s < e) (he2 : e ≤ 2 * s * t + 2 * s) : Two r (2 * s * t) (2 * s * t + s) e d := by
  obtain ⟨h1, h2, h3⟩ := h
  refine ⟨fun i j a b c => ?_, fun i j a b c => ?_, fun i j a b c f => ?_⟩
  · exact h1 i j b (by omega) (by rcases hs with rfl | rfl <;> omega) (.inr (by rcases hs with rfl | rfl <;> omega))
  · exact h1 i j b (by omega) (by rcases hs with rfl | rfl <;> omega) (.inr (by rcases hs with rfl | rfl <;> omega))
  · exact h3 i j (by rcases hs with rfl | rfl <;> omega) (by omega) a (by rcases hs with rfl | rfl <;> omega)
theorem Half.step {r : Nat → Int} {s t n e : Nat} {d d' : Array Nat} (hs : s = 20 ∨ s = 40) (h : Half r s (2 * s * t) n d) (hn : n ≤ d.size) (he : e ≤ n) (he2 : e = 2 * s * t + 2 * s ∨ e = n ∧ n ≤ 2 * s * t + 2 * s) (hte : 2 * s * t ≤ e) (hsr : Srt r (2 * s * t) e d') (hp : PermIn (2 * s * t) e d d') : Half r s (2 * s * t + 2 * s) n d' := by
  obtain ⟨h1, h2, h3⟩ := h
  obtain ⟨p0, p1, p2⟩ := hp
  have hp : PermIn (2 * s * t) e d d' := ⟨p0, p1, p2⟩
  refine ⟨fun i j a b c f => ?_, fun i j a b c => ?_, fun i j a b c f => ?_⟩
  · by_cases g : 2 * s * t ≤ i ∧ j < e
    · exact hsr i j g.1 a g.2
    · have g2 : j < 2 * s * t ∨ e ≤ i := by rcases hs with rfl | rfl <;> omega
      rcases g2 with g2 | g2
      · rw [p1 i (.inl (by omega)), p1 j (.inl g2)]
        exact h1 i j a b c (.inl g2)
      · rw [p1 i (.inr g2), p1 j (.inr (by omega))]
        exact h1 i j a b c (by rcases hs with rfl | rfl <;> omega)
  · by_cases g : i < 2 * s * t
    · rw [p1 i (.inl g)]
      by_cases g2 : j < 2 * s * t
      · rw [p1 j (.inl g2)]; exact h2 i j a b c
      · by_cases g3 : e ≤ j
        · rw [p1 j (.inr g3)]; exact h2 i j a b c
        · exact permIn_all _ _ _ _ (fun x => d[i]! < x) (by omega) hp (fun k hk hk' => h2 i k a (by omega) (by rcases hs with rfl | rfl <;> omega)) j (by omega) (by omega)
    · by_cases g2 : i < e
      · rw [p1 j (.inr (by rcases hs with rfl | rfl <;> omega))]
        exact permIn_all _ _ _ _ (fun x => x < d[j]!) (by omega) hp (fun k hk hk' => h2 k j (by omega) b (by rcases hs with rfl | rfl <;> omega)) i (by omega) g2
      · rw [p1 i (.inr (by omega)), p1 j (.inr (by rcases hs with rfl | rfl <;> omega))]; exact h2 i j a b c
  · rw [p1 i (.inr (by omega)), p1 j (.inr (by rcases hs with rfl | rfl <;> omega))]
    exact h3 i j a b (by omega) f
theorem Half.runs {r : Nat → Int} {s t n : Nat} {d : Array Nat} (hs : s = 20 ∨ s = 40) (h : Half r s (2 * s * t) n d) (ha : n ≤ 2 * s * t + s) : Runs r (2 * s) n d := by
  refine ⟨fun i j a b c => h.1 i j a b c ?_, h.2.1⟩
  rcases hs with rfl | rfl <;> omega
theorem Runs.srt {r : Nat → Int} {s n : Nat} {d : Array Nat} (h : Runs r s n d) (hs : n ≤ s) : Srt r 0 n d := fun i j _ b c => h.1 i j b c (by rw [Nat.div_eq_of_lt (by omega), Nat.div_eq_of_lt (by omega)])

theorem sortWorld_put (enc : Nat → Value) (w : World) (blk off q m size : Nat) (dk dk' : Array Nat) (os : Array Obj) (h : dk.size = size) (h' : dk'.size = size) :
    sortWorld enc ((putRow enc w blk off dk).drewN q) blk off m dk' os = sortWorld enc w blk off (q + m) dk' os := by
  unfold sortWorld
  have e : ∀ (W : World) (k : Nat), Sort.ahead W k = W.drewN k := fun W k => rfl
  rw [e, e, putRow_drewN', putRow_drewN', putRow_drewN', putRow_putRow enc w blk off dk dk' (by omega), World.drewN_drewN]
theorem cmpReads_put {g : Nat} {cb : Array Value} {enc : Nat → Value} {cf : Nat → Nat → Int} {blk off size q : Nat} {w : World} {dk : Array Nat} (h : CmpReads Tryd.prog g cb enc cf blk off size w) (hs : dk.size = size) :
    CmpReads Tryd.prog g cb enc cf blk off size ((putRow enc w blk off dk).drewN q) := by
  intro m os dk' hd x y
  rw [sortWorld_put enc w blk off q m size dk dk' os hs hd]
  exact h (q + m) os dk' hd x y
theorem cmpAll_of {g : Nat} {cb : Array Value} {enc : Nat → Value} {r : Nat → Int} {blk off size : Nat} {w : World} (h : CmpReads Tryd.prog g cb enc (cmpF r) blk off size w) : CmpAll enc r g cb blk off size w := by
  intro X hX x y q n
  have := h (q + n) #[] X hX x y
  rw [sortWorld_none] at this
  rw [World.drewN_drewN]
  exact this

theorem ins_row (enc : Nat → Value) (hO : OneCell enc) (r : Nat → Int) (g : Nat) (cb : Array Value) (blk off cap n x y : Nat) (dk : Array Nat) (W : World)
    (eg : ∀ args w, (callFunc g args).run Tryd.prog w = .ok (.enter g args) w) (h0 : dk.size = n) (h1 : CmpReads Tryd.prog g cb enc (cmpF r) blk off n W) (h2 : Holds enc W blk off dk) (h3 : x ≤ y) (h4 : y ≤ n) (hn : n < 80) :
    Calls Tryd.prog 128 #[.slice (some ⟨blk, off, none⟩) n cap, .int .i64 x, .int .i64 y, .func (.func g) #[] cb] W fun e w' =>
      e = .returned (.tuple #[]) ∧ ∃ q, w' = (putRow enc W blk off (Sort.insertionSort (ltOf (cmpF r)) dk x y)).drewN q := by
  subst h0
  exact Any.insertionSortCmpFunc_one Tryd.srt_lays enc hO (cmpF r) g cb blk off cap x y dk W eg h1 h2 h3 h4 (by omega)

set_option maxHeartbeats 8000000 in
set_option maxRecDepth 1000000 in
theorem stable_row (enc : Nat → Value) (hO : OneCell enc) (r : Nat → Int) (g : Nat) (cb : Array Value) (blk off cap n : Nat) (d : Array Nat) (w : World)
    (eg : ∀ args w, (callFunc g args).run Tryd.prog w = .ok (.enter g args) w) (hcmp : CmpReads Tryd.prog g cb enc (cmpF r) blk off n w) (hH : Holds enc w blk off d) (hd : d.size = n) (hn : n < 80)
    (hinc : ∀ p q, p < q → q < n → d[p]! < d[q]!) :
    Calls Tryd.prog 119 #[.slice (some ⟨blk, off, none⟩) n cap, .int .i64 n, .func (.func g) #[] cb] w fun e w' =>
      e = .returned (.tuple #[]) ∧ ∃ q d', w' = (putRow enc w blk off d').drewN q ∧ Srt r 0 n d' ∧ PermIn 0 n d d' := by
  have INS := Lib.hid (fun (dk : Array Nat) (W : World) (x y : Nat) h0 h1 h2 h3 h4 => ins_row enc hO r g cb blk off cap n x y dk W eg h0 h1 h2 h3 h4 hn)
  have SYM := Lib.hid (fun (dk : Array Nat) (W : World) (x y z : Nat) h0 h1 h2 h3 h4 h5 h6 => sym_merge enc hO r g cb blk off cap n eg (by omega) (z - x) x y z dk W h0 h1 h2 h3 h4 h5 h6 (Nat.le_refl _))
  have HC := Lib.hid hcmp
  have HST : Hid (w = (putRow enc w blk off d).drewN 0) := (putRow_self enc w blk off d hH).symm
  have HH : Hid (Holds enc w blk off d) := hH
  have HI : Hid (First r 0 n d) := First.start hinc
  clear hH hcmp hinc
  have ren : ∀ k, Tryd.srt_ren.f k = if k = 20 then 128 else k := fun k => by unfold Tryd.srt_ren; split <;> simp_all
  go_enter Tryd.func119, Tryd.ntmps119
  go_wp2
  go_loopg [7, 8] n (fun g1 va vb wr => ∃ (a b q : Nat) (dk : Array Nat), va = .int .i64 a ∧ vb = .int .i64 b ∧ a ≤ n ∧ n - a ≤ g1 ∧ b = a + 20 ∧ wr = (putRow enc w blk off dk).drewN q ∧ Hid ((∃ t, a = 20 * t) ∧ First r a n dk ∧ PermIn 0 n d dk ∧ dk.size = n))
  case atStart => exact ⟨0, 20, 0, d, rfl, rfl, by omega, by omega, rfl, HST.out, ⟨0, rfl⟩, HI.out, permIn_refl _ _ _, hd⟩
  case round =>
    obtain ⟨a, b, q, dk, rfl, rfl, ht, hg1, hab, rfl, HF⟩ := hrel
    have hsk := HF.out.2.2.2
    have HK : Hid (Holds enc ((putRow enc w blk off dk).drewN q) blk off dk) := holds_putRow enc w blk off d dk HH.out (by omega)
    have HCK : Hid (CmpReads Tryd.prog g cb enc (cmpF r) blk off n ((putRow enc w blk off dk).drewN q)) := cmpReads_put HC.out hsk
    have FIN := Lib.hid (fun (q' : Nat) (d' : Array Nat) (h : d'.size = n) => show (putRow enc ((putRow enc w blk off dk).drewN q) blk off d').drewN q' = (putRow enc w blk off d').drewN (q + q') by
      rw [putRow_drewN', putRow_putRow enc w blk off dk d' (by omega), World.drewN_drewN])
    generalize hwq : (putRow enc w blk off dk).drewN q = wq at HK HCK FIN ⊢
    clear hwq
    have HAB := Lib.hid hab
    by_cases hlt : b ≤ n
    · have hltz : (b : Int) ≤ (n : Int) := by omega
      obtain ⟨b2, hb2⟩ : ∃ x, x = b + 20 := ⟨_, rfl⟩
      have HB2 := Lib.hid hb2
      have wb : IntKind.i64.wrap ((b : Int) + 20) = (b2 : Int) := by rw [IntKind.wrap_i64]; omega
      have HIB := Lib.hid (ins_block r a b dk (by omega) (by omega) (fun p q h1 h2 h3 => HF.out.2.1.2.2 p q h2 (by omega) (by omega)))
      have S := Lib.hid (INS.out dk wq a b hsk HCK.out HK.out (by omega) hlt)
      clear hab hb2
      go_wp2_with fail
      refine S.out.mono ?_
      rintro e w' ⟨rfl, q', hw'⟩
      have hd' := HIB.out.2.1.trans hsk
      have HW : Hid (w' = (putRow enc w blk off (insertionSort (ltOf (cmpF r)) dk a b)).drewN (q + q')) := by show _ = _; rw [hw', FIN.out q' _ hd']
      clear hw'
      go_wp2
      go_roundg (n - b)
      case measure => have := HAB.out; omega
      case rel =>
        have h1 := HAB.out
        have h2 := HB2.out
        obtain ⟨t, ht'⟩ := HF.out.1
        refine ⟨b, b2, q + q', _, rfl, rfl, hlt, Nat.le_refl _, h2, HW.out, ?_⟩
        refine ⟨⟨t + 1, by omega⟩, ?_, permIn_trans _ _ _ _ _ HF.out.2.2.1 (permIn_mono _ _ _ _ _ _ (Nat.zero_le _) hlt (by omega) HIB.out.2), hd'⟩
        subst ht' h1
        exact First.step HF.out.2.1 (by omega) hlt (.inl rfl) (by omega) HIB.out.1 HIB.out.2
    · have hltz : ¬(b : Int) ≤ (n : Int) := by omega
      have IB := ins_block r a n dk (by omega) (by omega) (fun p q h1 h2 h3 => HF.out.2.1.2.2 p q h2 (by omega) (by omega))
      have S := Lib.hid (INS.out dk wq a n hsk HCK.out HK.out (by omega) (Nat.le_refl _))
      have RN : Hid (Runs r 20 n (insertionSort (ltOf (cmpF r)) dk a n) ∧ PermIn 0 n d (insertionSort (ltOf (cmpF r)) dk a n) ∧ (insertionSort (ltOf (cmpF r)) dk a n).size = n) := by
        obtain ⟨t, ht'⟩ := HF.out.1
        subst ht'
        refine ⟨First.runs (First.step HF.out.2.1 (by omega) (Nat.le_refl _) (.inr ⟨rfl, by omega⟩) (by omega) IB.1 IB.2) (by omega), permIn_trans _ _ _ _ _ HF.out.2.2.1 (permIn_mono _ _ _ _ _ _ (Nat.zero_le _) (Nat.le_refl _) (by omega) IB.2), IB.2.1.trans hsk⟩
      clear hab IB
      go_wp2_with fail
      refine S.out.mono ?_
      rintro e w' ⟨rfl, q', hw'⟩
      have HW : Hid (w' = (putRow enc w blk off (insertionSort (ltOf (cmpF r)) dk a n)).drewN (q + q')) := by show _ = _; rw [hw', FIN.out q' _ RN.out.2.2]
      clear hw' FIN S HCK HK HF hsk hg1
      generalize insertionSort (ltOf (cmpF r)) dk a n = d2 at HW RN
      go_wp2
      go_loopg [6] 80 (fun g2 vs wr2 => ∃ (s q2 : Nat) (dj : Array Nat), vs = .int .i64 s ∧ (s = 20 ∨ s = 40 ∨ s = 80) ∧ 80 - s ≤ g2 ∧ wr2 = (putRow enc w blk off dj).drewN q2 ∧ Hid (Runs r s n dj ∧ PermIn 0 n d dj ∧ dj.size = n))
      case atStart => exact ⟨20, q + q', d2, rfl, .inl rfl, by omega, HW.out, RN.out⟩
      case round =>
        obtain ⟨s, q2, dj, rfl, hs, hg2, rfl, HJ⟩ := hrel
        by_cases hsn : s < n
        · have hsz : (s : Int) < (n : Int) := by omega
          have hs' : s = 20 ∨ s = 40 := by omega
          obtain ⟨s2, hs2⟩ : ∃ x, x = 2 * s := ⟨_, rfl⟩
          have w2s : IntKind.i64.wrap (2 * (s : Int)) = (s2 : Int) := by rw [IntKind.wrap_i64]; omega
          have ws2 : IntKind.i64.wrap ((s : Int) * 2) = (s2 : Int) := by rw [IntKind.wrap_i64]; omega
          have HS := Lib.hid (And.intro hs2 hs')
          clear hs2 hs hs'
          go_wp2
          go_loopg [7, 8] n (fun g3 va vb wr3 => ∃ (a b q3 : Nat) (dk : Array Nat), va = .int .i64 a ∧ vb = .int .i64 b ∧ a ≤ n ∧ n - a ≤ g3 ∧ b = a + s2 ∧ wr3 = (putRow enc w blk off dk).drewN q3 ∧ Hid ((∃ t, a = 2 * s * t) ∧ Half r s a n dk ∧ PermIn 0 n d dk ∧ dk.size = n))
          case atStart => exact ⟨0, s2, q2, dj, rfl, rfl, by omega, by omega, by omega, rfl, ⟨0, rfl⟩, Half.start HS.out.2 HJ.out.1, HJ.out.2.1, HJ.out.2.2⟩
          case round =>
            obtain ⟨a, b, q3, dk, rfl, rfl, ht, hg3, hab, rfl, HF⟩ := hrel
            have hsk := HF.out.2.2.2
            have HK : Hid (Holds enc ((putRow enc w blk off dk).drewN q3) blk off dk) := holds_putRow enc w blk off d dk HH.out (by omega)
            have HCK : Hid (CmpAll enc r g cb blk off n ((putRow enc w blk off dk).drewN q3)) := cmpAll_put (cmpAll_of HC.out) hsk
            have FIN := Lib.hid (fun (q' : Nat) (d' : Array Nat) (h : d'.size = n) => show (putRow enc ((putRow enc w blk off dk).drewN q3) blk off d').drewN q' = (putRow enc w blk off d').drewN (q3 + q') by
              rw [putRow_drewN', putRow_putRow enc w blk off dk d' (by omega), World.drewN_drewN])
            generalize hwq : (putRow enc w blk off dk).drewN q3 = wq at HK HCK FIN ⊢
            have HWQ := Lib.hid hwq
            clear hwq
            have HAB := Lib.hid hab
            obtain ⟨c, hc⟩ : ∃ x, x = a + s := ⟨_, rfl⟩
            have HCC := Lib.hid hc
            by_cases hlt : b ≤ n
            · have hltz : (b : Int) ≤ (n : Int) := by omega
              obtain ⟨b2, hb2⟩ : ∃ x, x = b + s2 := ⟨_, rfl⟩
              have HB2 := Lib.hid hb2
              have wc : IntKind.i64.wrap ((a : Int) + (s : Int)) = (c : Int) := by have := HS.out; rw [IntKind.wrap_i64]; omega
              have wb : IntKind.i64.wrap ((b : Int) + (s2 : Int)) = (b2 : Int) := by have := HS.out; rw [IntKind.wrap_i64]; omega
              have TW : Hid (Two r a c b dk ∧ a < c ∧ c < b) := by
                obtain ⟨t, ht'⟩ := HF.out.1
                obtain ⟨h1, h2⟩ := HS.out
                subst ht' hc h1
                refine ⟨Half.two h2 HF.out.2.1 hlt (by omega) (by omega), by omega, by omega⟩
              have S := Lib.hid (SYM.out dk wq a c b hsk HCK.out HK.out TW.out.2.1 TW.out.2.2 hlt TW.out.1)
              clear hab hb2 hc
              go_wp2_with fail
              refine S.out.mono ?_
              rintro e w' ⟨rfl, q', d', hw', hsr, hp⟩
              have hd' := hp.1.trans hsk
              have HW : Hid (w' = (putRow enc w blk off d').drewN (q3 + q')) := by show _ = _; rw [hw', FIN.out q' _ hd']
              have HP := Lib.hid (And.intro hsr hp)
              clear hw' hsr hp
              go_wp2
              go_roundg (n - b)
              case measure => have := HAB.out; have := HS.out; omega
              case rel =>
                have h1 := HAB.out
                have h2 := HB2.out
                obtain ⟨t, ht'⟩ := HF.out.1
                obtain ⟨h3, h4⟩ := HS.out
                have h5 : Half r s (2 * s * t + 2 * s) n d' := by
                  subst ht'
                  exact Half.step h4 HF.out.2.1 (by omega) hlt (.inl (by omega)) (by omega) HP.out.1 HP.out.2
                have h6 : b = 2 * s * t + 2 * s := by omega
                refine ⟨b, b2, q3 + q', d', rfl, rfl, hlt, Nat.le_refl _, h2, HW.out, ⟨t + 1, by rw [Nat.mul_add]; omega⟩, by rw [h6]; exact h5, permIn_trans _ _ _ _ _ HF.out.2.2.1 (permIn_mono _ _ _ _ _ _ (Nat.zero_le _) hlt (by omega) HP.out.2), hd'⟩
            · have hltz : ¬(b : Int) ≤ (n : Int) := by omega
              have wc : IntKind.i64.wrap ((a : Int) + (s : Int)) = (c : Int) := by have := HS.out; rw [IntKind.wrap_i64]; omega
              by_cases hcn : c < n
              · have hcz : (c : Int) < (n : Int) := by omega
                have TW : Hid (Two r a c n dk ∧ a < c) := by
                  obtain ⟨t, ht'⟩ := HF.out.1
                  obtain ⟨h1, h2⟩ := HS.out
                  subst ht' hc h1
                  refine ⟨Half.two h2 HF.out.2.1 (Nat.le_refl _) hcn (by omega), by omega⟩
                have S := Lib.hid (SYM.out dk wq a c n hsk HCK.out HK.out TW.out.2 hcn (Nat.le_refl _) TW.out.1)
                clear hab hc
                go_wp2_with fail
                refine S.out.mono ?_
                rintro e w' ⟨rfl, q', d', hw', hsr, hp⟩
                have hd' := hp.1.trans hsk
                have HW : Hid (w' = (putRow enc w blk off d').drewN (q3 + q')) := by show _ = _; rw [hw', FIN.out q' _ hd']
                have HP := Lib.hid (And.intro hsr hp)
                clear hw' hsr hp
                go_wp2
                go_roundg (80 - s2)
                case measure => have := HS.out; omega
                case rel =>
                  have h1 := HAB.out
                  obtain ⟨t, ht'⟩ := HF.out.1
                  obtain ⟨h3, h4⟩ := HS.out
                  have h5 : Runs r (2 * s) n d' := by
                    subst ht'
                    have h6 := Half.step h4 HF.out.2.1 (by omega) (Nat.le_refl _) (.inr ⟨rfl, by omega⟩) (by omega) HP.out.1 HP.out.2
                    rw [show 2 * s * t + 2 * s = 2 * s * (t + 1) by rw [Nat.mul_add]; omega] at h6
                    exact Half.runs h4 h6 (by rw [Nat.mul_add]; omega)
                  exact ⟨s2, q3 + q', d', rfl, by omega, Nat.le_refl _, HW.out, by rw [h3]; exact h5, permIn_trans _ _ _ _ _ HF.out.2.2.1 (permIn_mono _ _ _ _ _ _ (Nat.zero_le _) (Nat.le_refl _) (by omega) HP.out.2), hd'⟩
              · have hcz : ¬(c : Int) < (n : Int) := by omega
                clear hab hc
                go_wp2
                go_roundg (80 - s2)
                case measure => have := HS.out; omega
                case rel =>
                  have h1 := HAB.out
                  have h2 := HCC.out
                  obtain ⟨t, ht'⟩ := HF.out.1
                  obtain ⟨h3, h4⟩ := HS.out
                  have h5 : Runs r (2 * s) n dk := by
                    subst ht'
                    exact Half.runs h4 HF.out.2.1 (by omega)
                  exact ⟨s2, q3, dk, rfl, by omega, Nat.le_refl _, HWQ.out.symm, by rw [h3]; exact h5, HF.out.2.2.1, hsk⟩
        · have hsz : ¬(s : Int) < (n : Int) := by omega
          go_wp2
          go_end0
          exact ⟨rfl, q2, dj, rfl, Runs.srt HJ.out.1 (by omega), HJ.out.2.1⟩

set_option maxHeartbeats 1000000 in
theorem sort_stable (enc : Nat → Value) (hO : OneCell enc) (r : Nat → Int) (g : Nat) (cb : Array Value) (blk off cap n : Nat) (d : Array Nat) (w : World)
    (eg : ∀ args w, (callFunc g args).run Tryd.prog w = .ok (.enter g args) w) (hcmp : CmpReads Tryd.prog g cb enc (cmpF r) blk off n w) (hH : Holds enc w blk off d) (hd : d.size = n) (hn : n < 80)
    (hinc : ∀ p q, p < q → q < n → d[p]! < d[q]!) :
    Calls Tryd.prog 107 #[.slice (some ⟨blk, off, none⟩) n cap, .func (.func g) #[] cb] w fun e w' =>
      e = .returned (.tuple #[]) ∧ ∃ q d', w' = (putRow enc w blk off d').drewN q ∧ Srt r 0 n d' ∧ PermIn 0 n d d' := by
  have S := Lib.hid (stable_row enc hO r g cb blk off cap n d w eg hcmp hH hd hn hinc)
  clear hcmp hH hinc
  go_enter Tryd.func107, Tryd.ntmps107
  go_wp2_with fail
  refine S.out.mono ?_
  rintro e w' ⟨rfl, q, d', hw, h1, h2⟩
  have H := Lib.hid (And.intro hw (And.intro h1 h2))
  clear hw h1 h2
  go_wp2
  go_end0
  exact ⟨rfl, q, d', H.out⟩
end Go.Proofs.YtmocphafkimdpaaDoor.P


/- What is left goes, a coin each, to those of which most was left out: money.give. -/
namespace Go.Proofs.YtmocphafkimdpaaDoor.P
open Go.Shelf Go.RowKit Go.Lib Go.Sort Go.Proofs.YtmocphafkimdpaaDoorW.PrintWords Go.Proofs.YtmocphafkimdpaaDoorW.PrintLast Go.Proofs.YtmocphafkimdpaaDoorW.PrintMore

/-- The amounts, one more at each place of which the rank is below left. -/
def giveOf (r : Nat → Int) (l : List Int) (left : Nat) : List Int := l.mapIdx fun i x => if rankOf r l.length i < left then x + 1 else x
theorem giveOf_len (r : Nat → Int) (l : List Int) (left : Nat) : (giveOf r l left).length = l.length := by simp [giveOf]
theorem giveOf_zero (r : Nat → Int) (l : List Int) : giveOf r l 0 = l := by
  apply List.ext_getElem
  · simp [giveOf]
  · intro i h1 h2; simp [giveOf]
theorem giveOf_at (r : Nat → Int) (l : List Int) (left i : Nat) (h : i < l.length) : (giveOf r l left)[i]'(by rw [giveOf_len]; exact h) = if rankOf r l.length i < left then l[i] + 1 else l[i] := by simp [giveOf]
theorem giveOf_step (r : Nat → Int) (l : List Int) (i x : Nat) (hx : x < l.length) (hr : rankOf r l.length x = i) (hu : ∀ y, y < l.length → rankOf r l.length y = i → y = x) : giveOf r l (i + 1) = (giveOf r l i).set x (l[x] + 1) := by
  apply List.ext_getElem
  · simp [giveOf]
  · intro k h1 h2
    rw [giveOf_len] at h1
    rw [giveOf_at _ _ _ _ h1, List.getElem_set]
    by_cases c : x = k
    · subst c
      rw [if_pos (by omega), if_pos rfl]
    · rw [if_neg c, giveOf_at _ _ _ _ h1]
      by_cases c2 : rankOf r l.length k < i
      · rw [if_pos (by omega), if_pos c2]
      · have : rankOf r l.length k ≠ i := fun h => c (hu k h1 h).symm
        rw [if_neg (by omega), if_neg c2]

theorem info3g : (Tryd.prog.info? 3).map (fun i => (i.zero, i.size, i.bytes)) = some (some (.int .i64 0), 1, 8) := by kernel_rfl
theorem make_ints (n : Nat) (hn : n ≤ 1000) (W : World) : (Instr.makeSlice 52 (.int .i64 n) (.int .i64 n)).run Tryd.prog W = .ok (.slice (some ⟨W.heap.size, 0, none⟩) n n) (W.alloc (.cells (madeCells #[.int .i64 0] n) 3)) := by
  obtain ⟨i0, hi, hzz⟩ := Option.map_eq_some_iff.1 info3g
  simp only [Prod.mk.injEq] at hzz
  obtain ⟨hz0, hz1, hz2⟩ := hzz
  have hr := run_make (P := Tryd.prog) W 52 3 i0 (.int .i64 0) Tryd.underlying52 hi hz0 .i64 .i64 (n : Int) (n : Int) (by omega) (by omega) (by rw [hz2]; omega) (by omega)
  simp only [Int.toNat_natCast] at hr
  rw [hz1, Nat.mul_one] at hr
  exact hr

def encN (n x : Nat) : Value := .int .i64 ((x % n : Nat) : Int)
theorem encN_one (n : Nat) : OneCell (encN n) := fun _ => rfl
theorem made_at (n k : Nat) (h : k < n) : (madeCells #[Value.int .i64 0] n)[k]? = some (.int .i64 0) := by
  unfold madeCells
  rw [Array.getElem?_map, Array.getElem?_range, if_pos h]
  simp [Nat.mod_one]

theorem putRow_block {α : Type} [Inhabited α] (enc : α → Value) (w : World) (blk off i : Nat) (d : Array α) (h : i ≠ blk) : (putRow enc w blk off d).heap[i]? = w.heap[i]? := by
  simp only [putRow, mapBlock, Array.getElem?_modify]
  rw [if_neg (fun e => h e.symm)]
theorem sortWorld_block (enc : Nat → Value) (w : World) (blk off m i : Nat) (dk : Array Nat) (os : Array Obj) (h : i ≠ blk) (hi : i < w.heap.size) : (sortWorld enc w blk off m dk os).heap[i]? = w.heap[i]? := by
  unfold sortWorld
  rw [heap_grow_old _ _ (by simpa using hi), putRow_block _ _ _ _ _ _ h]
  rfl
theorem sortWorld_size (enc : Nat → Value) (w : World) (blk off m : Nat) (dk : Array Nat) (os : Array Obj) : w.heap.size ≤ (sortWorld enc w blk off m dk os).heap.size := by
  unfold sortWorld
  rw [size_grow, size_putRow, heap_ahead]
  omega

def restOf (l : List Int) (x : Nat) : Int := l.getD (x % l.length) 0
theorem cmp_rest (l : List Int) (x y : Nat) : cmpAt l (x % l.length) (y % l.length) = cmpF (restOf l) x y := rfl

theorem blk_of_cell {W : World} {B i : Nat} {v : Value} (h : W.cell? ⟨B, i, none⟩ = some v) : B < W.heap.size := World.block_lt_of_cell? W _ h
theorem cell_of_blk {W W' : World} {B i : Nat} (h : W'.heap[B]? = W.heap[B]?) : W'.cell? ⟨B, i, none⟩ = W.cell? ⟨B, i, none⟩ := by simp [World.cell?, h]

/-- The closure reads what was left out, whatever the sort does to the places' row. -/
theorem give_reads (B blk q : Nat) (A : Option Addr) (c : Nat) (rest : List Int) (w W : World) (g : Nat) (dk : Array Nat) (h0 : 0 < rest.length)
    (hr : ∀ W_, w.heap.size ≤ W_.heap.size → (∀ i, i < w.heap.size → i ≠ g → W_.heap[i]? = w.heap[i]?) → Kd.C (Kd.int .u64) W_ A rest.length rest)
    (hB : W.cell? ⟨B, 0, none⟩ = some (.slice A rest.length c)) (hBb : B ≠ blk) (hw : Below w.heap.size w W) (hblk : w.heap.size ≤ blk) (hd : dk.size = rest.length) :
    CmpReads Tryd.prog 108 #[.pointer (some ⟨B, 0, none⟩)] (encN rest.length) (cmpF (restOf rest)) blk 0 rest.length ((putRow (encN rest.length) W blk 0 dk).drewN q) := by
  refine cmpReads_put ?_ hd
  intro m os dk' hd' x y
  have hB' : (sortWorld (encN rest.length) W blk 0 m dk' os).cell? ⟨B, 0, none⟩ = some (.slice A rest.length c) := by
    rw [cell_of_blk (sortWorld_block _ _ _ _ _ _ _ _ hBb (blk_of_cell hB))]
    exact hB
  have := give_cmp B A c rest (x % rest.length) (y % rest.length) _ hB' (hr _ (Nat.le_trans hw.size (sortWorld_size _ _ _ _ _ _ _)) (fun i hi _ => by
    rw [sortWorld_block _ _ _ _ _ _ _ _ (by omega) (Nat.lt_of_lt_of_le hi hw.size)]
    exact hw.block i hi)) (Nat.mod_lt _ h0) (Nat.mod_lt _ h0)
  exact this

theorem at_of_holds {n : Nat} {W : World} {blk : Nat} {d : Array Nat} (h : Holds (encN n) W blk 0 d) (i : Nat) (hi : i < d.size) (hx : d[i]! < n) : W.cell? ⟨blk, i, none⟩ = some (.int .i64 (d[i]! : Int)) := by
  have := (h i hi).1
  rw [Nat.zero_add] at this
  rw [this]
  unfold encN
  rw [Nat.mod_eq_of_lt hx]

theorem perm_ids {n : Nat} {d d' : Array Nat} (hd : d.size = n) (hid : ∀ k, k < n → d[k]! = k) (hp : PermIn 0 n d d') : ((List.range n).map fun k => d'[k]!).Perm (List.range n) := by
  have h := hp.2.2
  rw [range_arr n d' (hp.1.trans hd), range_arr n d hd] at h
  have e : (List.range n).map (fun k => d[k]!) = List.range n := by
    apply List.ext_getElem
    · simp
    · intro i h1 h2
      simp only [List.getElem_map, List.getElem_range]
      exact hid i (by simpa using h1)
  rwa [e] at h

set_option maxHeartbeats 8000000 in
set_option maxRecDepth 1000000 in
theorem give_core (g cap c1 left : Nat) (A1 : Option Addr) (l0 l1 : List Int) (w : World) (hlen : l0.length = l1.length) (h0 : 0 < l1.length) (hn : l1.length < 80) (hl : left ≤ l1.length)
    (hx : ∀ x ∈ l0, -9223372036854775808 ≤ x ∧ x < 9223372036854775807) (hH : Holds (Value.int .i64) w g 0 l0.toArray)
    (hr : ∀ W_, w.heap.size ≤ W_.heap.size → (∀ i, i < w.heap.size → i ≠ g → W_.heap[i]? = w.heap[i]?) → Kd.C (Kd.int .u64) W_ A1 l1.length l1) :
    Calls Tryd.prog 85 #[.slice (some ⟨g, 0, none⟩) l1.length cap, .slice A1 l1.length c1, .int .u64 left] w fun e w' =>
      e = .returned (.tuple #[]) ∧ ∃ (W5 : World) (q : Nat), Below w.heap.size w W5 ∧ w' = (putRow (Value.int .i64) W5 g 0 (giveOf (restOf l1) l0 left).toArray).drewN q := by
  obtain ⟨n, hne⟩ : ∃ n, n = l1.length := ⟨_, rfl⟩
  have hglt : g < w.heap.size := blk_of_cell (hH 0 (by simp; omega)).1
  have HR : Hid (∀ W_, w.heap.size ≤ W_.heap.size → (∀ i, i < w.heap.size → i ≠ g → W_.heap[i]? = w.heap[i]?) → Kd.C (Kd.int .u64) W_ A1 l1.length l1) := hr
  have HO : Hid (Holds (Value.int .i64) w g 0 l0.toArray) := hH
  have HX := Lib.hid hx
  obtain ⟨B, hB⟩ : ∃ B, B = w.heap.size := ⟨_, rfl⟩
  obtain ⟨W1, hW1⟩ : ∃ W, W = (w.alloc (.cells #[.slice A1 l1.length c1] 131)).alloc (.cells (madeCells #[.int .i64 0] l1.length) 3) := ⟨_, rfl⟩
  obtain ⟨blk, hblk⟩ : ∃ b, b = w.heap.size + 1 := ⟨_, rfl⟩
  have HB1 : Hid (Below w.heap.size w W1) := by show Below _ _ _; rw [hW1]; exact below_alloc (below_alloc (Below.refl _ _) _) _
  have HZ : Hid (Holds (encN l1.length) W1 blk 0 (Array.replicate l1.length 0)) := fun j hj => by
    have hj' : j < l1.length := by simpa using hj
    rw [hW1, hblk]
    have e : (w.alloc (.cells #[.slice A1 l1.length c1] 131)).heap.size = w.heap.size + 1 := by simp
    rw [← e]
    refine ⟨?_, World.frozen?_alloc_new _ _ _ _⟩
    rw [World.cell?_alloc_new, Nat.zero_add, made_at _ _ hj', getElem!_pos _ j hj]
    simp [encN]
  have HBC : Hid (W1.cell? ⟨B, 0, none⟩ = some (.slice A1 l1.length c1)) := by
    show _ = _
    rw [hW1, cell_of_blk (Below.heap_alloc _ _ B (by rw [hB]; simp)), hB, World.cell?_alloc_new]
    rfl
  have hmk := make_ints l1.length (by omega) (w.alloc (.cells #[.slice A1 l1.length c1] 131))
  have HE : Hid (B = w.heap.size ∧ blk = w.heap.size + 1 ∧ n = l1.length ∧ W1.heap.size = w.heap.size + 2) := ⟨hB, hblk, hne, by rw [hW1]; simp⟩
  have eg : ∀ args w, (callFunc 108 args).run Tryd.prog w = .ok (.enter 108 args) w := enters_of Tryd.func108 (by kernel_rfl) rfl
  clear hr hH hx
  have HS1 : Hid (W1 = (putRow (encN l1.length) W1 blk 0 (Array.replicate l1.length 0)).drewN 0) := (putRow_self _ _ _ _ _ HZ.out).symm
  go_enter Tryd.func85, Tryd.ntmps85
  go_wp2_with fail
  rw [← hW1, ← hblk, ← hB]
  clear hW1 hblk hB hmk hne hglt
  go_loopg [14] l1.length (fun g1 vi wr => ∃ (i q : Nat) (dk : Array Nat), vi = .int .i64 i ∧ i ≤ l1.length ∧ l1.length - i ≤ g1 ∧ dk.size = l1.length ∧ wr = (putRow (encN l1.length) W1 blk 0 dk).drewN q ∧ Hid (∀ k, k < i → dk[k]! = k))
  case atStart => exact ⟨0, 0, _, rfl, by omega, by omega, by simp, HS1.out, fun k hk => by omega⟩
  case round =>
    obtain ⟨i, q, dk, rfl, hi, hg1, hsk, rfl, HI⟩ := hrel
    have HK : Hid (Holds (encN l1.length) ((putRow (encN l1.length) W1 blk 0 dk).drewN q) blk 0 dk) := holds_putRow _ _ _ _ _ dk HZ.out (by simp [hsk])
    by_cases hlt : i < l1.length
    · have hltz : (i : Int) < (l1.length : Int) := by omega
      have p0 : (0 : Int) ≤ (i : Int) := by omega
      have wi : IntKind.i64.wrap ((i : Int) + 1) = ((i + 1 : Nat) : Int) := by rw [IntKind.wrap_i64]; omega
      obtain ⟨ci, fi⟩ := HK.out i (by omega)
      rw [Nat.zero_add] at ci fi
      generalize hwq : (putRow (encN l1.length) W1 blk 0 dk).drewN q = wq at ci fi ⊢
      have HWQ := Lib.hid hwq
      obtain ⟨yi, hyi⟩ : ∃ y, encN l1.length dk[i]! = y := ⟨_, rfl⟩
      rw [hyi] at ci
      clear hwq HK hyi
      go_wp2
      go_roundg (l1.length - (i + 1))
      case measure => omega
      case rel =>
        refine ⟨i + 1, q, dk.setIfInBounds i i, by go_num, by omega, Nat.le_refl _, by simp [hsk], ?_, (show Hid _ from fun k hk => ?_)⟩
        · rw [← HWQ.out, ← putRow_set (encN l1.length) W1 blk 0 dk i i (by omega), Nat.zero_add]
          unfold encN
          rw [Nat.mod_eq_of_lt hlt]
          rfl
        · by_cases c : k = i
          · subst c
            exact getElem!_set_same dk k k (by omega)
          · rw [getElem!_set_other dk i k i c]
            exact HI.out k (by omega)
    · have hltz : ¬(i : Int) < (l1.length : Int) := by omega
      obtain rfl : i = l1.length := by omega
      have S := Lib.hid (sort_stable (encN l1.length) (encN_one _) (restOf l1) 108 #[.pointer (some ⟨B, 0, none⟩)] blk 0 l1.length l1.length dk ((putRow (encN l1.length) W1 blk 0 dk).drewN q) eg
        (give_reads B blk q A1 c1 l1 w W1 g dk h0 HR.out HBC.out (by have := HE.out; omega) HB1.out (by have := HE.out; omega) hsk) HK.out hsk hn (fun x y h1 h2 => by rw [HI.out x (by omega), HI.out y h2]; exact h1))
      generalize hwq : (putRow (encN l1.length) W1 blk 0 dk).drewN q = wq at S ⊢
      have HWQ := Lib.hid hwq
      clear hwq HK
      go_wp2_with fail
      refine S.out.mono ?_
      rintro e w3 ⟨rfl, q3, d', hw3, hs3, hp3⟩
      have hd' : d'.size = l1.length := hp3.1.trans hsk
      have PM := perm_ids hsk HI.out hp3
      have HW3 : Hid (w3 = (putRow (encN l1.length) W1 blk 0 d').drewN (q + q3)) := by show _ = _; rw [hw3, ← HWQ.out, putRow_drewN', putRow_putRow _ _ _ _ dk d' (by omega), World.drewN_drewN]
      have RK : Hid ((∀ k, k < l1.length → d'[k]! < l1.length) ∧ (∀ k, k < l1.length → rankOf (restOf l1) l1.length d'[k]! = k) ∧ ∀ y, y < l1.length → ∃ k, k < l1.length ∧ d'[k]! = y) := by
        refine ⟨fun k hk => ?_, fun k hk => rank_at (restOf l1) l1.length d' hd' hs3 PM k hk, fun y hy => ?_⟩
        · exact List.mem_range.1 (PM.mem_iff.1 (List.mem_map.2 ⟨k, List.mem_range.2 hk, rfl⟩))
        · obtain ⟨k, hk, e⟩ := List.mem_map.1 (PM.mem_iff.2 (List.mem_range.2 hy))
          exact ⟨k, List.mem_range.1 hk, e⟩
      have HB3 : Hid (Below w.heap.size w w3) := by
        show Below _ _ _
        rw [HW3.out]
        refine ⟨HB1.out.os, HB1.out.tape, HB1.out.output, by have := HB1.out.size; simp; exact this, fun k hk => ?_⟩
        exact (putRow_block _ _ _ _ _ _ (by have := HE.out; omega)).trans (HB1.out.block k hk)
      have HH3 : Hid (Holds (encN l1.length) w3 blk 0 d') := by show Holds _ _ _ _ _; rw [HW3.out]; exact holds_putRow _ _ _ _ _ d' HZ.out (by simp [hd'])
      have hgw : g < w.heap.size := blk_of_cell (HO.out 0 (by simp; omega)).1
      have HO3 : Hid (Holds (Value.int .i64) w3 g 0 l0.toArray) := fun j hj => by
        have hb := HB3.out.block g hgw
        obtain ⟨o1, o2⟩ := HO.out j hj
        refine ⟨by rw [cell_of_blk hb]; exact o1, ?_⟩
        have : w3.frozen? ⟨g, 0 + j, none⟩ = w.frozen? ⟨g, 0 + j, none⟩ := by simp only [World.frozen?, hb]
        rw [this]; exact o2
      have HG : Hid (g ≠ blk) := by show g ≠ blk; have := HE.out; omega
      have HS3 : Hid (w3 = (putRow (Value.int .i64) w3 g 0 (giveOf (restOf l1) l0 0).toArray).drewN 0) := by show _ = _; rw [giveOf_zero]; exact (putRow_self _ _ _ _ _ HO3.out).symm
      clear hw3 hs3 hp3 PM HWQ S HI hgw hg1
      go_wp2_with fail
      go_loopg [26] left (fun g2 vi wr => ∃ (i q : Nat), vi = .int .u64 i ∧ i ≤ left ∧ left - i ≤ g2 ∧ wr = (putRow (Value.int .i64) w3 g 0 (giveOf (restOf l1) l0 i).toArray).drewN q)
      case atStart => exact ⟨0, 0, rfl, by omega, by omega, HS3.out⟩
      case round =>
        obtain ⟨i, q, rfl, hi, hg2, rfl⟩ := hrel
        by_cases hlt : i < left
        · have hltz : (i : Int) < (left : Int) := by omega
          obtain ⟨r1, r2, r3⟩ := RK.out
          obtain ⟨x, hx⟩ : ∃ x, x = d'[i]! := ⟨_, rfl⟩
          have hxn : x < l1.length := by rw [hx]; exact r1 i (by omega)
          have hx0 : x < l0.length := by omega
          have hrk : rankOf (restOf l1) l0.length x = i := by rw [hx, hlen]; exact r2 i (by omega)
          have hco : ((putRow (Value.int .i64) w3 g 0 (giveOf (restOf l1) l0 i).toArray).drewN q).cell? ⟨blk, i, none⟩ = some (.int .i64 (x : Int)) := by
            rw [World.cell?_drewN, cell?_putRow_other _ _ _ _ _ _ (.inl (fun h => HG.out h.symm)), hx]
            exact at_of_holds HH3.out i (by omega) (r1 i (by omega))
          have hHo := holds_putRow (Value.int .i64) w3 g 0 l0.toArray (giveOf (restOf l1) l0 i).toArray HO3.out (by simp [giveOf_len])
          obtain ⟨cx, fx⟩ := hHo x (by simp [giveOf_len]; omega)
          rw [Nat.zero_add] at cx fx
          have ev : (giveOf (restOf l1) l0 i).toArray[x]! = l0[x] := by
            rw [getElem!_pos _ x (by simp [giveOf_len]; omega)]
            simp only [List.getElem_toArray]
            rw [giveOf_at _ _ _ _ hx0, hrk, if_neg (by omega)]
          rw [ev] at cx
          have hb := HX.out l0[x] (List.getElem_mem hx0)
          obtain ⟨v, hv⟩ : ∃ v, v = l0[x] := ⟨_, rfl⟩
          rw [← hv] at cx hb
          have wv : IntKind.i64.wrap (v + 1) = v + 1 := by rw [IntKind.wrap_i64]; omega
          have wi : IntKind.u64.wrap ((i : Int) + 1) = ((i + 1 : Nat) : Int) := by rw [IntKind.wrap_u64]; omega
          have p0 : (0 : Int) ≤ (i : Int) := by omega
          have p1 : (i : Int) < (l1.length : Int) := by omega
          have p2 : (0 : Int) ≤ (x : Int) := by omega
          have p3 : (x : Int) < (l1.length : Int) := by omega
          have STP : Hid (giveOf (restOf l1) l0 (i + 1) = (giveOf (restOf l1) l0 i).set x (v + 1)) := by
            show _ = _
            rw [hv]
            refine giveOf_step _ _ _ _ hx0 hrk (fun y hy hry => ?_)
            obtain ⟨k, hk, rfl⟩ := r3 y (by omega)
            rw [hlen, r2 k hk] at hry
            subst hry
            exact hx.symm
          have cx' : ((putRow (Value.int .i64) w3 g 0 (giveOf (restOf l1) l0 i).toArray).drewN q).cell? ⟨g, x, none⟩ = some (.int .i64 v) := cx
          have fx' : ((putRow (Value.int .i64) w3 g 0 (giveOf (restOf l1) l0 i).toArray).drewN q).frozen? ⟨g, x, none⟩ = false := fx
          generalize hwq : (putRow (Value.int .i64) w3 g 0 (giveOf (restOf l1) l0 i).toArray).drewN q = wq at hco cx' fx' ⊢
          have HWQ := Lib.hid hwq
          have HXX := Lib.hid hx0
          clear hwq cx fx ev hHo hx r1 r2 r3 hrk hv hb hx0
          go_wp2
          go_roundg (left - (i + 1))
          case measure => omega
          case rel =>
            refine ⟨i + 1, q, by go_num, by omega, Nat.le_refl _, ?_⟩
            rw [← HWQ.out, STP.out]
            have h := putRow_set (Value.int .i64) w3 g 0 (giveOf (restOf l1) l0 i).toArray x (v + 1) (by simp [giveOf_len]; have := HXX.out; omega)
            rw [Nat.zero_add, List.setIfInBounds_toArray] at h
            rw [← h]
            rfl
        · have hltz : ¬(i : Int) < (left : Int) := by omega
          obtain rfl : i = left := by omega
          go_wp2
          go_end0
          exact ⟨rfl, w3, HB3.out, q, rfl⟩

def money_give.f (l0 l1 : List Int) (a2 : Int) : Option (List Int) :=
  if l0.length = l1.length ∧ 0 < l1.length ∧ l1.length < 80 ∧ 0 ≤ a2 ∧ a2 ≤ l1.length ∧ ∀ x ∈ l0, -9223372036854775808 ≤ x ∧ x < 9223372036854775807 then some (giveOf (restOf l1) l0 a2.toNat) else none
theorem money_give.calls (P0_ : Nat → Prop) (u9000_ : Value) (l0 : List Int) (A1 : Option Addr) (c1 : Nat) (l1 : List Int) (a2 : Int) (r : List Int) (w0 w : World) (hB : Below w0.heap.size w0 w) (ho0 : Kd.R (Kd.int .i64) 2 w w0.heap.size P0_ u9000_ l0) (hr1 : ∀ W_, Kept w W_ (fun k_ => P0_ k_) → Kd.C (Kd.int .u64) W_ A1 l1.length l1) (_hc1 : l1.length ≤ c1) (h : money_give.f l0 l1 a2 = some r) :
    Calls Tryd.prog 85 #[u9000_, .slice A1 l1.length c1, .int .u64 a2] w fun e w' => e = .returned (.tuple #[]) ∧ Kd.R (Kd.int .i64) 2 w' w0.heap.size (fun k_ => (P0_ k_ ∨ w.heap.size ≤ k_)) u9000_ r ∧ Below w0.heap.size w0 w' ∧ Kept w w' (fun k_ => P0_ k_) := by
  unfold money_give.f at h
  split at h
  · rename_i hc
    obtain ⟨hlen, h0, hn, ha, hal, hx⟩ := hc
    obtain rfl := Option.some.inj h
    obtain ⟨left, rfl⟩ := Int.eq_ofNat_of_zero_le ha
    rw [Int.toNat_natCast]
    obtain ⟨g, cap, hv, hbg, hgl, _⟩ := Kd.R_form ho0 (by omega)
    subst hv
    have hP : P0_ g := ho0.1 g rfl
    have hC := (Kd.R_reads' ho0).2.2
    obtain ⟨_, inner, hown⟩ := ho0
    obtain ⟨hi1, hi2⟩ := hown.1
    obtain ⟨cap', cur, hcap, hblk, hcl, hcm, hcs, hct⟩ : ∃ cap' cur, cap' = cap ∧ w.heap[g]? = some (.cells cur 2 (0, 0)) ∧ l0.length ≤ cap' ∧ cap' ≤ maxLen ∧ cur.size = cap' * 1 ∧ cur.toList.take (l0.length * 1) = inner := by
      rcases hi2 with ⟨he, _⟩ | ⟨g', cap', cur, he, hb', hg', h1, h2, h3, h4⟩
      · injection he with he; cases he
      · injection he with he1 he2 he3
        cases he1
        exact ⟨cap', cur, he3.symm, hg', h1, h2, h3, h4⟩
    subst hcap
    have hH : Holds (Value.int .i64) w g 0 l0.toArray := fun j hj => by
      have hj' : j < l0.length := by simpa using hj
      obtain ⟨ad, e, hcell⟩ := Kd.at_int hC (j : Int) (by omega) (by omega)
      cases e
      refine ⟨?_, blk_frozen hblk _⟩
      rw [Nat.zero_add]
      simp only [Go.Proofs.YtmocphafkimdpaaDoorW.PrintWords.add_plain, Int.toNat_natCast] at hcell
      rw [getElem!_pos _ j hj]
      simp only [List.getElem_toArray]
      have e2 : rd l0 (j : Int) = l0[j] := by simp [rd, hj']
      rw [e2] at hcell
      simpa using hcell
    rw [hlen]
    refine (give_core g cap' c1 left A1 l0 l1 w hlen h0 hn (by omega) hx hH (fun W_ h1 h2 => hr1 W_ ⟨h1, fun i hi hne => h2 i hi (fun e => hne (e ▸ hP))⟩)).mono ?_
    rintro e w' ⟨rfl, W5, q, hb5, rfl⟩
    have hgl2 : (giveOf (restOf l1) l0 left).length = l0.length := giveOf_len _ _ _
    have hblk5 : W5.heap[g]? = some (.cells cur 2 (0, 0)) := (hb5.block g hgl).trans hblk
    have hfin : ((putRow (Value.int .i64) W5 g 0 (giveOf (restOf l1) l0 left).toArray).drewN q).heap[g]? = some (.cells (putCells (Value.int .i64) 0 (giveOf (restOf l1) l0 left).toArray cur) 2 (0, 0)) := by
      show (putRow (Value.int .i64) W5 g 0 (giveOf (restOf l1) l0 left).toArray).heap[g]? = _
      simp only [putRow, mapBlock, Array.getElem?_modify, if_true, hblk5, Option.map_some, onCells]
    refine ⟨rfl, ?_, ?_, ?_⟩
    · refine Kd.R_of_own ⟨by simp [encs, hgl2, hlen], .inr ⟨g, cap', _, by rw [hgl2, hlen], hbg, hfin, by omega, hcm, by simp [putCells, hcs], ?_⟩⟩ (fun k hk => .inl ?_)
      · rw [Nat.mul_one, hgl2]
        apply List.ext_getElem
        · simp [putCells, encs, hgl2, hcs]; omega
        · intro k h1 h2
          have hk : k < l0.length := by simp [encs, hgl2] at h2; exact h2
          simp only [putCells, List.getElem_take, Array.getElem_toList, Array.getElem_mapIdx, encs, List.getElem_map]
          rw [if_pos ⟨Nat.zero_le _, by simp [hgl2]; exact hk⟩, Nat.sub_zero, getElem!_pos _ k (by simp [hgl2]; exact hk)]
          simp
      · simp only [Value.ownBlock, Option.some.injEq] at hk
        subst hk
        exact hP
    · have hb : Below w0.heap.size w0 W5 := below_then hB hB.size hb5
      refine ⟨hb.os, hb.tape, hb.output, by have := hb.size; simp; exact this, fun k hk => ?_⟩
      exact (putRow_block _ _ _ _ _ _ (by omega)).trans (hb.block k hk)
    · refine ⟨by have := hb5.size; simp; exact this, fun k hk hne => ?_⟩
      have hkg : k ≠ g := fun e => by subst e; exact hne hP
      exact (putRow_block _ _ _ _ _ _ hkg).trans (hb5.block k hk)
  · cases h
end Go.Proofs.YtmocphafkimdpaaDoor.P
