/- A part of the proof of the cards of Money..: each of these statements answers true for every input (the conditions: those of the given statements alone). Merged by a program (wip/merge.py) out of: GSymR. -/
import Derived.Test.YtmocphafkimdpaaDoorBMoneyb
import Derived.Lib.Hide

/- Two stretches in order, side by side, merged in place: slices.symMergeCmpFunc, whole. Printed by a program (wip/mksym.py). -/
namespace Go.Proofs.YtmocphafkimdpaaDoor.P
open Go.Shelf Go.RowKit Go.Lib Go.Sort
set_option linter.unusedVariables false
set_option linter.unusedSimpArgs false

theorem cmpAll_put {enc : Nat → Value} {r : Nat → Int} {g : Nat} {cb : Array Value} {blk off size q : Nat} {w : World} {dk : Array Nat} (h : CmpAll enc r g cb blk off size w) (hs : dk.size = size) :
    CmpAll enc r g cb blk off size ((putRow enc w blk off dk).drewN q) := by
  intro X hX x y q' n
  have := h X hX x y (q + q') n
  rw [putRow_drewN', putRow_putRow enc w blk off dk X (by omega), World.drewN_drewN _ q q']
  exact this

theorem Two.keep {r : Nat → Int} {a mid e b : Nat} {d d' : Array Nat} (h : Two r mid e b d) (hk : ∀ k, mid ≤ k → d'[k]! = d[k]!) (he : mid ≤ e) : Two r mid e b d' := by
  obtain ⟨h1, h2, h3⟩ := h
  refine ⟨fun i j a b c => ?_, fun i j a b c => ?_, fun i j a b c d => ?_⟩
  · rw [hk i a, hk j (by omega)]; exact h1 i j a b c
  · rw [hk i (by omega), hk j (by omega)]; exact h2 i j a b c
  · rw [hk i a, hk j (by omega)]; exact h3 i j a b c d

/-- What the search leaves. -/
theorem sym_cut {r : Nat → Int} {a m b mid n s0 r0 s e : Nat} {d d1 : Array Nat} (h : Two r a m b d) (ham : a < m) (hmb : m < b) (hn : n = mid + m) (h1 : a ≤ s0) (h2 : n ≤ s0 + b) (h4 : r0 ≤ m) (h5 : r0 ≤ mid)
    (h6 : s0 = a ∨ s0 + b = n) (h7 : r0 = m ∨ r0 = mid) (hs : s0 ≤ s) (hr : s ≤ r0) (he : e = n - s)
    (i1 : s0 < s → ahd r d[s - 1]! d[n - s]!) (i2 : s < r0 → ahd r d[n - 1 - s]! d[s]!) (hrot : Rot s m e d d1) :
    Two r a s mid d1 ∧ Two r mid e b d1 ∧ ∀ i j, a ≤ i → i < mid → mid ≤ j → j < b → ahd r d1[i]! d1[j]! := by
  subst he
  refine sym_split h (by omega) (by omega) (by omega) (by omega) (by omega) (fun c1 c2 => i1 (by omega)) (fun c1 c2 => ?_) hrot
  have := i2 (by omega)
  rwa [show n - s - 1 = n - 1 - s by omega]
theorem two_left {r : Nat → Int} {a s mid : Nat} {d : Array Nat} (h : Two r a s mid d) (c : ¬(a < s ∧ s < mid)) (h1 : a ≤ s) (h2 : s ≤ mid) : Srt r a mid d := by
  by_cases c1 : a = s
  · subst c1; exact h.2.1
  · obtain rfl : s = mid := by omega
    exact h.1

set_option maxHeartbeats 16000000 in
set_option maxRecDepth 1000000 in
theorem sym_merge (enc : Nat → Value) (hO : OneCell enc) (r : Nat → Int) (g : Nat) (cb : Array Value) (blk off cap sz : Nat)
    (eg : ∀ args w, (callFunc g args).run Tryd.prog w = .ok (.enter g args) w) (hsz : sz < 4611686018427387904) :
    ∀ (N a m b : Nat) (d : Array Nat) (w : World), d.size = sz → CmpAll enc r g cb blk off sz w → Holds enc w blk off d → a < m → m < b → b ≤ sz → Two r a m b d → b - a ≤ N →
    Calls Tryd.prog 129 #[.slice (some ⟨blk, off, none⟩) sz cap, .int .i64 a, .int .i64 m, .int .i64 b, .func (.func g) #[] cb] w fun e w' =>
      e = .returned (.tuple #[]) ∧ ∃ q d', w' = (putRow enc w blk off d').drewN q ∧ Srt r a b d' ∧ PermIn a b d d' := by
  intro N
  induction N with
  | zero => intro a m b d w _ _ _ _ _ _ _ _; omega
  | succ N ih =>
  intro a m b d w hds hcmp hH ham hmb hb h2 hN
  by_cases c1 : m = a + 1
  · subst c1; subst hds
    exact sym_one enc hO r g cb blk off cap a b d w eg hcmp hH hmb hb hsz h2
  by_cases c2 : b = m + 1
  · subst c2; subst hds
    exact sym_last enc hO r g cb blk off cap a m d w eg hcmp hH (by omega) hb hsz h2
  have IH := Lib.hid ih
  have ROT := Lib.hid (fun (W : World) (x y z : Nat) h1 h2 h3 h4 => rotate_row enc hO g cb blk off cap x y z d W h1 h2 h3 h4 (by omega))
  rw [hds] at ROT
  clear ih
  have mixed : Tryd.prog.follows .mixedOrders = true := by kernel_rfl
  have hcl0 := hO.cells
  simp only [Value.cells] at hcl0
  have hst := hO.store Tryd.prog
  have HC : Aside (CmpAll enc r g cb blk off sz w) := hcmp
  have HST : Hid (w = (putRow enc w blk off d).drewN 0) := (putRow_self enc w blk off d hH).symm
  have HH : Hid (Holds enc w blk off d) := hH
  have H2 : Hid (Two r a m b d) := h2
  clear hH hcmp h2
  obtain ⟨ma, hma⟩ : ∃ x, x = m - a := ⟨_, rfl⟩
  obtain ⟨bm, hbm⟩ : ∃ x, x = b - m := ⟨_, rfl⟩
  obtain ⟨mid, hmid⟩ : ∃ x, x = (a + b) / 2 := ⟨_, rfl⟩
  obtain ⟨n, hn⟩ : ∃ x, x = mid + m := ⟨_, rfl⟩
  obtain ⟨p, hp⟩ : ∃ x, x = n - 1 := ⟨_, rfl⟩
  have wma : IntKind.i64.wrap ((m : Int) - (a : Int)) = (ma : Int) := by rw [IntKind.wrap_i64]; omega
  have wbm : IntKind.i64.wrap ((b : Int) - (m : Int)) = (bm : Int) := by rw [IntKind.wrap_i64]; omega
  have nma : ((ma : Int) == 1) = false := beq_eq_false_iff_ne.2 (by omega)
  have nbm : ((bm : Int) == 1) = false := beq_eq_false_iff_ne.2 (by omega)
  have nma' : ¬(ma : Int) = 1 := by omega
  have nbm' : ¬(bm : Int) = 1 := by omega
  have wab : IntKind.i64.wrap ((a : Int) + (b : Int)) = (a : Int) + (b : Int) := by rw [IntKind.wrap_i64]; omega
  have emid : ((a : Int) + (b : Int)) / 2 = (mid : Int) := by omega
  have wn : IntKind.i64.wrap ((mid : Int) + (m : Int)) = (n : Int) := by rw [IntKind.wrap_i64]; omega
  have wp : IntKind.i64.wrap ((n : Int) - 1) = (p : Int) := by rw [IntKind.wrap_i64]; omega
  have HB : Hid (ma = m - a ∧ bm = b - m ∧ mid = (a + b) / 2 ∧ n = mid + m ∧ p = n - 1) := ⟨hma, hbm, hmid, hn, hp⟩
  obtain ⟨s0, r0, hs0, hr0, hh⟩ : ∃ s0 r0 : Nat, (mid < m ∧ s0 + b = n ∨ ¬mid < m ∧ s0 = a) ∧ (mid < m ∧ r0 = mid ∨ ¬mid < m ∧ r0 = m) ∧ a ≤ s0 ∧ n ≤ s0 + b ∧ s0 ≤ r0 ∧ r0 ≤ m ∧ r0 ≤ mid ∧ (s0 = a ∨ s0 + b = n) ∧ (r0 = m ∨ r0 = mid) := by
    by_cases c : mid < m
    · exact ⟨n - b, mid, by omega, by omega, by omega⟩
    · exact ⟨a, m, by omega, by omega, by omega⟩
  have HS : Hid (a ≤ s0 ∧ n ≤ s0 + b ∧ s0 ≤ r0 ∧ r0 ≤ m ∧ r0 ≤ mid ∧ (s0 = a ∨ s0 + b = n) ∧ (r0 = m ∨ r0 = mid)) := hh
  clear hh

  by_cases hm : mid < m
  · have hmz : (mid : Int) < (m : Int) := by omega
    have wnb : IntKind.i64.wrap ((n : Int) - (b : Int)) = (s0 : Int) := by rw [IntKind.wrap_i64]; omega
    have e2 : r0 = mid := by omega
    clear hma hbm hmid hn hp hs0 hr0
    go_enter Tryd.func129, Tryd.ntmps129
    go_wp2
    go_loopg [20, 21] (r0 - s0) (fun g1 vi vj wr => ∃ (i j q : Nat), vi = .int .i64 i ∧ vj = .int .i64 j ∧ s0 ≤ i ∧ i ≤ j ∧ j ≤ r0 ∧ j - i ≤ g1 ∧ wr = (putRow enc w blk off d).drewN q ∧ Hid ((s0 < i → ahd r d[i - 1]! d[n - i]!) ∧ (j < r0 → ahd r d[n - 1 - j]! d[j]!)))
    case atStart => exact ⟨s0, r0, 0, rfl, by rw [e2], Nat.le_refl _, by have := HS.out; omega, Nat.le_refl _, Nat.le_refl _, HST.out, fun h => by omega, fun h => by omega⟩
    case round =>
      obtain ⟨i, j, q, rfl, rfl, hsi, hij, hjr, hg1, rfl, HI⟩ := hrel
      by_cases hlt : i < j
      · have hltz : (i : Int) < (j : Int) := by omega
        obtain ⟨c, hh⟩ : ∃ c, c = (i + j) / 2 := ⟨_, rfl⟩
        obtain ⟨pc, hpc⟩ : ∃ x, x = p - c := ⟨_, rfl⟩
        obtain ⟨b1, b2, b3, b4, b5⟩ := HB.out
        obtain ⟨s1, s2, s3, s4, s5, s6, s7⟩ := HS.out
        have hHj := holds_putRow enc w blk off d d HH.out rfl
        obtain ⟨xc, hxc⟩ : ∃ x, d[c]! = x := ⟨_, rfl⟩
        obtain ⟨xp, hxp⟩ : ∃ x, d[pc]! = x := ⟨_, rfl⟩
        obtain ⟨cc, _⟩ := hHj c (by omega)
        obtain ⟨cp, _⟩ := hHj pc (by omega)
        rw [hxc] at cc
        rw [hxp] at cp
        have ec : ((i : Int) + (j : Int)) / 2 = (c : Int) := by omega
        have p1 : (c : Int) < (sz : Int) := by omega
        have p2 : (pc : Int) < (sz : Int) := by omega
        have wij : IntKind.i64.wrap ((i : Int) + (j : Int)) = (i : Int) + (j : Int) := by rw [IntKind.wrap_i64]; omega
        have wpc : IntKind.i64.wrap ((p : Int) - (c : Int)) = (pc : Int) := by rw [IntKind.wrap_i64]; omega
        have wc1 : IntKind.i64.wrap ((c : Int) + 1) = ((c + 1 : Nat) : Int) := by rw [IntKind.wrap_i64]; omega
        have cc' : ((putRow enc w blk off d).drewN q).cell? ⟨blk, off + c, none⟩ = some (enc xc) := cc
        have cp' : ((putRow enc w blk off d).drewN q).cell? ⟨blk, off + pc, none⟩ = some (enc xp) := cp
        have hc := HC.out d hds xp xc q
        have hidx : d[c]! < d[pc]! := H2.out.2.2 c pc (by omega) (by omega) (by omega) (by omega)
        rw [hxc, hxp] at hidx
        have HX : Hid (d[c]! = xc ∧ d[pc]! = xp ∧ xc < xp ∧ c = (i + j) / 2 ∧ pc = p - c) := ⟨hxc, hxp, hidx, hh, hpc⟩
        clear cc cp hHj hxc hxp hidx hh hpc b1 b2 b3 b4 b5 s1 s2 s3 s4 s5 s6 s7
        generalize hwq : (putRow enc w blk off d).drewN q = wq at cc' cp' hc ⊢
        have HWQ : Hid ((putRow enc w blk off d).drewN q = wq) := hwq
        clear hwq
        by_cases hlv : cmpF r xp xc < 0
        · go_wp2_with fail
          go_quiet_o (first | (go_at_fn g; refine Calls.quiet_of (hc _)))
          go_wp2
          go_roundg (c - i)
          case measure => have := HX.out; omega
          case rel =>
            obtain ⟨x1, x2, x3, x4, x5⟩ := HX.out
            have b5 := HB.out.2.2.2.2
            refine ⟨i, c, q + nq, rfl, rfl, hsi, by omega, by omega, by omega, by rw [← HWQ.out, World.drewN_drewN], (show Hid _ from ⟨HI.out.1, fun _ => ?_⟩)⟩
            have hl := (cmp_lt (r := r) x3).1 hlv
            rw [← x1, ← x2] at hl
            rwa [show n - 1 - c = pc by omega]
        · go_wp2_with fail
          go_quiet_o (first | (go_at_fn g; refine Calls.quiet_of (hc _)))
          go_wp2
          · go_roundg (j - (c + 1))
            case measure => have := HX.out; omega
            case rel =>
              obtain ⟨x1, x2, x3, x4, x5⟩ := HX.out
              have b5 := HB.out.2.2.2.2
              refine ⟨c + 1, j, q + nq, by go_num, rfl, by omega, by omega, hjr, by omega, by rw [← HWQ.out, World.drewN_drewN], (show Hid _ from ⟨fun _ => ?_, HI.out.2⟩)⟩
              have hl := (cmp_ge (r := r) x3).1 (by omega)
              rw [← x1, ← x2] at hl
              rwa [show n - (c + 1) = pc by omega]
          · rename_i hx
            exact absurd hx (by simp; omega)
      · have hltz : ¬(i : Int) < (j : Int) := by omega
        obtain rfl : i = j := by omega
        clear hltz hg1 hij hlt
        obtain ⟨b1, b2, b3, b4, b5⟩ := HB.out
        obtain ⟨s1, s2, s3, s4, s5, s6, s7⟩ := HS.out
        obtain ⟨e, he⟩ : ∃ x, x = n - i := ⟨_, rfl⟩
        have wne : IntKind.i64.wrap ((n : Int) - (i : Int)) = (e : Int) := by rw [IntKind.wrap_i64]; omega
        have CUT := Lib.hid (fun (d1 : Array Nat) (hr : Rot i m e d d1) => sym_cut H2.out ham hmb b4 s1 s2 s4 s5 s6 s7 hsi hjr he HI.out.1 HI.out.2 hr)
        have HE : Hid (e = n - i ∧ a ≤ i ∧ i ≤ m ∧ i ≤ mid ∧ m ≤ e ∧ e ≤ b ∧ mid ≤ e ∧ mid < b ∧ a < mid) := ⟨he, by omega, by omega, by omega, by omega, by omega, by omega, by omega, by omega⟩
        clear he s1 s2 s3 s4 s5 s6 s7 b1 b2 b3 b4 b5
        by_cases cA : i < m ∧ m < e
        · obtain ⟨yA1, yA2⟩ := cA
          by_cases cB : a < i ∧ i < mid
          · obtain ⟨yB1, yB2⟩ := cB
            by_cases cC : mid < e ∧ e < b
            · obtain ⟨yC1, yC2⟩ := cC
              have zA1 : (i : Int) < (m : Int) := by omega
              have zA2 : (m : Int) < (e : Int) := by omega
              have zB1 : (a : Int) < (i : Int) := by omega
              have zB2 : (i : Int) < (mid : Int) := by omega
              have zC1 : (mid : Int) < (e : Int) := by omega
              have zC2 : (e : Int) < (b : Int) := by omega
              generalize hw0 : (putRow enc w blk off d).drewN q = w0
              have HW0 : Hid (w0 = ((putRow enc w blk off d).drewN q)) := hw0.symm
              clear hw0
              have HK0 : Hid (Holds enc w0 blk off d) := by show Holds _ _ _ _ _; rw [HW0.out]; exact holds_putRow enc w blk off d d HH.out rfl
              go_wp2_with fail
              all_goals
                refine (ROT.out w0 i m e HK0.out (by omega) (by omega) (by have := HE.out; omega)).mono ?_
                rintro e' w1 ⟨rfl, q1, d1, hw1, hr1, hp1⟩
                have HW1 : Hid (w1 = (putRow enc w blk off d1).drewN (q + q1)) := by show _ = _; rw [hw1, HW0.out, putRow_drewN', putRow_putRow enc w blk off d d1 (by have := hp1.1; omega), World.drewN_drewN]
                have hd1 : d1.size = sz := hp1.1.trans hds
                obtain ⟨T1, T2, TX⟩ := CUT.out d1 hr1
                have HT : Hid (Two r a i mid d1 ∧ Two r mid e b d1 ∧ (∀ x y, a ≤ x → x < mid → mid ≤ y → y < b → ahd r d1[x]! d1[y]!) ∧ PermIn i e d d1 ∧ d1.size = sz) := ⟨T1, T2, TX, hp1, hd1⟩
                have HK1 : Hid (Holds enc w1 blk off d1) := by show Holds _ _ _ _ _; rw [HW1.out]; exact holds_putRow enc w blk off d d1 HH.out (by omega)
                have C1 : Hid (CmpAll enc r g cb blk off sz w1) := by show CmpAll _ _ _ _ _ _ _ _; rw [HW1.out]; exact cmpAll_put HC.out hd1
                clear hw1 hr1 hp1 T1 T2 TX hd1
                have S2 := Lib.hid (IH.out a i mid d1 w1 HT.out.2.2.2.2 C1.out HK1.out (by omega) (by omega) (by have := HE.out; omega) HT.out.1 (by have := HE.out; omega))
                go_wp2_with fail
                all_goals
                  refine S2.out.mono ?_
                  rintro e' w2 ⟨rfl, q2, d2, hw2, hs2, hp2⟩
                  have HW2 : Hid (w2 = (putRow enc w blk off d2).drewN (q + q1 + q2)) := by show _ = _; rw [hw2, HW1.out, putRow_drewN', putRow_putRow enc w blk off d1 d2 (by have := hp2.1; omega), World.drewN_drewN]
                  have hd2 : d2.size = sz := hp2.1.trans HT.out.2.2.2.2
                  have T2 : Two r mid e b d2 := Two.keep (a := a) HT.out.2.1 (fun k hk => hp2.2.1 k (.inr hk)) (by have := HE.out; omega)
                  have HT2 : Hid (Srt r a mid d2 ∧ PermIn a mid d1 d2 ∧ Two r mid e b d2 ∧ d2.size = sz) := ⟨hs2, hp2, T2, hd2⟩
                  have HK2 : Hid (Holds enc w2 blk off d2) := by show Holds _ _ _ _ _; rw [HW2.out]; exact holds_putRow enc w blk off d d2 HH.out (by omega)
                  have C2 : Hid (CmpAll enc r g cb blk off sz w2) := by show CmpAll _ _ _ _ _ _ _ _; rw [HW2.out]; exact cmpAll_put HC.out hd2
                  clear hw2 hs2 hp2 T2 hd2
                  have S3 := Lib.hid (IH.out mid e b d2 w2 HT2.out.2.2.2 C2.out HK2.out (by omega) (by omega) (by omega) HT2.out.2.2.1 (by have := HE.out; omega))
                  go_wp2_with fail
                  all_goals
                    refine S3.out.mono ?_
                    rintro e' w3 ⟨rfl, q3, d3, hw3, hs3, hp3⟩
                    have HW3 : Hid (w3 = (putRow enc w blk off d3).drewN (q + q1 + q2 + q3)) := by show _ = _; rw [hw3, HW2.out, putRow_drewN', putRow_putRow enc w blk off d2 d3 (by have := hp3.1; have := HT2.out.2.2.2; omega), World.drewN_drewN]
                    have J := sym_join (by have := HT.out.2.2.2.2; omega) (by have := HE.out; omega) (by have := HE.out; omega) HT.out.2.2.1 HT2.out.1 HT2.out.2.1 hs3 hp3
                    have HJ : Hid (Srt r a b d3 ∧ PermIn a b d d3) := ⟨J.1, permIn_trans _ _ _ _ _ (permIn_mono _ _ i e a b (by have := HE.out; omega) (by have := HE.out; omega) (by omega) HT.out.2.2.2.1) J.2⟩
                    clear hw3 hs3 hp3 J
                    go_wp2
                    all_goals
                      go_end0
                      exact ⟨rfl, q + q1 + q2 + q3, d3, HW3.out, HJ.out.1, HJ.out.2⟩
            · skip
              have zA1 : (i : Int) < (m : Int) := by omega
              have zA2 : (m : Int) < (e : Int) := by omega
              have zB1 : (a : Int) < (i : Int) := by omega
              have zB2 : (i : Int) < (mid : Int) := by omega
              have zC : (decide ((mid : Int) < (e : Int)) && decide ((e : Int) < (b : Int))) = false := by simp; omega
              generalize hw0 : (putRow enc w blk off d).drewN q = w0
              have HW0 : Hid (w0 = ((putRow enc w blk off d).drewN q)) := hw0.symm
              clear hw0
              have HK0 : Hid (Holds enc w0 blk off d) := by show Holds _ _ _ _ _; rw [HW0.out]; exact holds_putRow enc w blk off d d HH.out rfl
              go_wp2_with fail
              all_goals
                refine (ROT.out w0 i m e HK0.out (by omega) (by omega) (by have := HE.out; omega)).mono ?_
                rintro e' w1 ⟨rfl, q1, d1, hw1, hr1, hp1⟩
                have HW1 : Hid (w1 = (putRow enc w blk off d1).drewN (q + q1)) := by show _ = _; rw [hw1, HW0.out, putRow_drewN', putRow_putRow enc w blk off d d1 (by have := hp1.1; omega), World.drewN_drewN]
                have hd1 : d1.size = sz := hp1.1.trans hds
                obtain ⟨T1, T2, TX⟩ := CUT.out d1 hr1
                have HT : Hid (Two r a i mid d1 ∧ Two r mid e b d1 ∧ (∀ x y, a ≤ x → x < mid → mid ≤ y → y < b → ahd r d1[x]! d1[y]!) ∧ PermIn i e d d1 ∧ d1.size = sz) := ⟨T1, T2, TX, hp1, hd1⟩
                have HK1 : Hid (Holds enc w1 blk off d1) := by show Holds _ _ _ _ _; rw [HW1.out]; exact holds_putRow enc w blk off d d1 HH.out (by omega)
                have C1 : Hid (CmpAll enc r g cb blk off sz w1) := by show CmpAll _ _ _ _ _ _ _ _; rw [HW1.out]; exact cmpAll_put HC.out hd1
                clear hw1 hr1 hp1 T1 T2 TX hd1
                have S2 := Lib.hid (IH.out a i mid d1 w1 HT.out.2.2.2.2 C1.out HK1.out (by omega) (by omega) (by have := HE.out; omega) HT.out.1 (by have := HE.out; omega))
                go_wp2_with fail
                all_goals
                  refine S2.out.mono ?_
                  rintro e' w2 ⟨rfl, q2, d2, hw2, hs2, hp2⟩
                  have HW2 : Hid (w2 = (putRow enc w blk off d2).drewN (q + q1 + q2)) := by show _ = _; rw [hw2, HW1.out, putRow_drewN', putRow_putRow enc w blk off d1 d2 (by have := hp2.1; omega), World.drewN_drewN]
                  have hd2 : d2.size = sz := hp2.1.trans HT.out.2.2.2.2
                  have T2 : Two r mid e b d2 := Two.keep (a := a) HT.out.2.1 (fun k hk => hp2.2.1 k (.inr hk)) (by have := HE.out; omega)
                  have HT2 : Hid (Srt r a mid d2 ∧ PermIn a mid d1 d2 ∧ Two r mid e b d2 ∧ d2.size = sz) := ⟨hs2, hp2, T2, hd2⟩
                  have HK2 : Hid (Holds enc w2 blk off d2) := by show Holds _ _ _ _ _; rw [HW2.out]; exact holds_putRow enc w blk off d d2 HH.out (by omega)
                  have C2 : Hid (CmpAll enc r g cb blk off sz w2) := by show CmpAll _ _ _ _ _ _ _ _; rw [HW2.out]; exact cmpAll_put HC.out hd2
                  clear hw2 hs2 hp2 T2 hd2
                  obtain ⟨d3, q3, hw3, hs3, hp3⟩ : ∃ d3 q3, (putRow enc w blk off d2).drewN (q + q1 + q2) = (putRow enc w blk off d3).drewN (q + q1 + q2 + q3) ∧ Srt r mid b d3 ∧ PermIn mid b d2 d3 := ⟨d2, 0, rfl, two_left HT2.out.2.2.1 cC (by have := HE.out; omega) (by have := HE.out; omega), permIn_refl _ _ _⟩
                  have HW3 : Hid (w2 = (putRow enc w blk off d3).drewN (q + q1 + q2 + q3)) := HW2.out.trans hw3
                  have J := sym_join (by have := HT.out.2.2.2.2; omega) (by have := HE.out; omega) (by have := HE.out; omega) HT.out.2.2.1 HT2.out.1 HT2.out.2.1 hs3 hp3
                  have HJ : Hid (Srt r a b d3 ∧ PermIn a b d d3) := ⟨J.1, permIn_trans _ _ _ _ _ (permIn_mono _ _ i e a b (by have := HE.out; omega) (by have := HE.out; omega) (by omega) HT.out.2.2.2.1) J.2⟩
                  clear hw3 hs3 hp3 J
                  go_wp2
                  all_goals
                    go_end0
                    exact ⟨rfl, q + q1 + q2 + q3, d3, HW3.out, HJ.out.1, HJ.out.2⟩
          · skip
            by_cases cC : mid < e ∧ e < b
            · obtain ⟨yC1, yC2⟩ := cC
              have zA1 : (i : Int) < (m : Int) := by omega
              have zA2 : (m : Int) < (e : Int) := by omega
              have zB : (decide ((a : Int) < (i : Int)) && decide ((i : Int) < (mid : Int))) = false := by simp; omega
              have zC1 : (mid : Int) < (e : Int) := by omega
              have zC2 : (e : Int) < (b : Int) := by omega
              generalize hw0 : (putRow enc w blk off d).drewN q = w0
              have HW0 : Hid (w0 = ((putRow enc w blk off d).drewN q)) := hw0.symm
              clear hw0
              have HK0 : Hid (Holds enc w0 blk off d) := by show Holds _ _ _ _ _; rw [HW0.out]; exact holds_putRow enc w blk off d d HH.out rfl
              go_wp2_with fail
              all_goals
                refine (ROT.out w0 i m e HK0.out (by omega) (by omega) (by have := HE.out; omega)).mono ?_
                rintro e' w1 ⟨rfl, q1, d1, hw1, hr1, hp1⟩
                have HW1 : Hid (w1 = (putRow enc w blk off d1).drewN (q + q1)) := by show _ = _; rw [hw1, HW0.out, putRow_drewN', putRow_putRow enc w blk off d d1 (by have := hp1.1; omega), World.drewN_drewN]
                have hd1 : d1.size = sz := hp1.1.trans hds
                obtain ⟨T1, T2, TX⟩ := CUT.out d1 hr1
                have HT : Hid (Two r a i mid d1 ∧ Two r mid e b d1 ∧ (∀ x y, a ≤ x → x < mid → mid ≤ y → y < b → ahd r d1[x]! d1[y]!) ∧ PermIn i e d d1 ∧ d1.size = sz) := ⟨T1, T2, TX, hp1, hd1⟩
                have HK1 : Hid (Holds enc w1 blk off d1) := by show Holds _ _ _ _ _; rw [HW1.out]; exact holds_putRow enc w blk off d d1 HH.out (by omega)
                have C1 : Hid (CmpAll enc r g cb blk off sz w1) := by show CmpAll _ _ _ _ _ _ _ _; rw [HW1.out]; exact cmpAll_put HC.out hd1
                clear hw1 hr1 hp1 T1 T2 TX hd1
                obtain ⟨d2, q2, hw2, hs2, hp2⟩ : ∃ d2 q2, (putRow enc w blk off d1).drewN (q + q1) = (putRow enc w blk off d2).drewN (q + q1 + q2) ∧ Srt r a mid d2 ∧ PermIn a mid d1 d2 := ⟨d1, 0, rfl, two_left HT.out.1 cB (by have := HE.out; omega) (by have := HE.out; omega), permIn_refl _ _ _⟩
                have HW2 : Hid (w1 = (putRow enc w blk off d2).drewN (q + q1 + q2)) := HW1.out.trans hw2
                have hd2 : d2.size = sz := hp2.1.trans HT.out.2.2.2.2
                have T2 : Two r mid e b d2 := Two.keep (a := a) HT.out.2.1 (fun k hk => hp2.2.1 k (.inr hk)) (by have := HE.out; omega)
                have HT2 : Hid (Srt r a mid d2 ∧ PermIn a mid d1 d2 ∧ Two r mid e b d2 ∧ d2.size = sz) := ⟨hs2, hp2, T2, hd2⟩
                have HK2 : Hid (Holds enc w1 blk off d2) := by show Holds _ _ _ _ _; rw [HW2.out]; exact holds_putRow enc w blk off d d2 HH.out (by omega)
                have C2 : Hid (CmpAll enc r g cb blk off sz w1) := by show CmpAll _ _ _ _ _ _ _ _; rw [HW2.out]; exact cmpAll_put HC.out hd2
                clear hw2 hs2 hp2 T2 hd2
                have S3 := Lib.hid (IH.out mid e b d2 w1 HT2.out.2.2.2 C2.out HK2.out (by omega) (by omega) (by omega) HT2.out.2.2.1 (by have := HE.out; omega))
                go_wp2_with fail
                all_goals
                  refine S3.out.mono ?_
                  rintro e' w3 ⟨rfl, q3, d3, hw3, hs3, hp3⟩
                  have HW3 : Hid (w3 = (putRow enc w blk off d3).drewN (q + q1 + q2 + q3)) := by show _ = _; rw [hw3, HW2.out, putRow_drewN', putRow_putRow enc w blk off d2 d3 (by have := hp3.1; have := HT2.out.2.2.2; omega), World.drewN_drewN]
                  have J := sym_join (by have := HT.out.2.2.2.2; omega) (by have := HE.out; omega) (by have := HE.out; omega) HT.out.2.2.1 HT2.out.1 HT2.out.2.1 hs3 hp3
                  have HJ : Hid (Srt r a b d3 ∧ PermIn a b d d3) := ⟨J.1, permIn_trans _ _ _ _ _ (permIn_mono _ _ i e a b (by have := HE.out; omega) (by have := HE.out; omega) (by omega) HT.out.2.2.2.1) J.2⟩
                  clear hw3 hs3 hp3 J
                  go_wp2
                  all_goals
                    go_end0
                    exact ⟨rfl, q + q1 + q2 + q3, d3, HW3.out, HJ.out.1, HJ.out.2⟩
            · skip
              have zA1 : (i : Int) < (m : Int) := by omega
              have zA2 : (m : Int) < (e : Int) := by omega
              have zB : (decide ((a : Int) < (i : Int)) && decide ((i : Int) < (mid : Int))) = false := by simp; omega
              have zC : (decide ((mid : Int) < (e : Int)) && decide ((e : Int) < (b : Int))) = false := by simp; omega
              generalize hw0 : (putRow enc w blk off d).drewN q = w0
              have HW0 : Hid (w0 = ((putRow enc w blk off d).drewN q)) := hw0.symm
              clear hw0
              have HK0 : Hid (Holds enc w0 blk off d) := by show Holds _ _ _ _ _; rw [HW0.out]; exact holds_putRow enc w blk off d d HH.out rfl
              go_wp2_with fail
              all_goals
                refine (ROT.out w0 i m e HK0.out (by omega) (by omega) (by have := HE.out; omega)).mono ?_
                rintro e' w1 ⟨rfl, q1, d1, hw1, hr1, hp1⟩
                have HW1 : Hid (w1 = (putRow enc w blk off d1).drewN (q + q1)) := by show _ = _; rw [hw1, HW0.out, putRow_drewN', putRow_putRow enc w blk off d d1 (by have := hp1.1; omega), World.drewN_drewN]
                have hd1 : d1.size = sz := hp1.1.trans hds
                obtain ⟨T1, T2, TX⟩ := CUT.out d1 hr1
                have HT : Hid (Two r a i mid d1 ∧ Two r mid e b d1 ∧ (∀ x y, a ≤ x → x < mid → mid ≤ y → y < b → ahd r d1[x]! d1[y]!) ∧ PermIn i e d d1 ∧ d1.size = sz) := ⟨T1, T2, TX, hp1, hd1⟩
                have HK1 : Hid (Holds enc w1 blk off d1) := by show Holds _ _ _ _ _; rw [HW1.out]; exact holds_putRow enc w blk off d d1 HH.out (by omega)
                have C1 : Hid (CmpAll enc r g cb blk off sz w1) := by show CmpAll _ _ _ _ _ _ _ _; rw [HW1.out]; exact cmpAll_put HC.out hd1
                clear hw1 hr1 hp1 T1 T2 TX hd1
                obtain ⟨d2, q2, hw2, hs2, hp2⟩ : ∃ d2 q2, (putRow enc w blk off d1).drewN (q + q1) = (putRow enc w blk off d2).drewN (q + q1 + q2) ∧ Srt r a mid d2 ∧ PermIn a mid d1 d2 := ⟨d1, 0, rfl, two_left HT.out.1 cB (by have := HE.out; omega) (by have := HE.out; omega), permIn_refl _ _ _⟩
                have HW2 : Hid (w1 = (putRow enc w blk off d2).drewN (q + q1 + q2)) := HW1.out.trans hw2
                have hd2 : d2.size = sz := hp2.1.trans HT.out.2.2.2.2
                have T2 : Two r mid e b d2 := Two.keep (a := a) HT.out.2.1 (fun k hk => hp2.2.1 k (.inr hk)) (by have := HE.out; omega)
                have HT2 : Hid (Srt r a mid d2 ∧ PermIn a mid d1 d2 ∧ Two r mid e b d2 ∧ d2.size = sz) := ⟨hs2, hp2, T2, hd2⟩
                have HK2 : Hid (Holds enc w1 blk off d2) := by show Holds _ _ _ _ _; rw [HW2.out]; exact holds_putRow enc w blk off d d2 HH.out (by omega)
                have C2 : Hid (CmpAll enc r g cb blk off sz w1) := by show CmpAll _ _ _ _ _ _ _ _; rw [HW2.out]; exact cmpAll_put HC.out hd2
                clear hw2 hs2 hp2 T2 hd2
                obtain ⟨d3, q3, hw3, hs3, hp3⟩ : ∃ d3 q3, (putRow enc w blk off d2).drewN (q + q1 + q2) = (putRow enc w blk off d3).drewN (q + q1 + q2 + q3) ∧ Srt r mid b d3 ∧ PermIn mid b d2 d3 := ⟨d2, 0, rfl, two_left HT2.out.2.2.1 cC (by have := HE.out; omega) (by have := HE.out; omega), permIn_refl _ _ _⟩
                have HW3 : Hid (w1 = (putRow enc w blk off d3).drewN (q + q1 + q2 + q3)) := HW2.out.trans hw3
                have J := sym_join (by have := HT.out.2.2.2.2; omega) (by have := HE.out; omega) (by have := HE.out; omega) HT.out.2.2.1 HT2.out.1 HT2.out.2.1 hs3 hp3
                have HJ : Hid (Srt r a b d3 ∧ PermIn a b d d3) := ⟨J.1, permIn_trans _ _ _ _ _ (permIn_mono _ _ i e a b (by have := HE.out; omega) (by have := HE.out; omega) (by omega) HT.out.2.2.2.1) J.2⟩
                clear hw3 hs3 hp3 J
                go_wp2
                all_goals
                  go_end0
                  exact ⟨rfl, q + q1 + q2 + q3, d3, HW3.out, HJ.out.1, HJ.out.2⟩
        · skip
          by_cases cB : a < i ∧ i < mid
          · obtain ⟨yB1, yB2⟩ := cB
            by_cases cC : mid < e ∧ e < b
            · obtain ⟨yC1, yC2⟩ := cC
              have zA : (decide ((i : Int) < (m : Int)) && decide ((m : Int) < (e : Int))) = false := by simp; omega
              have zB1 : (a : Int) < (i : Int) := by omega
              have zB2 : (i : Int) < (mid : Int) := by omega
              have zC1 : (mid : Int) < (e : Int) := by omega
              have zC2 : (e : Int) < (b : Int) := by omega
              generalize hw0 : (putRow enc w blk off d).drewN q = w0
              have HW0 : Hid (w0 = ((putRow enc w blk off d).drewN q)) := hw0.symm
              clear hw0
              have HK0 : Hid (Holds enc w0 blk off d) := by show Holds _ _ _ _ _; rw [HW0.out]; exact holds_putRow enc w blk off d d HH.out rfl
              go_wp2_with fail
              all_goals
                obtain ⟨d1, q1, hw1, hr1, hp1⟩ : ∃ d1 q1, w0 = (putRow enc w0 blk off d1).drewN q1 ∧ Rot i m e d d1 ∧ PermIn i e d d1 := ⟨d, 0, (putRow_self enc w0 blk off d HK0.out).symm, Rot.none (by have := HE.out; omega) (by have := HE.out; omega) (by have := HE.out; omega), permIn_refl _ _ _⟩
                have HW1 : Hid (w0 = (putRow enc w blk off d1).drewN (q + q1)) := by have h := hw1; rw [HW0.out, putRow_drewN', putRow_putRow enc w blk off d d1 (by have := hp1.1; omega), World.drewN_drewN] at h; exact HW0.out.trans h
                have hd1 : d1.size = sz := hp1.1.trans hds
                obtain ⟨T1, T2, TX⟩ := CUT.out d1 hr1
                have HT : Hid (Two r a i mid d1 ∧ Two r mid e b d1 ∧ (∀ x y, a ≤ x → x < mid → mid ≤ y → y < b → ahd r d1[x]! d1[y]!) ∧ PermIn i e d d1 ∧ d1.size = sz) := ⟨T1, T2, TX, hp1, hd1⟩
                have HK1 : Hid (Holds enc w0 blk off d1) := by show Holds _ _ _ _ _; rw [HW1.out]; exact holds_putRow enc w blk off d d1 HH.out (by omega)
                have C1 : Hid (CmpAll enc r g cb blk off sz w0) := by show CmpAll _ _ _ _ _ _ _ _; rw [HW1.out]; exact cmpAll_put HC.out hd1
                clear hw1 hr1 hp1 T1 T2 TX hd1
                have S2 := Lib.hid (IH.out a i mid d1 w0 HT.out.2.2.2.2 C1.out HK1.out (by omega) (by omega) (by have := HE.out; omega) HT.out.1 (by have := HE.out; omega))
                refine S2.out.mono ?_
                rintro e' w2 ⟨rfl, q2, d2, hw2, hs2, hp2⟩
                have HW2 : Hid (w2 = (putRow enc w blk off d2).drewN (q + q1 + q2)) := by show _ = _; rw [hw2, HW1.out, putRow_drewN', putRow_putRow enc w blk off d1 d2 (by have := hp2.1; omega), World.drewN_drewN]
                have hd2 : d2.size = sz := hp2.1.trans HT.out.2.2.2.2
                have T2 : Two r mid e b d2 := Two.keep (a := a) HT.out.2.1 (fun k hk => hp2.2.1 k (.inr hk)) (by have := HE.out; omega)
                have HT2 : Hid (Srt r a mid d2 ∧ PermIn a mid d1 d2 ∧ Two r mid e b d2 ∧ d2.size = sz) := ⟨hs2, hp2, T2, hd2⟩
                have HK2 : Hid (Holds enc w2 blk off d2) := by show Holds _ _ _ _ _; rw [HW2.out]; exact holds_putRow enc w blk off d d2 HH.out (by omega)
                have C2 : Hid (CmpAll enc r g cb blk off sz w2) := by show CmpAll _ _ _ _ _ _ _ _; rw [HW2.out]; exact cmpAll_put HC.out hd2
                clear hw2 hs2 hp2 T2 hd2
                have S3 := Lib.hid (IH.out mid e b d2 w2 HT2.out.2.2.2 C2.out HK2.out (by omega) (by omega) (by omega) HT2.out.2.2.1 (by have := HE.out; omega))
                go_wp2_with fail
                all_goals
                  refine S3.out.mono ?_
                  rintro e' w3 ⟨rfl, q3, d3, hw3, hs3, hp3⟩
                  have HW3 : Hid (w3 = (putRow enc w blk off d3).drewN (q + q1 + q2 + q3)) := by show _ = _; rw [hw3, HW2.out, putRow_drewN', putRow_putRow enc w blk off d2 d3 (by have := hp3.1; have := HT2.out.2.2.2; omega), World.drewN_drewN]
                  have J := sym_join (by have := HT.out.2.2.2.2; omega) (by have := HE.out; omega) (by have := HE.out; omega) HT.out.2.2.1 HT2.out.1 HT2.out.2.1 hs3 hp3
                  have HJ : Hid (Srt r a b d3 ∧ PermIn a b d d3) := ⟨J.1, permIn_trans _ _ _ _ _ (permIn_mono _ _ i e a b (by have := HE.out; omega) (by have := HE.out; omega) (by omega) HT.out.2.2.2.1) J.2⟩
                  clear hw3 hs3 hp3 J
                  go_wp2
                  all_goals
                    go_end0
                    exact ⟨rfl, q + q1 + q2 + q3, d3, HW3.out, HJ.out.1, HJ.out.2⟩
            · skip
              have zA : (decide ((i : Int) < (m : Int)) && decide ((m : Int) < (e : Int))) = false := by simp; omega
              have zB1 : (a : Int) < (i : Int) := by omega
              have zB2 : (i : Int) < (mid : Int) := by omega
              have zC : (decide ((mid : Int) < (e : Int)) && decide ((e : Int) < (b : Int))) = false := by simp; omega
              generalize hw0 : (putRow enc w blk off d).drewN q = w0
              have HW0 : Hid (w0 = ((putRow enc w blk off d).drewN q)) := hw0.symm
              clear hw0
              have HK0 : Hid (Holds enc w0 blk off d) := by show Holds _ _ _ _ _; rw [HW0.out]; exact holds_putRow enc w blk off d d HH.out rfl
              go_wp2_with fail
              all_goals
                obtain ⟨d1, q1, hw1, hr1, hp1⟩ : ∃ d1 q1, w0 = (putRow enc w0 blk off d1).drewN q1 ∧ Rot i m e d d1 ∧ PermIn i e d d1 := ⟨d, 0, (putRow_self enc w0 blk off d HK0.out).symm, Rot.none (by have := HE.out; omega) (by have := HE.out; omega) (by have := HE.out; omega), permIn_refl _ _ _⟩
                have HW1 : Hid (w0 = (putRow enc w blk off d1).drewN (q + q1)) := by have h := hw1; rw [HW0.out, putRow_drewN', putRow_putRow enc w blk off d d1 (by have := hp1.1; omega), World.drewN_drewN] at h; exact HW0.out.trans h
                have hd1 : d1.size = sz := hp1.1.trans hds
                obtain ⟨T1, T2, TX⟩ := CUT.out d1 hr1
                have HT : Hid (Two r a i mid d1 ∧ Two r mid e b d1 ∧ (∀ x y, a ≤ x → x < mid → mid ≤ y → y < b → ahd r d1[x]! d1[y]!) ∧ PermIn i e d d1 ∧ d1.size = sz) := ⟨T1, T2, TX, hp1, hd1⟩
                have HK1 : Hid (Holds enc w0 blk off d1) := by show Holds _ _ _ _ _; rw [HW1.out]; exact holds_putRow enc w blk off d d1 HH.out (by omega)
                have C1 : Hid (CmpAll enc r g cb blk off sz w0) := by show CmpAll _ _ _ _ _ _ _ _; rw [HW1.out]; exact cmpAll_put HC.out hd1
                clear hw1 hr1 hp1 T1 T2 TX hd1
                have S2 := Lib.hid (IH.out a i mid d1 w0 HT.out.2.2.2.2 C1.out HK1.out (by omega) (by omega) (by have := HE.out; omega) HT.out.1 (by have := HE.out; omega))
                refine S2.out.mono ?_
                rintro e' w2 ⟨rfl, q2, d2, hw2, hs2, hp2⟩
                have HW2 : Hid (w2 = (putRow enc w blk off d2).drewN (q + q1 + q2)) := by show _ = _; rw [hw2, HW1.out, putRow_drewN', putRow_putRow enc w blk off d1 d2 (by have := hp2.1; omega), World.drewN_drewN]
                have hd2 : d2.size = sz := hp2.1.trans HT.out.2.2.2.2
                have T2 : Two r mid e b d2 := Two.keep (a := a) HT.out.2.1 (fun k hk => hp2.2.1 k (.inr hk)) (by have := HE.out; omega)
                have HT2 : Hid (Srt r a mid d2 ∧ PermIn a mid d1 d2 ∧ Two r mid e b d2 ∧ d2.size = sz) := ⟨hs2, hp2, T2, hd2⟩
                have HK2 : Hid (Holds enc w2 blk off d2) := by show Holds _ _ _ _ _; rw [HW2.out]; exact holds_putRow enc w blk off d d2 HH.out (by omega)
                have C2 : Hid (CmpAll enc r g cb blk off sz w2) := by show CmpAll _ _ _ _ _ _ _ _; rw [HW2.out]; exact cmpAll_put HC.out hd2
                clear hw2 hs2 hp2 T2 hd2
                obtain ⟨d3, q3, hw3, hs3, hp3⟩ : ∃ d3 q3, (putRow enc w blk off d2).drewN (q + q1 + q2) = (putRow enc w blk off d3).drewN (q + q1 + q2 + q3) ∧ Srt r mid b d3 ∧ PermIn mid b d2 d3 := ⟨d2, 0, rfl, two_left HT2.out.2.2.1 cC (by have := HE.out; omega) (by have := HE.out; omega), permIn_refl _ _ _⟩
                have HW3 : Hid (w2 = (putRow enc w blk off d3).drewN (q + q1 + q2 + q3)) := HW2.out.trans hw3
                have J := sym_join (by have := HT.out.2.2.2.2; omega) (by have := HE.out; omega) (by have := HE.out; omega) HT.out.2.2.1 HT2.out.1 HT2.out.2.1 hs3 hp3
                have HJ : Hid (Srt r a b d3 ∧ PermIn a b d d3) := ⟨J.1, permIn_trans _ _ _ _ _ (permIn_mono _ _ i e a b (by have := HE.out; omega) (by have := HE.out; omega) (by omega) HT.out.2.2.2.1) J.2⟩
                clear hw3 hs3 hp3 J
                go_wp2
                all_goals
                  go_end0
                  exact ⟨rfl, q + q1 + q2 + q3, d3, HW3.out, HJ.out.1, HJ.out.2⟩
          · skip
            by_cases cC : mid < e ∧ e < b
            · obtain ⟨yC1, yC2⟩ := cC
              have zA : (decide ((i : Int) < (m : Int)) && decide ((m : Int) < (e : Int))) = false := by simp; omega
              have zB : (decide ((a : Int) < (i : Int)) && decide ((i : Int) < (mid : Int))) = false := by simp; omega
              have zC1 : (mid : Int) < (e : Int) := by omega
              have zC2 : (e : Int) < (b : Int) := by omega
              generalize hw0 : (putRow enc w blk off d).drewN q = w0
              have HW0 : Hid (w0 = ((putRow enc w blk off d).drewN q)) := hw0.symm
              clear hw0
              have HK0 : Hid (Holds enc w0 blk off d) := by show Holds _ _ _ _ _; rw [HW0.out]; exact holds_putRow enc w blk off d d HH.out rfl
              go_wp2_with fail
              all_goals
                obtain ⟨d1, q1, hw1, hr1, hp1⟩ : ∃ d1 q1, w0 = (putRow enc w0 blk off d1).drewN q1 ∧ Rot i m e d d1 ∧ PermIn i e d d1 := ⟨d, 0, (putRow_self enc w0 blk off d HK0.out).symm, Rot.none (by have := HE.out; omega) (by have := HE.out; omega) (by have := HE.out; omega), permIn_refl _ _ _⟩
                have HW1 : Hid (w0 = (putRow enc w blk off d1).drewN (q + q1)) := by have h := hw1; rw [HW0.out, putRow_drewN', putRow_putRow enc w blk off d d1 (by have := hp1.1; omega), World.drewN_drewN] at h; exact HW0.out.trans h
                have hd1 : d1.size = sz := hp1.1.trans hds
                obtain ⟨T1, T2, TX⟩ := CUT.out d1 hr1
                have HT : Hid (Two r a i mid d1 ∧ Two r mid e b d1 ∧ (∀ x y, a ≤ x → x < mid → mid ≤ y → y < b → ahd r d1[x]! d1[y]!) ∧ PermIn i e d d1 ∧ d1.size = sz) := ⟨T1, T2, TX, hp1, hd1⟩
                have HK1 : Hid (Holds enc w0 blk off d1) := by show Holds _ _ _ _ _; rw [HW1.out]; exact holds_putRow enc w blk off d d1 HH.out (by omega)
                have C1 : Hid (CmpAll enc r g cb blk off sz w0) := by show CmpAll _ _ _ _ _ _ _ _; rw [HW1.out]; exact cmpAll_put HC.out hd1
                clear hw1 hr1 hp1 T1 T2 TX hd1
                obtain ⟨d2, q2, hw2, hs2, hp2⟩ : ∃ d2 q2, (putRow enc w blk off d1).drewN (q + q1) = (putRow enc w blk off d2).drewN (q + q1 + q2) ∧ Srt r a mid d2 ∧ PermIn a mid d1 d2 := ⟨d1, 0, rfl, two_left HT.out.1 cB (by have := HE.out; omega) (by have := HE.out; omega), permIn_refl _ _ _⟩
                have HW2 : Hid (w0 = (putRow enc w blk off d2).drewN (q + q1 + q2)) := HW1.out.trans hw2
                have hd2 : d2.size = sz := hp2.1.trans HT.out.2.2.2.2
                have T2 : Two r mid e b d2 := Two.keep (a := a) HT.out.2.1 (fun k hk => hp2.2.1 k (.inr hk)) (by have := HE.out; omega)
                have HT2 : Hid (Srt r a mid d2 ∧ PermIn a mid d1 d2 ∧ Two r mid e b d2 ∧ d2.size = sz) := ⟨hs2, hp2, T2, hd2⟩
                have HK2 : Hid (Holds enc w0 blk off d2) := by show Holds _ _ _ _ _; rw [HW2.out]; exact holds_putRow enc w blk off d d2 HH.out (by omega)
                have C2 : Hid (CmpAll enc r g cb blk off sz w0) := by show CmpAll _ _ _ _ _ _ _ _; rw [HW2.out]; exact cmpAll_put HC.out hd2
                clear hw2 hs2 hp2 T2 hd2
                have S3 := Lib.hid (IH.out mid e b d2 w0 HT2.out.2.2.2 C2.out HK2.out (by omega) (by omega) (by omega) HT2.out.2.2.1 (by have := HE.out; omega))
                refine S3.out.mono ?_
                rintro e' w3 ⟨rfl, q3, d3, hw3, hs3, hp3⟩
                have HW3 : Hid (w3 = (putRow enc w blk off d3).drewN (q + q1 + q2 + q3)) := by show _ = _; rw [hw3, HW2.out, putRow_drewN', putRow_putRow enc w blk off d2 d3 (by have := hp3.1; have := HT2.out.2.2.2; omega), World.drewN_drewN]
                have J := sym_join (by have := HT.out.2.2.2.2; omega) (by have := HE.out; omega) (by have := HE.out; omega) HT.out.2.2.1 HT2.out.1 HT2.out.2.1 hs3 hp3
                have HJ : Hid (Srt r a b d3 ∧ PermIn a b d d3) := ⟨J.1, permIn_trans _ _ _ _ _ (permIn_mono _ _ i e a b (by have := HE.out; omega) (by have := HE.out; omega) (by omega) HT.out.2.2.2.1) J.2⟩
                clear hw3 hs3 hp3 J
                go_wp2
                all_goals
                  go_end0
                  exact ⟨rfl, q + q1 + q2 + q3, d3, HW3.out, HJ.out.1, HJ.out.2⟩
            · skip
              have zA : (decide ((i : Int) < (m : Int)) && decide ((m : Int) < (e : Int))) = false := by simp; omega
              have zB : (decide ((a : Int) < (i : Int)) && decide ((i : Int) < (mid : Int))) = false := by simp; omega
              have zC : (decide ((mid : Int) < (e : Int)) && decide ((e : Int) < (b : Int))) = false := by simp; omega
              generalize hw0 : (putRow enc w blk off d).drewN q = w0
              have HW0 : Hid (w0 = ((putRow enc w blk off d).drewN q)) := hw0.symm
              clear hw0
              have HK0 : Hid (Holds enc w0 blk off d) := by show Holds _ _ _ _ _; rw [HW0.out]; exact holds_putRow enc w blk off d d HH.out rfl
              go_wp2_with fail
              all_goals
                obtain ⟨d1, q1, hw1, hr1, hp1⟩ : ∃ d1 q1, w0 = (putRow enc w0 blk off d1).drewN q1 ∧ Rot i m e d d1 ∧ PermIn i e d d1 := ⟨d, 0, (putRow_self enc w0 blk off d HK0.out).symm, Rot.none (by have := HE.out; omega) (by have := HE.out; omega) (by have := HE.out; omega), permIn_refl _ _ _⟩
                have HW1 : Hid (w0 = (putRow enc w blk off d1).drewN (q + q1)) := by have h := hw1; rw [HW0.out, putRow_drewN', putRow_putRow enc w blk off d d1 (by have := hp1.1; omega), World.drewN_drewN] at h; exact HW0.out.trans h
                have hd1 : d1.size = sz := hp1.1.trans hds
                obtain ⟨T1, T2, TX⟩ := CUT.out d1 hr1
                have HT : Hid (Two r a i mid d1 ∧ Two r mid e b d1 ∧ (∀ x y, a ≤ x → x < mid → mid ≤ y → y < b → ahd r d1[x]! d1[y]!) ∧ PermIn i e d d1 ∧ d1.size = sz) := ⟨T1, T2, TX, hp1, hd1⟩
                have HK1 : Hid (Holds enc w0 blk off d1) := by show Holds _ _ _ _ _; rw [HW1.out]; exact holds_putRow enc w blk off d d1 HH.out (by omega)
                have C1 : Hid (CmpAll enc r g cb blk off sz w0) := by show CmpAll _ _ _ _ _ _ _ _; rw [HW1.out]; exact cmpAll_put HC.out hd1
                clear hw1 hr1 hp1 T1 T2 TX hd1
                obtain ⟨d2, q2, hw2, hs2, hp2⟩ : ∃ d2 q2, (putRow enc w blk off d1).drewN (q + q1) = (putRow enc w blk off d2).drewN (q + q1 + q2) ∧ Srt r a mid d2 ∧ PermIn a mid d1 d2 := ⟨d1, 0, rfl, two_left HT.out.1 cB (by have := HE.out; omega) (by have := HE.out; omega), permIn_refl _ _ _⟩
                have HW2 : Hid (w0 = (putRow enc w blk off d2).drewN (q + q1 + q2)) := HW1.out.trans hw2
                have hd2 : d2.size = sz := hp2.1.trans HT.out.2.2.2.2
                have T2 : Two r mid e b d2 := Two.keep (a := a) HT.out.2.1 (fun k hk => hp2.2.1 k (.inr hk)) (by have := HE.out; omega)
                have HT2 : Hid (Srt r a mid d2 ∧ PermIn a mid d1 d2 ∧ Two r mid e b d2 ∧ d2.size = sz) := ⟨hs2, hp2, T2, hd2⟩
                have HK2 : Hid (Holds enc w0 blk off d2) := by show Holds _ _ _ _ _; rw [HW2.out]; exact holds_putRow enc w blk off d d2 HH.out (by omega)
                have C2 : Hid (CmpAll enc r g cb blk off sz w0) := by show CmpAll _ _ _ _ _ _ _ _; rw [HW2.out]; exact cmpAll_put HC.out hd2
                clear hw2 hs2 hp2 T2 hd2
                obtain ⟨d3, q3, hw3, hs3, hp3⟩ : ∃ d3 q3, (putRow enc w blk off d2).drewN (q + q1 + q2) = (putRow enc w blk off d3).drewN (q + q1 + q2 + q3) ∧ Srt r mid b d3 ∧ PermIn mid b d2 d3 := ⟨d2, 0, rfl, two_left HT2.out.2.2.1 cC (by have := HE.out; omega) (by have := HE.out; omega), permIn_refl _ _ _⟩
                have HW3 : Hid (w0 = (putRow enc w blk off d3).drewN (q + q1 + q2 + q3)) := HW2.out.trans hw3
                have J := sym_join (by have := HT.out.2.2.2.2; omega) (by have := HE.out; omega) (by have := HE.out; omega) HT.out.2.2.1 HT2.out.1 HT2.out.2.1 hs3 hp3
                have HJ : Hid (Srt r a b d3 ∧ PermIn a b d d3) := ⟨J.1, permIn_trans _ _ _ _ _ (permIn_mono _ _ i e a b (by have := HE.out; omega) (by have := HE.out; omega) (by omega) HT.out.2.2.2.1) J.2⟩
                clear hw3 hs3 hp3 J
                go_end0
                exact ⟨rfl, q + q1 + q2 + q3, d3, HW3.out, HJ.out.1, HJ.out.2⟩
  · have hmz : ¬(mid : Int) < (m : Int) := by omega
    have e1 : s0 = a := by omega
    have e2 : r0 = m := by omega
    clear hma hbm hmid hn hp hs0 hr0
    go_enter Tryd.func129, Tryd.ntmps129
    go_wp2
    go_loopg [20, 21] (r0 - s0) (fun g1 vi vj wr => ∃ (i j q : Nat), vi = .int .i64 i ∧ vj = .int .i64 j ∧ s0 ≤ i ∧ i ≤ j ∧ j ≤ r0 ∧ j - i ≤ g1 ∧ wr = (putRow enc w blk off d).drewN q ∧ Hid ((s0 < i → ahd r d[i - 1]! d[n - i]!) ∧ (j < r0 → ahd r d[n - 1 - j]! d[j]!)))
    case atStart => exact ⟨s0, r0, 0, by rw [e1], by rw [e2], Nat.le_refl _, by have := HS.out; omega, Nat.le_refl _, Nat.le_refl _, HST.out, fun h => by omega, fun h => by omega⟩
    case round =>
      obtain ⟨i, j, q, rfl, rfl, hsi, hij, hjr, hg1, rfl, HI⟩ := hrel
      by_cases hlt : i < j
      · have hltz : (i : Int) < (j : Int) := by omega
        obtain ⟨c, hh⟩ : ∃ c, c = (i + j) / 2 := ⟨_, rfl⟩
        obtain ⟨pc, hpc⟩ : ∃ x, x = p - c := ⟨_, rfl⟩
        obtain ⟨b1, b2, b3, b4, b5⟩ := HB.out
        obtain ⟨s1, s2, s3, s4, s5, s6, s7⟩ := HS.out
        have hHj := holds_putRow enc w blk off d d HH.out rfl
        obtain ⟨xc, hxc⟩ : ∃ x, d[c]! = x := ⟨_, rfl⟩
        obtain ⟨xp, hxp⟩ : ∃ x, d[pc]! = x := ⟨_, rfl⟩
        obtain ⟨cc, _⟩ := hHj c (by omega)
        obtain ⟨cp, _⟩ := hHj pc (by omega)
        rw [hxc] at cc
        rw [hxp] at cp
        have ec : ((i : Int) + (j : Int)) / 2 = (c : Int) := by omega
        have p1 : (c : Int) < (sz : Int) := by omega
        have p2 : (pc : Int) < (sz : Int) := by omega
        have wij : IntKind.i64.wrap ((i : Int) + (j : Int)) = (i : Int) + (j : Int) := by rw [IntKind.wrap_i64]; omega
        have wpc : IntKind.i64.wrap ((p : Int) - (c : Int)) = (pc : Int) := by rw [IntKind.wrap_i64]; omega
        have wc1 : IntKind.i64.wrap ((c : Int) + 1) = ((c + 1 : Nat) : Int) := by rw [IntKind.wrap_i64]; omega
        have cc' : ((putRow enc w blk off d).drewN q).cell? ⟨blk, off + c, none⟩ = some (enc xc) := cc
        have cp' : ((putRow enc w blk off d).drewN q).cell? ⟨blk, off + pc, none⟩ = some (enc xp) := cp
        have hc := HC.out d hds xp xc q
        have hidx : d[c]! < d[pc]! := H2.out.2.2 c pc (by omega) (by omega) (by omega) (by omega)
        rw [hxc, hxp] at hidx
        have HX : Hid (d[c]! = xc ∧ d[pc]! = xp ∧ xc < xp ∧ c = (i + j) / 2 ∧ pc = p - c) := ⟨hxc, hxp, hidx, hh, hpc⟩
        clear cc cp hHj hxc hxp hidx hh hpc b1 b2 b3 b4 b5 s1 s2 s3 s4 s5 s6 s7
        generalize hwq : (putRow enc w blk off d).drewN q = wq at cc' cp' hc ⊢
        have HWQ : Hid ((putRow enc w blk off d).drewN q = wq) := hwq
        clear hwq
        by_cases hlv : cmpF r xp xc < 0
        · go_wp2_with fail
          go_quiet_o (first | (go_at_fn g; refine Calls.quiet_of (hc _)))
          go_wp2
          go_roundg (c - i)
          case measure => have := HX.out; omega
          case rel =>
            obtain ⟨x1, x2, x3, x4, x5⟩ := HX.out
            have b5 := HB.out.2.2.2.2
            refine ⟨i, c, q + nq, rfl, rfl, hsi, by omega, by omega, by omega, by rw [← HWQ.out, World.drewN_drewN], (show Hid _ from ⟨HI.out.1, fun _ => ?_⟩)⟩
            have hl := (cmp_lt (r := r) x3).1 hlv
            rw [← x1, ← x2] at hl
            rwa [show n - 1 - c = pc by omega]
        · go_wp2_with fail
          go_quiet_o (first | (go_at_fn g; refine Calls.quiet_of (hc _)))
          go_wp2
          · go_roundg (j - (c + 1))
            case measure => have := HX.out; omega
            case rel =>
              obtain ⟨x1, x2, x3, x4, x5⟩ := HX.out
              have b5 := HB.out.2.2.2.2
              refine ⟨c + 1, j, q + nq, by go_num, rfl, by omega, by omega, hjr, by omega, by rw [← HWQ.out, World.drewN_drewN], (show Hid _ from ⟨fun _ => ?_, HI.out.2⟩)⟩
              have hl := (cmp_ge (r := r) x3).1 (by omega)
              rw [← x1, ← x2] at hl
              rwa [show n - (c + 1) = pc by omega]
          · rename_i hx
            exact absurd hx (by simp; omega)
      · have hltz : ¬(i : Int) < (j : Int) := by omega
        obtain rfl : i = j := by omega
        clear hltz hg1 hij hlt
        obtain ⟨b1, b2, b3, b4, b5⟩ := HB.out
        obtain ⟨s1, s2, s3, s4, s5, s6, s7⟩ := HS.out
        obtain ⟨e, he⟩ : ∃ x, x = n - i := ⟨_, rfl⟩
        have wne : IntKind.i64.wrap ((n : Int) - (i : Int)) = (e : Int) := by rw [IntKind.wrap_i64]; omega
        have CUT := Lib.hid (fun (d1 : Array Nat) (hr : Rot i m e d d1) => sym_cut H2.out ham hmb b4 s1 s2 s4 s5 s6 s7 hsi hjr he HI.out.1 HI.out.2 hr)
        have HE : Hid (e = n - i ∧ a ≤ i ∧ i ≤ m ∧ i ≤ mid ∧ m ≤ e ∧ e ≤ b ∧ mid ≤ e ∧ mid < b ∧ a < mid) := ⟨he, by omega, by omega, by omega, by omega, by omega, by omega, by omega, by omega⟩
        clear he s1 s2 s3 s4 s5 s6 s7 b1 b2 b3 b4 b5
        by_cases cA : i < m ∧ m < e
        · obtain ⟨yA1, yA2⟩ := cA
          by_cases cB : a < i ∧ i < mid
          · obtain ⟨yB1, yB2⟩ := cB
            by_cases cC : mid < e ∧ e < b
            · obtain ⟨yC1, yC2⟩ := cC
              have zA1 : (i : Int) < (m : Int) := by omega
              have zA2 : (m : Int) < (e : Int) := by omega
              have zB1 : (a : Int) < (i : Int) := by omega
              have zB2 : (i : Int) < (mid : Int) := by omega
              have zC1 : (mid : Int) < (e : Int) := by omega
              have zC2 : (e : Int) < (b : Int) := by omega
              generalize hw0 : (putRow enc w blk off d).drewN q = w0
              have HW0 : Hid (w0 = ((putRow enc w blk off d).drewN q)) := hw0.symm
              clear hw0
              have HK0 : Hid (Holds enc w0 blk off d) := by show Holds _ _ _ _ _; rw [HW0.out]; exact holds_putRow enc w blk off d d HH.out rfl
              go_wp2_with fail
              all_goals
                refine (ROT.out w0 i m e HK0.out (by omega) (by omega) (by have := HE.out; omega)).mono ?_
                rintro e' w1 ⟨rfl, q1, d1, hw1, hr1, hp1⟩
                have HW1 : Hid (w1 = (putRow enc w blk off d1).drewN (q + q1)) := by show _ = _; rw [hw1, HW0.out, putRow_drewN', putRow_putRow enc w blk off d d1 (by have := hp1.1; omega), World.drewN_drewN]
                have hd1 : d1.size = sz := hp1.1.trans hds
                obtain ⟨T1, T2, TX⟩ := CUT.out d1 hr1
                have HT : Hid (Two r a i mid d1 ∧ Two r mid e b d1 ∧ (∀ x y, a ≤ x → x < mid → mid ≤ y → y < b → ahd r d1[x]! d1[y]!) ∧ PermIn i e d d1 ∧ d1.size = sz) := ⟨T1, T2, TX, hp1, hd1⟩
                have HK1 : Hid (Holds enc w1 blk off d1) := by show Holds _ _ _ _ _; rw [HW1.out]; exact holds_putRow enc w blk off d d1 HH.out (by omega)
                have C1 : Hid (CmpAll enc r g cb blk off sz w1) := by show CmpAll _ _ _ _ _ _ _ _; rw [HW1.out]; exact cmpAll_put HC.out hd1
                clear hw1 hr1 hp1 T1 T2 TX hd1
                have S2 := Lib.hid (IH.out a i mid d1 w1 HT.out.2.2.2.2 C1.out HK1.out (by omega) (by omega) (by have := HE.out; omega) HT.out.1 (by have := HE.out; omega))
                go_wp2_with fail
                all_goals
                  refine S2.out.mono ?_
                  rintro e' w2 ⟨rfl, q2, d2, hw2, hs2, hp2⟩
                  have HW2 : Hid (w2 = (putRow enc w blk off d2).drewN (q + q1 + q2)) := by show _ = _; rw [hw2, HW1.out, putRow_drewN', putRow_putRow enc w blk off d1 d2 (by have := hp2.1; omega), World.drewN_drewN]
                  have hd2 : d2.size = sz := hp2.1.trans HT.out.2.2.2.2
                  have T2 : Two r mid e b d2 := Two.keep (a := a) HT.out.2.1 (fun k hk => hp2.2.1 k (.inr hk)) (by have := HE.out; omega)
                  have HT2 : Hid (Srt r a mid d2 ∧ PermIn a mid d1 d2 ∧ Two r mid e b d2 ∧ d2.size = sz) := ⟨hs2, hp2, T2, hd2⟩
                  have HK2 : Hid (Holds enc w2 blk off d2) := by show Holds _ _ _ _ _; rw [HW2.out]; exact holds_putRow enc w blk off d d2 HH.out (by omega)
                  have C2 : Hid (CmpAll enc r g cb blk off sz w2) := by show CmpAll _ _ _ _ _ _ _ _; rw [HW2.out]; exact cmpAll_put HC.out hd2
                  clear hw2 hs2 hp2 T2 hd2
                  have S3 := Lib.hid (IH.out mid e b d2 w2 HT2.out.2.2.2 C2.out HK2.out (by omega) (by omega) (by omega) HT2.out.2.2.1 (by have := HE.out; omega))
                  go_wp2_with fail
                  all_goals
                    refine S3.out.mono ?_
                    rintro e' w3 ⟨rfl, q3, d3, hw3, hs3, hp3⟩
                    have HW3 : Hid (w3 = (putRow enc w blk off d3).drewN (q + q1 + q2 + q3)) := by show _ = _; rw [hw3, HW2.out, putRow_drewN', putRow_putRow enc w blk off d2 d3 (by have := hp3.1; have := HT2.out.2.2.2; omega), World.drewN_drewN]
                    have J := sym_join (by have := HT.out.2.2.2.2; omega) (by have := HE.out; omega) (by have := HE.out; omega) HT.out.2.2.1 HT2.out.1 HT2.out.2.1 hs3 hp3
                    have HJ : Hid (Srt r a b d3 ∧ PermIn a b d d3) := ⟨J.1, permIn_trans _ _ _ _ _ (permIn_mono _ _ i e a b (by have := HE.out; omega) (by have := HE.out; omega) (by omega) HT.out.2.2.2.1) J.2⟩
                    clear hw3 hs3 hp3 J
                    go_wp2
                    all_goals
                      go_end0
                      exact ⟨rfl, q + q1 + q2 + q3, d3, HW3.out, HJ.out.1, HJ.out.2⟩
            · skip
              have zA1 : (i : Int) < (m : Int) := by omega
              have zA2 : (m : Int) < (e : Int) := by omega
              have zB1 : (a : Int) < (i : Int) := by omega
              have zB2 : (i : Int) < (mid : Int) := by omega
              have zC : (decide ((mid : Int) < (e : Int)) && decide ((e : Int) < (b : Int))) = false := by simp; omega
              generalize hw0 : (putRow enc w blk off d).drewN q = w0
              have HW0 : Hid (w0 = ((putRow enc w blk off d).drewN q)) := hw0.symm
              clear hw0
              have HK0 : Hid (Holds enc w0 blk off d) := by show Holds _ _ _ _ _; rw [HW0.out]; exact holds_putRow enc w blk off d d HH.out rfl
              go_wp2_with fail
              all_goals
                refine (ROT.out w0 i m e HK0.out (by omega) (by omega) (by have := HE.out; omega)).mono ?_
                rintro e' w1 ⟨rfl, q1, d1, hw1, hr1, hp1⟩
                have HW1 : Hid (w1 = (putRow enc w blk off d1).drewN (q + q1)) := by show _ = _; rw [hw1, HW0.out, putRow_drewN', putRow_putRow enc w blk off d d1 (by have := hp1.1; omega), World.drewN_drewN]
                have hd1 : d1.size = sz := hp1.1.trans hds
                obtain ⟨T1, T2, TX⟩ := CUT.out d1 hr1
                have HT : Hid (Two r a i mid d1 ∧ Two r mid e b d1 ∧ (∀ x y, a ≤ x → x < mid → mid ≤ y → y < b → ahd r d1[x]! d1[y]!) ∧ PermIn i e d d1 ∧ d1.size = sz) := ⟨T1, T2, TX, hp1, hd1⟩
                have HK1 : Hid (Holds enc w1 blk off d1) := by show Holds _ _ _ _ _; rw [HW1.out]; exact holds_putRow enc w blk off d d1 HH.out (by omega)
                have C1 : Hid (CmpAll enc r g cb blk off sz w1) := by show CmpAll _ _ _ _ _ _ _ _; rw [HW1.out]; exact cmpAll_put HC.out hd1
                clear hw1 hr1 hp1 T1 T2 TX hd1
                have S2 := Lib.hid (IH.out a i mid d1 w1 HT.out.2.2.2.2 C1.out HK1.out (by omega) (by omega) (by have := HE.out; omega) HT.out.1 (by have := HE.out; omega))
                go_wp2_with fail
                all_goals
                  refine S2.out.mono ?_
                  rintro e' w2 ⟨rfl, q2, d2, hw2, hs2, hp2⟩
                  have HW2 : Hid (w2 = (putRow enc w blk off d2).drewN (q + q1 + q2)) := by show _ = _; rw [hw2, HW1.out, putRow_drewN', putRow_putRow enc w blk off d1 d2 (by have := hp2.1; omega), World.drewN_drewN]
                  have hd2 : d2.size = sz := hp2.1.trans HT.out.2.2.2.2
                  have T2 : Two r mid e b d2 := Two.keep (a := a) HT.out.2.1 (fun k hk => hp2.2.1 k (.inr hk)) (by have := HE.out; omega)
                  have HT2 : Hid (Srt r a mid d2 ∧ PermIn a mid d1 d2 ∧ Two r mid e b d2 ∧ d2.size = sz) := ⟨hs2, hp2, T2, hd2⟩
                  have HK2 : Hid (Holds enc w2 blk off d2) := by show Holds _ _ _ _ _; rw [HW2.out]; exact holds_putRow enc w blk off d d2 HH.out (by omega)
                  have C2 : Hid (CmpAll enc r g cb blk off sz w2) := by show CmpAll _ _ _ _ _ _ _ _; rw [HW2.out]; exact cmpAll_put HC.out hd2
                  clear hw2 hs2 hp2 T2 hd2
                  obtain ⟨d3, q3, hw3, hs3, hp3⟩ : ∃ d3 q3, (putRow enc w blk off d2).drewN (q + q1 + q2) = (putRow enc w blk off d3).drewN (q + q1 + q2 + q3) ∧ Srt r mid b d3 ∧ PermIn mid b d2 d3 := ⟨d2, 0, rfl, two_left HT2.out.2.2.1 cC (by have := HE.out; omega) (by have := HE.out; omega), permIn_refl _ _ _⟩
                  have HW3 : Hid (w2 = (putRow enc w blk off d3).drewN (q + q1 + q2 + q3)) := HW2.out.trans hw3
                  have J := sym_join (by have := HT.out.2.2.2.2; omega) (by have := HE.out; omega) (by have := HE.out; omega) HT.out.2.2.1 HT2.out.1 HT2.out.2.1 hs3 hp3
                  have HJ : Hid (Srt r a b d3 ∧ PermIn a b d d3) := ⟨J.1, permIn_trans _ _ _ _ _ (permIn_mono _ _ i e a b (by have := HE.out; omega) (by have := HE.out; omega) (by omega) HT.out.2.2.2.1) J.2⟩
                  clear hw3 hs3 hp3 J
                  go_wp2
                  all_goals
                    go_end0
                    exact ⟨rfl, q + q1 + q2 + q3, d3, HW3.out, HJ.out.1, HJ.out.2⟩
          · skip
            by_cases cC : mid < e ∧ e < b
            · obtain ⟨yC1, yC2⟩ := cC
              have zA1 : (i : Int) < (m : Int) := by omega
              have zA2 : (m : Int) < (e : Int) := by omega
              have zB : (decide ((a : Int) < (i : Int)) && decide ((i : Int) < (mid : Int))) = false := by simp; omega
              have zC1 : (mid : Int) < (e : Int) := by omega
              have zC2 : (e : Int) < (b : Int) := by omega
              generalize hw0 : (putRow enc w blk off d).drewN q = w0
              have HW0 : Hid (w0 = ((putRow enc w blk off d).drewN q)) := hw0.symm
              clear hw0
              have HK0 : Hid (Holds enc w0 blk off d) := by show Holds _ _ _ _ _; rw [HW0.out]; exact holds_putRow enc w blk off d d HH.out rfl
              go_wp2_with fail
              all_goals
                refine (ROT.out w0 i m e HK0.out (by omega) (by omega) (by have := HE.out; omega)).mono ?_
                rintro e' w1 ⟨rfl, q1, d1, hw1, hr1, hp1⟩
                have HW1 : Hid (w1 = (putRow enc w blk off d1).drewN (q + q1)) := by show _ = _; rw [hw1, HW0.out, putRow_drewN', putRow_putRow enc w blk off d d1 (by have := hp1.1; omega), World.drewN_drewN]
                have hd1 : d1.size = sz := hp1.1.trans hds
                obtain ⟨T1, T2, TX⟩ := CUT.out d1 hr1
                have HT : Hid (Two r a i mid d1 ∧ Two r mid e b d1 ∧ (∀ x y, a ≤ x → x < mid → mid ≤ y → y < b → ahd r d1[x]! d1[y]!) ∧ PermIn i e d d1 ∧ d1.size = sz) := ⟨T1, T2, TX, hp1, hd1⟩
                have HK1 : Hid (Holds enc w1 blk off d1) := by show Holds _ _ _ _ _; rw [HW1.out]; exact holds_putRow enc w blk off d d1 HH.out (by omega)
                have C1 : Hid (CmpAll enc r g cb blk off sz w1) := by show CmpAll _ _ _ _ _ _ _ _; rw [HW1.out]; exact cmpAll_put HC.out hd1
                clear hw1 hr1 hp1 T1 T2 TX hd1
                obtain ⟨d2, q2, hw2, hs2, hp2⟩ : ∃ d2 q2, (putRow enc w blk off d1).drewN (q + q1) = (putRow enc w blk off d2).drewN (q + q1 + q2) ∧ Srt r a mid d2 ∧ PermIn a mid d1 d2 := ⟨d1, 0, rfl, two_left HT.out.1 cB (by have := HE.out; omega) (by have := HE.out; omega), permIn_refl _ _ _⟩
                have HW2 : Hid (w1 = (putRow enc w blk off d2).drewN (q + q1 + q2)) := HW1.out.trans hw2
                have hd2 : d2.size = sz := hp2.1.trans HT.out.2.2.2.2
                have T2 : Two r mid e b d2 := Two.keep (a := a) HT.out.2.1 (fun k hk => hp2.2.1 k (.inr hk)) (by have := HE.out; omega)
                have HT2 : Hid (Srt r a mid d2 ∧ PermIn a mid d1 d2 ∧ Two r mid e b d2 ∧ d2.size = sz) := ⟨hs2, hp2, T2, hd2⟩
                have HK2 : Hid (Holds enc w1 blk off d2) := by show Holds _ _ _ _ _; rw [HW2.out]; exact holds_putRow enc w blk off d d2 HH.out (by omega)
                have C2 : Hid (CmpAll enc r g cb blk off sz w1) := by show CmpAll _ _ _ _ _ _ _ _; rw [HW2.out]; exact cmpAll_put HC.out hd2
                clear hw2 hs2 hp2 T2 hd2
                have S3 := Lib.hid (IH.out mid e b d2 w1 HT2.out.2.2.2 C2.out HK2.out (by omega) (by omega) (by omega) HT2.out.2.2.1 (by have := HE.out; omega))
                go_wp2_with fail
                all_goals
                  refine S3.out.mono ?_
                  rintro e' w3 ⟨rfl, q3, d3, hw3, hs3, hp3⟩
                  have HW3 : Hid (w3 = (putRow enc w blk off d3).drewN (q + q1 + q2 + q3)) := by show _ = _; rw [hw3, HW2.out, putRow_drewN', putRow_putRow enc w blk off d2 d3 (by have := hp3.1; have := HT2.out.2.2.2; omega), World.drewN_drewN]
                  have J := sym_join (by have := HT.out.2.2.2.2; omega) (by have := HE.out; omega) (by have := HE.out; omega) HT.out.2.2.1 HT2.out.1 HT2.out.2.1 hs3 hp3
                  have HJ : Hid (Srt r a b d3 ∧ PermIn a b d d3) := ⟨J.1, permIn_trans _ _ _ _ _ (permIn_mono _ _ i e a b (by have := HE.out; omega) (by have := HE.out; omega) (by omega) HT.out.2.2.2.1) J.2⟩
                  clear hw3 hs3 hp3 J
                  go_wp2
                  all_goals
                    go_end0
                    exact ⟨rfl, q + q1 + q2 + q3, d3, HW3.out, HJ.out.1, HJ.out.2⟩
            · skip
              have zA1 : (i : Int) < (m : Int) := by omega
              have zA2 : (m : Int) < (e : Int) := by omega
              have zB : (decide ((a : Int) < (i : Int)) && decide ((i : Int) < (mid : Int))) = false := by simp; omega
              have zC : (decide ((mid : Int) < (e : Int)) && decide ((e : Int) < (b : Int))) = false := by simp; omega
              generalize hw0 : (putRow enc w blk off d).drewN q = w0
              have HW0 : Hid (w0 = ((putRow enc w blk off d).drewN q)) := hw0.symm
              clear hw0
              have HK0 : Hid (Holds enc w0 blk off d) := by show Holds _ _ _ _ _; rw [HW0.out]; exact holds_putRow enc w blk off d d HH.out rfl
              go_wp2_with fail
              all_goals
                refine (ROT.out w0 i m e HK0.out (by omega) (by omega) (by have := HE.out; omega)).mono ?_
                rintro e' w1 ⟨rfl, q1, d1, hw1, hr1, hp1⟩
                have HW1 : Hid (w1 = (putRow enc w blk off d1).drewN (q + q1)) := by show _ = _; rw [hw1, HW0.out, putRow_drewN', putRow_putRow enc w blk off d d1 (by have := hp1.1; omega), World.drewN_drewN]
                have hd1 : d1.size = sz := hp1.1.trans hds
                obtain ⟨T1, T2, TX⟩ := CUT.out d1 hr1
                have HT : Hid (Two r a i mid d1 ∧ Two r mid e b d1 ∧ (∀ x y, a ≤ x → x < mid → mid ≤ y → y < b → ahd r d1[x]! d1[y]!) ∧ PermIn i e d d1 ∧ d1.size = sz) := ⟨T1, T2, TX, hp1, hd1⟩
                have HK1 : Hid (Holds enc w1 blk off d1) := by show Holds _ _ _ _ _; rw [HW1.out]; exact holds_putRow enc w blk off d d1 HH.out (by omega)
                have C1 : Hid (CmpAll enc r g cb blk off sz w1) := by show CmpAll _ _ _ _ _ _ _ _; rw [HW1.out]; exact cmpAll_put HC.out hd1
                clear hw1 hr1 hp1 T1 T2 TX hd1
                obtain ⟨d2, q2, hw2, hs2, hp2⟩ : ∃ d2 q2, (putRow enc w blk off d1).drewN (q + q1) = (putRow enc w blk off d2).drewN (q + q1 + q2) ∧ Srt r a mid d2 ∧ PermIn a mid d1 d2 := ⟨d1, 0, rfl, two_left HT.out.1 cB (by have := HE.out; omega) (by have := HE.out; omega), permIn_refl _ _ _⟩
                have HW2 : Hid (w1 = (putRow enc w blk off d2).drewN (q + q1 + q2)) := HW1.out.trans hw2
                have hd2 : d2.size = sz := hp2.1.trans HT.out.2.2.2.2
                have T2 : Two r mid e b d2 := Two.keep (a := a) HT.out.2.1 (fun k hk => hp2.2.1 k (.inr hk)) (by have := HE.out; omega)
                have HT2 : Hid (Srt r a mid d2 ∧ PermIn a mid d1 d2 ∧ Two r mid e b d2 ∧ d2.size = sz) := ⟨hs2, hp2, T2, hd2⟩
                have HK2 : Hid (Holds enc w1 blk off d2) := by show Holds _ _ _ _ _; rw [HW2.out]; exact holds_putRow enc w blk off d d2 HH.out (by omega)
                have C2 : Hid (CmpAll enc r g cb blk off sz w1) := by show CmpAll _ _ _ _ _ _ _ _; rw [HW2.out]; exact cmpAll_put HC.out hd2
                clear hw2 hs2 hp2 T2 hd2
                obtain ⟨d3, q3, hw3, hs3, hp3⟩ : ∃ d3 q3, (putRow enc w blk off d2).drewN (q + q1 + q2) = (putRow enc w blk off d3).drewN (q + q1 + q2 + q3) ∧ Srt r mid b d3 ∧ PermIn mid b d2 d3 := ⟨d2, 0, rfl, two_left HT2.out.2.2.1 cC (by have := HE.out; omega) (by have := HE.out; omega), permIn_refl _ _ _⟩
                have HW3 : Hid (w1 = (putRow enc w blk off d3).drewN (q + q1 + q2 + q3)) := HW2.out.trans hw3
                have J := sym_join (by have := HT.out.2.2.2.2; omega) (by have := HE.out; omega) (by have := HE.out; omega) HT.out.2.2.1 HT2.out.1 HT2.out.2.1 hs3 hp3
                have HJ : Hid (Srt r a b d3 ∧ PermIn a b d d3) := ⟨J.1, permIn_trans _ _ _ _ _ (permIn_mono _ _ i e a b (by have := HE.out; omega) (by have := HE.out; omega) (by omega) HT.out.2.2.2.1) J.2⟩
                clear hw3 hs3 hp3 J
                go_wp2
                all_goals
                  go_end0
                  exact ⟨rfl, q + q1 + q2 + q3, d3, HW3.out, HJ.out.1, HJ.out.2⟩
        · skip
          by_cases cB : a < i ∧ i < mid
          · obtain ⟨yB1, yB2⟩ := cB
            by_cases cC : mid < e ∧ e < b
            · obtain ⟨yC1, yC2⟩ := cC
              have zA : (decide ((i : Int) < (m : Int)) && decide ((m : Int) < (e : Int))) = false := by simp; omega
              have zB1 : (a : Int) < (i : Int) := by omega
              have zB2 : (i : Int) < (mid : Int) := by omega
              have zC1 : (mid : Int) < (e : Int) := by omega
              have zC2 : (e : Int) < (b : Int) := by omega
              generalize hw0 : (putRow enc w blk off d).drewN q = w0
              have HW0 : Hid (w0 = ((putRow enc w blk off d).drewN q)) := hw0.symm
              clear hw0
              have HK0 : Hid (Holds enc w0 blk off d) := by show Holds _ _ _ _ _; rw [HW0.out]; exact holds_putRow enc w blk off d d HH.out rfl
              go_wp2_with fail
              all_goals
                obtain ⟨d1, q1, hw1, hr1, hp1⟩ : ∃ d1 q1, w0 = (putRow enc w0 blk off d1).drewN q1 ∧ Rot i m e d d1 ∧ PermIn i e d d1 := ⟨d, 0, (putRow_self enc w0 blk off d HK0.out).symm, Rot.none (by have := HE.out; omega) (by have := HE.out; omega) (by have := HE.out; omega), permIn_refl _ _ _⟩
                have HW1 : Hid (w0 = (putRow enc w blk off d1).drewN (q + q1)) := by have h := hw1; rw [HW0.out, putRow_drewN', putRow_putRow enc w blk off d d1 (by have := hp1.1; omega), World.drewN_drewN] at h; exact HW0.out.trans h
                have hd1 : d1.size = sz := hp1.1.trans hds
                obtain ⟨T1, T2, TX⟩ := CUT.out d1 hr1
                have HT : Hid (Two r a i mid d1 ∧ Two r mid e b d1 ∧ (∀ x y, a ≤ x → x < mid → mid ≤ y → y < b → ahd r d1[x]! d1[y]!) ∧ PermIn i e d d1 ∧ d1.size = sz) := ⟨T1, T2, TX, hp1, hd1⟩
                have HK1 : Hid (Holds enc w0 blk off d1) := by show Holds _ _ _ _ _; rw [HW1.out]; exact holds_putRow enc w blk off d d1 HH.out (by omega)
                have C1 : Hid (CmpAll enc r g cb blk off sz w0) := by show CmpAll _ _ _ _ _ _ _ _; rw [HW1.out]; exact cmpAll_put HC.out hd1
                clear hw1 hr1 hp1 T1 T2 TX hd1
                have S2 := Lib.hid (IH.out a i mid d1 w0 HT.out.2.2.2.2 C1.out HK1.out (by omega) (by omega) (by have := HE.out; omega) HT.out.1 (by have := HE.out; omega))
                refine S2.out.mono ?_
                rintro e' w2 ⟨rfl, q2, d2, hw2, hs2, hp2⟩
                have HW2 : Hid (w2 = (putRow enc w blk off d2).drewN (q + q1 + q2)) := by show _ = _; rw [hw2, HW1.out, putRow_drewN', putRow_putRow enc w blk off d1 d2 (by have := hp2.1; omega), World.drewN_drewN]
                have hd2 : d2.size = sz := hp2.1.trans HT.out.2.2.2.2
                have T2 : Two r mid e b d2 := Two.keep (a := a) HT.out.2.1 (fun k hk => hp2.2.1 k (.inr hk)) (by have := HE.out; omega)
                have HT2 : Hid (Srt r a mid d2 ∧ PermIn a mid d1 d2 ∧ Two r mid e b d2 ∧ d2.size = sz) := ⟨hs2, hp2, T2, hd2⟩
                have HK2 : Hid (Holds enc w2 blk off d2) := by show Holds _ _ _ _ _; rw [HW2.out]; exact holds_putRow enc w blk off d d2 HH.out (by omega)
                have C2 : Hid (CmpAll enc r g cb blk off sz w2) := by show CmpAll _ _ _ _ _ _ _ _; rw [HW2.out]; exact cmpAll_put HC.out hd2
                clear hw2 hs2 hp2 T2 hd2
                have S3 := Lib.hid (IH.out mid e b d2 w2 HT2.out.2.2.2 C2.out HK2.out (by omega) (by omega) (by omega) HT2.out.2.2.1 (by have := HE.out; omega))
                go_wp2_with fail
                all_goals
                  refine S3.out.mono ?_
                  rintro e' w3 ⟨rfl, q3, d3, hw3, hs3, hp3⟩
                  have HW3 : Hid (w3 = (putRow enc w blk off d3).drewN (q + q1 + q2 + q3)) := by show _ = _; rw [hw3, HW2.out, putRow_drewN', putRow_putRow enc w blk off d2 d3 (by have := hp3.1; have := HT2.out.2.2.2; omega), World.drewN_drewN]
                  have J := sym_join (by have := HT.out.2.2.2.2; omega) (by have := HE.out; omega) (by have := HE.out; omega) HT.out.2.2.1 HT2.out.1 HT2.out.2.1 hs3 hp3
                  have HJ : Hid (Srt r a b d3 ∧ PermIn a b d d3) := ⟨J.1, permIn_trans _ _ _ _ _ (permIn_mono _ _ i e a b (by have := HE.out; omega) (by have := HE.out; omega) (by omega) HT.out.2.2.2.1) J.2⟩
                  clear hw3 hs3 hp3 J
                  go_wp2
                  all_goals
                    go_end0
                    exact ⟨rfl, q + q1 + q2 + q3, d3, HW3.out, HJ.out.1, HJ.out.2⟩
            · skip
              have zA : (decide ((i : Int) < (m : Int)) && decide ((m : Int) < (e : Int))) = false := by simp; omega
              have zB1 : (a : Int) < (i : Int) := by omega
              have zB2 : (i : Int) < (mid : Int) := by omega
              have zC : (decide ((mid : Int) < (e : Int)) && decide ((e : Int) < (b : Int))) = false := by simp; omega
              generalize hw0 : (putRow enc w blk off d).drewN q = w0
              have HW0 : Hid (w0 = ((putRow enc w blk off d).drewN q)) := hw0.symm
              clear hw0
              have HK0 : Hid (Holds enc w0 blk off d) := by show Holds _ _ _ _ _; rw [HW0.out]; exact holds_putRow enc w blk off d d HH.out rfl
              go_wp2_with fail
              all_goals
                obtain ⟨d1, q1, hw1, hr1, hp1⟩ : ∃ d1 q1, w0 = (putRow enc w0 blk off d1).drewN q1 ∧ Rot i m e d d1 ∧ PermIn i e d d1 := ⟨d, 0, (putRow_self enc w0 blk off d HK0.out).symm, Rot.none (by have := HE.out; omega) (by have := HE.out; omega) (by have := HE.out; omega), permIn_refl _ _ _⟩
                have HW1 : Hid (w0 = (putRow enc w blk off d1).drewN (q + q1)) := by have h := hw1; rw [HW0.out, putRow_drewN', putRow_putRow enc w blk off d d1 (by have := hp1.1; omega), World.drewN_drewN] at h; exact HW0.out.trans h
                have hd1 : d1.size = sz := hp1.1.trans hds
                obtain ⟨T1, T2, TX⟩ := CUT.out d1 hr1
                have HT : Hid (Two r a i mid d1 ∧ Two r mid e b d1 ∧ (∀ x y, a ≤ x → x < mid → mid ≤ y → y < b → ahd r d1[x]! d1[y]!) ∧ PermIn i e d d1 ∧ d1.size = sz) := ⟨T1, T2, TX, hp1, hd1⟩
                have HK1 : Hid (Holds enc w0 blk off d1) := by show Holds _ _ _ _ _; rw [HW1.out]; exact holds_putRow enc w blk off d d1 HH.out (by omega)
                have C1 : Hid (CmpAll enc r g cb blk off sz w0) := by show CmpAll _ _ _ _ _ _ _ _; rw [HW1.out]; exact cmpAll_put HC.out hd1
                clear hw1 hr1 hp1 T1 T2 TX hd1
                have S2 := Lib.hid (IH.out a i mid d1 w0 HT.out.2.2.2.2 C1.out HK1.out (by omega) (by omega) (by have := HE.out; omega) HT.out.1 (by have := HE.out; omega))
                refine S2.out.mono ?_
                rintro e' w2 ⟨rfl, q2, d2, hw2, hs2, hp2⟩
                have HW2 : Hid (w2 = (putRow enc w blk off d2).drewN (q + q1 + q2)) := by show _ = _; rw [hw2, HW1.out, putRow_drewN', putRow_putRow enc w blk off d1 d2 (by have := hp2.1; omega), World.drewN_drewN]
                have hd2 : d2.size = sz := hp2.1.trans HT.out.2.2.2.2
                have T2 : Two r mid e b d2 := Two.keep (a := a) HT.out.2.1 (fun k hk => hp2.2.1 k (.inr hk)) (by have := HE.out; omega)
                have HT2 : Hid (Srt r a mid d2 ∧ PermIn a mid d1 d2 ∧ Two r mid e b d2 ∧ d2.size = sz) := ⟨hs2, hp2, T2, hd2⟩
                have HK2 : Hid (Holds enc w2 blk off d2) := by show Holds _ _ _ _ _; rw [HW2.out]; exact holds_putRow enc w blk off d d2 HH.out (by omega)
                have C2 : Hid (CmpAll enc r g cb blk off sz w2) := by show CmpAll _ _ _ _ _ _ _ _; rw [HW2.out]; exact cmpAll_put HC.out hd2
                clear hw2 hs2 hp2 T2 hd2
                obtain ⟨d3, q3, hw3, hs3, hp3⟩ : ∃ d3 q3, (putRow enc w blk off d2).drewN (q + q1 + q2) = (putRow enc w blk off d3).drewN (q + q1 + q2 + q3) ∧ Srt r mid b d3 ∧ PermIn mid b d2 d3 := ⟨d2, 0, rfl, two_left HT2.out.2.2.1 cC (by have := HE.out; omega) (by have := HE.out; omega), permIn_refl _ _ _⟩
                have HW3 : Hid (w2 = (putRow enc w blk off d3).drewN (q + q1 + q2 + q3)) := HW2.out.trans hw3
                have J := sym_join (by have := HT.out.2.2.2.2; omega) (by have := HE.out; omega) (by have := HE.out; omega) HT.out.2.2.1 HT2.out.1 HT2.out.2.1 hs3 hp3
                have HJ : Hid (Srt r a b d3 ∧ PermIn a b d d3) := ⟨J.1, permIn_trans _ _ _ _ _ (permIn_mono _ _ i e a b (by have := HE.out; omega) (by have := HE.out; omega) (by omega) HT.out.2.2.2.1) J.2⟩
                clear hw3 hs3 hp3 J
                go_wp2
                all_goals
                  go_end0
                  exact ⟨rfl, q + q1 + q2 + q3, d3, HW3.out, HJ.out.1, HJ.out.2⟩
          · skip
            by_cases cC : mid < e ∧ e < b
            · obtain ⟨yC1, yC2⟩ := cC
              have zA : (decide ((i : Int) < (m : Int)) && decide ((m : Int) < (e : Int))) = false := by simp; omega
              have zB : (decide ((a : Int) < (i : Int)) && decide ((i : Int) < (mid : Int))) = false := by simp; omega
              have zC1 : (mid : Int) < (e : Int) := by omega
              have zC2 : (e : Int) < (b : Int) := by omega
              generalize hw0 : (putRow enc w blk off d).drewN q = w0
              have HW0 : Hid (w0 = ((putRow enc w blk off d).drewN q)) := hw0.symm
              clear hw0
              have HK0 : Hid (Holds enc w0 blk off d) := by show Holds _ _ _ _ _; rw [HW0.out]; exact holds_putRow enc w blk off d d HH.out rfl
              go_wp2_with fail
              all_goals
                obtain ⟨d1, q1, hw1, hr1, hp1⟩ : ∃ d1 q1, w0 = (putRow enc w0 blk off d1).drewN q1 ∧ Rot i m e d d1 ∧ PermIn i e d d1 := ⟨d, 0, (putRow_self enc w0 blk off d HK0.out).symm, Rot.none (by have := HE.out; omega) (by have := HE.out; omega) (by have := HE.out; omega), permIn_refl _ _ _⟩
                have HW1 : Hid (w0 = (putRow enc w blk off d1).drewN (q + q1)) := by have h := hw1; rw [HW0.out, putRow_drewN', putRow_putRow enc w blk off d d1 (by have := hp1.1; omega), World.drewN_drewN] at h; exact HW0.out.trans h
                have hd1 : d1.size = sz := hp1.1.trans hds
                obtain ⟨T1, T2, TX⟩ := CUT.out d1 hr1
                have HT : Hid (Two r a i mid d1 ∧ Two r mid e b d1 ∧ (∀ x y, a ≤ x → x < mid → mid ≤ y → y < b → ahd r d1[x]! d1[y]!) ∧ PermIn i e d d1 ∧ d1.size = sz) := ⟨T1, T2, TX, hp1, hd1⟩
                have HK1 : Hid (Holds enc w0 blk off d1) := by show Holds _ _ _ _ _; rw [HW1.out]; exact holds_putRow enc w blk off d d1 HH.out (by omega)
                have C1 : Hid (CmpAll enc r g cb blk off sz w0) := by show CmpAll _ _ _ _ _ _ _ _; rw [HW1.out]; exact cmpAll_put HC.out hd1
                clear hw1 hr1 hp1 T1 T2 TX hd1
                obtain ⟨d2, q2, hw2, hs2, hp2⟩ : ∃ d2 q2, (putRow enc w blk off d1).drewN (q + q1) = (putRow enc w blk off d2).drewN (q + q1 + q2) ∧ Srt r a mid d2 ∧ PermIn a mid d1 d2 := ⟨d1, 0, rfl, two_left HT.out.1 cB (by have := HE.out; omega) (by have := HE.out; omega), permIn_refl _ _ _⟩
                have HW2 : Hid (w0 = (putRow enc w blk off d2).drewN (q + q1 + q2)) := HW1.out.trans hw2
                have hd2 : d2.size = sz := hp2.1.trans HT.out.2.2.2.2
                have T2 : Two r mid e b d2 := Two.keep (a := a) HT.out.2.1 (fun k hk => hp2.2.1 k (.inr hk)) (by have := HE.out; omega)
                have HT2 : Hid (Srt r a mid d2 ∧ PermIn a mid d1 d2 ∧ Two r mid e b d2 ∧ d2.size = sz) := ⟨hs2, hp2, T2, hd2⟩
                have HK2 : Hid (Holds enc w0 blk off d2) := by show Holds _ _ _ _ _; rw [HW2.out]; exact holds_putRow enc w blk off d d2 HH.out (by omega)
                have C2 : Hid (CmpAll enc r g cb blk off sz w0) := by show CmpAll _ _ _ _ _ _ _ _; rw [HW2.out]; exact cmpAll_put HC.out hd2
                clear hw2 hs2 hp2 T2 hd2
                have S3 := Lib.hid (IH.out mid e b d2 w0 HT2.out.2.2.2 C2.out HK2.out (by omega) (by omega) (by omega) HT2.out.2.2.1 (by have := HE.out; omega))
                refine S3.out.mono ?_
                rintro e' w3 ⟨rfl, q3, d3, hw3, hs3, hp3⟩
                have HW3 : Hid (w3 = (putRow enc w blk off d3).drewN (q + q1 + q2 + q3)) := by show _ = _; rw [hw3, HW2.out, putRow_drewN', putRow_putRow enc w blk off d2 d3 (by have := hp3.1; have := HT2.out.2.2.2; omega), World.drewN_drewN]
                have J := sym_join (by have := HT.out.2.2.2.2; omega) (by have := HE.out; omega) (by have := HE.out; omega) HT.out.2.2.1 HT2.out.1 HT2.out.2.1 hs3 hp3
                have HJ : Hid (Srt r a b d3 ∧ PermIn a b d d3) := ⟨J.1, permIn_trans _ _ _ _ _ (permIn_mono _ _ i e a b (by have := HE.out; omega) (by have := HE.out; omega) (by omega) HT.out.2.2.2.1) J.2⟩
                clear hw3 hs3 hp3 J
                go_wp2
                all_goals
                  go_end0
                  exact ⟨rfl, q + q1 + q2 + q3, d3, HW3.out, HJ.out.1, HJ.out.2⟩
            · skip
              have zA : (decide ((i : Int) < (m : Int)) && decide ((m : Int) < (e : Int))) = false := by simp; omega
              have zB : (decide ((a : Int) < (i : Int)) && decide ((i : Int) < (mid : Int))) = false := by simp; omega
              have zC : (decide ((mid : Int) < (e : Int)) && decide ((e : Int) < (b : Int))) = false := by simp; omega
              generalize hw0 : (putRow enc w blk off d).drewN q = w0
              have HW0 : Hid (w0 = ((putRow enc w blk off d).drewN q)) := hw0.symm
              clear hw0
              have HK0 : Hid (Holds enc w0 blk off d) := by show Holds _ _ _ _ _; rw [HW0.out]; exact holds_putRow enc w blk off d d HH.out rfl
              go_wp2_with fail
              all_goals
                obtain ⟨d1, q1, hw1, hr1, hp1⟩ : ∃ d1 q1, w0 = (putRow enc w0 blk off d1).drewN q1 ∧ Rot i m e d d1 ∧ PermIn i e d d1 := ⟨d, 0, (putRow_self enc w0 blk off d HK0.out).symm, Rot.none (by have := HE.out; omega) (by have := HE.out; omega) (by have := HE.out; omega), permIn_refl _ _ _⟩
                have HW1 : Hid (w0 = (putRow enc w blk off d1).drewN (q + q1)) := by have h := hw1; rw [HW0.out, putRow_drewN', putRow_putRow enc w blk off d d1 (by have := hp1.1; omega), World.drewN_drewN] at h; exact HW0.out.trans h
                have hd1 : d1.size = sz := hp1.1.trans hds
                obtain ⟨T1, T2, TX⟩ := CUT.out d1 hr1
                have HT : Hid (Two r a i mid d1 ∧ Two r mid e b d1 ∧ (∀ x y, a ≤ x → x < mid → mid ≤ y → y < b → ahd r d1[x]! d1[y]!) ∧ PermIn i e d d1 ∧ d1.size = sz) := ⟨T1, T2, TX, hp1, hd1⟩
                have HK1 : Hid (Holds enc w0 blk off d1) := by show Holds _ _ _ _ _; rw [HW1.out]; exact holds_putRow enc w blk off d d1 HH.out (by omega)
                have C1 : Hid (CmpAll enc r g cb blk off sz w0) := by show CmpAll _ _ _ _ _ _ _ _; rw [HW1.out]; exact cmpAll_put HC.out hd1
                clear hw1 hr1 hp1 T1 T2 TX hd1
                obtain ⟨d2, q2, hw2, hs2, hp2⟩ : ∃ d2 q2, (putRow enc w blk off d1).drewN (q + q1) = (putRow enc w blk off d2).drewN (q + q1 + q2) ∧ Srt r a mid d2 ∧ PermIn a mid d1 d2 := ⟨d1, 0, rfl, two_left HT.out.1 cB (by have := HE.out; omega) (by have := HE.out; omega), permIn_refl _ _ _⟩
                have HW2 : Hid (w0 = (putRow enc w blk off d2).drewN (q + q1 + q2)) := HW1.out.trans hw2
                have hd2 : d2.size = sz := hp2.1.trans HT.out.2.2.2.2
                have T2 : Two r mid e b d2 := Two.keep (a := a) HT.out.2.1 (fun k hk => hp2.2.1 k (.inr hk)) (by have := HE.out; omega)
                have HT2 : Hid (Srt r a mid d2 ∧ PermIn a mid d1 d2 ∧ Two r mid e b d2 ∧ d2.size = sz) := ⟨hs2, hp2, T2, hd2⟩
                have HK2 : Hid (Holds enc w0 blk off d2) := by show Holds _ _ _ _ _; rw [HW2.out]; exact holds_putRow enc w blk off d d2 HH.out (by omega)
                have C2 : Hid (CmpAll enc r g cb blk off sz w0) := by show CmpAll _ _ _ _ _ _ _ _; rw [HW2.out]; exact cmpAll_put HC.out hd2
                clear hw2 hs2 hp2 T2 hd2
                obtain ⟨d3, q3, hw3, hs3, hp3⟩ : ∃ d3 q3, (putRow enc w blk off d2).drewN (q + q1 + q2) = (putRow enc w blk off d3).drewN (q + q1 + q2 + q3) ∧ Srt r mid b d3 ∧ PermIn mid b d2 d3 := ⟨d2, 0, rfl, two_left HT2.out.2.2.1 cC (by have := HE.out; omega) (by have := HE.out; omega), permIn_refl _ _ _⟩
                have HW3 : Hid (w0 = (putRow enc w blk off d3).drewN (q + q1 + q2 + q3)) := HW2.out.trans hw3
                have J := sym_join (by have := HT.out.2.2.2.2; omega) (by have := HE.out; omega) (by have := HE.out; omega) HT.out.2.2.1 HT2.out.1 HT2.out.2.1 hs3 hp3
                have HJ : Hid (Srt r a b d3 ∧ PermIn a b d d3) := ⟨J.1, permIn_trans _ _ _ _ _ (permIn_mono _ _ i e a b (by have := HE.out; omega) (by have := HE.out; omega) (by omega) HT.out.2.2.2.1) J.2⟩
                clear hw3 hs3 hp3 J
                go_end0
                exact ⟨rfl, q + q1 + q2 + q3, d3, HW3.out, HJ.out.1, HJ.out.2⟩
end Go.Proofs.YtmocphafkimdpaaDoor.P
