/- A part of the proof of ShareReach's card: 'ShareReach' answers true for every input (the conditions: those of the given statement alone). Merged by a program (wip/merge.py) out of: HShareReach. -/
import Derived.Test.YtmocphafkimdpaaDoorBSharee
import Derived.Test.YtmocphafkimdpaaDoorBSharef
import Derived.Lib.Hide

/- ShareReach answers true for every input: the function, walked. -/
namespace Go.Proofs.YtmocphafkimdpaaDoor.P
open Go.RowKit Go.Proofs.YtmocphafkimdpaaDoorW.PrintWords Go.Proofs.YtmocphafkimdpaaDoorW.PrintLast Go.Proofs.YtmocphafkimdpaaDoorW.PrintMore
set_option linter.unusedVariables false
set_option linter.unusedSimpArgs false

/-- What is due, put to what was posted: done, or refused. -/
theorem reach_pure (due last : List S29) (hl : last.length ≤ 64) (hd : due.length ≤ 80) :
    ∃ k ds r, share_Delta.f k due last = some (ds, r) ∧ ds.length ≤ 80 ∧ ((r = 0 ∧ due.length = last.length ∧ share_Post.f k last ds = some (due, 0)) ∨ ((r != 0) = true ∧ ds = [])) := by
  obtain ⟨k1, h1⟩ := delta_ev due last (by omega)
  by_cases c : due.length = last.length
  · rw [if_pos c] at h1
    cases hx : deltaOf due last with
    | none =>
      rw [hx] at h1
      exact ⟨k1, [], 10, h1 k1 (Nat.le_refl _), Nat.zero_le _, .inr ⟨by decide, rfl⟩⟩
    | some d =>
      rw [hx] at h1
      obtain ⟨e1, e2, e3⟩ := delta_add due last d c hx
      obtain ⟨k2, h2⟩ := post_ev last d hl
      rw [if_pos (by omega), e3, if_pos rfl, e1] at h2
      exact ⟨max k1 k2, d, 0, h1 _ (Nat.le_max_left _ _), by omega, .inl ⟨rfl, c, h2 _ (Nat.le_max_right _ _)⟩⟩
  · rw [if_neg c] at h1
    exact ⟨k1, [], 3, h1 k1 (Nat.le_refl _), Nat.zero_le _, .inr ⟨by decide, rfl⟩⟩

/-- Reach, whatever it says. -/
theorem reach_all (k g b c cnt : Nat) (v : Value) (row due ds : List S29) (r : Int) (A : Option Addr) (w0 w : World)
    (hB : Below w0.heap.size w0 w) (hg0 : w0.heap.size ≤ g) (hy : YearAt w g b v row cnt) (hr : Kd.C k29 w A due.length due) (hc : due.length ≤ c) (hcnt : cnt < 1000000)
    (hd : share_Delta.f k due row = some (ds, r)) (hp : (r = 0 ∧ due.length = row.length ∧ share_Post.f k row ds = some (due, 0)) ∨ ((r != 0) = true ∧ ds = [])) :
    Calls Tryd.prog 27 #[.pointer (some ⟨g, 0, none⟩), .slice A due.length c] w fun e w' => ∃ Ag cg b' vr, e = .returned (.tuple #[.slice Ag ds.length cg, .int .i64 r]) ∧ Kd.C k29 w' Ag ds.length ds ∧ YearAt w' g b' vr (if r = 0 then due else row) (if r = 0 then (cnt : Int) + 1 else cnt) ∧ Kept w w' (fun i => i = g) ∧ Below w0.heap.size w0 w' := by
  rcases hp with ⟨rfl, _, hp⟩ | ⟨hr0, rfl⟩
  · refine (reach_ok k g b c cnt v row due ds due cnt A w0 w hB hg0 hy hr hc hd hp rfl hcnt).mono ?_
    rintro e w' ⟨vd, vr, rfl, hvd, hy', hk, hb⟩
    obtain ⟨Ag, cg, rfl⟩ := Kd.R_slice hvd
    exact ⟨Ag, cg, _, vr, rfl, (Kd.R_reads' hvd).2.2, by rw [if_pos rfl, if_pos rfl]; exact hy', hk, hb⟩
  · have r0 : r ≠ 0 := by simpa using hr0
    refine (reach_err k g b c v row due cnt r A w hy hr hc hd hr0).mono ?_
    rintro e w' ⟨rfl, hb⟩
    exact ⟨none, 0, b, v, rfl, Kd.C_nil _ _, by rw [if_neg r0, if_neg r0]; exact hy.below hb, Kept.of_below hb _, below_step hB hb⟩

/-- The row that was posted last: an argument's own, or one of the walk's own. -/
def LastAt (w W : World) (g : Nat) (A : Option Addr) (c : Nat) (last : List S29) : Prop :=
  Kd.C k29 w A last.length last ∨ Kd.R k29 29 W w.heap.size (fun k => k ≠ g) (.slice A last.length c) last
theorem LastAt.reads {w W : World} {g c : Nat} {A : Option Addr} {last : List S29} (h : LastAt w W g A c last) (hb : Below w.heap.size w W) : Kd.C k29 W A last.length last :=
  h.elim (fun h => Kd.C_below h hb) (fun h => (Kd.R_reads' h).2.2)
theorem LastAt.below {w W W2 : World} {g c : Nat} {A : Option Addr} {last : List S29} (h : LastAt w W g A c last) (hb : Below W.heap.size W W2) : LastAt w W2 g A c last :=
  h.elim .inl (fun h => .inr (Kd.R_below h hb))
theorem LastAt.kept {w W W2 : World} {g c : Nat} {A : Option Addr} {last : List S29} (h : LastAt w W g A c last) (hk : Kept W W2 (fun i => i = g)) : LastAt w W2 g A c last :=
  h.elim .inl (fun h => .inr (Kd.R_kept h hk (fun k hk => hk)))

theorem own29 {W : World} {base : Nat} {ok : Nat → Prop} {v : Value} {xs : List S29} (h : Kd.R k29 29 W base ok v xs) (hn : 0 < xs.length) :
    ∃ g c, v = .slice (some ⟨g, 0, none⟩) xs.length c ∧ base ≤ g ∧ ∀ j, W.frozen? ⟨g, j, none⟩ = false := by
  obtain ⟨_, inner, ho, _⟩ := h
  rcases ho.2 with ⟨_, h0⟩ | ⟨g, cap, cur, hv, hb, hh, _⟩
  · omega
  · exact ⟨g, cap, hv, hb, fun j => blk_frozen hh j⟩
theorem at29 {W : World} {base : Nat} {ok : Nat → Prop} {g c : Nat} {xs : List S29} (h : Kd.R k29 29 W base ok (.slice (some ⟨g, 0, none⟩) xs.length c) xs) (j : Nat) (hj : j < xs.length) :
    W.cell? ⟨g, j * 2, none⟩ = some (.int .i64 (xs.getD j z29).f0) ∧ W.cell? ⟨g, j * 2 + 1, none⟩ = some (.int .i64 (xs.getD j z29).f1) := by
  obtain ⟨ad, eA, f0, f1⟩ := at_T29 (Kd.R_reads' h).2.2 (j : Int) (by omega) (by omega)
  obtain rfl := Option.some.inj eA
  rw [Int.toNat_natCast, add_plain] at f0 f1
  exact ⟨f0, f1⟩
theorem put29 {W : World} {base : Nat} {ok : Nat → Prop} {g c : Nat} {xs : List S29} (h : Kd.R k29 29 W base ok (.slice (some ⟨g, 0, none⟩) xs.length c) xs) (j : Nat) (hj : j < xs.length) (u : Int) :
    Kd.R k29 29 (W.setCell ⟨g, j * 2, none⟩ (.int .i64 u)) base ok (.slice (some ⟨g, 0, none⟩) xs.length c) (xs.set j ⟨u, (xs.getD j z29).f1⟩) := by
  obtain ⟨f0, f1⟩ := at29 h j hj
  have := (Kd.R_seg h (j : Int) (by omega) (by omega) (c := [.int .i64 (xs.getD j z29).f0, .int .i64 (xs.getD j z29).f1]) (seg := [.int .i64 u]) (j := 0) (okp := fun _ => False) rfl (by
    intro i v hi
    rw [Int.toNat_natCast]
    match i, hi with
    | 0, hi => cases hi; exact f0
    | 1, hi => cases hi; exact f1
    | n + 2, hi => cases hi) (show 1 ≤ 2 by decide) (x' := ⟨u, (xs.getD j z29).f1⟩) (k29_mkM _ _ _ (⟨u, (xs.getD j z29).f1⟩ : S29)) (fun _ hk => hk.elim)).1
  rw [Int.toNat_natCast] at this
  exact this
theorem get_drop {α : Type} {xs ys : List α} {j : Nat} {z : α} (h : xs.drop j = ys.drop j) : xs.getD j z = ys.getD j z := by
  rw [List.getD_eq_getElem?_getD, List.getD_eq_getElem?_getD]
  have h1 : (xs.drop j)[0]? = (ys.drop j)[0]? := by rw [h]
  rw [List.getElem?_drop, List.getElem?_drop, Nat.add_zero] at h1
  rw [h1]
theorem drop_set {α : Type} {xs ys : List α} {j : Nat} {u : α} (h : xs.drop j = ys.drop j) : (xs.set j u).drop (j + 1) = ys.drop (j + 1) := by
  have h1 : (xs.drop j).drop 1 = (ys.drop j).drop 1 := by rw [h]
  rw [List.drop_drop, List.drop_drop] at h1
  rw [List.drop_set_of_lt (by omega)]
  exact h1

attribute [local go_sem high] eqA29
set_option maxRecDepth 100000 in
set_option maxHeartbeats 32000000 in
theorem shareReach_calls (n : Int) (A0 : Option Addr) (c0 : Nat) (l0 : List (List S29)) (w : World) (hr0 : Kd.C (Kd.slice 29 k29) w A0 l0.length l0) (hc0 : l0.length ≤ c0) (hG : GTab w) :
    Calls Tryd.prog 4 #[.int .i64 n, .slice A0 l0.length c0] w fun e w' => e = .returned (.bool true) ∧ Below w.heap.size w w' := by
  have PST := Lib.hid (stipendlaw16_posts.calls true w rfl hG)
  have HR : Hid (Kd.C (Kd.slice 29 k29) w A0 l0.length l0) := hr0
  clear hr0 hG
  have hu29 := Tryd.underlying29
  have hu23 := Tryd.underlying23
  by_cases c40 : 40 < l0.length
  · have c40' : (40 : Int) < (l0.length : Int) := by omega
    go_enter Tryd.func4, Tryd.ntmps4
    go_wp2_with fail
    refine PST.out.mono ?_
    rintro e w1 ⟨rfl, hb1⟩
    have HB1 := Lib.hid hb1
    clear hb1
    go_wp2
    go_ret
    exact ⟨rfl, HB1.out⟩
  have c40' : ¬(40 : Int) < (l0.length : Int) := by omega
  by_cases cn : n < 0 ∨ 64 < n
  · by_cases cn0 : n < 0
    · have N := Lib.hid (fun W => new_no n W cn)
      clear cn
      go_enter Tryd.func4, Tryd.ntmps4
      go_wp2_with fail
      refine PST.out.mono ?_
      rintro e w1 ⟨rfl, hb1⟩
      have HB1 := Lib.hid hb1
      clear hb1
      go_wp2_with fail
      refine (N.out _).mono ?_
      rintro e w2 ⟨rfl, hb2⟩
      have HB2 : Hid (Below w.heap.size w w2) := below_step HB1.out hb2
      clear hb2
      go_wp2_with fail
      go_ret
      exact ⟨rfl, HB2.out⟩
    · have cn1 : 64 < n := by omega
      have N := Lib.hid (fun W => new_no n W cn)
      clear cn
      go_enter Tryd.func4, Tryd.ntmps4
      go_wp2_with fail
      refine PST.out.mono ?_
      rintro e w1 ⟨rfl, hb1⟩
      have HB1 := Lib.hid hb1
      clear hb1
      go_wp2_with fail
      refine (N.out _).mono ?_
      rintro e w2 ⟨rfl, hb2⟩
      have HB2 : Hid (Below w.heap.size w w2) := below_step HB1.out hb2
      clear hb2
      go_wp2_with fail
      go_ret
      exact ⟨rfl, HB2.out⟩
  obtain ⟨nn, rfl⟩ : ∃ nn : Nat, n = nn := ⟨n.toNat, by omega⟩
  have cn0 : ¬(nn : Int) < 0 := by omega
  have cn1 : ¬(64 : Int) < (nn : Int) := by omega
  have hnn : nn ≤ 64 := by omega
  have N := Lib.hid (fun W => new_ok nn W (by omega) (by omega))
  clear cn
  go_enter Tryd.func4, Tryd.ntmps4
  go_wp2_with fail
  refine PST.out.mono ?_
  rintro e w1 ⟨rfl, hb1⟩
  have HB1 := Lib.hid hb1
  clear hb1
  go_wp2_with fail
  refine (N.out _).mono ?_
  rintro e w2 ⟨g, vy, rfl, hg, hy, hb2⟩
  rw [Int.toNat_natCast] at hy
  have HB2 : Hid (Below w.heap.size w w2) := below_step HB1.out hb2
  have HGw : Hid (w.heap.size ≤ g) := Nat.le_trans HB1.out.size hg
  have HGl : Hid (g < w2.heap.size) := blk_lt hy.1
  have HY2 := Lib.hid hy
  clear hb2 hy hg PST N HB1
  go_wp2_with (first | ((with_reducible refine gate_dst (N := 47) rfl ?_); refine Kd.R_make k29 (w0 := w) w.heap.size 29 rfl (N := 47) rfl 23 _ _ rfl (nn : Int) rfl rfl Tryd.underlying23 (.agg #[(.int .i64 0), (.int .i64 0)]) 16 info29 rfl (by decide) (by omega) z29 (ok := fun k => k ≠ g) (okp := fun k => k ≠ g) (k29_mkM _ _ _ z29) (fun _ hk => hk) ?fr (by omega) (by rw [Int.toNat_natCast]; omega) HB2.out HB2.out.size ?_; (case fr => exact Nat.ne_of_gt HGl.out); intro v3 w3 ho3 hb3 hg3 hn3; rw [Int.toNat_natCast] at ho3; have HL3 := Lib.hid ho3; have HB3 := Lib.hid hb3; have HY3 := Lib.hid (HY2.out.below (pw_below_grown (Below.refl w2.heap.size w2) none (Nat.le_refl _) hg3 (fun _ h => by cases h))); clear ho3 hb3 hg3 hn3))
  go_loopg [7, 8, 50] l0.length (fun g0 lv cv iv wx => ∃ (i cnt : Nat) (last : List S29) (AL : Option Addr) (cL b : Nat) (v : Value), lv = .slice AL last.length cL ∧ cv = .int .i64 cnt ∧ iv = .int .i64 i ∧ i ≤ l0.length ∧ l0.length - i ≤ g0 ∧ cnt ≤ i ∧ last.length = nn ∧ last.length ≤ cL ∧ Hid (Below w.heap.size w wx) ∧ Hid (YearAt wx g b v last cnt) ∧ Hid (LastAt w wx g AL cL last))
  case atStart =>
    obtain ⟨A3, c3, rfl⟩ := Kd.R_slice HL3.out
    exact ⟨0, 0, _, A3, c3, _, vy, by rfl, rfl, rfl, by omega, by omega, by omega, by simp, (Kd.R_reads' HL3.out).2.1, HB3.out, HY3.out, .inr HL3.out⟩
  case round =>
    obtain ⟨i, cnt, last, AL, cL, b, v, rfl, rfl, rfl, hi, hg0, hcnt, hlen0, hcL, HB, HY, HL⟩ := hrel
    have HLEN := Lib.hid hlen0
    clear HL3 HB3 HY3 hlen0
    by_cases c1 : i < l0.length
    · have c1' : (i : Int) < (l0.length : Int) := by omega
      have p0 : (0 : Int) ≤ (i : Int) := by omega
      obtain ⟨ad, Ad, cd, eA, f0, hdc, hdC⟩ := at_L2 HR.out (i : Int) p0 c1'
      rw [Int.toNat_natCast] at f0
      have f1 := (HB.out.cell (World.block_lt_of_cell? w _ f0)).trans f0
      generalize rd_L2 l0 (i : Int) = due at f0 f1 hdc hdC
      subst eA
      have HD : Hid (Kd.C k29 w Ad due.length due) := hdC
      clear hdC f0
      by_cases c80 : 80 < due.length
      · have c80' : (80 : Int) < (due.length : Int) := by omega
        go_wp2_with fail
        go_ret
        exact ⟨rfl, HB.out⟩
      · have c80' : ¬(80 : Int) < (due.length : Int) := by omega
        obtain ⟨k, ds, r, hD, hds80, hP⟩ := reach_pure due last (by have := HLEN.out; omega) (by omega)
        have HDw : Hid (Kd.C k29 wr Ad due.length due) := Kd.C_below HD.out HB.out
        have HLw : Hid (Kd.C k29 wr AL last.length last) := HL.out.reads HB.out
        have DLT := Lib.hid (share_Delta.calls k Ad cd due AL cL last ds r wr HDw.out hdc HLw.out hcL hD)
        have HDD := Lib.hid hD
        have HPP := Lib.hid hP
        clear hD hP
        go_wp2_with fail
        refine DLT.out.mono ?_
        rintro e w3 ⟨vw, rfl, hvw, hb3⟩
        obtain ⟨Aw, cw, rfl⟩ := Kd.R_slice hvw
        have HY3 := Lib.hid (HY.out.below hb3)
        have HW3 := Lib.hid (Kd.R_types hvw HY3.out.1 (by decide))
        have HL3 := Lib.hid (HL.out.below hb3)
        have HB3 : Hid (Below w.heap.size w w3) := below_step HB.out hb3
        have HD3 := Lib.hid (Kd.C_below HD.out HB3.out)
        have RCH := Lib.hid (reach_all k g b cd cnt v last due ds r Ad w w3 HB3.out HGw.out HY3.out HD3.out hdc (by omega) HDD.out HPP.out)
        clear hb3 hvw HY HL HB HDw HLw DLT HY3 HDD
        go_wp2_with fail
        refine RCH.out.mono ?_
        rintro e w4 ⟨Ag, cg, b4, v4, rfl, hcg, hy4, hk4, hb4⟩
        have HG4 := Lib.hid hcg
        have HW4 := Lib.hid (Kd.R_reads' (Kd.R_kept HW3.out hk4 (fun k hk => hk.2))).2.2
        have HL4 := Lib.hid (HL3.out.kept hk4)
        have HB4 := Lib.hid hb4
        have HY4 := Lib.hid hy4
        clear hcg hy4 hk4 hb4 HW3 HL3 HD3 HB3 RCH
        go_wp2_with fail
        go_loopg [81] ds.length (fun g2 iv wx => ∃ (j : Nat), iv = .int .i64 j ∧ j ≤ ds.length ∧ ds.length - j ≤ g2 ∧ Hid (Below w4.heap.size w4 wx))
        case atStart => exact ⟨0, rfl, by omega, by omega, Below.refl _ _⟩
        case round =>
          obtain ⟨j, rfl, hj, hg2, HBj⟩ := hrel
          by_cases d1 : j < ds.length
          · have d1' : (j : Int) < (ds.length : Int) := by omega
            have HD1 : Hid (j + 1 ≤ ds.length) := d1
            have q0 : (0 : Int) ≤ (j : Int) := by omega
            obtain ⟨ad3, eA3, k0, k1⟩ := at_T29 (Kd.C_below HG4.out HBj.out) (j : Int) q0 d1'
            obtain ⟨ad4, eA4, m0, m1⟩ := at_T29 (Kd.C_below HW4.out HBj.out) (j : Int) q0 d1'
            subst eA3
            subst eA4
            rw [Int.toNat_natCast] at k0 k1 m0 m1
            generalize rd_T29 ds (j : Int) = y at k0 k1 m0 m1
            go_wp2_with fail
            go_quiet (fail)
            go_wp2
            go_roundg (ds.length - (j + 1))
            case measure => omega
            case rel => exact ⟨j + 1, by go_num, HD1.out, Nat.le_refl _, pw_below_drewN HBj.out _⟩
          · have d1' : ¬(j : Int) < (ds.length : Int) := by omega
            have HY4c := HY4.out
            by_cases cr : r = 0
            · subst cr
              rw [if_pos rfl, if_pos rfl] at HY4c
              have HDL : Hid (due.length = last.length) := HPP.out.elim (fun h => h.2.1) (fun h => absurd h.1 (by decide))
              have HYx := Lib.hid (HY4c.below HBj.out)
              clear HY4c
              have HBx : Hid (Below w.heap.size w wr) := HB4.out.trans (HBj.out.mono HB4.out.size)
              have HLx : Hid (LastAt w wr g Ad cd due) := .inl HD.out
              have hLn : (due.length : Int) = (nn : Int) := by have := HLEN.out; have := HDL.out; omega
              have hLc : due.length ≤ cd := hdc
              clear HBj HW4 HG4 HL4 HB4 d1' hg2 hj
              go_wp2_with fail
              refine (posted_any g b4 v4 due _ wr HYx.out (by omega)).mono ?_
              rintro e w5 ⟨v5, rfl, hv5, hb5⟩
              obtain ⟨Ap, cp, rfl⟩ := Kd.R_slice hv5
              have HV5 := Lib.hid hv5
              have HX5 := Lib.hid hb5
              have HY5 := Lib.hid (HYx.out.below hb5)
              clear hv5 hb5
              go_wp2_with fail
              refine (posts_any g b4 v4 due _ _ HY5.out).mono ?_
              rintro e w' ⟨rfl, rfl⟩
              have wc : IntKind.i64.wrap ((cnt : Int) + 1) = (cnt : Int) + 1 := by rw [IntKind.wrap_i64]; omega
              go_wp2_with fail
              have HLN := Lib.hid hLn
              clear hLn
              go_loopg [113] due.length (fun g3 iv wx => ∃ (j : Nat) (pr : List S29), iv = .int .i64 j ∧ j ≤ due.length ∧ due.length - j ≤ g3 ∧ pr.length = due.length ∧ pr.drop j = due.drop j ∧ Hid (Below wr.heap.size wr wx) ∧ Hid (Kd.R k29 29 wx wr.heap.size (fun _ => True) (.slice Ap due.length cp) pr))
              case atStart => exact ⟨0, due, rfl, by omega, by omega, rfl, rfl, HX5.out, HV5.out⟩
              case round =>
                obtain ⟨j, pr, rfl, hj, hg3, hpl0, hpd0, HBp, HP⟩ := hrel
                have HPL := Lib.hid hpl0
                have HPD := Lib.hid hpd0
                clear hpl0 hpd0
                by_cases d1 : j < due.length
                · have d1' : (j : Int) < (due.length : Int) := by omega
                  have d1n : (j : Int) < (nn : Int) := by have := HLN.out; omega
                  have q0 : (0 : Int) ≤ (j : Int) := by omega
                  have hP := HP.out
                  rw [← HPL.out] at hP
                  obtain ⟨gp, cp', hA, hbg, hfz⟩ := own29 hP (by have := HPL.out; omega)
                  injection hA with hA _ hc
                  subst hA hc
                  have fx := at29 hP j (by have := HPL.out; omega)
                  rw [get_drop HPD.out] at fx
                  obtain ⟨fx1, fx2⟩ := fx
                  have ez := hfz (j * 2)
                  obtain ⟨ad2, eA2, k0, k1⟩ := at_T29 ((HLx.out.below HBp.out).reads (HBx.out.trans (HBp.out.mono HBx.out.size))) (j : Int) q0 d1'
                  subst eA2
                  rw [Int.toNat_natCast] at k0 k1
                  have er : rd_T29 due (j : Int) = due.getD j z29 := by unfold rd_T29; rw [Int.toNat_natCast]
                  rw [er] at k0 k1
                  have hput := fun m => put29 (Kd.R_drewN hP m) j (by have := HPL.out; omega) 77
                  rw [HPL.out, get_drop HPD.out] at hput
                  generalize due.getD j z29 = y at fx1 fx2 k0 k1 hput
                  have HP2 := Lib.hid hput
                  have HB2x := Lib.hid (fun m => below_set (g := gp) (j := j * 2) (v := .int .i64 77) (pw_below_drewN HBp.out m) hbg)
                  have HS2 : Hid ((pr.set j ⟨77, y.f1⟩).length = due.length ∧ (pr.set j (⟨77, y.f1⟩ : S29)).drop (j + 1) = due.drop (j + 1)) := ⟨by rw [List.length_set]; exact HPL.out, drop_set HPD.out⟩
                  clear hput hP hbg hfz HP HBp
                  go_wp2_with fail
                  go_quiet (fail)
                  go_wp2_with fail
                  go_roundg (due.length - (j + 1))
                  case measure => omega
                  case rel => exact ⟨j + 1, pr.set j ⟨77, y.f1⟩, by go_num, by omega, Nat.le_refl _, HS2.out.1, HS2.out.2, HB2x.out _, HP2.out _⟩
                · have d1' : ¬(j : Int) < (due.length : Int) := by omega
                  have d1n : ¬(j : Int) < (nn : Int) := by have := HLN.out; omega
                  have HBe := Lib.hid (HBx.out.trans (HBp.out.mono HBx.out.size))
                  have HYe := Lib.hid (HYx.out.below HBp.out)
                  have HLe := Lib.hid (HLx.out.below HBp.out)
                  have HNe : Hid (due.length = nn) := by show _ = _; have := HLN.out; omega
                  go_wp2_with fail
                  go_roundg (l0.length - (i + 1))
                  case measure => omega
                  case rel => exact ⟨i + 1, cnt + 1, due, Ad, cd, b4, v4, rfl, by go_num, by go_num, by omega, Nat.le_refl _, by omega, HNe.out, hLc, HBe.out, HYe.out, HLe.out⟩
            · rw [if_neg cr, if_neg cr] at HY4c
              have HYx := Lib.hid (HY4c.below HBj.out)
              clear HY4c
              have HBx : Hid (Below w.heap.size w wr) := HB4.out.trans (HBj.out.mono HB4.out.size)
              have HLx : Hid (LastAt w wr g AL cL last) := HL4.out.below HBj.out
              have hLn : (last.length : Int) = (nn : Int) := by have := HLEN.out; omega
              have hLc : last.length ≤ cL := hcL
              clear HBj HW4 HG4 HL4 HB4 d1' hg2 hj
              go_wp2_with fail
              refine (posted_any g b4 v4 last _ wr HYx.out (by omega)).mono ?_
              rintro e w5 ⟨v5, rfl, hv5, hb5⟩
              obtain ⟨Ap, cp, rfl⟩ := Kd.R_slice hv5
              have HV5 := Lib.hid hv5
              have HX5 := Lib.hid hb5
              have HY5 := Lib.hid (HYx.out.below hb5)
              clear hv5 hb5
              go_wp2_with fail
              refine (posts_any g b4 v4 last _ _ HY5.out).mono ?_
              rintro e w' ⟨rfl, rfl⟩
              have wc : IntKind.i64.wrap ((cnt : Int) + 1) = (cnt : Int) + 1 := by rw [IntKind.wrap_i64]; omega
              go_wp2_with fail
              have HLN := Lib.hid hLn
              clear hLn
              go_loopg [113] last.length (fun g3 iv wx => ∃ (j : Nat) (pr : List S29), iv = .int .i64 j ∧ j ≤ last.length ∧ last.length - j ≤ g3 ∧ pr.length = last.length ∧ pr.drop j = last.drop j ∧ Hid (Below wr.heap.size wr wx) ∧ Hid (Kd.R k29 29 wx wr.heap.size (fun _ => True) (.slice Ap last.length cp) pr))
              case atStart => exact ⟨0, last, rfl, by omega, by omega, rfl, rfl, HX5.out, HV5.out⟩
              case round =>
                obtain ⟨j, pr, rfl, hj, hg3, hpl0, hpd0, HBp, HP⟩ := hrel
                have HPL := Lib.hid hpl0
                have HPD := Lib.hid hpd0
                clear hpl0 hpd0
                by_cases d1 : j < last.length
                · have d1' : (j : Int) < (last.length : Int) := by omega
                  have d1n : (j : Int) < (nn : Int) := by have := HLN.out; omega
                  have q0 : (0 : Int) ≤ (j : Int) := by omega
                  have hP := HP.out
                  rw [← HPL.out] at hP
                  obtain ⟨gp, cp', hA, hbg, hfz⟩ := own29 hP (by have := HPL.out; omega)
                  injection hA with hA _ hc
                  subst hA hc
                  have fx := at29 hP j (by have := HPL.out; omega)
                  rw [get_drop HPD.out] at fx
                  obtain ⟨fx1, fx2⟩ := fx
                  have ez := hfz (j * 2)
                  obtain ⟨ad2, eA2, k0, k1⟩ := at_T29 ((HLx.out.below HBp.out).reads (HBx.out.trans (HBp.out.mono HBx.out.size))) (j : Int) q0 d1'
                  subst eA2
                  rw [Int.toNat_natCast] at k0 k1
                  have er : rd_T29 last (j : Int) = last.getD j z29 := by unfold rd_T29; rw [Int.toNat_natCast]
                  rw [er] at k0 k1
                  have hput := fun m => put29 (Kd.R_drewN hP m) j (by have := HPL.out; omega) 77
                  rw [HPL.out, get_drop HPD.out] at hput
                  generalize last.getD j z29 = y at fx1 fx2 k0 k1 hput
                  have HP2 := Lib.hid hput
                  have HB2x := Lib.hid (fun m => below_set (g := gp) (j := j * 2) (v := .int .i64 77) (pw_below_drewN HBp.out m) hbg)
                  have HS2 : Hid ((pr.set j ⟨77, y.f1⟩).length = last.length ∧ (pr.set j (⟨77, y.f1⟩ : S29)).drop (j + 1) = last.drop (j + 1)) := ⟨by rw [List.length_set]; exact HPL.out, drop_set HPD.out⟩
                  clear hput hP hbg hfz HP HBp
                  go_wp2_with fail
                  go_quiet (fail)
                  go_wp2_with fail
                  go_roundg (last.length - (j + 1))
                  case measure => omega
                  case rel => exact ⟨j + 1, pr.set j ⟨77, y.f1⟩, by go_num, by omega, Nat.le_refl _, HS2.out.1, HS2.out.2, HB2x.out _, HP2.out _⟩
                · have d1' : ¬(j : Int) < (last.length : Int) := by omega
                  have d1n : ¬(j : Int) < (nn : Int) := by have := HLN.out; omega
                  have HBe := Lib.hid (HBx.out.trans (HBp.out.mono HBx.out.size))
                  have HYe := Lib.hid (HYx.out.below HBp.out)
                  have HLe := Lib.hid (HLx.out.below HBp.out)
                  have HNe : Hid (last.length = nn) := by show _ = _; have := HLN.out; omega
                  go_wp2_with fail
                  go_roundg (l0.length - (i + 1))
                  case measure => omega
                  case rel => exact ⟨i + 1, cnt, last, AL, cL, b4, v4, rfl, by go_num, by go_num, by omega, Nat.le_refl _, by omega, HNe.out, hLc, HBe.out, HYe.out, HLe.out⟩
    · have c1' : ¬(i : Int) < (l0.length : Int) := by omega
      go_wp2_with fail
      go_ret
      exact ⟨rfl, HB.out⟩

/-- What the row asks: the answer, and the walk in the printed contracts' form. -/
def stipendlaw16_ShareReach.f (_k : Nat) (_n : Int) (_l : List (List S29)) : Option Bool := some true
theorem shareReach_true {p q : Prop} (n : Int) (l : List (List S29)) (_g : p) (_g2 : q) : ∃ k, stipendlaw16_ShareReach.f k n l = some true := ⟨0, rfl⟩
theorem stipendlaw16_ShareReach.calls (k : Nat) (n : Int) (A0 : Option Addr) (c0 : Nat) (l0 : List (List S29)) (r : Bool) (w : World) (hr0 : Kd.C (Kd.slice 29 k29) w A0 l0.length l0) (hc0 : l0.length ≤ c0) (h : stipendlaw16_ShareReach.f k n l0 = some r) (hG : GTab w) :
    Calls Tryd.prog 4 #[.int .i64 n, .slice A0 l0.length c0] w fun e w' => e = .returned (.bool r) ∧ Below w.heap.size w w' := by
  obtain rfl : true = r := Option.some.inj h
  exact shareReach_calls n A0 c0 l0 w hr0 hc0 hG
end Go.Proofs.YtmocphafkimdpaaDoor.P
