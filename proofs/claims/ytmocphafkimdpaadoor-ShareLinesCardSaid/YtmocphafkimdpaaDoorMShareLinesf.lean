/- A part of the proof of ShareLines's card: 'ShareLines' answers true for every input (the conditions: those of the given statement alone). Merged by a program (wip/merge.py) out of: GLess. -/
import Derived.Test.YtmocphafkimdpaaDoorMShareLinesa
import Derived.Test.YtmocphafkimdpaaDoorMShareLinese

/- share.less: a share less another one, both sides at once, where all may be; else it is told. -/
namespace Go.Proofs.YtmocphafkimdpaaDoor.P
open Go.RowKit Go.Proofs.YtmocphafkimdpaaDoorW.PrintWords Go.Proofs.YtmocphafkimdpaaDoorW.PrintLast Go.Proofs.YtmocphafkimdpaaDoorW.PrintMore

theorem add_neg (g cap : Nat) (x1 y1 x2 y2 : Nat) (n1 m1 n2 m2 : Int) (w : World)
  (hc0 : w.cell? ⟨g, 0, none⟩ = some (.complex .f64 x1 y1)) (hc1 : w.cell? ⟨g, 1, none⟩ = some (.complex .f64 (Op.negFloat .f64 x2) (Op.negFloat .f64 y2)))
  (hx1 : IsInt x1 n1) (hy1 : IsInt y1 m1) (hx2 : IsInt x2 n2) (hy2 : IsInt y2 m2)
  (b1 : n1.natAbs < 1000000000000) (b2 : m1.natAbs < 1000000000000) (b3 : n2.natAbs < 1000000000000) (b4 : m2.natAbs < 1000000000000) :
  Calls Tryd.prog 112 #[.slice (some ⟨g, 0, none⟩) 2 cap] w fun e w' => e = .returned (.tuple #[.complex .f64 (fl (n1 - n2)) (fl (m1 - m2)), .int .i64 0]) ∧ w = w' := by
 have h := add_two g cap x1 y1 _ _ n1 m1 (-n2) (-m2) w hc0 hc1 hx1 hy1 (isInt_neg hx2) (isInt_neg hy2) b1 b2 (by omega) (by omega)
 rw [← Int.sub_eq_add_neg, ← Int.sub_eq_add_neg] at h
 exact h

set_option maxHeartbeats 1000000 in
theorem sub_any (x1 y1 x2 y2 : Nat) (n1 m1 n2 m2 : Int) (w : World)
  (hx1 : IsInt x1 n1) (hy1 : IsInt y1 m1) (hx2 : IsInt x2 n2) (hy2 : IsInt y2 m2)
  (b1 : n1.natAbs < 1000000000000) (b2 : m1.natAbs < 1000000000000) (b3 : n2.natAbs < 1000000000000) (b4 : m2.natAbs < 1000000000000) :
  Calls Tryd.prog 102 #[.complex .f64 x1 y1, .complex .f64 x2 y2] w fun e w' => e = .returned (.tuple #[.complex .f64 (fl (n1 - n2)) (fl (m1 - m2)), .int .i64 0]) ∧ w' = w.alloc (.cells #[.complex .f64 x1 y1, .complex .f64 (Op.negFloat .f64 x2) (Op.negFloat .f64 y2)] 151) := by
 have A := Lib.hid (fun (g cap : Nat) (W : World) h0 h1 => add_neg g cap x1 y1 x2 y2 n1 m1 n2 m2 W h0 h1 hx1 hy1 hx2 hy2 b1 b2 b3 b4)
 clear hx1 hy1 hx2 hy2 b1 b2 b3 b4
 have hneg := neg_complex x2 y2
 go_enter Tryd.func102, Tryd.ntmps102
 go_wp2_with fail
 refine (A.out w.heap.size 2 _ ?h0 ?h1).mono ?_
 case h0 => go_simp
 case h1 => go_simp
 rintro e w' ⟨rfl, rfl⟩
 go_wp2_with fail
 go_ret2
 exact ⟨rfl, rfl⟩

set_option maxHeartbeats 1000000 in
theorem pshare_any (a b : Int) (ha : a.natAbs < 1000000000000) (hb : b.natAbs < 1000000000000) (w : World) :
  Calls Tryd.prog 101 #[.agg #[.int .i64 a, .int .i64 b]] w fun e w' => e = .returned (.tuple #[.complex .f64 (fl a) (fl b), .int .i64 0]) ∧ w' = w.alloc (.cells #[.int .i64 a, .int .i64 b] 29) := by
 have A := Lib.hid (fun (W : World) => of_any a b (by omega) (by omega) W)
 clear ha hb
 go_enter Tryd.func101, Tryd.ntmps101
 go_wp2_with fail
 refine (A.out _).mono ?_
 rintro e w' ⟨rfl, rfl⟩
 go_wp2_with fail
 go_ret2
 exact ⟨rfl, rfl⟩

/-- May an amount be? -/
theorem right_cells (g cap : Nat) (l : List Int) (w : World) (hl : l.length < 1000) (hcap : l.length ≤ cap) (hc : ∀ j, j < l.length → w.cell? ⟨g, j, none⟩ = some (.int .i64 (l.getD j 0))) :
  Calls Tryd.prog 65 #[.slice (some ⟨g, 0, none⟩) l.length cap] w fun e w' => e = .returned (.bool (l.all okAmt)) ∧ Drawn0 w w' := by
 refine money_Right.calls 1001 _ _ l _ w (Kd.C_of_reads (d := (0 : Int)) (h1 := fun _ => rfl) ⟨rfl, by omega, fun _ => ⟨_, rfl, fun j hj => ?_⟩⟩) hcap (right_f l hl)
 rw [add_plain]
 exact hc j hj

def share_less.f (a0_0 a0_1 a1_0 a1_1 : Int) : Option (Int × Int × Int) :=
 if [a0_0, a0_1, a1_0, a1_1].all okAmt = true then (if [a0_0 - a1_0, a0_1 - a1_1].all okAmt = true then some (a0_0 - a1_0, a0_1 - a1_1, 0) else some (0, 0, 10)) else some (0, 0, 10)

theorem cells_new (W : World) (l : List Int) (T : TypeId) (g : Nat) (hg : W.heap.size = g) : ∀ j, j < l.length → (W.alloc (.cells (l.map fun x => Value.int .i64 x).toArray T)).cell? ⟨g, j, none⟩ = some (.int .i64 (l.getD j 0)) := by
 subst hg
 intro j hj
 rw [World.cell?_alloc_new]
 simp [hj]

set_option maxHeartbeats 4000000 in
theorem less_no (a b c d : Int) (w : World) (h : [a, b, c, d].all okAmt = false) :
  Calls Tryd.prog 74 #[.agg #[.int .i64 a, .int .i64 b], .agg #[.int .i64 c, .int .i64 d]] w fun e w' => e = .returned (.tuple #[.agg #[.int .i64 0, .int .i64 0], .int .i64 10]) ∧ Below w.heap.size w w' := by
 have R := Lib.hid (fun (g cap : Nat) (W : World) h1 h2 => right_cells g cap [a, b, c, d] W (by simp) h1 h2)
 have H := Lib.hid h
 clear h
 have hu29 := Tryd.underlying29
 go_enter Tryd.func74, Tryd.ntmps74
 go_wp2_with fail
 refine (R.out (w.heap.size + 1 + 1 + 1) 4 _ (by simp) ?h2).mono ?_
 case h2 => exact cells_new _ [a, b, c, d] 2 _ (by simp)
 rintro e w' ⟨rfl, ⟨nd, rfl⟩⟩
 rw [H.out]
 go_wp2_with fail
 refine bodyPost_ret (v := .tuple #[.agg #[.int .i64 0, .int .i64 0], .int .i64 10]) (by simp [results, Tryd.results74, go_sem]) rfl ⟨rfl, ?_⟩
 repeat (first | exact Below.refl _ _ | apply below_alloc | apply pw_below_drewN | refine below_set ?_ (by omega))

set_option maxHeartbeats 8000000 in
set_option maxRecDepth 100000 in
theorem less_yes (a b c d : Int) (v : Bool) (w : World) (h : [a, b, c, d].all okAmt = true) (hv : [a - c, b - d].all okAmt = v) :
  Calls Tryd.prog 74 #[.agg #[.int .i64 a, .int .i64 b], .agg #[.int .i64 c, .int .i64 d]] w fun e w' => e = .returned (.tuple #[.agg #[.int .i64 (if v = true then a - c else 0), .int .i64 (if v = true then b - d else 0)], .int .i64 (if v = true then 0 else 10)]) ∧ Below w.heap.size w w' := by
 have R := Lib.hid (fun (g cap : Nat) (W : World) h1 h2 => right_cells g cap [a, b, c, d] W (by simp) h1 h2)
 have R2 := Lib.hid (fun (g cap : Nat) (W : World) h1 h2 => right_cells g cap [a - c, b - d] W (by simp) h1 h2)
 have hb : (-100000000000 ≤ a ∧ a ≤ 100000000000) ∧ (-100000000000 ≤ b ∧ b ≤ 100000000000) ∧ (-100000000000 ≤ c ∧ c ≤ 100000000000) ∧ (-100000000000 ≤ d ∧ d ≤ 100000000000) := by
  simpa [okAmt_iff] using h
 obtain ⟨⟨a1, a2⟩, ⟨b1, b2⟩, ⟨c1, c2⟩, ⟨d1, d2⟩⟩ := hb
 have P1 := Lib.hid (fun W => pshare_any a b (by omega) (by omega) W)
 have P2 := Lib.hid (fun W => pshare_any c d (by omega) (by omega) W)
 have S := Lib.hid (fun W => sub_any (fl a) (fl b) (fl c) (fl d) a b c d W (isInt_fl a (by omega)) (isInt_fl b (by omega)) (isInt_fl c (by omega)) (isInt_fl d (by omega)) (by omega) (by omega) (by omega) (by omega))
 have D := Lib.hid (fun W => sides_any (fl (a - c)) (fl (b - d)) (a - c) (b - d) (isInt_fl _ (by omega)) (by omega) (isInt_fl _ (by omega)) (by omega) W)
 have H := Lib.hid h
 have HV := Lib.hid hv
 clear h hv a1 a2 b1 b2 c1 c2 d1 d2
 have hu29 := Tryd.underlying29
 go_enter Tryd.func74, Tryd.ntmps74
 go_wp2_with fail
 refine (R.out (w.heap.size + 1 + 1 + 1) 4 _ (by simp) ?h2).mono ?_
 case h2 => exact cells_new _ [a, b, c, d] 2 _ (by simp)
 rintro e w' ⟨rfl, ⟨nd, rfl⟩⟩
 rw [H.out]
 go_wp2_with fail
 refine (P1.out _).mono ?_
 rintro e w' ⟨rfl, rfl⟩
 go_wp2_with fail
 refine (P2.out _).mono ?_
 rintro e w' ⟨rfl, rfl⟩
 go_wp2_with fail
 refine (S.out _).mono ?_
 rintro e w' ⟨rfl, rfl⟩
 go_wp2_with fail
 refine (D.out _).mono ?_
 rintro e w' ⟨rfl, rfl⟩
 go_wp2_with fail
 refine (R2.out (w.heap.size + 1 + 1 + 1 + 1 + 1 + 1 + 1) 2 _ (by simp) ?h3).mono ?_
 case h3 => exact cells_new _ [a - c, b - d] 2 _ (by simp)
 rintro e w' ⟨rfl, ⟨nd2, rfl⟩⟩
 rw [HV.out]
 clear R R2 P1 P2 S D H HV
 cases v with
 | true =>
  go_wp2_with fail
  refine bodyPost_ret (v := .tuple #[.agg #[.int .i64 (a - c), .int .i64 (b - d)], .int .i64 0]) (by simp [results, Tryd.results74, go_sem]) rfl ⟨rfl, ?_⟩
  repeat (first | exact Below.refl _ _ | apply below_alloc | apply pw_below_drewN | refine below_set ?_ (by omega))
 | false =>
  go_wp2_with fail
  refine bodyPost_ret (v := .tuple #[.agg #[.int .i64 0, .int .i64 0], .int .i64 10]) (by simp [results, Tryd.results74, go_sem]) rfl ⟨rfl, ?_⟩
  repeat (first | exact Below.refl _ _ | apply below_alloc | apply pw_below_drewN | refine below_set ?_ (by omega))

theorem share_less.calls (a0_0 a0_1 a1_0 a1_1 r1 r2 r3 : Int) (w : World) (h : share_less.f a0_0 a0_1 a1_0 a1_1 = some (r1, r2, r3)) :
  Calls Tryd.prog 74 #[.agg #[.int .i64 a0_0, .int .i64 a0_1], .agg #[.int .i64 a1_0, .int .i64 a1_1]] w fun e w' => e = .returned (.tuple #[.agg #[.int .i64 r1, .int .i64 r2], .int .i64 r3]) ∧ Below w.heap.size w w' := by
 unfold share_less.f at h
 cases h1 : [a0_0, a0_1, a1_0, a1_1].all okAmt with
 | false =>
  rw [h1, if_neg (by decide)] at h
  simp only [Option.some.injEq, Prod.mk.injEq] at h
  obtain ⟨rfl, rfl, rfl⟩ := h
  exact less_no _ _ _ _ w h1
 | true =>
  rw [h1, if_pos rfl] at h
  refine (less_yes a0_0 a0_1 a1_0 a1_1 _ w h1 rfl).mono ?_
  cases h2 : [a0_0 - a1_0, a0_1 - a1_1].all okAmt with
  | false =>
   rw [h2, if_neg (by decide)] at h
   simp only [Option.some.injEq, Prod.mk.injEq] at h
   obtain ⟨rfl, rfl, rfl⟩ := h
   rintro e w' ⟨rfl, hb⟩
   exact ⟨by simp, hb⟩
  | true =>
   rw [h2, if_pos rfl] at h
   simp only [Option.some.injEq, Prod.mk.injEq] at h
   obtain ⟨rfl, rfl, rfl⟩ := h
   rintro e w' ⟨rfl, hb⟩
   exact ⟨by simp, hb⟩

end Go.Proofs.YtmocphafkimdpaaDoor.P
