/- A part of the proof of the cards of Share..: each of these statements answers true for every input (the conditions: those of the given statements alone). Merged by a program (wip/merge.py) out of: Pf24, GYear, GShelf, GFmt, Pf61, Pf39, GText, Pf30, Pf32, Pf33. -/
import Derived.Test.YtmocphafkimdpaaDoorBSharea
import Derived.Test.YtmocphafkimdpaaDoorBShared
import Derived.Test.YtmocphafkimdpaaDoorBShareb
import Derived.Laws.CopyRow
import Derived.Laws.CopyOwn
import Derived.Laws.MakeOwn
import Derived.Shelf.Small.Bits
import Derived.Shelf.Strconv.Itoa0
import Derived.Shelf.Strconv.Itoa1
import Derived.Shelf.LaysM
import Derived.Shelf.Strconv.Itoa2
import Derived.Shelf.Bits.Mul64
import Derived.Test.YtmocphafkimdpaaDoorProg
import Derived.Lib.Walk
import Derived.Lib.ItoaMem
import Derived.WalkKit
import Derived.BigCall
import Derived.BigGuard
import Derived.Lib.Hide
import Derived.Test.YtmocphafkimdpaaDoorBSharec

-- written by a program (a patched copy of the kit's print: wip/mkprint.py); Lean checks it
namespace Go.Proofs.YtmocphafkimdpaaDoor.P
open Go.RowKit Go.Proofs.YtmocphafkimdpaaDoorW.PrintWords Go.Proofs.YtmocphafkimdpaaDoorW.PrintLast Go.Proofs.YtmocphafkimdpaaDoorW.PrintMore
attribute [local go_sem] max2_int min2_int max_two min_two max_three min_three max_four min_four   -- for this text's walks alone
set_option linter.unusedVariables false
set_option linter.unusedSimpArgs false

/-! ### share_Post: function 24 -/
def share_Post.f (k : Nat) (l0 : List (S29)) (l1 : List (S29)) : Option ((List (S29)) × Int) := if (l0.length : Int) = (l1.length : Int) then ((social_Sum.f k (l0.length : Int) (([l0, l1] : List (List (S29))))).bind fun bt146 => (some (bt146.1, bt146.2))) else (some (([] : List (S29)), 3))
theorem share_Post.mono : ∀ a0 a1 k, LeO (share_Post.f k a0 a1) (share_Post.f (k + 1) a0 a1) := by
 intro a0 a1 k
 unfold share_Post.f
 repeat' first
   | (with_reducible exact social_Sum.mono _ _ _)
   | (with_reducible exact LeO.refl _)
   | (with_reducible exact LeO.none _)
   | (with_reducible refine LeO.ite ?_ ?_)
   | (with_reducible refine LeO.bind ?_ (fun _ => ?_))
   | exact social_Sum.mono _ _ _
   | exact LeO.none _
   | refine LeO.ite ?_ ?_
   | refine LeO.bind ?_ (fun _ => ?_)
set_option maxHeartbeats 8000000 in
set_option maxRecDepth 100000 in
theorem share_Post.calls (k : Nat) (P0_ : Nat → Prop) (A0 : Option Addr) (c0 : Nat) (l0 : List (S29)) (P1_ : Nat → Prop) (A1 : Option Addr) (c1 : Nat) (l1 : List (S29)) (r1 : List (S29)) (r2 : Int) (w : World) (hs0 : Kd.V k29 29 w w.heap.size (fun k_ => P0_ k_) (.slice A0 l0.length c0) l0) (hs1 : Kd.V k29 29 w w.heap.size (fun k_ => P1_ k_) (.slice A1 l1.length c1) l1) (h : share_Post.f k l0 l1 = some (r1, r2)) :
  Calls Tryd.prog 24 #[.slice A0 l0.length c0, .slice A1 l1.length c1] w fun e w' => ∃ v0_ : Value, e = .returned (.tuple #[v0_, .int .i64 r2]) ∧ Kd.R k29 29 w' w.heap.size (fun k_ => (w.heap.size ≤ k_)) v0_ r1 ∧ Below w.heap.size w w' := by
 have HO0 := Aside0.mk (show Kd.V k29 29 w w.heap.size (fun k_ => ((P0_ k_ ∨ P1_ k_) ∨ w.heap.size ≤ k_)) (.slice A0 l0.length c0) l0 from Kd.V_mono hs0 (fun k_ hk => .inl (.inl hk)))
 have HO1 := Aside0.mk (show Kd.V k29 29 w w.heap.size (fun k_ => ((P0_ k_ ∨ P1_ k_) ∨ w.heap.size ≤ k_)) (.slice A1 l1.length c1) l1 from Kd.V_mono hs1 (fun k_ hk => .inl (.inr hk)))
 have HB := Aside0.mk (Below.refl w.heap.size w)
 have H : (if (l0.length : Int) = (l1.length : Int) then ((social_Sum.f k (l0.length : Int) (([l0, l1] : List (List (S29))))).bind fun bt146 => (some (bt146.1, bt146.2))) else (some (([] : List (S29)), 3))) = some (r1, r2) := h
 clear h
 by_cases c3 : (l0.length : Int) = (l1.length : Int)
 ·rw [if_pos c3] at H
  have c3b0 : ((l0.length : Int) == (l1.length : Int)) = true := beq_iff_eq.mpr c3
  have c3b1 : ((l0.length : Int) != (l1.length : Int)) = false := bne_eq_false_iff_eq.mpr c3
  have c3b2 : (l0.length == l1.length) = true := by first | simpa using c3 | (simp at c3 ⊢; omega)
  clear c3
  obtain ⟨y143, hy143⟩ : ∃ y_ : List (List (S29)), y_ = (([l0, l1] : List (List (S29)))) := ⟨_, rfl⟩
  replace H : ((social_Sum.f k (l0.length : Int) y143).bind fun bt146 => (some (bt146.1, bt146.2))) = some (r1, r2) := by first | (rw [hy143]; with_reducible exact H) | (have H2_ := (Option.bind_some _ _).symm.trans H; rw [hy143]; with_reducible exact H2_) | (have H2_ := (Option.bind_some _ _).symm.trans H; with_reducible exact H2_) | with_reducible exact H | (rw [hy143]; exact H) | exact H
  have Ny143 := Aside0.mk hy143
  clear hy143
  replace H := Option.bind_eq_some_iff.mp H
  obtain ⟨⟨t146, t147⟩, A40, H⟩ := H
  replace H : (some (t146, t147)) = some (r1, r2) := H
  have A4 := Aside0.mk A40
  clear A40
  simp only [Option.some.injEq, Prod.mk.injEq] at H
  obtain ⟨rfl, rfl⟩ := H
  go_enter Tryd.func24, Tryd.ntmps24
  go_wp2_with (first | ((with_reducible refine gate_dst (N := 15) rfl ?_); refine Kd.N_lit (Kd.slice 29 k29) _ 23 ?hg (N' := 15) ?hd (xs := ([l0, l1] : List (List (S29)))) (inner := [.slice A0 l0.length c0, .slice A1 l1.length c1]) (ok := (fun k_ => ((P0_ k_ ∨ P1_ k_) ∨ w.heap.size ≤ k_))) (okp := (fun k_ => ((P0_ k_ ∨ P1_ k_) ∨ w.heap.size ≤ k_))) ?hr ?hp (fun _ hk => hk) ((show ∀ k_, w.heap.size ≤ k_ → (fun k_ => ((P0_ k_ ∨ P1_ k_) ∨ w.heap.size ≤ k_)) k_ from fun k_ hk => (.inr (Nat.le_trans (below_size (by repeat (first | (with_reducible first | exact HB.out | apply below_alloc | apply pw_below_drewN | apply below_drew1) | exact HB.out))) hk))) _ (Nat.le_refl _)) (Below.refl _ _) (Nat.le_refl _) (by simp) ?_; (case hd => rfl); (case hg => rfl); (case hr => first | (go_simp; done) | (go_simp; rfl)); (case hp => exact (Reps.one (show Kd.FK (Kd.slice 29 k29) _ _ l0 [.slice A0 l0.length c0] from (Kd.FK_slice_mk (Kd.V_reads' (Kd.V_mono (ok' := (fun k_ => ((P0_ k_ ∨ P1_ k_) ∨ w.heap.size ≤ k_))) (HO0.out) (fun k_ hk => hk))).2.1 (Kd.V_F (Kd.V_mono (ok' := (fun k_ => ((P0_ k_ ∨ P1_ k_) ∨ w.heap.size ≤ k_))) (HO0.out) (fun k_ hk => hk))))) (Reps.one (show Kd.FK (Kd.slice 29 k29) _ _ l1 [.slice A1 l1.length c1] from (Kd.FK_slice_mk (Kd.V_reads' (Kd.V_mono (ok' := (fun k_ => ((P0_ k_ ∨ P1_ k_) ∨ w.heap.size ≤ k_))) (HO1.out) (fun k_ hk => hk))).2.1 (Kd.V_F (Kd.V_mono (ok' := (fun k_ => ((P0_ k_ ∨ P1_ k_) ∨ w.heap.size ≤ k_))) (HO1.out) (fun k_ hk => hk))))) (Reps.none _ _)))); intro v144 w5 ho6 hb hg_ hnew_; clear hg_ hnew_; (first | rw [← Ny143.out] at ho6 | (simp only [Int.reduceToNat] at ho6; rw [← Ny143.out] at ho6)); have n0_ := Aside0.mk (Kd.V_elder' (by (with_reducible repeat (first | apply Kd.V_alloc | apply Kd.V_drewN | apply Kd.V_drew)); exact HO0.out) (Kd.N_base ho6) hb); have n1_ := Aside0.mk (Kd.V_elder' (by (with_reducible repeat (first | apply Kd.V_alloc | apply Kd.V_drewN | apply Kd.V_drew)); exact HO1.out) (Kd.N_base ho6) hb); have n2_ := Aside0.mk (Kd.N_lower ho6 (below_size (by repeat (first | (with_reducible first | exact HB.out | apply below_alloc | apply pw_below_drewN | apply below_drew1) | exact HB.out)))); have n3_ := Aside0.mk (below_step (by repeat (first | (with_reducible first | exact HB.out | apply below_alloc | apply pw_below_drewN | apply below_drew1) | exact HB.out)) hb); clear HO0; clear HO1; clear HB; have HO0 := n0_; have HO1 := n1_; have HO145 := n2_; have HB := n3_; clear n0_ n1_ n2_ n3_; clear hb ho6; obtain ⟨Ao7, co7, eo7⟩ := Kd.N_slice HO145.out; subst eo7) | ((with_reducible refine gate_callee (f := 75) rfl ?_); refine goesL_ (some 16) rfl rfl Tryd.func75 (by kernel_rfl) rfl #[.int .i64 (l0.length : Int), .slice Ao7 y143.length co7] rfl (by (try simp only [List.map_toArray, List.map_cons, List.map_nil]); first | done | rfl | (simp only [List.length_drop, List.length_take]; rfl)) ?_; (with_reducible refine (social_Sum.calls k (l0.length : Int) _ _ y143 t146 t147 _ ?side1 ?side2 A4.out).mono ?_); (case side1 => repeat (first | exact (Kd.N_reads' HO145.out).2.2 | (with_reducible refine Kd.C_alloc ?_ _) | (with_reducible refine Kd.C_drewN ?_ _) | (with_reducible refine Kd.C_drew ?_))); (case side2 => exact (Kd.N_reads' HO145.out).2.1); rintro e w8 ⟨v148, rfl, ho0, hb⟩; refine ⟨_, rfl, ?_⟩; have n0_ := Aside0.mk (Kd.V_elder' (by (with_reducible repeat (first | apply Kd.V_alloc | apply Kd.V_drewN | apply Kd.V_drew)); exact HO0.out) (Kd.R_base ho0) hb); have n1_ := Aside0.mk (Kd.V_elder' (by (with_reducible repeat (first | apply Kd.V_alloc | apply Kd.V_drewN | apply Kd.V_drew)); exact HO1.out) (Kd.R_base ho0) hb); have n2_ := Aside0.mk (Kd.N_elder' (by (with_reducible repeat (first | apply Kd.N_alloc | apply Kd.N_drewN | apply Kd.N_drew)); exact HO145.out) (Kd.R_base ho0) hb); have n3_ := Aside0.mk (Kd.R_lower (Kd.R_newM (M := fun k_ => (w.heap.size ≤ k_)) ho0 (below_size (by repeat (first | (with_reducible first | exact HB.out | apply below_alloc | apply pw_below_drewN | apply below_drew1) | exact HB.out))) (fun k_ h_ => h_)) (below_size (by repeat (first | (with_reducible first | exact HB.out | apply below_alloc | apply pw_below_drewN | apply below_drew1) | exact HB.out)))); have n4_ := Aside0.mk (below_step (by repeat (first | (with_reducible first | exact HB.out | apply below_alloc | apply pw_below_drewN | apply below_drew1) | exact HB.out)) hb); clear HO0; clear HO1; clear HO145; clear HB; have HO0 := n0_; have HO1 := n1_; have HO145 := n2_; have HO149 := n3_; have HB := n4_; clear n0_ n1_ n2_ n3_ n4_; (try clear hb); (try clear hb2); (try clear hk); (try clear hi); (try clear ho0)))
  go_ret2
  exact ⟨_, by first | rfl | (simp [errW_none, errW_some] <;> rfl) | (simp [*, errW_none, errW_some] <;> rfl), by (with_reducible repeat (first | apply Kd.R_alloc | apply Kd.R_drewN | apply Kd.R_drew)); exact Kd.R_mono HO149.out (fun _ hk => hk.1), by repeat (first | (with_reducible first | exact HB.out | apply below_alloc | apply pw_below_drewN | apply below_drew1) | exact HB.out)⟩
 ·rw [if_neg c3] at H
  have c3b0 : ((l0.length : Int) == (l1.length : Int)) = false := beq_eq_false_iff_ne.mpr c3
  have c3b1 : ((l0.length : Int) != (l1.length : Int)) = true := bne_iff_ne.mpr c3
  have c3b2 : (l0.length == l1.length) = false := by first | simpa using c3 | (simp at c3 ⊢; omega)
  simp only [Option.some.injEq, Prod.mk.injEq] at H
  obtain ⟨rfl, rfl⟩ := H
  go_enter Tryd.func24, Tryd.ntmps24
  go_wp2
  go_ret2
  exact ⟨_, by first | rfl | (simp [errW_none, errW_some] <;> rfl) | (simp [*, errW_none, errW_some] <;> rfl), by first | exact Kd.R_nil _ _ _ _ _ | exact Kd.N_nil _ _ _ _ _ | exact Kd.V_nil _ _ _ _ _ | exact Kd.Q_nil _ _ _ _ _ | exact Kd.S_nil _ _ _ _ _, by repeat (first | (with_reducible first | exact HB.out | apply below_alloc | apply pw_below_drewN | apply below_drew1) | exact HB.out)⟩

end Go.Proofs.YtmocphafkimdpaaDoor.P


/- share.New, Reach and Posts: a year in which contributions are posted. -/
namespace Go.Proofs.YtmocphafkimdpaaDoor.P
open Go.RowKit Go.Proofs.YtmocphafkimdpaaDoorW.PrintWords Go.Proofs.YtmocphafkimdpaaDoorW.PrintLast Go.Proofs.YtmocphafkimdpaaDoorW.PrintMore

/-- A year at block g: what was posted (v reads as row), and how often. -/
def YearAt (W : World) (g b : Nat) (v : Value) (row : List S29) (p : Int) : Prop :=
  W.heap[g]? = some (.cells #[v, .int .i64 p] 122 (0, 0)) ∧ Kd.R k29 29 W b (fun _ => True) v row

theorem sum_none (n : Int) (h0 : 0 ≤ n) (h1 : n ≤ 64) : social_Sum.f 2 n [] = some (List.replicate n.toNat z29, 0) := by
  unfold social_Sum.f
  rw [if_neg (by omega)]
  simp only [social_Sum.j0]
  rw [if_neg (by simp; omega), if_pos h0, if_pos (by omega)]
  simp only [social_Sum.l0]
  simp

set_option maxHeartbeats 1000000 in
theorem new_ok (n : Int) (w : World) (h0 : 0 ≤ n) (h1 : n ≤ 64) :
    Calls Tryd.prog 26 #[.int .i64 n] w fun e w' => ∃ g v, e = .returned (.tuple #[.pointer (some ⟨g, 0, none⟩), .int .i64 0]) ∧ w.heap.size ≤ g ∧ YearAt w' g w.heap.size v (List.replicate n.toNat z29) 0 ∧ Below w.heap.size w w' := by
  have S := Lib.hid (fun W => social_Sum.calls 2 n none 0 [] _ _ W (Kd.C_nil _ _) (Nat.le_refl _) (sum_none n h0 h1))
  clear h0 h1
  go_enter Tryd.func26, Tryd.ntmps26
  go_wp2_with fail
  refine (S.out _).mono ?_
  rintro e w1 ⟨v, rfl, hv, hb⟩
  obtain ⟨A, c, rfl⟩ := Kd.R_slice hv
  have HV := Lib.hid hv
  have HB := Lib.hid hb
  clear hv hb
  go_wp2_with fail
  go_ret2
  refine ⟨w1.heap.size, _, rfl, HB.out.size, ⟨?_, Kd.R_alloc HV.out _⟩, below_alloc HB.out _⟩
  rw [List.length_replicate]
  exact heap_alloc_new w1 _

set_option maxHeartbeats 1000000 in
theorem new_no (n : Int) (w : World) (h : n < 0 ∨ 64 < n) :
    Calls Tryd.prog 26 #[.int .i64 n] w fun e w' => e = .returned (.tuple #[.pointer none, .int .i64 1]) ∧ Below w.heap.size w w' := by
  have hf : social_Sum.f 1 n [] = some ([], 1) := by
    unfold social_Sum.f
    by_cases h0 : n < 0
    · rw [if_pos h0]; simp [social_Sum.j0]
    · rw [if_neg h0]
      have : decide (n > 64) = true := by simp; omega
      simp only [social_Sum.j0, this, if_true]
  have S := Lib.hid (fun W => social_Sum.calls 1 n none 0 [] _ _ W (Kd.C_nil _ _) (Nat.le_refl _) hf)
  clear h hf
  go_enter Tryd.func26, Tryd.ntmps26
  go_wp2_with fail
  refine (S.out _).mono ?_
  rintro e w1 ⟨v, rfl, hv, hb⟩
  have HB := Lib.hid hb
  clear hv hb
  go_wp2_with fail
  go_ret2
  exact ⟨rfl, HB.out⟩

theorem posts_any (g b : Nat) (v : Value) (row : List S29) (p : Int) (w : World) (hy : YearAt w g b v row p) :
    Calls Tryd.prog 29 #[.pointer (some ⟨g, 0, none⟩)] w fun e w' => e = .returned (.int .i64 p) ∧ w = w' := by
  have hc : w.cell? ⟨g, 1, none⟩ = some (.int .i64 p) := (blk_cell hy.1 1).trans rfl
  clear hy
  go_enter Tryd.func29, Tryd.ntmps29
  go_wp2
  go_ret
  exact ⟨rfl, rfl⟩

set_option maxHeartbeats 2000000 in
/-- Reach, where it is done. -/
theorem reach_ok (k g b c p' : Nat) (v : Value) (row due ds row' : List S29) (p : Int) (A : Option Addr) (w0 w : World)
    (hB : Below w0.heap.size w0 w) (hg0 : w0.heap.size ≤ g) (hy : YearAt w g b v row p) (hr : Kd.C k29 w A due.length due) (hc : due.length ≤ c)
    (hd : share_Delta.f k due row = some (ds, 0)) (hp : share_Post.f k row ds = some (row', 0)) (hp0 : p = p') (hp1 : p' < 1000000) :
    Calls Tryd.prog 27 #[.pointer (some ⟨g, 0, none⟩), .slice A due.length c] w fun e w' => ∃ vd vr, e = .returned (.tuple #[vd, .int .i64 0]) ∧ Kd.R k29 29 w' w.heap.size (fun _ => True) vd ds ∧ YearAt w' g w.heap.size vr row' (p + 1) ∧ Kept w w' (fun i => i = g) ∧ Below w0.heap.size w0 w' := by
  subst hp0
  obtain ⟨hg, hv⟩ := hy
  obtain ⟨Av, cv, rfl⟩ := Kd.R_slice hv
  have hvr := Kd.R_reads' hv
  have h0 : w.cell? ⟨g, 0, none⟩ = some (.slice Av row.length cv) := (blk_cell hg 0).trans rfl
  have HD := Lib.hid (fun W h1 h2 => share_Delta.calls k A c due Av cv row ds 0 W h1 hc h2 hvr.2.1 hd)
  have HR := Lib.hid hr
  have HV := Lib.hid hv
  have HB := Lib.hid hB
  have HG := Lib.hid hg
  have HVR := Lib.hid hvr
  clear hr hv hB hg hvr hc hd
  go_enter Tryd.func27, Tryd.ntmps27
  go_wp2_with fail
  refine (HD.out _ HR.out HVR.out.2.2).mono ?_
  rintro e w1 ⟨vd, rfl, hvd, hb1⟩
  obtain ⟨Ad, cd, rfl⟩ := Kd.R_slice hvd
  have hg1 : w1.heap[g]? = some (.cells #[.slice Av row.length cv, .int .i64 p'] 122 (0, 0)) := (hb1.block g (blk_lt HG.out)).trans HG.out
  have h01 : w1.cell? ⟨g, 0, none⟩ = some (.slice Av row.length cv) := (blk_cell hg1 0).trans rfl
  have HP := Lib.hid (share_Post.calls k (fun _ => True) Av cv row (fun _ => True) Ad cd ds row' 0 w1 (Kd.R_V (Kd.R_below HV.out hb1)) (Kd.R_V hvd) hp)
  have HG1 := Lib.hid hg1
  have HVD := Lib.hid hvd
  have HB1 := Lib.hid hb1
  clear h0 hg1 hvd hb1 hp
  go_wp2_with fail
  refine HP.out.mono ?_
  rintro e w2 ⟨vr, rfl, hvr2, hb2⟩
  obtain ⟨Ar, cr, rfl⟩ := Kd.R_slice hvr2
  have hg2 : w2.heap[g]? = some (.cells #[.slice Av row.length cv, .int .i64 p'] 122 (0, 0)) := (hb2.block g (blk_lt HG1.out)).trans HG1.out
  have h02 : w2.cell? ⟨g, 0, none⟩ = some (.slice Av row.length cv) := (blk_cell hg2 0).trans rfl
  have h12 : w2.cell? ⟨g, 1, none⟩ = some (.int .i64 p') := (blk_cell hg2 1).trans rfl
  have f02 : w2.frozen? ⟨g, 0, none⟩ = false := blk_frozen hg2 0
  have f12 : w2.frozen? ⟨g, 1, none⟩ = false := blk_frozen hg2 1
  have HG2 := Lib.hid hg2
  have HVR2 := Lib.hid hvr2
  have HB2 := Lib.hid hb2
  clear h01 hg2 hvr2 hb2
  go_wp2_with fail
  go_ret2
  have hg3 : (w2.setCell ⟨g, 0, none⟩ (.slice Ar row'.length cr)).heap[g]? = some (.cells #[.slice Ar row'.length cr, .int .i64 p'] 122 (0, 0)) := blk_put HG2.out 0 _ rfl
  have st := fun {b' : Nat} {ok : Nat → Prop} {u : Value} {l : List S29} (h : Kd.R k29 29 w2 b' ok u l) => Kd.R_set (Kd.R_set h HG2.out (by decide) 0 (.slice Ar row'.length cr)) hg3 (by decide) 1 (.int .i64 ((p' : Int) + 1))
  refine ⟨_, _, rfl, st (Kd.R_below HVD.out HB2.out), ⟨blk_put hg3 1 _ rfl, st (Kd.R_mono (Kd.R_lower HVR2.out HB1.out.size) (fun _ _ => trivial))⟩, ?_, ?_⟩
  · have k2 : Kept w w2 (fun i => i = g) := Kept.below (Kept.of_below HB1.out _) HB2.out
    have k3 := Kept.setCell k2 (p := ⟨g, 0, none⟩) (.inl rfl) (.slice Ar row'.length cr)
    exact Kept.setCell k3 (p := ⟨g, 1, none⟩) (.inl rfl) (.int .i64 ((p' : Int) + 1))
  · have b2 : Below w0.heap.size w0 w2 := below_step (below_step HB.out HB1.out) HB2.out
    have b3 := below_set (g := g) (j := 0) (v := .slice Ar row'.length cr) b2 hg0
    exact below_set (g := g) (j := 1) (v := .int .i64 ((p' : Int) + 1)) b3 hg0

set_option maxHeartbeats 2000000 in
/-- Reach, where it is refused. -/
theorem reach_err (k g b c : Nat) (v : Value) (row due : List S29) (p r : Int) (A : Option Addr) (w : World)
    (hy : YearAt w g b v row p) (hr : Kd.C k29 w A due.length due) (hc : due.length ≤ c)
    (hd : share_Delta.f k due row = some ([], r)) (hr0 : (r != 0) = true) :
    Calls Tryd.prog 27 #[.pointer (some ⟨g, 0, none⟩), .slice A due.length c] w fun e w' => e = .returned (.tuple #[.slice none 0 0, .int .i64 r]) ∧ Below w.heap.size w w' := by
  obtain ⟨hg, hv⟩ := hy
  obtain ⟨Av, cv, rfl⟩ := Kd.R_slice hv
  have hvr := Kd.R_reads' hv
  have h0 : w.cell? ⟨g, 0, none⟩ = some (.slice Av row.length cv) := (blk_cell hg 0).trans rfl
  have HD := Lib.hid (fun W h1 h2 => share_Delta.calls k A c due Av cv row [] r W h1 hc h2 hvr.2.1 hd)
  have HR := Lib.hid hr
  have HVR := Lib.hid hvr
  clear hr hv hg hvr hc hd
  go_enter Tryd.func27, Tryd.ntmps27
  go_wp2_with fail
  refine (HD.out _ HR.out HVR.out.2.2).mono ?_
  rintro e w1 ⟨vd, rfl, hvd, hb1⟩
  have HB1 := Lib.hid hb1
  clear h0 hvd hb1
  go_wp2_with fail
  go_ret2
  exact ⟨rfl, HB1.out⟩

theorem run_copy_rows {P : Program} (w : World) (dT sT ty elem : TypeId) (sz g dLen dCap : Nat) (a : Addr) (sLen sCap : Nat) (cur : Array Value) (t : TypeId) (cs : List Value)
    (hu : P.underlying dT = some (.slice elem)) (hs : (P.info? elem).map (·.size) = some sz)
    (hg : w.heap[g]? = some (.cells cur t (0, 0))) (hn : cs.length = Nat.min sLen dLen * sz)
    (hsrc : ∀ j v, cs[j]? = some v → w.cell? (a.add j) = some v) (hfit : cs.length = cur.size) (h1 : ∀ v ∈ cs, v.oneCell' = true) :
    (Builtin.copy_ #[dT, sT] ty #[.slice (some ⟨g, 0, none⟩) dLen dCap, .slice (some a) sLen sCap]).run P w =
      .ok (goInt (Nat.min sLen dLen)) (w.setRow g cs.toArray) := by
  have hl := run_loadCells_list (P := P) w a cs hsrc
  have hst := run_storeCells_at (P := P) g 0 t cs 0 cur w hg (by simp; omega) h1
  have e1 : (cur.toList.take (0 + 0) ++ cs ++ cur.toList.drop (0 + 0 + cs.length)) = cs := by
    rw [List.drop_of_length_le (by simp; omega)]
    simp
  rw [e1] at hst
  cases hq : P.info? elem with
  | none => simp [hq] at hs
  | some i =>
    have hi : i.size = sz := by simpa [hq] using hs
    simp [Builtin.copy_, run_underlying hu, Builtin.lenOf, Builtin.firstCells, sizeOf, typeInfo, hq, hi, ← hn, hl, hst]

theorem info29y : (Tryd.prog.info? 29).map (fun i => (i.zero, i.size, i.bytes)) = some (some (.agg #[(.int .i64 0), (.int .i64 0)]), 2, 16) := by kernel_rfl

theorem make_row (n : Nat) (hn : n ≤ 1000) (W : World) : (Instr.makeSlice 23 (.int .i64 n) (.int .i64 n)).run Tryd.prog W = .ok (.slice (some ⟨W.heap.size, 0, none⟩) n n) (W.alloc (.cells (madeCells #[.int .i64 0, .int .i64 0] (n * 2)) 29)) := by
  obtain ⟨i0, hi, hzz⟩ := Option.map_eq_some_iff.1 info29y
  simp only [Prod.mk.injEq] at hzz
  obtain ⟨hz0, hz1, hz2⟩ := hzz
  have hr := run_make (P := Tryd.prog) W 23 29 i0 (.agg #[(.int .i64 0), (.int .i64 0)]) Tryd.underlying23 hi hz0 .i64 .i64 (n : Int) (n : Int) (by omega) (by omega) (by rw [hz2]; omega) (by omega)
  simp only [Int.toNat_natCast] at hr
  rw [hz1] at hr
  exact hr

theorem reps_k29 {w w' : World} {b b' : Nat} {ok ok' : Nat → Prop} {row : List S29} {cs : List Value} (h : Reps (Kd.M k29 w b ok) 2 row cs) : Reps (Kd.M k29 w' b' ok') 2 row cs :=
  h.imp_ (fun x c hm => by
    have := k29_openM hm
    subst this
    exact k29_mkM _ _ _ _)

theorem row_at {w : World} {g b : Nat} {row : List S29} {cs : List Value} {w0 : World} {b0 : Nat} {ok0 : Nat → Prop} (hb : b ≤ g) (hg : w.heap[g]? = some (.cells cs.toArray 29 (0, 0))) (hr : Reps (Kd.M k29 w0 b0 ok0) 2 row cs) (hm : row.length ≤ maxLen) :
    Kd.R k29 29 w b (fun _ => True) (.slice (some ⟨g, 0, none⟩) row.length row.length) row :=
  ⟨fun _ _ => trivial, cs, show w.ownsRow b 29 2 (.slice (some ⟨g, 0, none⟩) row.length row.length) row.length cs from ⟨hr.1, .inr ⟨g, row.length, cs.toArray, rfl, hb, hg, Nat.le_refl _, hm, by simpa using hr.1, by rw [List.take_of_length_le (by simp [hr.1])]⟩⟩, reps_k29 hr⟩

set_option maxHeartbeats 2000000 in
/-- Posted: a copy of what was posted so far. -/
theorem posted_any (g b : Nat) (v : Value) (row : List S29) (p : Int) (w : World) (hy : YearAt w g b v row p) (hl : row.length ≤ 1000) :
    Calls Tryd.prog 28 #[.pointer (some ⟨g, 0, none⟩)] w fun e w' => ∃ v2, e = .returned v2 ∧ Kd.R k29 29 w' w.heap.size (fun _ => True) v2 row ∧ Below w.heap.size w w' := by
  obtain ⟨hg, hv⟩ := hy
  obtain ⟨Av, cv, rfl⟩ := Kd.R_slice hv
  have h0 : w.cell? ⟨g, 0, none⟩ = some (.slice Av row.length cv) := (blk_cell hg 0).trans rfl
  obtain ⟨_, inner, hown, hreps⟩ := hv
  have hlen : inner.length = row.length * 2 := hreps.1
  have hmk := make_row row.length hl
  have h1 : ∀ u ∈ inner, u.oneCell' = true := by
    intro u hu
    obtain ⟨i, hi, rfl⟩ := List.getElem_of_mem hu
    have hj : i / 2 < row.length := by omega
    have hk := k29_openM (hreps.2 (i / 2) _ (List.getElem?_eq_getElem hj))
    have hk2 : inner[i]? = ((inner.drop (i / 2 * 2)).take 2)[i % 2]? := by
      rw [List.getElem?_take_of_lt (by omega), List.getElem?_drop]
      congr 1
      omega
    have hk3 : k29.sz = 2 := rfl
    rw [hk3] at hk
    rw [hk, List.getElem?_eq_getElem hi] at hk2
    rcases Nat.mod_two_eq_zero_or_one i with h2 | h2
    · rw [h2] at hk2
      simp at hk2
      rw [hk2]; rfl
    · rw [h2] at hk2
      simp at hk2
      rw [hk2]; rfl
  have hW : (w.alloc (.cells (madeCells #[.int .i64 0, .int .i64 0] (row.length * 2)) 29)).heap[w.heap.size]? = some (.cells (madeCells #[.int .i64 0, .int .i64 0] (row.length * 2)) 29 (0, 0)) := heap_alloc_new w _
  have hcp : ∀ ty, (Builtin.copy_ #[23, 23] ty #[.slice (some ⟨w.heap.size, 0, none⟩) row.length row.length, .slice Av row.length cv]).run Tryd.prog (w.alloc (.cells (madeCells #[.int .i64 0, .int .i64 0] (row.length * 2)) 29)) = .ok (goInt row.length) ((w.alloc (.cells (madeCells #[.int .i64 0, .int .i64 0] (row.length * 2)) 29)).setRow w.heap.size inner.toArray) := by
    intro ty
    cases Av with
    | none =>
      have hn : row.length = 0 ∧ cv = 0 := by
        rcases hown.2 with ⟨he, hn⟩ | ⟨g', cap', cur', he, _⟩
        · injection he with _ _ hc
          exact ⟨hn, hc⟩
        · injection he with he; cases he
      obtain ⟨hn, rfl⟩ := hn
      have hi0 : inner = [] := List.eq_nil_of_length_eq_zero (by omega)
      rw [hn, run_copy_nil (P := Tryd.prog) _ 23 23 ty 29 _ _ _ Tryd.underlying23 (by rw [show (Tryd.prog.info? 29).map (·.size) = some 2 from by kernel_rfl]; rfl), hi0]
      have hm0 : madeCells #[Value.int .i64 0, Value.int .i64 0] (0 * 2) = #[] := by simp [madeCells]
      congr 1
      rw [hn] at hW
      rw [hm0] at hW ⊢
      exact (setRow_self _ _ _ _ _ hW).symm
    | some ad =>
      have emin : row.length.min row.length = row.length := Nat.min_self _
      have hr := run_copy_rows (P := Tryd.prog) (w.alloc (.cells (madeCells #[.int .i64 0, .int .i64 0] (row.length * 2)) 29)) 23 23 ty 29 2 w.heap.size row.length row.length ad row.length cv _ 29 inner Tryd.underlying23 (by kernel_rfl) hW (by rw [emin]; exact hlen)
        (fun j u hu => by
          have hc := hown.cells (g := ad.block) (by
            rcases hown.2 with ⟨he, _⟩ | ⟨g', cap', cur', he, _⟩
            · injection he with he; cases he
            · injection he with he; cases he; rfl) j u hu
          have had : ad = ⟨ad.block, 0, none⟩ := by
            rcases hown.2 with ⟨he, _⟩ | ⟨g', cap', cur', he, _⟩
            · injection he with he; cases he
            · injection he with he; cases he; rfl
          rw [had]
          exact pw_cell_below (below_alloc (Below.refl _ _) _) hc) (by rw [size_madeCells]; exact hlen) h1
      rw [emin] at hr
      exact hr
  have hlt : g < w.heap.size := blk_lt hg
  have HI := Lib.hid hreps
  have HL := Lib.hid hlen
  clear hown hreps hlen h1 hg
  have HW := Lib.hid hW
  clear hW
  go_enter Tryd.func28, Tryd.ntmps28
  go_wp2_with fail
  go_ret
  exact ⟨_, rfl, row_at (Nat.le_refl _) (setRow_heap _ _ _ _ _ _ HW.out) HI.out (by unfold maxLen; omega), below_setRow (below_alloc (Below.refl _ _) _) (Nat.le_refl _) _⟩

end Go.Proofs.YtmocphafkimdpaaDoor.P


/- The library's contracts that these proofs use, laid at this program by the shelf's own program, in plain words. -/
namespace Go.Proofs
open Go.Shelf
def Tryd.lays134_ren : Go.Shelf.Ren := ⟨fun | 134 => 106 | 129 => 118 | n => n, fun | 53 => 104 | 3 => 3 | 4 => 4 | 46 => 158 | 5 => 5 | 9 => 9 | n => n, fun | n => n⟩
theorem Tryd.lays134 : Go.Proofs.Lays.n134 Tryd.prog Tryd.lays134_ren := {
  mixed := by kernel_rfl
  f129 := Tryd.func118.trans (congrArg some (by kernel_rfl))
  f134 := Tryd.func106.trans (congrArg some (by kernel_rfl))
  t3 := Tryd.underlying3
  a3 := Tryd.isAgg3
  z3 := Tryd.sizeOf3
  v3 := Tryd.zeroValue3
  t4 := Tryd.underlying4
  a4 := Tryd.isAgg4
  z4 := Tryd.sizeOf4
  v4 := Tryd.zeroValue4
  t5 := Tryd.underlying5
  a5 := Tryd.isAgg5
  z5 := Tryd.sizeOf5
  v5 := Tryd.zeroValue5
  t9 := Tryd.underlying9
  a9 := Tryd.isAgg9
  z9 := Tryd.sizeOf9
  v9 := Tryd.zeroValue9
  t46 := Tryd.underlying158
  a46 := Tryd.isAgg158
  z46 := Tryd.sizeOf158
  v46 := Tryd.zeroValue158
  t53 := Tryd.underlying104
  a53 := Tryd.isAgg104
  z53 := Tryd.sizeOf104
  v53 := Tryd.zeroValue104 }
/-- bits.LeadingZeros64: "LeadingZeros64 returns the number of leading zero bits in x; the result is 64 for x == 0.": IT RETURNS '64 - Lib.bitLen x'; the world is as it was. ITS CALLEE bits.Len64 IS MET BY ITS OWN CONTRACT OFF THE SHELF (lay that first): entered in place it sends the kernel out of memory. (LAID: no walk: one application.) -/
theorem Tryd.bits_LeadingZeros64 (x : Int) (w : World) (h0 : 0 ≤ x) (h1 : x ≤ 18446744073709551615) :
    Calls Tryd.prog 106 #[.int .u64 x] w fun e w' => e = .returned (.int .i64 (64 - (Lib.bitLen x.toNat : Int))) ∧ w' = w := Any.bits_LeadingZeros64 Tryd.lays134 x w h0 h1
def Tryd.lays129_ren : Go.Shelf.Ren := ⟨fun | 129 => 118 | n => n, fun | 53 => 104 | 3 => 3 | 4 => 4 | 46 => 158 | 5 => 5 | 9 => 9 | n => n, fun | n => n⟩
theorem Tryd.lays129 : Go.Proofs.Lays.n129 Tryd.prog Tryd.lays129_ren := {
  mixed := by kernel_rfl
  f129 := Tryd.func118.trans (congrArg some (by kernel_rfl))
  t3 := Tryd.underlying3
  a3 := Tryd.isAgg3
  z3 := Tryd.sizeOf3
  v3 := Tryd.zeroValue3
  t4 := Tryd.underlying4
  a4 := Tryd.isAgg4
  z4 := Tryd.sizeOf4
  v4 := Tryd.zeroValue4
  t5 := Tryd.underlying5
  a5 := Tryd.isAgg5
  z5 := Tryd.sizeOf5
  v5 := Tryd.zeroValue5
  t9 := Tryd.underlying9
  a9 := Tryd.isAgg9
  z9 := Tryd.sizeOf9
  v9 := Tryd.zeroValue9
  t46 := Tryd.underlying158
  a46 := Tryd.isAgg158
  z46 := Tryd.sizeOf158
  v46 := Tryd.zeroValue158
  t53 := Tryd.underlying104
  a53 := Tryd.isAgg104
  z53 := Tryd.sizeOf104
  v53 := Tryd.zeroValue104 }
/-- bits.Len64: "Len64 returns the minimum number of bits required to represent x; the result is 0 for x == 0.": IT RETURNS 'Lib.bitLen x'; the world is as it was. ('h0', 'h1': x is a uint64.) (LAID: no walk: one application.) -/
theorem Tryd.bits_Len64 (x : Int) (w : World) (h0 : 0 ≤ x) (h1 : x ≤ 18446744073709551615) :
    Calls Tryd.prog 118 #[.int .u64 x] w fun e w' => e = .returned (.int .i64 (Lib.bitLen x.toNat)) ∧ w' = w := Any.bits_Len64 Tryd.lays129 x w h0 h1
def Tryd.lays317_ren : Go.Shelf.Ren := ⟨fun | 317 => 124 | n => n, fun | 3 => 3 | 46 => 158 | n => n, fun | n => n⟩
theorem Tryd.lays317 : Go.Proofs.Lays.n317 Tryd.prog Tryd.lays317_ren := {
  mixed := by kernel_rfl
  f317 := Tryd.func124.trans (congrArg some (by kernel_rfl))
  t3 := Tryd.underlying3
  a3 := Tryd.isAgg3
  z3 := Tryd.sizeOf3
  v3 := Tryd.zeroValue3
  t46 := Tryd.underlying158
  a46 := Tryd.isAgg158
  z46 := Tryd.sizeOf158
  v46 := Tryd.zeroValue158 }
open Go.Lib in
/-- internal/strconv.log10Pow2: "log10Pow2(x) returns ⌊log₁₀ 2**x⌋ = ⌊x * log₁₀ 2⌋.": '(x * 78913) >> 18', at an x up to 64 (a length in bits). The world is as it was. (LAID: no walk: one application.) -/
theorem Tryd.internal_strconv_log10Pow2 (x : Nat) (h : x ≤ 64) (w : World) :
    Calls Tryd.prog 124 #[.int .i64 x] w fun e w' => e = .returned (.int .i64 (Lib.l10 x)) ∧ w' = w := Any.internal_strconv_log10Pow2 Tryd.lays317 x h w
def Tryd.lays318_ren : Go.Shelf.Ren := ⟨fun | 318 => 125 | n => n, fun | 3 => 3 | 4 => 4 | n => n, fun | n => n⟩
theorem Tryd.lays318 : Go.Proofs.Lays.n318 Tryd.prog Tryd.lays318_ren := {
  mixed := by kernel_rfl
  f318 := Tryd.func125.trans (congrArg some (by kernel_rfl))
  t3 := Tryd.underlying3
  a3 := Tryd.isAgg3
  z3 := Tryd.sizeOf3
  v3 := Tryd.zeroValue3
  t4 := Tryd.underlying4
  a4 := Tryd.isAgg4
  z4 := Tryd.sizeOf4
  v4 := Tryd.zeroValue4 }
open Go.Lib in
/-- internal/strconv.bool2: "bool2 converts b to an integer: 1 for true, 0 for false." The world is as it was. (LAID: no walk: one application.) -/
theorem Tryd.internal_strconv_bool2_int (b : Bool) (w : World) :
    Calls Tryd.prog 125 #[.bool b] w fun e w' => e = .returned (.int .i64 (if b then 1 else 0)) ∧ w' = w := Any.internal_strconv_bool2_int Tryd.lays318 b w
def Tryd.lays283_ren : Go.Shelf.Ren := ⟨fun | 283 => 114 | n => n, fun | 3 => 3 | 9 => 9 | 4 => 4 | n => n, fun | n => n⟩
theorem Tryd.lays283 : Go.Proofs.Lays.n283 Tryd.prog Tryd.lays283_ren := {
  mixed := by kernel_rfl
  f283 := Tryd.func114.trans (congrArg some (by kernel_rfl))
  t3 := Tryd.underlying3
  a3 := Tryd.isAgg3
  z3 := Tryd.sizeOf3
  v3 := Tryd.zeroValue3
  t4 := Tryd.underlying4
  a4 := Tryd.isAgg4
  z4 := Tryd.sizeOf4
  v4 := Tryd.zeroValue4
  t9 := Tryd.underlying9
  a9 := Tryd.isAgg9
  z9 := Tryd.sizeOf9
  v9 := Tryd.zeroValue9 }
open Go.Lib in
/-- internal/strconv.small: "small returns the string for an i with 0 <= i < nSmalls.": i's decimal numeral. The world is as it was. (LAID: no walk: one application.) -/
theorem Tryd.internal_strconv_small (i : Nat) (h : i < 100) (w : World) :
    Calls Tryd.prog 114 #[.int .i64 i] w fun e w' => e = .returned (.string ⟨(Lib.decDigits i).toArray⟩) ∧ w' = w := Any.internal_strconv_small Tryd.lays283 i h w
def Tryd.laysM284_ren : Go.Shelf.Ren := ⟨fun | 284 => 115 | 129 => 118 | 317 => 124 | 318 => 125 | n => n, fun | 53 => 104 | 3 => 3 | 212 => 196 | 0 => 0 | 4 => 4 | 46 => 158 | 5 => 5 | 9 => 9 | n => n, fun | 17 => 5 | n => n⟩
theorem Tryd.laysM284 : Go.Proofs.LaysM.n284 Tryd.prog Tryd.laysM284_ren := {
  mixed := by kernel_rfl
  f129 := Tryd.func118.trans (congrArg some (by kernel_rfl))
  f284 := Tryd.func115.trans (congrArg some (by kernel_rfl))
  f317 := Tryd.func124.trans (congrArg some (by kernel_rfl))
  f318 := Tryd.func125.trans (congrArg some (by kernel_rfl))
  t0 := Tryd.underlying0
  a0 := Tryd.isAgg0
  z0 := Tryd.sizeOf0
  v0 := Tryd.zeroValue0
  t3 := Tryd.underlying3
  a3 := Tryd.isAgg3
  z3 := Tryd.sizeOf3
  v3 := Tryd.zeroValue3
  t4 := Tryd.underlying4
  a4 := Tryd.isAgg4
  z4 := Tryd.sizeOf4
  v4 := Tryd.zeroValue4
  t5 := Tryd.underlying5
  a5 := Tryd.isAgg5
  z5 := Tryd.sizeOf5
  v5 := Tryd.zeroValue5
  t9 := Tryd.underlying9
  a9 := Tryd.isAgg9
  z9 := Tryd.sizeOf9
  v9 := Tryd.zeroValue9
  t46 := Tryd.underlying158
  a46 := Tryd.isAgg158
  z46 := Tryd.sizeOf158
  v46 := Tryd.zeroValue158
  t53 := Tryd.underlying104
  a53 := Tryd.isAgg104
  z53 := Tryd.sizeOf104
  v53 := Tryd.zeroValue104
  t212 := Tryd.underlying196
  a212 := Tryd.isAgg196
  z212 := Tryd.sizeOf196
  v212 := Tryd.zeroValue196
  g17 := by kernel_rfl
  i0 := by kernel_rfl
  i3 := by kernel_rfl
  i4 := by kernel_rfl
  i5 := by kernel_rfl
  i9 := by kernel_rfl
  i46 := by kernel_rfl
  i53 := by kernel_rfl
  i212 := by kernel_rfl
  m17 := by kernel_rfl }
open Go.Lib in
/-- internal/strconv.numDigits, at a d that is not 0: THE NUMBER OF d's DECIMAL DIGITS. The world is as it was. (LAID: no walk: one application.) -/
theorem Tryd.internal_strconv_numDigits (u : Nat) (h1 : 1 ≤ u) (h2 : u < 18446744073709551616) (w : World) (htab : Lib.TabIs Tryd.prog w "internal/strconv.uint64pow10" .u64 Lib.pow10Tab) :
    Calls Tryd.prog 115 #[.int .u64 u] w fun e w' => e = .returned (.int .i64 (Lib.nDigits u)) ∧ w' = w := Any.internal_strconv_numDigits Tryd.laysM284 u h1 h2 w htab
def Tryd.lays285_ren : Go.Shelf.Ren := ⟨fun | 285 => 116 | n => n, fun | 37 => 164 | 53 => 104 | 3 => 3 | 4 => 4 | 51 => 168 | 9 => 9 | 5 => 5 | 0 => 0 | n => n, fun | n => n⟩
theorem Tryd.lays285 : Go.Proofs.Lays.n285 Tryd.prog Tryd.lays285_ren := {
  mixed := by kernel_rfl
  f285 := Tryd.func116.trans (congrArg some (by kernel_rfl))
  t0 := Tryd.underlying0
  a0 := Tryd.isAgg0
  z0 := Tryd.sizeOf0
  v0 := Tryd.zeroValue0
  t3 := Tryd.underlying3
  a3 := Tryd.isAgg3
  z3 := Tryd.sizeOf3
  v3 := Tryd.zeroValue3
  t4 := Tryd.underlying4
  a4 := Tryd.isAgg4
  z4 := Tryd.sizeOf4
  v4 := Tryd.zeroValue4
  t5 := Tryd.underlying5
  a5 := Tryd.isAgg5
  z5 := Tryd.sizeOf5
  v5 := Tryd.zeroValue5
  t9 := Tryd.underlying9
  a9 := Tryd.isAgg9
  z9 := Tryd.sizeOf9
  v9 := Tryd.zeroValue9
  t37 := Tryd.underlying164
  a37 := Tryd.isAgg164
  z37 := Tryd.sizeOf164
  v37 := Tryd.zeroValue164
  t51 := Tryd.underlying168
  a51 := Tryd.isAgg168
  z51 := Tryd.sizeOf168
  v51 := Tryd.zeroValue168
  t53 := Tryd.underlying104
  a53 := Tryd.isAgg104
  z53 := Tryd.sizeOf104
  v53 := Tryd.zeroValue104 }
open Go.RowKit Go.Sort Go.Lib in
/-- internal/strconv.formatBase10: "formatBase10 formats the decimal representation of u into a. The caller is responsible for ensuring that a is big enough to hold u. If a is too big, leading zeros will be filled in as needed.": THE ROW HOLDS u's DIGITS ('FmtInv .. 0 ..': every place t holds 'dg u (len - 1 - t)'); all else is as it was but for the count of draws. (LAID: no walk: one application.) -/
theorem Tryd.internal_strconv_formatBase10 (blk off cap : Nat) (u : Nat) (d : Array UInt8) (w : World) (hH : Holds (fun (b : UInt8) => Value.int .u8 (b.toNat : Int)) w blk off d) (hu : u < 10 ^ d.size) (hu64 : u < 18446744073709551616) (hsz : d.size < 4611686018427387904) :
    Calls Tryd.prog 116 #[.slice (some ⟨blk, off, none⟩) d.size cap, .int .u64 u] w fun e w' =>
      e = .returned (.tuple #[]) ∧ ∃ (n v' : Nat) (dk : Array UInt8), w' = (putRow (fun (b : UInt8) => Value.int .u8 (b.toNat : Int)) w blk off dk).drewN n ∧ FmtInv d.size u 0 v' dk := Any.internal_strconv_formatBase10 Tryd.lays285 blk off cap u d w hH hu hu64 hsz
def Tryd.lays264_ren : Go.Shelf.Ren := ⟨fun | 264 => 83 | n => n, fun | 53 => 104 | 46 => 158 | n => n, fun | n => n⟩
theorem Tryd.lays264 : Go.Proofs.Lays.n264 Tryd.prog Tryd.lays264_ren := {
  mixed := by kernel_rfl
  f264 := Tryd.func83.trans (congrArg some (by kernel_rfl))
  t46 := Tryd.underlying158
  a46 := Tryd.isAgg158
  z46 := Tryd.sizeOf158
  v46 := Tryd.zeroValue158
  t53 := Tryd.underlying104
  a53 := Tryd.isAgg104
  z53 := Tryd.sizeOf104
  v53 := Tryd.zeroValue104 }
open Go.RowKit Go.Lib in
theorem Tryd.bits_Mul64 (x y : Nat) (hx : x < 18446744073709551616) (hy : y < 18446744073709551616) (w : World) :
    Calls Tryd.prog 83 #[.int .u64 x, .int .u64 y] w fun e w' => e = .returned (.tuple #[.int .u64 ((x * y / 18446744073709551616 : Nat) : Int), .int .u64 ((x * y % 18446744073709551616 : Nat) : Int)]) ∧ w' = w := Any.bits_Mul64 Tryd.lays264 x y hx hy w
end Go.Proofs


/- strconv.FormatUint at base 10 answers the number's decimal numeral. -/
namespace Go.Proofs.YtmocphafkimdpaaDoor.P
open Go.RowKit Go.Proofs.YtmocphafkimdpaaDoorW.PrintWords Go.Proofs.YtmocphafkimdpaaDoorW.PrintLast Go.Proofs.YtmocphafkimdpaaDoorW.PrintMore
open Go.Sort

/-- The new block's bytes are a row of zeros. -/
theorem fmt_holds_zero (w : World) (T : TypeId) (nd : Nat) (hs : nd ≤ 24) : Holds (fun (b : UInt8) => Value.int .u8 (b.toNat : Int)) (w.alloc (.cells Lib.zeros24 T)) w.heap.size 0 (Array.replicate nd (0 : UInt8)) := fun j hj => by
  have hj' : j < nd := by simpa using hj
  refine ⟨?_, World.frozen?_alloc_new _ _ _ _⟩
  rw [World.cell?_alloc_new, Lib.zeros24_at _ (by omega), getElem!_pos _ j hj]
  simp

theorem fmt_fin (w : World) (o : Obj) (dk : Array UInt8) (k : Nat) : ∃ os, (putRow (fun (b : UInt8) => Value.int .u8 (b.toNat : Int)) (w.alloc o) w.heap.size 0 dk).drewN k = grow (w.drewN k) os := by
  rw [alloc_eq_grow]
  obtain ⟨os', _, e⟩ := putRow_grow_new (fun (b : UInt8) => Value.int .u8 (b.toNat : Int)) w #[o] w.heap.size 0 dk (Nat.le_refl _)
  exact ⟨os', by rw [e]; rfl⟩

theorem below_grow (w : World) (k : Nat) (os : Array Obj) : Below w.heap.size w (grow (w.drewN k) os) := by
  refine ⟨rfl, rfl, rfl, ?_, ?_⟩
  · simp [grow, World.drewN]
  · intro i hi
    show (w.heap ++ os)[i]? = w.heap[i]?
    rw [Array.getElem?_append_left hi]

set_option maxHeartbeats 6400000 in
set_option maxRecDepth 100000 in
theorem fmt_inner (u : Nat) (hu64 : u < 18446744073709551616) (w : World) (hG : GTab w) :
    Calls Tryd.prog 105 #[.int .u64 u, .int .i64 10] w fun e w' => e = .returned (.string ⟨(Lib.decDigits u).toArray⟩) ∧ Below w.heap.size w w' := by
  by_cases hs : u < 100
  · go_enter Tryd.func105, Tryd.ntmps105
    have hs' : (u : Int) < 100 := by omega
    go_wp2_with (go_at_call 114; refine (Tryd.internal_strconv_small u hs _).mono ?_; rintro e w' ⟨rfl, rfl⟩)
    go_ret
    exact ⟨rfl, Below.refl _ _⟩
  · have hu1 : 1 ≤ u := by omega
    have hnd20 : Lib.nDigits u ≤ 20 := by have := Lib.numDigits_eq u hu1 hu64; split at this <;> omega
    have hal : Tryd.prog.arrayLen 175 = 24 := by simp [Program.arrayLen, Tryd.underlying175]
    have hsl1 : ∀ W, (Instr.sliceAt 175 (.pointer (some ⟨w.heap.size, 0, none⟩)) none (some (.int .i64 (Lib.nDigits u : Int))) none).run Tryd.prog W = .ok (.slice (some ⟨w.heap.size, 0, none⟩) (Lib.nDigits u) 24) W := fun W => by
      rw [run_sliceAt_array_h W 175 ⟨w.heap.size, 0, none⟩ (by simp [Program.arrayLen, Program.elem, Tryd.underlying175]) .i64 (Lib.nDigits u : Int) (by omega) (by rw [hal]; omega)]
      go_simp
    have hH0 := fmt_holds_zero w 175 (Lib.nDigits u) (by omega)
    have hfmt := Tryd.internal_strconv_formatBase10 w.heap.size 0 24 u (Array.replicate (Lib.nDigits u) 0) (w.alloc (.cells Lib.zeros24 175)) hH0 (by rw [Array.size_replicate]; exact Lib.lt_pow_nDigits u) hu64 (by rw [Array.size_replicate]; omega)
    rw [Array.size_replicate] at hfmt
    have HH0 := Lib.hid hH0
    clear hH0 hal
    have hs' : ¬ (u : Int) < 100 := by omega
    have HG := Lib.hid hG
    clear hG
    go_enter Tryd.func105, Tryd.ntmps105
    go_wp2_with (go_at_call 115; refine (Tryd.internal_strconv_numDigits u hu1 hu64 _ (Lib.tabIs_alloc HG.out _)).mono ?_; rintro e w' ⟨rfl, rfl⟩)
    go_at_call 116
    refine hfmt.mono ?_
    rintro e w' ⟨rfl, k, v', dk, rfl, hF⟩
    have hcv : (convert 164 9 (.slice (some ⟨w.heap.size, 0, none⟩) (Lib.nDigits u) 24)).run Tryd.prog ((putRow (fun (b : UInt8) => Value.int .u8 (b.toNat : Int)) (w.alloc (.cells Lib.zeros24 175)) w.heap.size 0 dk).drewN k) = .ok (.string ⟨(Lib.decDigits u).toArray⟩) ((putRow (fun (b : UInt8) => Value.int .u8 (b.toNat : Int)) (w.alloc (.cells Lib.zeros24 175)) w.heap.size 0 dk).drewN k) := by
      have h := run_convert_bytes_back (P := Tryd.prog) ((putRow (fun (b : UInt8) => Value.int .u8 (b.toNat : Int)) (w.alloc (.cells Lib.zeros24 175)) w.heap.size 0 dk).drewN k) 164 9 5 ⟨w.heap.size, 0, none⟩ 24 (Lib.decDigits u) Tryd.underlying164 Tryd.underlying5 Tryd.underlying9 (fun j hj => by
        rw [Lib.row_is_numeral hF j hj, Lib.add_plain, World.cell?_drewN]
        exact cell?_putRow (fun (b : UInt8) => Value.int .u8 (b.toNat : Int)) _ w.heap.size 0 _ dk HH0.out (by rw [hF.size, Array.size_replicate]) j (by rw [hF.size]; rw [Lib.decDigits_length] at hj; exact hj))
      rw [Lib.decDigits_length] at h
      exact h
    go_wp2
    go_ret
    obtain ⟨os, eo⟩ := fmt_fin w (.cells Lib.zeros24 175) dk k
    refine ⟨rfl, ?_⟩
    rw [eo]
    exact below_grow w k os

def strconv_FormatUint_82.f (a0 a1 : Int) : Option ByteArray := if a1 = 10 ∧ 0 ≤ a0 ∧ a0 < 18446744073709551616 then some ⟨(Lib.decDigits a0.toNat).toArray⟩ else none
theorem strconv_FormatUint_82.calls (a0 a1 : Int) (r : ByteArray) (w : World) (h : strconv_FormatUint_82.f a0 a1 = some r) (hG : GTab w := by first | exact GTab.below HG.out (by repeat (first | (with_reducible first | exact HB.out | apply below_alloc | apply pw_below_drewN | apply below_drew1 | apply below_drew) | exact HB.out)) | exact HG.out) :
    Calls Tryd.prog 82 #[.int .u64 a0, .int .i64 a1] w fun e w' => e = .returned (.string r) ∧ Below w.heap.size w w' := by
  unfold strconv_FormatUint_82.f at h
  split at h
  · rename_i hc
    obtain ⟨rfl, h0, h1⟩ := hc
    obtain ⟨u, rfl⟩ := Int.eq_ofNat_of_zero_le h0
    obtain rfl := Option.some.inj h
    rw [Int.toNat_natCast]
    have HG := Lib.hid hG
    clear hG h
    go_enter Tryd.func82, Tryd.ntmps82
    go_wp2_with (go_at_call 105; refine (fmt_inner u (by omega) _ HG.out).mono ?_; rintro e w' ⟨rfl, hb⟩)
    go_ret
    exact ⟨rfl, hb⟩
  · cases h

end Go.Proofs.YtmocphafkimdpaaDoor.P


-- written by a program (a patched copy of the kit's print: wip/mkprint.py); Lean checks it
namespace Go.Proofs.YtmocphafkimdpaaDoor.P
open Go.RowKit Go.Proofs.YtmocphafkimdpaaDoorW.PrintWords Go.Proofs.YtmocphafkimdpaaDoorW.PrintLast Go.Proofs.YtmocphafkimdpaaDoorW.PrintMore
attribute [local go_sem] max2_int min2_int max_two min_two max_three min_three max_four min_four   -- for this text's walks alone
set_option linter.unusedVariables false
set_option linter.unusedSimpArgs false

/-! ### money_Abs: function 61 -/
def money_Abs.f (a0 : Int) : Option (Int) := if a0 < 0 then (some (IntKind.u64.wrap ((IntKind.u64.wrap (wrap64 (-(wrap64 (a0 + 1))))) + 1))) else (some (IntKind.u64.wrap (a0)))
set_option maxHeartbeats 8000000 in
set_option maxRecDepth 100000 in
theorem money_Abs.calls (a0 : Int) (r : Int) (w : World) (h : money_Abs.f a0 = some r) :
  Calls Tryd.prog 61 #[.int .i64 a0] w fun e w' => e = .returned (.int .u64 r) ∧ Drawn0 w w' := by
 have H : (if a0 < 0 then (some (IntKind.u64.wrap ((IntKind.u64.wrap (wrap64 (-(wrap64 (a0 + 1))))) + 1))) else (some (IntKind.u64.wrap (a0)))) = some r := h
 clear h
 by_cases c2 : a0 < 0
 ·rw [if_pos c2] at H
  have c2b0 : decide (a0 < 0) = true := decide_eq_true c2
  clear c2
  obtain rfl := Option.some.inj H
  go_enter Tryd.func61, Tryd.ntmps61
  go_wp2
  go_ret
  exact ⟨by first | rfl | (simp; done) | (simp [*]; done), by repeat (first | exact Drawn0.refl _ | apply Drawn0.step)⟩
 ·rw [if_neg c2] at H
  have c2b0 : decide (a0 < 0) = false := decide_eq_false c2
  clear c2
  obtain rfl := Option.some.inj H
  go_enter Tryd.func61, Tryd.ntmps61
  go_wp2
  go_ret
  exact ⟨by first | rfl | (simp; done) | (simp [*]; done), by repeat (first | exact Drawn0.refl _ | apply Drawn0.step)⟩

end Go.Proofs.YtmocphafkimdpaaDoor.P


-- written by a program (a patched copy of the kit's print: wip/mkprint.py); Lean checks it
namespace Go.Proofs.YtmocphafkimdpaaDoor.P
open Go.RowKit Go.Proofs.YtmocphafkimdpaaDoorW.PrintWords Go.Proofs.YtmocphafkimdpaaDoorW.PrintLast Go.Proofs.YtmocphafkimdpaaDoorW.PrintMore
attribute [local go_sem] max2_int min2_int max_two min_two max_three min_three max_four min_four   -- for this text's walks alone
set_option linter.unusedVariables false
set_option linter.unusedSimpArgs false

/-! ### money_Text: function 39 -/
def money_Text.f (a0 : Int) : Option (ByteArray) := (money_Abs.f a0).bind fun t192 => ((strconv_FormatUint_82.f (IntKind.u64.wrap (Int.tdiv t192 100)) 10).bind fun t193 => (if t193.size + 1 ≤ 9223372036854775807 then (if (Int.tmod t192 100) < 10 then (if (t193 ++ (⟨#[46]⟩ : ByteArray)).size + 1 ≤ 9223372036854775807 then ((strconv_FormatUint_82.f (Int.tmod t192 100) 10).bind fun t194 => (if ((t193 ++ (⟨#[46]⟩ : ByteArray)) ++ (⟨#[48]⟩ : ByteArray)).size + t194.size ≤ 9223372036854775807 then (if a0 < 0 then (if 1 + (((t193 ++ (⟨#[46]⟩ : ByteArray)) ++ (⟨#[48]⟩ : ByteArray)) ++ t194).size ≤ 9223372036854775807 then (some ((⟨#[45]⟩ : ByteArray) ++ (((t193 ++ (⟨#[46]⟩ : ByteArray)) ++ (⟨#[48]⟩ : ByteArray)) ++ t194))) else (none)) else (some (((t193 ++ (⟨#[46]⟩ : ByteArray)) ++ (⟨#[48]⟩ : ByteArray)) ++ t194))) else (none))) else (none)) else ((strconv_FormatUint_82.f (Int.tmod t192 100) 10).bind fun t195 => (if (t193 ++ (⟨#[46]⟩ : ByteArray)).size + t195.size ≤ 9223372036854775807 then (if a0 < 0 then (if 1 + ((t193 ++ (⟨#[46]⟩ : ByteArray)) ++ t195).size ≤ 9223372036854775807 then (some ((⟨#[45]⟩ : ByteArray) ++ ((t193 ++ (⟨#[46]⟩ : ByteArray)) ++ t195))) else (none)) else (some ((t193 ++ (⟨#[46]⟩ : ByteArray)) ++ t195))) else (none)))) else (none)))
set_option maxHeartbeats 8000000 in
set_option maxRecDepth 100000 in
theorem money_Text.calls (a0 : Int) (r : ByteArray) (w : World) (h : money_Text.f a0 = some r) (hG : GTab w := by first | exact GTab.below HG.out (by repeat (first | (with_reducible first | exact HB.out | apply below_alloc | apply pw_below_drewN | apply below_drew1 | apply below_drew) | exact HB.out)) | exact HG.out) :
  Calls Tryd.prog 39 #[.int .i64 a0] w fun e w' => e = .returned (.string r) ∧ Below w.heap.size w w' := by
 have HG := Aside0.mk hG; clear hG
 have HB := Aside0.mk (Below.refl w.heap.size w)
 have H : ((money_Abs.f a0).bind fun t192 => ((strconv_FormatUint_82.f (IntKind.u64.wrap (Int.tdiv t192 100)) 10).bind fun t193 => (if t193.size + 1 ≤ 9223372036854775807 then (if (Int.tmod t192 100) < 10 then (if (t193 ++ (⟨#[46]⟩ : ByteArray)).size + 1 ≤ 9223372036854775807 then ((strconv_FormatUint_82.f (Int.tmod t192 100) 10).bind fun t194 => (if ((t193 ++ (⟨#[46]⟩ : ByteArray)) ++ (⟨#[48]⟩ : ByteArray)).size + t194.size ≤ 9223372036854775807 then (if a0 < 0 then (if 1 + (((t193 ++ (⟨#[46]⟩ : ByteArray)) ++ (⟨#[48]⟩ : ByteArray)) ++ t194).size ≤ 9223372036854775807 then (some ((⟨#[45]⟩ : ByteArray) ++ (((t193 ++ (⟨#[46]⟩ : ByteArray)) ++ (⟨#[48]⟩ : ByteArray)) ++ t194))) else (none)) else (some (((t193 ++ (⟨#[46]⟩ : ByteArray)) ++ (⟨#[48]⟩ : ByteArray)) ++ t194))) else (none))) else (none)) else ((strconv_FormatUint_82.f (Int.tmod t192 100) 10).bind fun t195 => (if (t193 ++ (⟨#[46]⟩ : ByteArray)).size + t195.size ≤ 9223372036854775807 then (if a0 < 0 then (if 1 + ((t193 ++ (⟨#[46]⟩ : ByteArray)) ++ t195).size ≤ 9223372036854775807 then (some ((⟨#[45]⟩ : ByteArray) ++ ((t193 ++ (⟨#[46]⟩ : ByteArray)) ++ t195))) else (none)) else (some ((t193 ++ (⟨#[46]⟩ : ByteArray)) ++ t195))) else (none)))) else (none)))) = some r := h
 clear h
 replace H := Option.bind_eq_some_iff.mp H
 obtain ⟨t192, A20, H⟩ := H
 replace H : ((strconv_FormatUint_82.f (IntKind.u64.wrap (Int.tdiv t192 100)) 10).bind fun t193 => (if t193.size + 1 ≤ 9223372036854775807 then (if (Int.tmod t192 100) < 10 then (if (t193 ++ (⟨#[46]⟩ : ByteArray)).size + 1 ≤ 9223372036854775807 then ((strconv_FormatUint_82.f (Int.tmod t192 100) 10).bind fun t194 => (if ((t193 ++ (⟨#[46]⟩ : ByteArray)) ++ (⟨#[48]⟩ : ByteArray)).size + t194.size ≤ 9223372036854775807 then (if a0 < 0 then (if 1 + (((t193 ++ (⟨#[46]⟩ : ByteArray)) ++ (⟨#[48]⟩ : ByteArray)) ++ t194).size ≤ 9223372036854775807 then (some ((⟨#[45]⟩ : ByteArray) ++ (((t193 ++ (⟨#[46]⟩ : ByteArray)) ++ (⟨#[48]⟩ : ByteArray)) ++ t194))) else (none)) else (some (((t193 ++ (⟨#[46]⟩ : ByteArray)) ++ (⟨#[48]⟩ : ByteArray)) ++ t194))) else (none))) else (none)) else ((strconv_FormatUint_82.f (Int.tmod t192 100) 10).bind fun t195 => (if (t193 ++ (⟨#[46]⟩ : ByteArray)).size + t195.size ≤ 9223372036854775807 then (if a0 < 0 then (if 1 + ((t193 ++ (⟨#[46]⟩ : ByteArray)) ++ t195).size ≤ 9223372036854775807 then (some ((⟨#[45]⟩ : ByteArray) ++ ((t193 ++ (⟨#[46]⟩ : ByteArray)) ++ t195))) else (none)) else (some ((t193 ++ (⟨#[46]⟩ : ByteArray)) ++ t195))) else (none)))) else (none))) = some r := H
 have A2 := Aside0.mk A20
 clear A20
 replace H := Option.bind_eq_some_iff.mp H
 obtain ⟨t193, A30, H⟩ := H
 replace H : (if t193.size + 1 ≤ 9223372036854775807 then (if (Int.tmod t192 100) < 10 then (if (t193 ++ (⟨#[46]⟩ : ByteArray)).size + 1 ≤ 9223372036854775807 then ((strconv_FormatUint_82.f (Int.tmod t192 100) 10).bind fun t194 => (if ((t193 ++ (⟨#[46]⟩ : ByteArray)) ++ (⟨#[48]⟩ : ByteArray)).size + t194.size ≤ 9223372036854775807 then (if a0 < 0 then (if 1 + (((t193 ++ (⟨#[46]⟩ : ByteArray)) ++ (⟨#[48]⟩ : ByteArray)) ++ t194).size ≤ 9223372036854775807 then (some ((⟨#[45]⟩ : ByteArray) ++ (((t193 ++ (⟨#[46]⟩ : ByteArray)) ++ (⟨#[48]⟩ : ByteArray)) ++ t194))) else (none)) else (some (((t193 ++ (⟨#[46]⟩ : ByteArray)) ++ (⟨#[48]⟩ : ByteArray)) ++ t194))) else (none))) else (none)) else ((strconv_FormatUint_82.f (Int.tmod t192 100) 10).bind fun t195 => (if (t193 ++ (⟨#[46]⟩ : ByteArray)).size + t195.size ≤ 9223372036854775807 then (if a0 < 0 then (if 1 + ((t193 ++ (⟨#[46]⟩ : ByteArray)) ++ t195).size ≤ 9223372036854775807 then (some ((⟨#[45]⟩ : ByteArray) ++ ((t193 ++ (⟨#[46]⟩ : ByteArray)) ++ t195))) else (none)) else (some ((t193 ++ (⟨#[46]⟩ : ByteArray)) ++ t195))) else (none)))) else (none)) = some r := H
 have A3 := Aside0.mk A30
 clear A30
 by_cases c4 : t193.size + 1 ≤ 9223372036854775807
 ·rw [if_pos c4] at H
  have c4b0 := eq_true c4
  have c4b1 : decide (t193.size + 1 ≤ 9223372036854775807) = true := decide_eq_true c4
  try have c4b2 : (9223372036854775807 < t193.size + 1) = False := eq_false (Nat.not_lt.2 c4)
  (try (have c4s := c4b2; simp only [ByteArray.size_append] at c4s))
  by_cases c5 : (Int.tmod t192 100) < 10
  ·rw [if_pos c5] at H
   have c5b0 : decide ((Int.tmod t192 100) < 10) = true := decide_eq_true c5
   clear c5
   by_cases c6 : (t193 ++ (⟨#[46]⟩ : ByteArray)).size + 1 ≤ 9223372036854775807
   ·rw [if_pos c6] at H
    have c6b0 := eq_true c6
    have c6b1 : decide ((t193 ++ (⟨#[46]⟩ : ByteArray)).size + 1 ≤ 9223372036854775807) = true := decide_eq_true c6
    try have c6b2 : (9223372036854775807 < (t193 ++ (⟨#[46]⟩ : ByteArray)).size + 1) = False := eq_false (Nat.not_lt.2 c6)
    (try (have c6s := c6b2; simp only [ByteArray.size_append, show (⟨#[46]⟩ : ByteArray).size = 1 from rfl] at c6s))
    replace H := Option.bind_eq_some_iff.mp H
    obtain ⟨t194, A70, H⟩ := H
    replace H : (if ((t193 ++ (⟨#[46]⟩ : ByteArray)) ++ (⟨#[48]⟩ : ByteArray)).size + t194.size ≤ 9223372036854775807 then (if a0 < 0 then (if 1 + (((t193 ++ (⟨#[46]⟩ : ByteArray)) ++ (⟨#[48]⟩ : ByteArray)) ++ t194).size ≤ 9223372036854775807 then (some ((⟨#[45]⟩ : ByteArray) ++ (((t193 ++ (⟨#[46]⟩ : ByteArray)) ++ (⟨#[48]⟩ : ByteArray)) ++ t194))) else (none)) else (some (((t193 ++ (⟨#[46]⟩ : ByteArray)) ++ (⟨#[48]⟩ : ByteArray)) ++ t194))) else (none)) = some r := H
    have A7 := Aside0.mk A70
    clear A70
    by_cases c8 : ((t193 ++ (⟨#[46]⟩ : ByteArray)) ++ (⟨#[48]⟩ : ByteArray)).size + t194.size ≤ 9223372036854775807
    ·rw [if_pos c8] at H
     have c8b0 := eq_true c8
     have c8b1 : decide (((t193 ++ (⟨#[46]⟩ : ByteArray)) ++ (⟨#[48]⟩ : ByteArray)).size + t194.size ≤ 9223372036854775807) = true := decide_eq_true c8
     try have c8b2 : (9223372036854775807 < ((t193 ++ (⟨#[46]⟩ : ByteArray)) ++ (⟨#[48]⟩ : ByteArray)).size + t194.size) = False := eq_false (Nat.not_lt.2 c8)
     (try (have c8s := c8b2; simp only [ByteArray.size_append, show (⟨#[46]⟩ : ByteArray).size = 1 from rfl, show (⟨#[48]⟩ : ByteArray).size = 1 from rfl] at c8s))
     by_cases c9 : a0 < 0
     ·rw [if_pos c9] at H
      have c9b0 : decide (a0 < 0) = true := decide_eq_true c9
      clear c9
      by_cases c10 : 1 + (((t193 ++ (⟨#[46]⟩ : ByteArray)) ++ (⟨#[48]⟩ : ByteArray)) ++ t194).size ≤ 9223372036854775807
      ·rw [if_pos c10] at H
       have c10b0 := eq_true c10
       have c10b1 : decide (1 + (((t193 ++ (⟨#[46]⟩ : ByteArray)) ++ (⟨#[48]⟩ : ByteArray)) ++ t194).size ≤ 9223372036854775807) = true := decide_eq_true c10
       try have c10b2 : (9223372036854775807 < 1 + (((t193 ++ (⟨#[46]⟩ : ByteArray)) ++ (⟨#[48]⟩ : ByteArray)) ++ t194).size) = False := eq_false (Nat.not_lt.2 c10)
       (try (have c10s := c10b2; simp only [ByteArray.size_append, show (⟨#[46]⟩ : ByteArray).size = 1 from rfl, show (⟨#[48]⟩ : ByteArray).size = 1 from rfl] at c10s))
       obtain rfl := Option.some.inj H
       go_enter Tryd.func39, Tryd.ntmps39
       go_wp2_with (first | ((with_reducible refine gate_callee (f := 61) rfl ?_); refine goesL_ (some 6) rfl rfl Tryd.func61 (by kernel_rfl) rfl #[.int .i64 a0] rfl (by (try simp only [List.map_toArray, List.map_cons, List.map_nil]); first | done | rfl | (simp only [List.length_drop, List.length_take]; rfl)) ?_; (with_reducible refine (money_Abs.calls a0 t192 _ A2.out).mono ?_); rintro e w' ⟨rfl, ⟨nd, rfl⟩⟩; refine ⟨_, rfl, ?_⟩) | ((with_reducible refine gate_callee (f := 82) rfl ?_); refine goesL_ (some 9) rfl rfl Tryd.func82 (by kernel_rfl) rfl #[.int .u64 (IntKind.u64.wrap (Int.tdiv t192 100)), .int .i64 10] rfl (by (try simp only [List.map_toArray, List.map_cons, List.map_nil]); first | done | rfl | (simp only [List.length_drop, List.length_take]; rfl)) ?_; (with_reducible refine (strconv_FormatUint_82.calls (IntKind.u64.wrap (Int.tdiv t192 100)) 10 t193 _ A3.out).mono ?_); rintro e w11 ⟨rfl, hb⟩; refine ⟨_, rfl, ?_⟩; have n0_ := Aside0.mk (below_step (by repeat (first | (with_reducible first | exact HB.out | apply below_alloc | apply pw_below_drewN | apply below_drew1) | exact HB.out)) hb); clear HB; have HB := n0_; clear n0_; (try clear hb); (try clear hb2); (try clear hk); (try clear hi)) | ((with_reducible refine gate_callee (f := 82) rfl ?_); refine goesL_ (some 19) rfl rfl Tryd.func82 (by kernel_rfl) rfl #[.int .u64 (Int.tmod t192 100), .int .i64 10] rfl (by (try simp only [List.map_toArray, List.map_cons, List.map_nil]); first | done | rfl | (simp only [List.length_drop, List.length_take]; rfl)) ?_; (with_reducible refine (strconv_FormatUint_82.calls (Int.tmod t192 100) 10 t194 _ A7.out).mono ?_); rintro e w12 ⟨rfl, hb⟩; refine ⟨_, rfl, ?_⟩; have n0_ := Aside0.mk (below_step (by repeat (first | (with_reducible first | exact HB.out | apply below_alloc | apply pw_below_drewN | apply below_drew1) | exact HB.out)) hb); clear HB; have HB := n0_; clear n0_; (try clear hb); (try clear hb2); (try clear hk); (try clear hi)))
       go_ret
       exact ⟨by first | rfl | (simp [errW_none, errW_some] <;> rfl) | (simp [*, errW_none, errW_some] <;> rfl), by repeat (first | (with_reducible first | exact HB.out | apply below_alloc | apply pw_below_drewN | apply below_drew1) | exact HB.out)⟩
      ·rw [if_neg c10] at H
       exact absurd H (by simp)
     ·rw [if_neg c9] at H
      have c9b0 : decide (a0 < 0) = false := decide_eq_false c9
      clear c9
      obtain rfl := Option.some.inj H
      go_enter Tryd.func39, Tryd.ntmps39
      go_wp2_with (first | ((with_reducible refine gate_callee (f := 61) rfl ?_); refine goesL_ (some 6) rfl rfl Tryd.func61 (by kernel_rfl) rfl #[.int .i64 a0] rfl (by (try simp only [List.map_toArray, List.map_cons, List.map_nil]); first | done | rfl | (simp only [List.length_drop, List.length_take]; rfl)) ?_; (with_reducible refine (money_Abs.calls a0 t192 _ A2.out).mono ?_); rintro e w' ⟨rfl, ⟨nd, rfl⟩⟩; refine ⟨_, rfl, ?_⟩) | ((with_reducible refine gate_callee (f := 82) rfl ?_); refine goesL_ (some 9) rfl rfl Tryd.func82 (by kernel_rfl) rfl #[.int .u64 (IntKind.u64.wrap (Int.tdiv t192 100)), .int .i64 10] rfl (by (try simp only [List.map_toArray, List.map_cons, List.map_nil]); first | done | rfl | (simp only [List.length_drop, List.length_take]; rfl)) ?_; (with_reducible refine (strconv_FormatUint_82.calls (IntKind.u64.wrap (Int.tdiv t192 100)) 10 t193 _ A3.out).mono ?_); rintro e w13 ⟨rfl, hb⟩; refine ⟨_, rfl, ?_⟩; have n0_ := Aside0.mk (below_step (by repeat (first | (with_reducible first | exact HB.out | apply below_alloc | apply pw_below_drewN | apply below_drew1) | exact HB.out)) hb); clear HB; have HB := n0_; clear n0_; (try clear hb); (try clear hb2); (try clear hk); (try clear hi)) | ((with_reducible refine gate_callee (f := 82) rfl ?_); refine goesL_ (some 19) rfl rfl Tryd.func82 (by kernel_rfl) rfl #[.int .u64 (Int.tmod t192 100), .int .i64 10] rfl (by (try simp only [List.map_toArray, List.map_cons, List.map_nil]); first | done | rfl | (simp only [List.length_drop, List.length_take]; rfl)) ?_; (with_reducible refine (strconv_FormatUint_82.calls (Int.tmod t192 100) 10 t194 _ A7.out).mono ?_); rintro e w14 ⟨rfl, hb⟩; refine ⟨_, rfl, ?_⟩; have n0_ := Aside0.mk (below_step (by repeat (first | (with_reducible first | exact HB.out | apply below_alloc | apply pw_below_drewN | apply below_drew1) | exact HB.out)) hb); clear HB; have HB := n0_; clear n0_; (try clear hb); (try clear hb2); (try clear hk); (try clear hi)))
      go_ret
      exact ⟨by first | rfl | (simp [errW_none, errW_some] <;> rfl) | (simp [*, errW_none, errW_some] <;> rfl), by repeat (first | (with_reducible first | exact HB.out | apply below_alloc | apply pw_below_drewN | apply below_drew1) | exact HB.out)⟩
    ·rw [if_neg c8] at H
     exact absurd H (by simp)
   ·rw [if_neg c6] at H
    exact absurd H (by simp)
  ·rw [if_neg c5] at H
   have c5b0 : decide ((Int.tmod t192 100) < 10) = false := decide_eq_false c5
   clear c5
   replace H := Option.bind_eq_some_iff.mp H
   obtain ⟨t195, A150, H⟩ := H
   replace H : (if (t193 ++ (⟨#[46]⟩ : ByteArray)).size + t195.size ≤ 9223372036854775807 then (if a0 < 0 then (if 1 + ((t193 ++ (⟨#[46]⟩ : ByteArray)) ++ t195).size ≤ 9223372036854775807 then (some ((⟨#[45]⟩ : ByteArray) ++ ((t193 ++ (⟨#[46]⟩ : ByteArray)) ++ t195))) else (none)) else (some ((t193 ++ (⟨#[46]⟩ : ByteArray)) ++ t195))) else (none)) = some r := H
   have A15 := Aside0.mk A150
   clear A150
   by_cases c16 : (t193 ++ (⟨#[46]⟩ : ByteArray)).size + t195.size ≤ 9223372036854775807
   ·rw [if_pos c16] at H
    have c16b0 := eq_true c16
    have c16b1 : decide ((t193 ++ (⟨#[46]⟩ : ByteArray)).size + t195.size ≤ 9223372036854775807) = true := decide_eq_true c16
    try have c16b2 : (9223372036854775807 < (t193 ++ (⟨#[46]⟩ : ByteArray)).size + t195.size) = False := eq_false (Nat.not_lt.2 c16)
    (try (have c16s := c16b2; simp only [ByteArray.size_append, show (⟨#[46]⟩ : ByteArray).size = 1 from rfl] at c16s))
    by_cases c17 : a0 < 0
    ·rw [if_pos c17] at H
     have c17b0 : decide (a0 < 0) = true := decide_eq_true c17
     clear c17
     by_cases c18 : 1 + ((t193 ++ (⟨#[46]⟩ : ByteArray)) ++ t195).size ≤ 9223372036854775807
     ·rw [if_pos c18] at H
      have c18b0 := eq_true c18
      have c18b1 : decide (1 + ((t193 ++ (⟨#[46]⟩ : ByteArray)) ++ t195).size ≤ 9223372036854775807) = true := decide_eq_true c18
      try have c18b2 : (9223372036854775807 < 1 + ((t193 ++ (⟨#[46]⟩ : ByteArray)) ++ t195).size) = False := eq_false (Nat.not_lt.2 c18)
      (try (have c18s := c18b2; simp only [ByteArray.size_append, show (⟨#[46]⟩ : ByteArray).size = 1 from rfl] at c18s))
      obtain rfl := Option.some.inj H
      go_enter Tryd.func39, Tryd.ntmps39
      go_wp2_with (first | ((with_reducible refine gate_callee (f := 61) rfl ?_); refine goesL_ (some 6) rfl rfl Tryd.func61 (by kernel_rfl) rfl #[.int .i64 a0] rfl (by (try simp only [List.map_toArray, List.map_cons, List.map_nil]); first | done | rfl | (simp only [List.length_drop, List.length_take]; rfl)) ?_; (with_reducible refine (money_Abs.calls a0 t192 _ A2.out).mono ?_); rintro e w' ⟨rfl, ⟨nd, rfl⟩⟩; refine ⟨_, rfl, ?_⟩) | ((with_reducible refine gate_callee (f := 82) rfl ?_); refine goesL_ (some 9) rfl rfl Tryd.func82 (by kernel_rfl) rfl #[.int .u64 (IntKind.u64.wrap (Int.tdiv t192 100)), .int .i64 10] rfl (by (try simp only [List.map_toArray, List.map_cons, List.map_nil]); first | done | rfl | (simp only [List.length_drop, List.length_take]; rfl)) ?_; (with_reducible refine (strconv_FormatUint_82.calls (IntKind.u64.wrap (Int.tdiv t192 100)) 10 t193 _ A3.out).mono ?_); rintro e w19 ⟨rfl, hb⟩; refine ⟨_, rfl, ?_⟩; have n0_ := Aside0.mk (below_step (by repeat (first | (with_reducible first | exact HB.out | apply below_alloc | apply pw_below_drewN | apply below_drew1) | exact HB.out)) hb); clear HB; have HB := n0_; clear n0_; (try clear hb); (try clear hb2); (try clear hk); (try clear hi)) | ((with_reducible refine gate_callee (f := 82) rfl ?_); refine goesL_ (some 19) rfl rfl Tryd.func82 (by kernel_rfl) rfl #[.int .u64 (Int.tmod t192 100), .int .i64 10] rfl (by (try simp only [List.map_toArray, List.map_cons, List.map_nil]); first | done | rfl | (simp only [List.length_drop, List.length_take]; rfl)) ?_; (with_reducible refine (strconv_FormatUint_82.calls (Int.tmod t192 100) 10 t195 _ A15.out).mono ?_); rintro e w20 ⟨rfl, hb⟩; refine ⟨_, rfl, ?_⟩; have n0_ := Aside0.mk (below_step (by repeat (first | (with_reducible first | exact HB.out | apply below_alloc | apply pw_below_drewN | apply below_drew1) | exact HB.out)) hb); clear HB; have HB := n0_; clear n0_; (try clear hb); (try clear hb2); (try clear hk); (try clear hi)))
      go_ret
      exact ⟨by first | rfl | (simp [errW_none, errW_some] <;> rfl) | (simp [*, errW_none, errW_some] <;> rfl), by repeat (first | (with_reducible first | exact HB.out | apply below_alloc | apply pw_below_drewN | apply below_drew1) | exact HB.out)⟩
     ·rw [if_neg c18] at H
      exact absurd H (by simp)
    ·rw [if_neg c17] at H
     have c17b0 : decide (a0 < 0) = false := decide_eq_false c17
     clear c17
     obtain rfl := Option.some.inj H
     go_enter Tryd.func39, Tryd.ntmps39
     go_wp2_with (first | ((with_reducible refine gate_callee (f := 61) rfl ?_); refine goesL_ (some 6) rfl rfl Tryd.func61 (by kernel_rfl) rfl #[.int .i64 a0] rfl (by (try simp only [List.map_toArray, List.map_cons, List.map_nil]); first | done | rfl | (simp only [List.length_drop, List.length_take]; rfl)) ?_; (with_reducible refine (money_Abs.calls a0 t192 _ A2.out).mono ?_); rintro e w' ⟨rfl, ⟨nd, rfl⟩⟩; refine ⟨_, rfl, ?_⟩) | ((with_reducible refine gate_callee (f := 82) rfl ?_); refine goesL_ (some 9) rfl rfl Tryd.func82 (by kernel_rfl) rfl #[.int .u64 (IntKind.u64.wrap (Int.tdiv t192 100)), .int .i64 10] rfl (by (try simp only [List.map_toArray, List.map_cons, List.map_nil]); first | done | rfl | (simp only [List.length_drop, List.length_take]; rfl)) ?_; (with_reducible refine (strconv_FormatUint_82.calls (IntKind.u64.wrap (Int.tdiv t192 100)) 10 t193 _ A3.out).mono ?_); rintro e w21 ⟨rfl, hb⟩; refine ⟨_, rfl, ?_⟩; have n0_ := Aside0.mk (below_step (by repeat (first | (with_reducible first | exact HB.out | apply below_alloc | apply pw_below_drewN | apply below_drew1) | exact HB.out)) hb); clear HB; have HB := n0_; clear n0_; (try clear hb); (try clear hb2); (try clear hk); (try clear hi)) | ((with_reducible refine gate_callee (f := 82) rfl ?_); refine goesL_ (some 19) rfl rfl Tryd.func82 (by kernel_rfl) rfl #[.int .u64 (Int.tmod t192 100), .int .i64 10] rfl (by (try simp only [List.map_toArray, List.map_cons, List.map_nil]); first | done | rfl | (simp only [List.length_drop, List.length_take]; rfl)) ?_; (with_reducible refine (strconv_FormatUint_82.calls (Int.tmod t192 100) 10 t195 _ A15.out).mono ?_); rintro e w22 ⟨rfl, hb⟩; refine ⟨_, rfl, ?_⟩; have n0_ := Aside0.mk (below_step (by repeat (first | (with_reducible first | exact HB.out | apply below_alloc | apply pw_below_drewN | apply below_drew1) | exact HB.out)) hb); clear HB; have HB := n0_; clear n0_; (try clear hb); (try clear hb2); (try clear hk); (try clear hi)))
     go_ret
     exact ⟨by first | rfl | (simp [errW_none, errW_some] <;> rfl) | (simp [*, errW_none, errW_some] <;> rfl), by repeat (first | (with_reducible first | exact HB.out | apply below_alloc | apply pw_below_drewN | apply below_drew1) | exact HB.out)⟩
   ·rw [if_neg c16] at H
    exact absurd H (by simp)
 ·rw [if_neg c4] at H
  exact absurd H (by simp)

end Go.Proofs.YtmocphafkimdpaaDoor.P


/- money.Text's text, as a list of bytes. -/
namespace Go.Proofs.YtmocphafkimdpaaDoor.P
open Go.RowKit Go.Proofs.YtmocphafkimdpaaDoorW.PrintWords Go.Proofs.YtmocphafkimdpaaDoorW.PrintLast Go.Proofs.YtmocphafkimdpaaDoorW.PrintMore

theorem abs_f (x : Int) (h0 : -9223372036854775808 ≤ x) (h1 : x ≤ 9223372036854775807) : money_Abs.f x = some (x.natAbs : Int) := by
  unfold money_Abs.f
  rw [IntKind.wrap_u64, IntKind.wrap_u64, IntKind.wrap_u64]
  unfold wrap64
  split
  · congr 1; omega
  · congr 1; omega

theorem dec_small (n : Nat) (h : n < 10) : Lib.decDigits n = [UInt8.ofNat (48 + n)] := by
  rw [Lib.decDigits, dif_pos h]
theorem dec_two (n : Nat) (h0 : 10 ≤ n) (h : n < 100) : Lib.decDigits n = [UInt8.ofNat (48 + n / 10), UInt8.ofNat (48 + n % 10)] := by
  rw [Lib.decDigits, dif_neg (by omega), dec_small (n / 10) (by omega)]
  rfl

/-- An amount as it is written: whole coins, a point, two digits. -/
def textOf (x : Int) : List UInt8 := (if x < 0 then [45] else []) ++ Lib.decDigits (x.natAbs / 100) ++ [46] ++ [UInt8.ofNat (48 + x.natAbs % 100 / 10), UInt8.ofNat (48 + x.natAbs % 10)]

theorem dec_len (n : Nat) (h : n < 18446744073709551616) : (Lib.decDigits n).length ≤ 20 := by
  rw [Lib.decDigits_length]
  by_cases h0 : n = 0
  · subst h0
    rw [Lib.nDigits_small (by omega)]; omega
  · have := Lib.numDigits_eq n (by omega) h
    split at this <;> omega

theorem ba_append (a b : List UInt8) : (⟨a.toArray⟩ : ByteArray) ++ (⟨b.toArray⟩ : ByteArray) = ⟨(a ++ b).toArray⟩ := by
  apply ByteArray.ext
  simp

theorem ba_size (a : List UInt8) : (⟨a.toArray⟩ : ByteArray).size = a.length := by
  simp [ByteArray.size]

theorem fmt_f (n : Nat) (h : n < 18446744073709551616) : strconv_FormatUint_82.f (n : Int) 10 = some ⟨(Lib.decDigits n).toArray⟩ := by
  unfold strconv_FormatUint_82.f
  rw [if_pos ⟨rfl, by omega, by omega⟩, Int.toNat_natCast]

theorem text_e1 (n : Nat) (hn : n < 18446744073709551616) : IntKind.u64.wrap (Int.tdiv (n : Int) 100) = ((n / 100 : Nat) : Int) := by
  rw [IntKind.wrap_u64, Int.tdiv_eq_ediv_of_nonneg (by omega)]; omega
theorem text_e2 (n : Nat) : Int.tmod (n : Int) 100 = ((n % 100 : Nat) : Int) := by
  rw [Int.tmod_eq_emod_of_nonneg (by omega)]; omega

/-- The text's making, the two halves' digits given. -/
theorem text_make (x : Int) (A : List UInt8) (m : Nat) (hA : A.length ≤ 20) (hm2 : m < 100) (l2 : (Lib.decDigits m).length ≤ 20) :
    (if (⟨A.toArray⟩ : ByteArray).size + 1 ≤ 9223372036854775807 then (if (m : Int) < 10 then (if ((⟨A.toArray⟩ : ByteArray) ++ (⟨([46] : List UInt8).toArray⟩ : ByteArray)).size + 1 ≤ 9223372036854775807 then ((some (⟨(Lib.decDigits m).toArray⟩ : ByteArray)).bind fun t194 => (if (((⟨A.toArray⟩ : ByteArray) ++ (⟨([46] : List UInt8).toArray⟩ : ByteArray)) ++ (⟨([48] : List UInt8).toArray⟩ : ByteArray)).size + t194.size ≤ 9223372036854775807 then (if x < 0 then (if 1 + ((((⟨A.toArray⟩ : ByteArray) ++ (⟨([46] : List UInt8).toArray⟩ : ByteArray)) ++ (⟨([48] : List UInt8).toArray⟩ : ByteArray)) ++ t194).size ≤ 9223372036854775807 then (some ((⟨([45] : List UInt8).toArray⟩ : ByteArray) ++ ((((⟨A.toArray⟩ : ByteArray) ++ (⟨([46] : List UInt8).toArray⟩ : ByteArray)) ++ (⟨([48] : List UInt8).toArray⟩ : ByteArray)) ++ t194))) else none) else (some ((((⟨A.toArray⟩ : ByteArray) ++ (⟨([46] : List UInt8).toArray⟩ : ByteArray)) ++ (⟨([48] : List UInt8).toArray⟩ : ByteArray)) ++ t194))) else none)) else none) else ((some (⟨(Lib.decDigits m).toArray⟩ : ByteArray)).bind fun t195 => (if ((⟨A.toArray⟩ : ByteArray) ++ (⟨([46] : List UInt8).toArray⟩ : ByteArray)).size + t195.size ≤ 9223372036854775807 then (if x < 0 then (if 1 + (((⟨A.toArray⟩ : ByteArray) ++ (⟨([46] : List UInt8).toArray⟩ : ByteArray)) ++ t195).size ≤ 9223372036854775807 then (some ((⟨([45] : List UInt8).toArray⟩ : ByteArray) ++ (((⟨A.toArray⟩ : ByteArray) ++ (⟨([46] : List UInt8).toArray⟩ : ByteArray)) ++ t195))) else none) else (some (((⟨A.toArray⟩ : ByteArray) ++ (⟨([46] : List UInt8).toArray⟩ : ByteArray)) ++ t195))) else none))) else none) = some ⟨((if x < 0 then [45] else []) ++ A ++ [46] ++ [UInt8.ofNat (48 + m / 10), UInt8.ofNat (48 + m % 10)]).toArray⟩ := by
  simp only [Option.bind_some, ba_append, ba_size, List.length_append, List.length_cons, List.length_nil]
  rw [if_pos (by omega)]
  by_cases hm : m < 10
  · have d1 : m / 10 = 0 := by omega
    have d2 : m % 10 = m := by omega
    rw [if_pos (by omega), if_pos (by omega), if_pos (by omega), d1, d2, dec_small m hm]
    by_cases hx : x < 0
    · rw [if_pos hx, if_pos (by simp only [List.length_cons, List.length_nil]; omega), if_pos hx]
      simp
    · rw [if_neg hx, if_neg hx]
      simp
  · rw [if_neg (by omega), if_pos (by omega), dec_two m (by omega) hm2]
    by_cases hx : x < 0
    · rw [if_pos hx, if_pos (by simp only [List.length_cons, List.length_nil]; omega), if_pos hx]
      simp
    · rw [if_neg hx, if_neg hx]
      simp

theorem text_f (x : Int) (h0 : -9223372036854775808 ≤ x) (h1 : x ≤ 9223372036854775807) : money_Text.f x = some ⟨(textOf x).toArray⟩ := by
  have hn : x.natAbs < 18446744073709551616 := by omega
  unfold money_Text.f
  rw [abs_f x h0 h1, Option.bind_some, text_e1 _ hn, text_e2, fmt_f _ (by omega), fmt_f _ (by omega), Option.bind_some]
  have e3 : x.natAbs % 10 = x.natAbs % 100 % 10 := by omega
  unfold textOf
  rw [e3]
  exact text_make x _ _ (dec_len _ (by omega)) (Nat.mod_lt _ (by decide)) (dec_len _ (by omega))

end Go.Proofs.YtmocphafkimdpaaDoor.P


-- written by a program (a patched copy of the kit's print: wip/mkprint.py); Lean checks it
namespace Go.Proofs.YtmocphafkimdpaaDoor.P
open Go.RowKit Go.Proofs.YtmocphafkimdpaaDoorW.PrintWords Go.Proofs.YtmocphafkimdpaaDoorW.PrintLast Go.Proofs.YtmocphafkimdpaaDoorW.PrintMore
attribute [local go_sem] max2_int min2_int max_two min_two max_three min_three max_four min_four   -- for this text's walks alone
set_option linter.unusedVariables false
set_option linter.unusedSimpArgs false

/-! ### share_Sides: function 30 -/
def share_Sides.f (k : Nat) (l0 : List (S29)) : Option (Int × Int × Int) := (pair_Total.f k l0).bind fun bt162 => (some (bt162.1, bt162.2.1, bt162.2.2))
theorem share_Sides.mono : ∀ a0 k, LeO (share_Sides.f k a0) (share_Sides.f (k + 1) a0) := by
 intro a0 k
 unfold share_Sides.f
 repeat' first
   | (with_reducible exact pair_Total.mono _ _)
   | (with_reducible exact LeO.refl _)
   | (with_reducible exact LeO.none _)
   | (with_reducible refine LeO.ite ?_ ?_)
   | (with_reducible refine LeO.bind ?_ (fun _ => ?_))
   | exact pair_Total.mono _ _
   | exact LeO.none _
   | refine LeO.ite ?_ ?_
   | refine LeO.bind ?_ (fun _ => ?_)
set_option maxHeartbeats 8000000 in
set_option maxRecDepth 100000 in
theorem share_Sides.calls (k : Nat) (A0 : Option Addr) (c0 : Nat) (l0 : List (S29)) (r1 : Int) (r2 : Int) (r3 : Int) (w : World) (hr0 : Kd.C k29 w A0 l0.length l0) (hc0 : l0.length ≤ c0) (h : share_Sides.f k l0 = some (r1, r2, r3)) :
  Calls Tryd.prog 30 #[.slice A0 l0.length c0] w fun e w' => e = .returned (.tuple #[.agg #[.int .i64 r1, .int .i64 r2], .int .i64 r3]) ∧ Below w.heap.size w w' := by
 have hu29 := Tryd.underlying29
 have HR0 := Aside0.mk hr0
 have HC0 := Aside0.mk hc0
 clear hr0 hc0
 have HB := Aside0.mk (Below.refl w.heap.size w)
 have H : ((pair_Total.f k l0).bind fun bt162 => (some (bt162.1, bt162.2.1, bt162.2.2))) = some (r1, r2, r3) := h
 clear h
 replace H := Option.bind_eq_some_iff.mp H
 obtain ⟨⟨t162, t163, t164⟩, A20, H⟩ := H
 replace H : (some (t162, t163, t164)) = some (r1, r2, r3) := H
 have A2 := Aside0.mk A20
 clear A20
 simp only [Option.some.injEq, Prod.mk.injEq] at H
 obtain ⟨rfl, rfl, rfl⟩ := H
 go_enter Tryd.func30, Tryd.ntmps30
 go_wp2_with (first | ((with_reducible refine gate_dst (N := 2) rfl ?_); refine box_event ?hg (N := 2) ?hd (cs := #[.int .i64 0, .int .i64 0]) (t := 29) ?hr ?_; (case hd => rfl); (case hg => rfl); (case hr => first | (go_simp; done) | (go_simp; rfl)); intro gb161 hg w3 hbox hb; have n0_ := Aside0.mk (below_step (by repeat (first | (with_reducible first | exact HB.out | apply below_alloc | apply pw_below_drewN | apply below_drew1) | exact HB.out)) hb); have n1_ := Aside0.mk (hbox); have n2_ := Aside0.mk ((by rw [hg]; exact (below_size (by repeat (first | (with_reducible first | exact HB.out | apply below_alloc | apply pw_below_drewN | apply below_drew1) | exact HB.out))) : w.heap.size ≤ gb161)); have n3_ := Aside0.mk ((by rw [hg]; exact (below_size (by repeat (first | (with_reducible first | exact HB.out | apply below_alloc | apply pw_below_drewN | apply below_drew1) | exact HB.out))) : w.heap.size ≤ gb161)); clear HB; have HB := n0_; have BK161 := n1_; have GW161 := n2_; have GE161 := n3_; clear n0_ n1_ n2_ n3_; clear hb hbox hg) | ((with_reducible refine gate_callee (f := 76) rfl ?_); refine goesL_ (some 5) rfl rfl Tryd.func76 (by kernel_rfl) rfl #[.slice A0 l0.length c0] rfl (by (try simp only [List.map_toArray, List.map_cons, List.map_nil]); first | done | rfl | (simp only [List.length_drop, List.length_take]; rfl)) ?_; (with_reducible refine (pair_Total.calls k _ _ l0 t162 t163 t164 _ ?side1 ?side2 A2.out).mono ?_); (case side1 => repeat (first | exact (Kd.C_below HR0.out HB.out) | (with_reducible refine Kd.C_alloc ?_ _) | (with_reducible refine Kd.C_drewN ?_ _) | (with_reducible refine Kd.C_drew ?_))); (case side2 => exact HC0.out); rintro e w4 ⟨rfl, hb⟩; refine ⟨_, rfl, ?_⟩; have n0_ := Aside0.mk (blk_below (g := gb161) (o := .cells #[.int .i64 0, .int .i64 0] 29 (0, 0)) (by (with_reducible repeat (first | refine blk_drewN ?_ _ | refine blk_drew ?_ | refine blk_alloc ?_ _)); exact BK161.out) hb); have n1_ := Aside0.mk (below_step (by repeat (first | (with_reducible first | exact HB.out | apply below_alloc | apply pw_below_drewN | apply below_drew1 | refine below_set ?_ GE161.out) | exact HB.out)) hb); clear BK161; clear HB; have BK161 := n0_; have HB := n1_; clear n0_ n1_; (try clear hb); (try clear hb2); (try clear hk); (try clear hi); have hcz5_0 : w4.cell? ⟨gb161, 0, none⟩ = some (.int .i64 0) := (blk_cell BK161.out 0).trans rfl; have hcz5_1 : w4.cell? ⟨gb161, 1, none⟩ = some (.int .i64 0) := (blk_cell BK161.out 1).trans rfl; have hfz5_0 := blk_frozen BK161.out 0; have hfz5_1 := blk_frozen BK161.out 1))
 refine bodyPost_ret (results_ct rfl _ _ gb161 29 #[.int .i64 t162, .int .i64 t163] (0, 0) _ rfl (by (with_reducible repeat (first | refine blk_drewN ?_ _ | refine blk_drew ?_ | refine blk_alloc ?_ _)); refine blk_put (cs := #[.int .i64 t162, .int .i64 0]) ?_ 1 _ rfl; (with_reducible repeat (first | refine blk_drewN ?_ _ | refine blk_drew ?_ | refine blk_alloc ?_ _)); refine blk_put (cs := #[.int .i64 0, .int .i64 0]) ?_ 0 _ rfl; (with_reducible repeat (first | refine blk_drewN ?_ _ | refine blk_drew ?_ | refine blk_alloc ?_ _)); exact BK161.out) Tryd.underlying29 rfl (by kernel_rfl)) rfl ?_
 exact ⟨by first | rfl | (simp [errW_none, errW_some] <;> rfl) | (simp [*, errW_none, errW_some] <;> rfl), by repeat (first | (with_reducible first | exact HB.out | apply below_alloc | apply pw_below_drewN | apply below_drew1 | refine below_set ?_ GE161.out) | exact HB.out)⟩

end Go.Proofs.YtmocphafkimdpaaDoor.P


-- written by a program (a patched copy of the kit's print: wip/mkprint.py); Lean checks it
namespace Go.Proofs.YtmocphafkimdpaaDoor.P
open Go.RowKit Go.Proofs.YtmocphafkimdpaaDoorW.PrintWords Go.Proofs.YtmocphafkimdpaaDoorW.PrintLast Go.Proofs.YtmocphafkimdpaaDoorW.PrintMore
attribute [local go_sem] max2_int min2_int max_two min_two max_three min_three max_four min_four   -- for this text's walks alone
set_option linter.unusedVariables false
set_option linter.unusedSimpArgs false

/-! ### share_Employer: function 32 -/
def share_Employer.f (k : Nat) (l0 : List (S29)) : Option (Int × Int) := (share_Sides.f k l0).bind fun bt165 => (some (bt165.2.1, bt165.2.2))
theorem share_Employer.mono : ∀ a0 k, LeO (share_Employer.f k a0) (share_Employer.f (k + 1) a0) := by
 intro a0 k
 unfold share_Employer.f
 repeat' first
   | (with_reducible exact share_Sides.mono _ _)
   | (with_reducible exact LeO.refl _)
   | (with_reducible exact LeO.none _)
   | (with_reducible refine LeO.ite ?_ ?_)
   | (with_reducible refine LeO.bind ?_ (fun _ => ?_))
   | exact share_Sides.mono _ _
   | exact LeO.none _
   | refine LeO.ite ?_ ?_
   | refine LeO.bind ?_ (fun _ => ?_)
set_option maxHeartbeats 8000000 in
set_option maxRecDepth 100000 in
theorem share_Employer.calls (k : Nat) (A0 : Option Addr) (c0 : Nat) (l0 : List (S29)) (r1 : Int) (r2 : Int) (w : World) (hr0 : Kd.C k29 w A0 l0.length l0) (hc0 : l0.length ≤ c0) (h : share_Employer.f k l0 = some (r1, r2)) :
  Calls Tryd.prog 32 #[.slice A0 l0.length c0] w fun e w' => e = .returned (.tuple #[.int .i64 r1, .int .i64 r2]) ∧ Below w.heap.size w w' := by
 have hu29 := Tryd.underlying29
 have HR0 := Aside0.mk hr0
 have HC0 := Aside0.mk hc0
 clear hr0 hc0
 have HB := Aside0.mk (Below.refl w.heap.size w)
 have H : ((share_Sides.f k l0).bind fun bt165 => (some (bt165.2.1, bt165.2.2))) = some (r1, r2) := h
 clear h
 replace H := Option.bind_eq_some_iff.mp H
 obtain ⟨⟨t165, t166, t167⟩, A20, H⟩ := H
 replace H : (some (t166, t167)) = some (r1, r2) := H
 have A2 := Aside0.mk A20
 clear A20
 simp only [Option.some.injEq, Prod.mk.injEq] at H
 obtain ⟨rfl, rfl⟩ := H
 go_enter Tryd.func32, Tryd.ntmps32
 go_wp2_with (first | ((with_reducible refine gate_callee (f := 30) rfl ?_); refine goesL_ (some 8) rfl rfl Tryd.func30 (by kernel_rfl) rfl #[.slice A0 l0.length c0] rfl (by (try simp only [List.map_toArray, List.map_cons, List.map_nil]); first | done | rfl | (simp only [List.length_drop, List.length_take]; rfl)) ?_; (with_reducible refine (share_Sides.calls k _ _ l0 t165 t166 t167 _ ?side1 ?side2 A2.out).mono ?_); (case side1 => repeat (first | exact HR0.out | (with_reducible refine Kd.C_alloc ?_ _) | (with_reducible refine Kd.C_drewN ?_ _) | (with_reducible refine Kd.C_drew ?_))); (case side2 => exact HC0.out); rintro e w3 ⟨rfl, hb⟩; refine ⟨_, rfl, ?_⟩; have n0_ := Aside0.mk (below_step (by repeat (first | (with_reducible first | exact HB.out | apply below_alloc | apply pw_below_drewN | apply below_drew1) | exact HB.out)) hb); clear HB; have HB := n0_; clear n0_; (try clear hb); (try clear hb2); (try clear hk); (try clear hi)) | ((with_reducible refine gate_dst (N := 4) rfl ?_); refine box_event ?hg (N := 4) ?hd (cs := #[.int .i64 0, .int .i64 0]) (t := 29) ?hr ?_; (case hd => rfl); (case hg => rfl); (case hr => first | (go_simp; done) | (go_simp; rfl)); intro gb168 hg w4 hbox hb; have n0_ := Aside0.mk (below_step (by repeat (first | (with_reducible first | exact HB.out | apply below_alloc | apply pw_below_drewN | apply below_drew1) | exact HB.out)) hb); have n1_ := Aside0.mk (hbox); have n2_ := Aside0.mk ((by rw [hg]; exact (below_size (by repeat (first | (with_reducible first | exact HB.out | apply below_alloc | apply pw_below_drewN | apply below_drew1) | exact HB.out))) : w.heap.size ≤ gb168)); have n3_ := Aside0.mk ((by rw [hg]; exact (below_size (by repeat (first | (with_reducible first | exact HB.out | apply below_alloc | apply pw_below_drewN | apply below_drew1) | exact HB.out))) : w.heap.size ≤ gb168)); clear HB; have HB := n0_; have BK168 := n1_; have GW168 := n2_; have GE168 := n3_; clear n0_ n1_ n2_ n3_; clear hb hbox hg; have hcz5_0 : w4.cell? ⟨gb168, 0, none⟩ = some (.int .i64 0) := (blk_cell BK168.out 0).trans rfl; have hcz5_1 : w4.cell? ⟨gb168, 1, none⟩ = some (.int .i64 0) := (blk_cell BK168.out 1).trans rfl; have hfz5_0 := blk_frozen BK168.out 0; have hfz5_1 := blk_frozen BK168.out 1))
 go_ret2
 exact ⟨by first | rfl | (simp [errW_none, errW_some] <;> rfl) | (simp [*, errW_none, errW_some] <;> rfl), by repeat (first | (with_reducible first | exact HB.out | apply below_alloc | apply pw_below_drewN | apply below_drew1 | refine below_set ?_ GE168.out) | exact HB.out)⟩

end Go.Proofs.YtmocphafkimdpaaDoor.P


-- written by a program (a patched copy of the kit's print: wip/mkprint.py); Lean checks it
namespace Go.Proofs.YtmocphafkimdpaaDoor.P
open Go.RowKit Go.Proofs.YtmocphafkimdpaaDoorW.PrintWords Go.Proofs.YtmocphafkimdpaaDoorW.PrintLast Go.Proofs.YtmocphafkimdpaaDoorW.PrintMore
attribute [local go_sem] max2_int min2_int max_two min_two max_three min_three max_four min_four   -- for this text's walks alone
set_option linter.unusedVariables false
set_option linter.unusedSimpArgs false

/-! ### share_Cost: function 33 -/
def share_Cost.f (k : Nat) (a0 : Int) (l1 : List (S29)) : Option (Int × Int) := (share_Employer.f k l1).bind fun bt169 => (if bt169.2 = 0 then ((money_Add.f k a0 bt169.1).bind fun bt171 => (some (bt171.1, bt171.2))) else (some (0, bt169.2)))
theorem share_Cost.mono : ∀ a0 a1 k, LeO (share_Cost.f k a0 a1) (share_Cost.f (k + 1) a0 a1) := by
 intro a0 a1 k
 unfold share_Cost.f
 repeat' first
   | (with_reducible exact money_Add.mono _ _ _)
   | (with_reducible exact share_Employer.mono _ _)
   | (with_reducible exact LeO.refl _)
   | (with_reducible exact LeO.none _)
   | (with_reducible refine LeO.ite ?_ ?_)
   | (with_reducible refine LeO.bind ?_ (fun _ => ?_))
   | exact money_Add.mono _ _ _
   | exact share_Employer.mono _ _
   | exact LeO.none _
   | refine LeO.ite ?_ ?_
   | refine LeO.bind ?_ (fun _ => ?_)
set_option maxHeartbeats 8000000 in
set_option maxRecDepth 100000 in
theorem share_Cost.calls (k : Nat) (a0 : Int) (A1 : Option Addr) (c1 : Nat) (l1 : List (S29)) (r1 : Int) (r2 : Int) (w : World) (hr1 : Kd.C k29 w A1 l1.length l1) (hc1 : l1.length ≤ c1) (h : share_Cost.f k a0 l1 = some (r1, r2)) :
  Calls Tryd.prog 33 #[.int .i64 a0, .slice A1 l1.length c1] w fun e w' => e = .returned (.tuple #[.int .i64 r1, .int .i64 r2]) ∧ Below w.heap.size w w' := by
 have HR1 := Aside0.mk hr1
 have HC1 := Aside0.mk hc1
 clear hr1 hc1
 have HB := Aside0.mk (Below.refl w.heap.size w)
 have H : ((share_Employer.f k l1).bind fun bt169 => (if bt169.2 = 0 then ((money_Add.f k a0 bt169.1).bind fun bt171 => (some (bt171.1, bt171.2))) else (some (0, bt169.2)))) = some (r1, r2) := h
 clear h
 replace H := Option.bind_eq_some_iff.mp H
 obtain ⟨⟨t169, t170⟩, A30, H⟩ := H
 replace H : (if t170 = 0 then ((money_Add.f k a0 t169).bind fun bt171 => (some (bt171.1, bt171.2))) else (some (0, t170))) = some (r1, r2) := H
 have A3 := Aside0.mk A30
 clear A30
 by_cases c4 : t170 = 0
 ·rw [if_pos c4] at H
  have c4b0 : (t170 == 0) = true := beq_iff_eq.mpr c4
  have c4b1 : (t170 != 0) = false := bne_eq_false_iff_eq.mpr c4
  clear c4
  replace H := Option.bind_eq_some_iff.mp H
  obtain ⟨⟨t171, t172⟩, A50, H⟩ := H
  replace H : (some (t171, t172)) = some (r1, r2) := H
  have A5 := Aside0.mk A50
  clear A50
  simp only [Option.some.injEq, Prod.mk.injEq] at H
  obtain ⟨rfl, rfl⟩ := H
  go_enter Tryd.func33, Tryd.ntmps33
  go_wp2_with (first | ((with_reducible refine gate_callee (f := 32) rfl ?_); refine goesL_ (some 10) rfl rfl Tryd.func32 (by kernel_rfl) rfl #[.slice A1 l1.length c1] rfl (by (try simp only [List.map_toArray, List.map_cons, List.map_nil]); first | done | rfl | (simp only [List.length_drop, List.length_take]; rfl)) ?_; (with_reducible refine (share_Employer.calls k _ _ l1 t169 t170 _ ?side1 ?side2 A3.out).mono ?_); (case side1 => repeat (first | exact HR1.out | (with_reducible refine Kd.C_alloc ?_ _) | (with_reducible refine Kd.C_drewN ?_ _) | (with_reducible refine Kd.C_drew ?_))); (case side2 => exact HC1.out); rintro e w6 ⟨rfl, hb⟩; refine ⟨_, rfl, ?_⟩; have n0_ := Aside0.mk (below_step (by repeat (first | (with_reducible first | exact HB.out | apply below_alloc | apply pw_below_drewN | apply below_drew1) | exact HB.out)) hb); clear HB; have HB := n0_; clear n0_; (try clear hb); (try clear hb2); (try clear hk); (try clear hi)) | ((with_reducible refine gate_callee (f := 34) rfl ?_); refine goesL_ (some 18) rfl rfl Tryd.func34 (by kernel_rfl) rfl #[.int .i64 a0, .int .i64 t169] rfl (by (try simp only [List.map_toArray, List.map_cons, List.map_nil]); first | done | rfl | (simp only [List.length_drop, List.length_take]; rfl)) ?_; (with_reducible refine (money_Add.calls k a0 t169 t171 t172 _ A5.out).mono ?_); rintro e w7 ⟨rfl, hb⟩; refine ⟨_, rfl, ?_⟩; have n0_ := Aside0.mk (below_step (by repeat (first | (with_reducible first | exact HB.out | apply below_alloc | apply pw_below_drewN | apply below_drew1) | exact HB.out)) hb); clear HB; have HB := n0_; clear n0_; (try clear hb); (try clear hb2); (try clear hk); (try clear hi)))
  go_ret2
  exact ⟨by first | rfl | (simp [errW_none, errW_some] <;> rfl) | (simp [*, errW_none, errW_some] <;> rfl), by repeat (first | (with_reducible first | exact HB.out | apply below_alloc | apply pw_below_drewN | apply below_drew1) | exact HB.out)⟩
 ·rw [if_neg c4] at H
  have c4b0 : (t170 == 0) = false := beq_eq_false_iff_ne.mpr c4
  have c4b1 : (t170 != 0) = true := bne_iff_ne.mpr c4
  simp only [Option.some.injEq, Prod.mk.injEq] at H
  obtain ⟨rfl, rfl⟩ := H
  go_enter Tryd.func33, Tryd.ntmps33
  go_wp2_with (first | ((with_reducible refine gate_callee (f := 32) rfl ?_); refine goesL_ (some 10) rfl rfl Tryd.func32 (by kernel_rfl) rfl #[.slice A1 l1.length c1] rfl (by (try simp only [List.map_toArray, List.map_cons, List.map_nil]); first | done | rfl | (simp only [List.length_drop, List.length_take]; rfl)) ?_; (with_reducible refine (share_Employer.calls k _ _ l1 t169 t170 _ ?side1 ?side2 A3.out).mono ?_); (case side1 => repeat (first | exact HR1.out | (with_reducible refine Kd.C_alloc ?_ _) | (with_reducible refine Kd.C_drewN ?_ _) | (with_reducible refine Kd.C_drew ?_))); (case side2 => exact HC1.out); rintro e w8 ⟨rfl, hb⟩; refine ⟨_, rfl, ?_⟩; have n0_ := Aside0.mk (below_step (by repeat (first | (with_reducible first | exact HB.out | apply below_alloc | apply pw_below_drewN | apply below_drew1) | exact HB.out)) hb); clear HB; have HB := n0_; clear n0_; (try clear hb); (try clear hb2); (try clear hk); (try clear hi)))
  go_ret2
  exact ⟨by first | rfl | (simp [errW_none, errW_some] <;> rfl) | (simp [*, errW_none, errW_some] <;> rfl), by repeat (first | (with_reducible first | exact HB.out | apply below_alloc | apply pw_below_drewN | apply below_drew1) | exact HB.out)⟩

end Go.Proofs.YtmocphafkimdpaaDoor.P
