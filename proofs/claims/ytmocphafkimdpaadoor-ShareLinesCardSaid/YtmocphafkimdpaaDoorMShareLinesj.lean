/- A part of the proof of ShareLines's card: 'ShareLines' answers true for every input (the conditions: those of the given statement alone). Merged by a program (wip/merge.py) out of: Pf24, GYear, Pf30, Pf32, Pf33, GPostsPure, Pe0, Pe1, GPosts. -/
import Derived.Test.YtmocphafkimdpaaDoorMShareLinesa
import Derived.Test.YtmocphafkimdpaaDoorMShareLinesi
import Derived.Test.YtmocphafkimdpaaDoorMShareLinesf
import Derived.Test.YtmocphafkimdpaaDoorMShareLinesg
import Derived.Laws.CopyRow
import Derived.Laws.CopyOwn
import Derived.Laws.MakeOwn
import Derived.Test.YtmocphafkimdpaaDoorMShareLinesh
import Derived.Test.YtmocphafkimdpaaDoorMShareLinese

-- written by a program (a patched copy of the kit's print: wip/mkprint.py); Lean checks it
namespace Go.Proofs.YtmocphafkimdpaaDoor.P
open Go.RowKit Go.Proofs.YtmocphafkimdpaaDoorW.PrintWords Go.Proofs.YtmocphafkimdpaaDoorW.PrintLast Go.Proofs.YtmocphafkimdpaaDoorW.PrintMore
attribute [local go_sem] max2_int min2_int max_two min_two max_three min_three max_four min_four   -- for this text's walks alone
set_option linter.unusedVariables false
set_option linter.unusedSimpArgs false

/-! ### share_Post: function 24 -/
def share_Post.f (k : Nat) (l0 : List (S29)) (l1 : List (S29)) : Option ((List (S29)) × Int) := if (l0.length : Int) = (l1.length : Int) then ((social_Sum.f k (l0.length : Int) (([l0, l1] : List (List (S29))))).bind fun bt146 => (some (bt146.1, bt146.2))) else (some (([] : List (S29)), 3))
theorem share_Post.mono : ∀ a0 a1 k, LeO (share_Post.f k a0 a1) (share_Post.f (k + 1) a0 a1) := by
 intro a0 a1 k
 unfold share_Post.f
 repeat' first
   | (with_reducible exact social_Sum.mono _ _ _)
   | (with_reducible exact LeO.refl _)
   | (with_reducible exact LeO.none _)
   | (with_reducible refine LeO.ite ?_ ?_)
   | (with_reducible refine LeO.bind ?_ (fun _ => ?_))
   | exact social_Sum.mono _ _ _
   | exact LeO.none _
   | refine LeO.ite ?_ ?_
   | refine LeO.bind ?_ (fun _ => ?_)
set_option maxHeartbeats 8000000 in
set_option maxRecDepth 100000 in
theorem share_Post.calls (k : Nat) (P0_ : Nat → Prop) (A0 : Option Addr) (c0 : Nat) (l0 : List (S29)) (P1_ : Nat → Prop) (A1 : Option Addr) (c1 : Nat) (l1 : List (S29)) (r1 : List (S29)) (r2 : Int) (w : World) (hs0 : Kd.V k29 29 w w.heap.size (fun k_ => P0_ k_) (.slice A0 l0.length c0) l0) (hs1 : Kd.V k29 29 w w.heap.size (fun k_ => P1_ k_) (.slice A1 l1.length c1) l1) (h : share_Post.f k l0 l1 = some (r1, r2)) :
  Calls Tryd.prog 24 #[.slice A0 l0.length c0, .slice A1 l1.length c1] w fun e w' => ∃ v0_ : Value, e = .returned (.tuple #[v0_, .int .i64 r2]) ∧ Kd.R k29 29 w' w.heap.size (fun k_ => (w.heap.size ≤ k_)) v0_ r1 ∧ Below w.heap.size w w' := by
 have HO0 := Aside0.mk (show Kd.V k29 29 w w.heap.size (fun k_ => ((P0_ k_ ∨ P1_ k_) ∨ w.heap.size ≤ k_)) (.slice A0 l0.length c0) l0 from Kd.V_mono hs0 (fun k_ hk => .inl (.inl hk)))
 have HO1 := Aside0.mk (show Kd.V k29 29 w w.heap.size (fun k_ => ((P0_ k_ ∨ P1_ k_) ∨ w.heap.size ≤ k_)) (.slice A1 l1.length c1) l1 from Kd.V_mono hs1 (fun k_ hk => .inl (.inr hk)))
 have HB := Aside0.mk (Below.refl w.heap.size w)
 have H : (if (l0.length : Int) = (l1.length : Int) then ((social_Sum.f k (l0.length : Int) (([l0, l1] : List (List (S29))))).bind fun bt146 => (some (bt146.1, bt146.2))) else (some (([] : List (S29)), 3))) = some (r1, r2) := h
 clear h
 by_cases c3 : (l0.length : Int) = (l1.length : Int)
 ·rw [if_pos c3] at H
  have c3b0 : ((l0.length : Int) == (l1.length : Int)) = true := beq_iff_eq.mpr c3
  have c3b1 : ((l0.length : Int) != (l1.length : Int)) = false := bne_eq_false_iff_eq.mpr c3
  have c3b2 : (l0.length == l1.length) = true := by first | simpa using c3 | (simp at c3 ⊢; omega)
  clear c3
  obtain ⟨y143, hy143⟩ : ∃ y_ : List (List (S29)), y_ = (([l0, l1] : List (List (S29)))) := ⟨_, rfl⟩
  replace H : ((social_Sum.f k (l0.length : Int) y143).bind fun bt146 => (some (bt146.1, bt146.2))) = some (r1, r2) := by first | (rw [hy143]; with_reducible exact H) | (have H2_ := (Option.bind_some _ _).symm.trans H; rw [hy143]; with_reducible exact H2_) | (have H2_ := (Option.bind_some _ _).symm.trans H; with_reducible exact H2_) | with_reducible exact H | (rw [hy143]; exact H) | exact H
  have Ny143 := Aside0.mk hy143
  clear hy143
  replace H := Option.bind_eq_some_iff.mp H
  obtain ⟨⟨t146, t147⟩, A40, H⟩ := H
  replace H : (some (t146, t147)) = some (r1, r2) := H
  have A4 := Aside0.mk A40
  clear A40
  simp only [Option.some.injEq, Prod.mk.injEq] at H
  obtain ⟨rfl, rfl⟩ := H
  go_enter Tryd.func24, Tryd.ntmps24
  go_wp2_with (first | ((with_reducible refine gate_dst (N := 15) rfl ?_); refine Kd.N_lit (Kd.slice 29 k29) _ 23 ?hg (N' := 15) ?hd (xs := ([l0, l1] : List (List (S29)))) (inner := [.slice A0 l0.length c0, .slice A1 l1.length c1]) (ok := (fun k_ => ((P0_ k_ ∨ P1_ k_) ∨ w.heap.size ≤ k_))) (okp := (fun k_ => ((P0_ k_ ∨ P1_ k_) ∨ w.heap.size ≤ k_))) ?hr ?hp (fun _ hk => hk) ((show ∀ k_, w.heap.size ≤ k_ → (fun k_ => ((P0_ k_ ∨ P1_ k_) ∨ w.heap.size ≤ k_)) k_ from fun k_ hk => (.inr (Nat.le_trans (below_size (by repeat (first | (with_reducible first | exact HB.out | apply below_alloc | apply pw_below_drewN | apply below_drew1) | exact HB.out))) hk))) _ (Nat.le_refl _)) (Below.refl _ _) (Nat.le_refl _) (by simp) ?_; (case hd => rfl); (case hg => rfl); (case hr => first | (go_simp; done) | (go_simp; rfl)); (case hp => exact (Reps.one (show Kd.FK (Kd.slice 29 k29) _ _ l0 [.slice A0 l0.length c0] from (Kd.FK_slice_mk (Kd.V_reads' (Kd.V_mono (ok' := (fun k_ => ((P0_ k_ ∨ P1_ k_) ∨ w.heap.size ≤ k_))) (HO0.out) (fun k_ hk => hk))).2.1 (Kd.V_F (Kd.V_mono (ok' := (fun k_ => ((P0_ k_ ∨ P1_ k_) ∨ w.heap.size ≤ k_))) (HO0.out) (fun k_ hk => hk))))) (Reps.one (show Kd.FK (Kd.slice 29 k29) _ _ l1 [.slice A1 l1.length c1] from (Kd.FK_slice_mk (Kd.V_reads' (Kd.V_mono (ok' := (fun k_ => ((P0_ k_ ∨ P1_ k_) ∨ w.heap.size ≤ k_))) (HO1.out) (fun k_ hk => hk))).2.1 (Kd.V_F (Kd.V_mono (ok' := (fun k_ => ((P0_ k_ ∨ P1_ k_) ∨ w.heap.size ≤ k_))) (HO1.out) (fun k_ hk => hk))))) (Reps.none _ _)))); intro v144 w5 ho6 hb hg_ hnew_; clear hg_ hnew_; (first | rw [← Ny143.out] at ho6 | (simp only [Int.reduceToNat] at ho6; rw [← Ny143.out] at ho6)); have n0_ := Aside0.mk (Kd.V_elder' (by (with_reducible repeat (first | apply Kd.V_alloc | apply Kd.V_drewN | apply Kd.V_drew)); exact HO0.out) (Kd.N_base ho6) hb); have n1_ := Aside0.mk (Kd.V_elder' (by (with_reducible repeat (first | apply Kd.V_alloc | apply Kd.V_drewN | apply Kd.V_drew)); exact HO1.out) (Kd.N_base ho6) hb); have n2_ := Aside0.mk (Kd.N_lower ho6 (below_size (by repeat (first | (with_reducible first | exact HB.out | apply below_alloc | apply pw_below_drewN | apply below_drew1) | exact HB.out)))); have n3_ := Aside0.mk (below_step (by repeat (first | (with_reducible first | exact HB.out | apply below_alloc | apply pw_below_drewN | apply below_drew1) | exact HB.out)) hb); clear HO0; clear HO1; clear HB; have HO0 := n0_; have HO1 := n1_; have HO145 := n2_; have HB := n3_; clear n0_ n1_ n2_ n3_; clear hb ho6; obtain ⟨Ao7, co7, eo7⟩ := Kd.N_slice HO145.out; subst eo7) | ((with_reducible refine gate_callee (f := 75) rfl ?_); refine goesL_ (some 16) rfl rfl Tryd.func75 (by kernel_rfl) rfl #[.int .i64 (l0.length : Int), .slice Ao7 y143.length co7] rfl (by (try simp only [List.map_toArray, List.map_cons, List.map_nil]); first | done | rfl | (simp only [List.length_drop, List.length_take]; rfl)) ?_; (with_reducible refine (social_Sum.calls k (l0.length : Int) _ _ y143 t146 t147 _ ?side1 ?side2 A4.out).mono ?_); (case side1 => repeat (first | exact (Kd.N_reads' HO145.out).2.2 | (with_reducible refine Kd.C_alloc ?_ _) | (with_reducible refine Kd.C_drewN ?_ _) | (with_reducible refine Kd.C_drew ?_))); (case side2 => exact (Kd.N_reads' HO145.out).2.1); rintro e w8 ⟨v148, rfl, ho0, hb⟩; refine ⟨_, rfl, ?_⟩; have n0_ := Aside0.mk (Kd.V_elder' (by (with_reducible repeat (first | apply Kd.V_alloc | apply Kd.V_drewN | apply Kd.V_drew)); exact HO0.out) (Kd.R_base ho0) hb); have n1_ := Aside0.mk (Kd.V_elder' (by (with_reducible repeat (first | apply Kd.V_alloc | apply Kd.V_drewN | apply Kd.V_drew)); exact HO1.out) (Kd.R_base ho0) hb); have n2_ := Aside0.mk (Kd.N_elder' (by (with_reducible repeat (first | apply Kd.N_alloc | apply Kd.N_drewN | apply Kd.N_drew)); exact HO145.out) (Kd.R_base ho0) hb); have n3_ := Aside0.mk (Kd.R_lower (Kd.R_newM (M := fun k_ => (w.heap.size ≤ k_)) ho0 (below_size (by repeat (first | (with_reducible first | exact HB.out | apply below_alloc | apply pw_below_drewN | apply below_drew1) | exact HB.out))) (fun k_ h_ => h_)) (below_size (by repeat (first | (with_reducible first | exact HB.out | apply below_alloc | apply pw_below_drewN | apply below_drew1) | exact HB.out)))); have n4_ := Aside0.mk (below_step (by repeat (first | (with_reducible first | exact HB.out | apply below_alloc | apply pw_below_drewN | apply below_drew1) | exact HB.out)) hb); clear HO0; clear HO1; clear HO145; clear HB; have HO0 := n0_; have HO1 := n1_; have HO145 := n2_; have HO149 := n3_; have HB := n4_; clear n0_ n1_ n2_ n3_ n4_; (try clear hb); (try clear hb2); (try clear hk); (try clear hi); (try clear ho0)))
  go_ret2
  exact ⟨_, by first | rfl | (simp [errW_none, errW_some] <;> rfl) | (simp [*, errW_none, errW_some] <;> rfl), by (with_reducible repeat (first | apply Kd.R_alloc | apply Kd.R_drewN | apply Kd.R_drew)); exact Kd.R_mono HO149.out (fun _ hk => hk.1), by repeat (first | (with_reducible first | exact HB.out | apply below_alloc | apply pw_below_drewN | apply below_drew1) | exact HB.out)⟩
 ·rw [if_neg c3] at H
  have c3b0 : ((l0.length : Int) == (l1.length : Int)) = false := beq_eq_false_iff_ne.mpr c3
  have c3b1 : ((l0.length : Int) != (l1.length : Int)) = true := bne_iff_ne.mpr c3
  have c3b2 : (l0.length == l1.length) = false := by first | simpa using c3 | (simp at c3 ⊢; omega)
  simp only [Option.some.injEq, Prod.mk.injEq] at H
  obtain ⟨rfl, rfl⟩ := H
  go_enter Tryd.func24, Tryd.ntmps24
  go_wp2
  go_ret2
  exact ⟨_, by first | rfl | (simp [errW_none, errW_some] <;> rfl) | (simp [*, errW_none, errW_some] <;> rfl), by first | exact Kd.R_nil _ _ _ _ _ | exact Kd.N_nil _ _ _ _ _ | exact Kd.V_nil _ _ _ _ _ | exact Kd.Q_nil _ _ _ _ _ | exact Kd.S_nil _ _ _ _ _, by repeat (first | (with_reducible first | exact HB.out | apply below_alloc | apply pw_below_drewN | apply below_drew1) | exact HB.out)⟩

end Go.Proofs.YtmocphafkimdpaaDoor.P


/- share.New, Reach and Posts: a year in which contributions are posted. -/
namespace Go.Proofs.YtmocphafkimdpaaDoor.P
open Go.RowKit Go.Proofs.YtmocphafkimdpaaDoorW.PrintWords Go.Proofs.YtmocphafkimdpaaDoorW.PrintLast Go.Proofs.YtmocphafkimdpaaDoorW.PrintMore

/-- A year at block g: what was posted (v reads as row), and how often. -/
def YearAt (W : World) (g b : Nat) (v : Value) (row : List S29) (p : Int) : Prop :=
 W.heap[g]? = some (.cells #[v, .int .i64 p] 122 (0, 0)) ∧ Kd.R k29 29 W b (fun _ => True) v row

theorem sum_none (n : Int) (h0 : 0 ≤ n) (h1 : n ≤ 64) : social_Sum.f 2 n [] = some (List.replicate n.toNat z29, 0) := by
 unfold social_Sum.f
 rw [if_neg (by omega)]
 simp only [social_Sum.j0]
 rw [if_neg (by simp; omega), if_pos h0, if_pos (by omega)]
 simp only [social_Sum.l0]
 simp

set_option maxHeartbeats 1000000 in
theorem new_ok (n : Int) (w : World) (h0 : 0 ≤ n) (h1 : n ≤ 64) :
  Calls Tryd.prog 26 #[.int .i64 n] w fun e w' => ∃ g v, e = .returned (.tuple #[.pointer (some ⟨g, 0, none⟩), .int .i64 0]) ∧ w.heap.size ≤ g ∧ YearAt w' g w.heap.size v (List.replicate n.toNat z29) 0 ∧ Below w.heap.size w w' := by
 have S := Lib.hid (fun W => social_Sum.calls 2 n none 0 [] _ _ W (Kd.C_nil _ _) (Nat.le_refl _) (sum_none n h0 h1))
 clear h0 h1
 go_enter Tryd.func26, Tryd.ntmps26
 go_wp2_with fail
 refine (S.out _).mono ?_
 rintro e w1 ⟨v, rfl, hv, hb⟩
 obtain ⟨A, c, rfl⟩ := Kd.R_slice hv
 have HV := Lib.hid hv
 have HB := Lib.hid hb
 clear hv hb
 go_wp2_with fail
 go_ret2
 refine ⟨w1.heap.size, _, rfl, HB.out.size, ⟨?_, Kd.R_alloc HV.out _⟩, below_alloc HB.out _⟩
 rw [List.length_replicate]
 exact heap_alloc_new w1 _

set_option maxHeartbeats 1000000 in
theorem new_no (n : Int) (w : World) (h : n < 0 ∨ 64 < n) :
  Calls Tryd.prog 26 #[.int .i64 n] w fun e w' => e = .returned (.tuple #[.pointer none, .int .i64 1]) ∧ Below w.heap.size w w' := by
 have hf : social_Sum.f 1 n [] = some ([], 1) := by
  unfold social_Sum.f
  by_cases h0 : n < 0
  ·rw [if_pos h0]; simp [social_Sum.j0]
  ·rw [if_neg h0]
   have : decide (n > 64) = true := by simp; omega
   simp only [social_Sum.j0, this, if_true]
 have S := Lib.hid (fun W => social_Sum.calls 1 n none 0 [] _ _ W (Kd.C_nil _ _) (Nat.le_refl _) hf)
 clear h hf
 go_enter Tryd.func26, Tryd.ntmps26
 go_wp2_with fail
 refine (S.out _).mono ?_
 rintro e w1 ⟨v, rfl, hv, hb⟩
 have HB := Lib.hid hb
 clear hv hb
 go_wp2_with fail
 go_ret2
 exact ⟨rfl, HB.out⟩

theorem posts_any (g b : Nat) (v : Value) (row : List S29) (p : Int) (w : World) (hy : YearAt w g b v row p) :
  Calls Tryd.prog 29 #[.pointer (some ⟨g, 0, none⟩)] w fun e w' => e = .returned (.int .i64 p) ∧ w = w' := by
 have hc : w.cell? ⟨g, 1, none⟩ = some (.int .i64 p) := (blk_cell hy.1 1).trans rfl
 clear hy
 go_enter Tryd.func29, Tryd.ntmps29
 go_wp2
 go_ret
 exact ⟨rfl, rfl⟩

set_option maxHeartbeats 2000000 in
/-- Reach, where it is done. -/
theorem reach_ok (k g b c p' : Nat) (v : Value) (row due ds row' : List S29) (p : Int) (A : Option Addr) (w0 w : World)
  (hB : Below w0.heap.size w0 w) (hg0 : w0.heap.size ≤ g) (hy : YearAt w g b v row p) (hr : Kd.C k29 w A due.length due) (hc : due.length ≤ c)
  (hd : share_Delta.f k due row = some (ds, 0)) (hp : share_Post.f k row ds = some (row', 0)) (hp0 : p = p') (hp1 : p' < 1000000) :
  Calls Tryd.prog 27 #[.pointer (some ⟨g, 0, none⟩), .slice A due.length c] w fun e w' => ∃ vd vr, e = .returned (.tuple #[vd, .int .i64 0]) ∧ Kd.R k29 29 w' w.heap.size (fun _ => True) vd ds ∧ YearAt w' g w.heap.size vr row' (p + 1) ∧ Kept w w' (fun i => i = g) ∧ Below w0.heap.size w0 w' := by
 subst hp0
 obtain ⟨hg, hv⟩ := hy
 obtain ⟨Av, cv, rfl⟩ := Kd.R_slice hv
 have hvr := Kd.R_reads' hv
 have h0 : w.cell? ⟨g, 0, none⟩ = some (.slice Av row.length cv) := (blk_cell hg 0).trans rfl
 have HD := Lib.hid (fun W h1 h2 => share_Delta.calls k A c due Av cv row ds 0 W h1 hc h2 hvr.2.1 hd)
 have HR := Lib.hid hr
 have HV := Lib.hid hv
 have HB := Lib.hid hB
 have HG := Lib.hid hg
 have HVR := Lib.hid hvr
 clear hr hv hB hg hvr hc hd
 go_enter Tryd.func27, Tryd.ntmps27
 go_wp2_with fail
 refine (HD.out _ HR.out HVR.out.2.2).mono ?_
 rintro e w1 ⟨vd, rfl, hvd, hb1⟩
 obtain ⟨Ad, cd, rfl⟩ := Kd.R_slice hvd
 have hg1 : w1.heap[g]? = some (.cells #[.slice Av row.length cv, .int .i64 p'] 122 (0, 0)) := (hb1.block g (blk_lt HG.out)).trans HG.out
 have h01 : w1.cell? ⟨g, 0, none⟩ = some (.slice Av row.length cv) := (blk_cell hg1 0).trans rfl
 have HP := Lib.hid (share_Post.calls k (fun _ => True) Av cv row (fun _ => True) Ad cd ds row' 0 w1 (Kd.R_V (Kd.R_below HV.out hb1)) (Kd.R_V hvd) hp)
 have HG1 := Lib.hid hg1
 have HVD := Lib.hid hvd
 have HB1 := Lib.hid hb1
 clear h0 hg1 hvd hb1 hp
 go_wp2_with fail
 refine HP.out.mono ?_
 rintro e w2 ⟨vr, rfl, hvr2, hb2⟩
 obtain ⟨Ar, cr, rfl⟩ := Kd.R_slice hvr2
 have hg2 : w2.heap[g]? = some (.cells #[.slice Av row.length cv, .int .i64 p'] 122 (0, 0)) := (hb2.block g (blk_lt HG1.out)).trans HG1.out
 have h02 : w2.cell? ⟨g, 0, none⟩ = some (.slice Av row.length cv) := (blk_cell hg2 0).trans rfl
 have h12 : w2.cell? ⟨g, 1, none⟩ = some (.int .i64 p') := (blk_cell hg2 1).trans rfl
 have f02 : w2.frozen? ⟨g, 0, none⟩ = false := blk_frozen hg2 0
 have f12 : w2.frozen? ⟨g, 1, none⟩ = false := blk_frozen hg2 1
 have HG2 := Lib.hid hg2
 have HVR2 := Lib.hid hvr2
 have HB2 := Lib.hid hb2
 clear h01 hg2 hvr2 hb2
 go_wp2_with fail
 go_ret2
 have hg3 : (w2.setCell ⟨g, 0, none⟩ (.slice Ar row'.length cr)).heap[g]? = some (.cells #[.slice Ar row'.length cr, .int .i64 p'] 122 (0, 0)) := blk_put HG2.out 0 _ rfl
 have st := fun {b' : Nat} {ok : Nat → Prop} {u : Value} {l : List S29} (h : Kd.R k29 29 w2 b' ok u l) => Kd.R_set (Kd.R_set h HG2.out (by decide) 0 (.slice Ar row'.length cr)) hg3 (by decide) 1 (.int .i64 ((p' : Int) + 1))
 refine ⟨_, _, rfl, st (Kd.R_below HVD.out HB2.out), ⟨blk_put hg3 1 _ rfl, st (Kd.R_mono (Kd.R_lower HVR2.out HB1.out.size) (fun _ _ => trivial))⟩, ?_, ?_⟩
 ·have k2 : Kept w w2 (fun i => i = g) := Kept.below (Kept.of_below HB1.out _) HB2.out
  have k3 := Kept.setCell k2 (p := ⟨g, 0, none⟩) (.inl rfl) (.slice Ar row'.length cr)
  exact Kept.setCell k3 (p := ⟨g, 1, none⟩) (.inl rfl) (.int .i64 ((p' : Int) + 1))
 ·have b2 : Below w0.heap.size w0 w2 := below_step (below_step HB.out HB1.out) HB2.out
  have b3 := below_set (g := g) (j := 0) (v := .slice Ar row'.length cr) b2 hg0
  exact below_set (g := g) (j := 1) (v := .int .i64 ((p' : Int) + 1)) b3 hg0

set_option maxHeartbeats 2000000 in
/-- Reach, where it is refused. -/
theorem reach_err (k g b c : Nat) (v : Value) (row due : List S29) (p r : Int) (A : Option Addr) (w : World)
  (hy : YearAt w g b v row p) (hr : Kd.C k29 w A due.length due) (hc : due.length ≤ c)
  (hd : share_Delta.f k due row = some ([], r)) (hr0 : (r != 0) = true) :
  Calls Tryd.prog 27 #[.pointer (some ⟨g, 0, none⟩), .slice A due.length c] w fun e w' => e = .returned (.tuple #[.slice none 0 0, .int .i64 r]) ∧ Below w.heap.size w w' := by
 obtain ⟨hg, hv⟩ := hy
 obtain ⟨Av, cv, rfl⟩ := Kd.R_slice hv
 have hvr := Kd.R_reads' hv
 have h0 : w.cell? ⟨g, 0, none⟩ = some (.slice Av row.length cv) := (blk_cell hg 0).trans rfl
 have HD := Lib.hid (fun W h1 h2 => share_Delta.calls k A c due Av cv row [] r W h1 hc h2 hvr.2.1 hd)
 have HR := Lib.hid hr
 have HVR := Lib.hid hvr
 clear hr hv hg hvr hc hd
 go_enter Tryd.func27, Tryd.ntmps27
 go_wp2_with fail
 refine (HD.out _ HR.out HVR.out.2.2).mono ?_
 rintro e w1 ⟨vd, rfl, hvd, hb1⟩
 have HB1 := Lib.hid hb1
 clear h0 hvd hb1
 go_wp2_with fail
 go_ret2
 exact ⟨rfl, HB1.out⟩

theorem run_copy_rows {P : Program} (w : World) (dT sT ty elem : TypeId) (sz g dLen dCap : Nat) (a : Addr) (sLen sCap : Nat) (cur : Array Value) (t : TypeId) (cs : List Value)
  (hu : P.underlying dT = some (.slice elem)) (hs : (P.info? elem).map (·.size) = some sz)
  (hg : w.heap[g]? = some (.cells cur t (0, 0))) (hn : cs.length = Nat.min sLen dLen * sz)
  (hsrc : ∀ j v, cs[j]? = some v → w.cell? (a.add j) = some v) (hfit : cs.length = cur.size) (h1 : ∀ v ∈ cs, v.oneCell' = true) :
  (Builtin.copy_ #[dT, sT] ty #[.slice (some ⟨g, 0, none⟩) dLen dCap, .slice (some a) sLen sCap]).run P w =
   .ok (goInt (Nat.min sLen dLen)) (w.setRow g cs.toArray) := by
 have hl := run_loadCells_list (P := P) w a cs hsrc
 have hst := run_storeCells_at (P := P) g 0 t cs 0 cur w hg (by simp; omega) h1
 have e1 : (cur.toList.take (0 + 0) ++ cs ++ cur.toList.drop (0 + 0 + cs.length)) = cs := by
  rw [List.drop_of_length_le (by simp; omega)]
  simp
 rw [e1] at hst
 cases hq : P.info? elem with
 | none => simp [hq] at hs
 | some i =>
  have hi : i.size = sz := by simpa [hq] using hs
  simp [Builtin.copy_, run_underlying hu, Builtin.lenOf, Builtin.firstCells, sizeOf, typeInfo, hq, hi, ← hn, hl, hst]

theorem info29y : (Tryd.prog.info? 29).map (fun i => (i.zero, i.size, i.bytes)) = some (some (.agg #[(.int .i64 0), (.int .i64 0)]), 2, 16) := by kernel_rfl

theorem make_row (n : Nat) (hn : n ≤ 1000) (W : World) : (Instr.makeSlice 23 (.int .i64 n) (.int .i64 n)).run Tryd.prog W = .ok (.slice (some ⟨W.heap.size, 0, none⟩) n n) (W.alloc (.cells (madeCells #[.int .i64 0, .int .i64 0] (n * 2)) 29)) := by
 obtain ⟨i0, hi, hzz⟩ := Option.map_eq_some_iff.1 info29y
 simp only [Prod.mk.injEq] at hzz
 obtain ⟨hz0, hz1, hz2⟩ := hzz
 have hr := run_make (P := Tryd.prog) W 23 29 i0 (.agg #[(.int .i64 0), (.int .i64 0)]) Tryd.underlying23 hi hz0 .i64 .i64 (n : Int) (n : Int) (by omega) (by omega) (by rw [hz2]; omega) (by omega)
 simp only [Int.toNat_natCast] at hr
 rw [hz1] at hr
 exact hr

theorem reps_k29 {w w' : World} {b b' : Nat} {ok ok' : Nat → Prop} {row : List S29} {cs : List Value} (h : Reps (Kd.M k29 w b ok) 2 row cs) : Reps (Kd.M k29 w' b' ok') 2 row cs :=
 h.imp_ (fun x c hm => by
  have := k29_openM hm
  subst this
  exact k29_mkM _ _ _ _)

theorem row_at {w : World} {g b : Nat} {row : List S29} {cs : List Value} {w0 : World} {b0 : Nat} {ok0 : Nat → Prop} (hb : b ≤ g) (hg : w.heap[g]? = some (.cells cs.toArray 29 (0, 0))) (hr : Reps (Kd.M k29 w0 b0 ok0) 2 row cs) (hm : row.length ≤ maxLen) :
  Kd.R k29 29 w b (fun _ => True) (.slice (some ⟨g, 0, none⟩) row.length row.length) row :=
 ⟨fun _ _ => trivial, cs, show w.ownsRow b 29 2 (.slice (some ⟨g, 0, none⟩) row.length row.length) row.length cs from ⟨hr.1, .inr ⟨g, row.length, cs.toArray, rfl, hb, hg, Nat.le_refl _, hm, by simpa using hr.1, by rw [List.take_of_length_le (by simp [hr.1])]⟩⟩, reps_k29 hr⟩

set_option maxHeartbeats 2000000 in
/-- Posted: a copy of what was posted so far. -/
theorem posted_any (g b : Nat) (v : Value) (row : List S29) (p : Int) (w : World) (hy : YearAt w g b v row p) (hl : row.length ≤ 1000) :
  Calls Tryd.prog 28 #[.pointer (some ⟨g, 0, none⟩)] w fun e w' => ∃ v2, e = .returned v2 ∧ Kd.R k29 29 w' w.heap.size (fun _ => True) v2 row ∧ Below w.heap.size w w' := by
 obtain ⟨hg, hv⟩ := hy
 obtain ⟨Av, cv, rfl⟩ := Kd.R_slice hv
 have h0 : w.cell? ⟨g, 0, none⟩ = some (.slice Av row.length cv) := (blk_cell hg 0).trans rfl
 obtain ⟨_, inner, hown, hreps⟩ := hv
 have hlen : inner.length = row.length * 2 := hreps.1
 have hmk := make_row row.length hl
 have h1 : ∀ u ∈ inner, u.oneCell' = true := by
  intro u hu
  obtain ⟨i, hi, rfl⟩ := List.getElem_of_mem hu
  have hj : i / 2 < row.length := by omega
  have hk := k29_openM (hreps.2 (i / 2) _ (List.getElem?_eq_getElem hj))
  have hk2 : inner[i]? = ((inner.drop (i / 2 * 2)).take 2)[i % 2]? := by
   rw [List.getElem?_take_of_lt (by omega), List.getElem?_drop]
   congr 1
   omega
  have hk3 : k29.sz = 2 := rfl
  rw [hk3] at hk
  rw [hk, List.getElem?_eq_getElem hi] at hk2
  rcases Nat.mod_two_eq_zero_or_one i with h2 | h2
  ·rw [h2] at hk2
   simp at hk2
   rw [hk2]; rfl
  ·rw [h2] at hk2
   simp at hk2
   rw [hk2]; rfl
 have hW : (w.alloc (.cells (madeCells #[.int .i64 0, .int .i64 0] (row.length * 2)) 29)).heap[w.heap.size]? = some (.cells (madeCells #[.int .i64 0, .int .i64 0] (row.length * 2)) 29 (0, 0)) := heap_alloc_new w _
 have hcp : ∀ ty, (Builtin.copy_ #[23, 23] ty #[.slice (some ⟨w.heap.size, 0, none⟩) row.length row.length, .slice Av row.length cv]).run Tryd.prog (w.alloc (.cells (madeCells #[.int .i64 0, .int .i64 0] (row.length * 2)) 29)) = .ok (goInt row.length) ((w.alloc (.cells (madeCells #[.int .i64 0, .int .i64 0] (row.length * 2)) 29)).setRow w.heap.size inner.toArray) := by
  intro ty
  cases Av with
  | none =>
   have hn : row.length = 0 ∧ cv = 0 := by
    rcases hown.2 with ⟨he, hn⟩ | ⟨g', cap', cur', he, _⟩
    ·injection he with _ _ hc
     exact ⟨hn, hc⟩
    ·injection he with he; cases he
   obtain ⟨hn, rfl⟩ := hn
   have hi0 : inner = [] := List.eq_nil_of_length_eq_zero (by omega)
   rw [hn, run_copy_nil (P := Tryd.prog) _ 23 23 ty 29 _ _ _ Tryd.underlying23 (by rw [show (Tryd.prog.info? 29).map (·.size) = some 2 from by kernel_rfl]; rfl), hi0]
   have hm0 : madeCells #[Value.int .i64 0, Value.int .i64 0] (0 * 2) = #[] := by simp [madeCells]
   congr 1
   rw [hn] at hW
   rw [hm0] at hW ⊢
   exact (setRow_self _ _ _ _ _ hW).symm
  | some ad =>
   have emin : row.length.min row.length = row.length := Nat.min_self _
   have hr := run_copy_rows (P := Tryd.prog) (w.alloc (.cells (madeCells #[.int .i64 0, .int .i64 0] (row.length * 2)) 29)) 23 23 ty 29 2 w.heap.size row.length row.length ad row.length cv _ 29 inner Tryd.underlying23 (by kernel_rfl) hW (by rw [emin]; exact hlen)
    (fun j u hu => by
     have hc := hown.cells (g := ad.block) (by
      rcases hown.2 with ⟨he, _⟩ | ⟨g', cap', cur', he, _⟩
      ·injection he with he; cases he
      ·injection he with he; cases he; rfl) j u hu
     have had : ad = ⟨ad.block, 0, none⟩ := by
      rcases hown.2 with ⟨he, _⟩ | ⟨g', cap', cur', he, _⟩
      ·injection he with he; cases he
      ·injection he with he; cases he; rfl
     rw [had]
     exact pw_cell_below (below_alloc (Below.refl _ _) _) hc) (by rw [size_madeCells]; exact hlen) h1
   rw [emin] at hr
   exact hr
 have hlt : g < w.heap.size := blk_lt hg
 have HI := Lib.hid hreps
 have HL := Lib.hid hlen
 clear hown hreps hlen h1 hg
 have HW := Lib.hid hW
 clear hW
 go_enter Tryd.func28, Tryd.ntmps28
 go_wp2_with fail
 go_ret
 exact ⟨_, rfl, row_at (Nat.le_refl _) (setRow_heap _ _ _ _ _ _ HW.out) HI.out (by unfold maxLen; omega), below_setRow (below_alloc (Below.refl _ _) _) (Nat.le_refl _) _⟩

end Go.Proofs.YtmocphafkimdpaaDoor.P


-- written by a program (a patched copy of the kit's print: wip/mkprint.py); Lean checks it
namespace Go.Proofs.YtmocphafkimdpaaDoor.P
open Go.RowKit Go.Proofs.YtmocphafkimdpaaDoorW.PrintWords Go.Proofs.YtmocphafkimdpaaDoorW.PrintLast Go.Proofs.YtmocphafkimdpaaDoorW.PrintMore
attribute [local go_sem] max2_int min2_int max_two min_two max_three min_three max_four min_four   -- for this text's walks alone
set_option linter.unusedVariables false
set_option linter.unusedSimpArgs false

/-! ### share_Sides: function 30 -/
def share_Sides.f (k : Nat) (l0 : List (S29)) : Option (Int × Int × Int) := (pair_Total.f k l0).bind fun bt162 => (some (bt162.1, bt162.2.1, bt162.2.2))
theorem share_Sides.mono : ∀ a0 k, LeO (share_Sides.f k a0) (share_Sides.f (k + 1) a0) := by
 intro a0 k
 unfold share_Sides.f
 repeat' first
   | (with_reducible exact pair_Total.mono _ _)
   | (with_reducible exact LeO.refl _)
   | (with_reducible exact LeO.none _)
   | (with_reducible refine LeO.ite ?_ ?_)
   | (with_reducible refine LeO.bind ?_ (fun _ => ?_))
   | exact pair_Total.mono _ _
   | exact LeO.none _
   | refine LeO.ite ?_ ?_
   | refine LeO.bind ?_ (fun _ => ?_)
set_option maxHeartbeats 8000000 in
set_option maxRecDepth 100000 in
theorem share_Sides.calls (k : Nat) (A0 : Option Addr) (c0 : Nat) (l0 : List (S29)) (r1 : Int) (r2 : Int) (r3 : Int) (w : World) (hr0 : Kd.C k29 w A0 l0.length l0) (hc0 : l0.length ≤ c0) (h : share_Sides.f k l0 = some (r1, r2, r3)) :
  Calls Tryd.prog 30 #[.slice A0 l0.length c0] w fun e w' => e = .returned (.tuple #[.agg #[.int .i64 r1, .int .i64 r2], .int .i64 r3]) ∧ Below w.heap.size w w' := by
 have hu29 := Tryd.underlying29
 have HR0 := Aside0.mk hr0
 have HC0 := Aside0.mk hc0
 clear hr0 hc0
 have HB := Aside0.mk (Below.refl w.heap.size w)
 have H : ((pair_Total.f k l0).bind fun bt162 => (some (bt162.1, bt162.2.1, bt162.2.2))) = some (r1, r2, r3) := h
 clear h
 replace H := Option.bind_eq_some_iff.mp H
 obtain ⟨⟨t162, t163, t164⟩, A20, H⟩ := H
 replace H : (some (t162, t163, t164)) = some (r1, r2, r3) := H
 have A2 := Aside0.mk A20
 clear A20
 simp only [Option.some.injEq, Prod.mk.injEq] at H
 obtain ⟨rfl, rfl, rfl⟩ := H
 go_enter Tryd.func30, Tryd.ntmps30
 go_wp2_with (first | ((with_reducible refine gate_dst (N := 2) rfl ?_); refine box_event ?hg (N := 2) ?hd (cs := #[.int .i64 0, .int .i64 0]) (t := 29) ?hr ?_; (case hd => rfl); (case hg => rfl); (case hr => first | (go_simp; done) | (go_simp; rfl)); intro gb161 hg w3 hbox hb; have n0_ := Aside0.mk (below_step (by repeat (first | (with_reducible first | exact HB.out | apply below_alloc | apply pw_below_drewN | apply below_drew1) | exact HB.out)) hb); have n1_ := Aside0.mk (hbox); have n2_ := Aside0.mk ((by rw [hg]; exact (below_size (by repeat (first | (with_reducible first | exact HB.out | apply below_alloc | apply pw_below_drewN | apply below_drew1) | exact HB.out))) : w.heap.size ≤ gb161)); have n3_ := Aside0.mk ((by rw [hg]; exact (below_size (by repeat (first | (with_reducible first | exact HB.out | apply below_alloc | apply pw_below_drewN | apply below_drew1) | exact HB.out))) : w.heap.size ≤ gb161)); clear HB; have HB := n0_; have BK161 := n1_; have GW161 := n2_; have GE161 := n3_; clear n0_ n1_ n2_ n3_; clear hb hbox hg) | ((with_reducible refine gate_callee (f := 76) rfl ?_); refine goesL_ (some 5) rfl rfl Tryd.func76 (by kernel_rfl) rfl #[.slice A0 l0.length c0] rfl (by (try simp only [List.map_toArray, List.map_cons, List.map_nil]); first | done | rfl | (simp only [List.length_drop, List.length_take]; rfl)) ?_; (with_reducible refine (pair_Total.calls k _ _ l0 t162 t163 t164 _ ?side1 ?side2 A2.out).mono ?_); (case side1 => repeat (first | exact (Kd.C_below HR0.out HB.out) | (with_reducible refine Kd.C_alloc ?_ _) | (with_reducible refine Kd.C_drewN ?_ _) | (with_reducible refine Kd.C_drew ?_))); (case side2 => exact HC0.out); rintro e w4 ⟨rfl, hb⟩; refine ⟨_, rfl, ?_⟩; have n0_ := Aside0.mk (blk_below (g := gb161) (o := .cells #[.int .i64 0, .int .i64 0] 29 (0, 0)) (by (with_reducible repeat (first | refine blk_drewN ?_ _ | refine blk_drew ?_ | refine blk_alloc ?_ _)); exact BK161.out) hb); have n1_ := Aside0.mk (below_step (by repeat (first | (with_reducible first | exact HB.out | apply below_alloc | apply pw_below_drewN | apply below_drew1 | refine below_set ?_ GE161.out) | exact HB.out)) hb); clear BK161; clear HB; have BK161 := n0_; have HB := n1_; clear n0_ n1_; (try clear hb); (try clear hb2); (try clear hk); (try clear hi); have hcz5_0 : w4.cell? ⟨gb161, 0, none⟩ = some (.int .i64 0) := (blk_cell BK161.out 0).trans rfl; have hcz5_1 : w4.cell? ⟨gb161, 1, none⟩ = some (.int .i64 0) := (blk_cell BK161.out 1).trans rfl; have hfz5_0 := blk_frozen BK161.out 0; have hfz5_1 := blk_frozen BK161.out 1))
 refine bodyPost_ret (results_ct rfl _ _ gb161 29 #[.int .i64 t162, .int .i64 t163] (0, 0) _ rfl (by (with_reducible repeat (first | refine blk_drewN ?_ _ | refine blk_drew ?_ | refine blk_alloc ?_ _)); refine blk_put (cs := #[.int .i64 t162, .int .i64 0]) ?_ 1 _ rfl; (with_reducible repeat (first | refine blk_drewN ?_ _ | refine blk_drew ?_ | refine blk_alloc ?_ _)); refine blk_put (cs := #[.int .i64 0, .int .i64 0]) ?_ 0 _ rfl; (with_reducible repeat (first | refine blk_drewN ?_ _ | refine blk_drew ?_ | refine blk_alloc ?_ _)); exact BK161.out) Tryd.underlying29 rfl (by kernel_rfl)) rfl ?_
 exact ⟨by first | rfl | (simp [errW_none, errW_some] <;> rfl) | (simp [*, errW_none, errW_some] <;> rfl), by repeat (first | (with_reducible first | exact HB.out | apply below_alloc | apply pw_below_drewN | apply below_drew1 | refine below_set ?_ GE161.out) | exact HB.out)⟩

end Go.Proofs.YtmocphafkimdpaaDoor.P


-- written by a program (a patched copy of the kit's print: wip/mkprint.py); Lean checks it
namespace Go.Proofs.YtmocphafkimdpaaDoor.P
open Go.RowKit Go.Proofs.YtmocphafkimdpaaDoorW.PrintWords Go.Proofs.YtmocphafkimdpaaDoorW.PrintLast Go.Proofs.YtmocphafkimdpaaDoorW.PrintMore
attribute [local go_sem] max2_int min2_int max_two min_two max_three min_three max_four min_four   -- for this text's walks alone
set_option linter.unusedVariables false
set_option linter.unusedSimpArgs false

/-! ### share_Employer: function 32 -/
def share_Employer.f (k : Nat) (l0 : List (S29)) : Option (Int × Int) := (share_Sides.f k l0).bind fun bt165 => (some (bt165.2.1, bt165.2.2))
theorem share_Employer.mono : ∀ a0 k, LeO (share_Employer.f k a0) (share_Employer.f (k + 1) a0) := by
 intro a0 k
 unfold share_Employer.f
 repeat' first
   | (with_reducible exact share_Sides.mono _ _)
   | (with_reducible exact LeO.refl _)
   | (with_reducible exact LeO.none _)
   | (with_reducible refine LeO.ite ?_ ?_)
   | (with_reducible refine LeO.bind ?_ (fun _ => ?_))
   | exact share_Sides.mono _ _
   | exact LeO.none _
   | refine LeO.ite ?_ ?_
   | refine LeO.bind ?_ (fun _ => ?_)
set_option maxHeartbeats 8000000 in
set_option maxRecDepth 100000 in
theorem share_Employer.calls (k : Nat) (A0 : Option Addr) (c0 : Nat) (l0 : List (S29)) (r1 : Int) (r2 : Int) (w : World) (hr0 : Kd.C k29 w A0 l0.length l0) (hc0 : l0.length ≤ c0) (h : share_Employer.f k l0 = some (r1, r2)) :
  Calls Tryd.prog 32 #[.slice A0 l0.length c0] w fun e w' => e = .returned (.tuple #[.int .i64 r1, .int .i64 r2]) ∧ Below w.heap.size w w' := by
 have hu29 := Tryd.underlying29
 have HR0 := Aside0.mk hr0
 have HC0 := Aside0.mk hc0
 clear hr0 hc0
 have HB := Aside0.mk (Below.refl w.heap.size w)
 have H : ((share_Sides.f k l0).bind fun bt165 => (some (bt165.2.1, bt165.2.2))) = some (r1, r2) := h
 clear h
 replace H := Option.bind_eq_some_iff.mp H
 obtain ⟨⟨t165, t166, t167⟩, A20, H⟩ := H
 replace H : (some (t166, t167)) = some (r1, r2) := H
 have A2 := Aside0.mk A20
 clear A20
 simp only [Option.some.injEq, Prod.mk.injEq] at H
 obtain ⟨rfl, rfl⟩ := H
 go_enter Tryd.func32, Tryd.ntmps32
 go_wp2_with (first | ((with_reducible refine gate_callee (f := 30) rfl ?_); refine goesL_ (some 8) rfl rfl Tryd.func30 (by kernel_rfl) rfl #[.slice A0 l0.length c0] rfl (by (try simp only [List.map_toArray, List.map_cons, List.map_nil]); first | done | rfl | (simp only [List.length_drop, List.length_take]; rfl)) ?_; (with_reducible refine (share_Sides.calls k _ _ l0 t165 t166 t167 _ ?side1 ?side2 A2.out).mono ?_); (case side1 => repeat (first | exact HR0.out | (with_reducible refine Kd.C_alloc ?_ _) | (with_reducible refine Kd.C_drewN ?_ _) | (with_reducible refine Kd.C_drew ?_))); (case side2 => exact HC0.out); rintro e w3 ⟨rfl, hb⟩; refine ⟨_, rfl, ?_⟩; have n0_ := Aside0.mk (below_step (by repeat (first | (with_reducible first | exact HB.out | apply below_alloc | apply pw_below_drewN | apply below_drew1) | exact HB.out)) hb); clear HB; have HB := n0_; clear n0_; (try clear hb); (try clear hb2); (try clear hk); (try clear hi)) | ((with_reducible refine gate_dst (N := 4) rfl ?_); refine box_event ?hg (N := 4) ?hd (cs := #[.int .i64 0, .int .i64 0]) (t := 29) ?hr ?_; (case hd => rfl); (case hg => rfl); (case hr => first | (go_simp; done) | (go_simp; rfl)); intro gb168 hg w4 hbox hb; have n0_ := Aside0.mk (below_step (by repeat (first | (with_reducible first | exact HB.out | apply below_alloc | apply pw_below_drewN | apply below_drew1) | exact HB.out)) hb); have n1_ := Aside0.mk (hbox); have n2_ := Aside0.mk ((by rw [hg]; exact (below_size (by repeat (first | (with_reducible first | exact HB.out | apply below_alloc | apply pw_below_drewN | apply below_drew1) | exact HB.out))) : w.heap.size ≤ gb168)); have n3_ := Aside0.mk ((by rw [hg]; exact (below_size (by repeat (first | (with_reducible first | exact HB.out | apply below_alloc | apply pw_below_drewN | apply below_drew1) | exact HB.out))) : w.heap.size ≤ gb168)); clear HB; have HB := n0_; have BK168 := n1_; have GW168 := n2_; have GE168 := n3_; clear n0_ n1_ n2_ n3_; clear hb hbox hg; have hcz5_0 : w4.cell? ⟨gb168, 0, none⟩ = some (.int .i64 0) := (blk_cell BK168.out 0).trans rfl; have hcz5_1 : w4.cell? ⟨gb168, 1, none⟩ = some (.int .i64 0) := (blk_cell BK168.out 1).trans rfl; have hfz5_0 := blk_frozen BK168.out 0; have hfz5_1 := blk_frozen BK168.out 1))
 go_ret2
 exact ⟨by first | rfl | (simp [errW_none, errW_some] <;> rfl) | (simp [*, errW_none, errW_some] <;> rfl), by repeat (first | (with_reducible first | exact HB.out | apply below_alloc | apply pw_below_drewN | apply below_drew1 | refine below_set ?_ GE168.out) | exact HB.out)⟩

end Go.Proofs.YtmocphafkimdpaaDoor.P


-- written by a program (a patched copy of the kit's print: wip/mkprint.py); Lean checks it
namespace Go.Proofs.YtmocphafkimdpaaDoor.P
open Go.RowKit Go.Proofs.YtmocphafkimdpaaDoorW.PrintWords Go.Proofs.YtmocphafkimdpaaDoorW.PrintLast Go.Proofs.YtmocphafkimdpaaDoorW.PrintMore
attribute [local go_sem] max2_int min2_int max_two min_two max_three min_three max_four min_four   -- for this text's walks alone
set_option linter.unusedVariables false
set_option linter.unusedSimpArgs false

/-! ### share_Cost: function 33 -/
def share_Cost.f (k : Nat) (a0 : Int) (l1 : List (S29)) : Option (Int × Int) := (share_Employer.f k l1).bind fun bt169 => (if bt169.2 = 0 then ((money_Add.f k a0 bt169.1).bind fun bt171 => (some (bt171.1, bt171.2))) else (some (0, bt169.2)))
theorem share_Cost.mono : ∀ a0 a1 k, LeO (share_Cost.f k a0 a1) (share_Cost.f (k + 1) a0 a1) := by
 intro a0 a1 k
 unfold share_Cost.f
 repeat' first
   | (with_reducible exact money_Add.mono _ _ _)
   | (with_reducible exact share_Employer.mono _ _)
   | (with_reducible exact LeO.refl _)
   | (with_reducible exact LeO.none _)
   | (with_reducible refine LeO.ite ?_ ?_)
   | (with_reducible refine LeO.bind ?_ (fun _ => ?_))
   | exact money_Add.mono _ _ _
   | exact share_Employer.mono _ _
   | exact LeO.none _
   | refine LeO.ite ?_ ?_
   | refine LeO.bind ?_ (fun _ => ?_)
set_option maxHeartbeats 8000000 in
set_option maxRecDepth 100000 in
theorem share_Cost.calls (k : Nat) (a0 : Int) (A1 : Option Addr) (c1 : Nat) (l1 : List (S29)) (r1 : Int) (r2 : Int) (w : World) (hr1 : Kd.C k29 w A1 l1.length l1) (hc1 : l1.length ≤ c1) (h : share_Cost.f k a0 l1 = some (r1, r2)) :
  Calls Tryd.prog 33 #[.int .i64 a0, .slice A1 l1.length c1] w fun e w' => e = .returned (.tuple #[.int .i64 r1, .int .i64 r2]) ∧ Below w.heap.size w w' := by
 have HR1 := Aside0.mk hr1
 have HC1 := Aside0.mk hc1
 clear hr1 hc1
 have HB := Aside0.mk (Below.refl w.heap.size w)
 have H : ((share_Employer.f k l1).bind fun bt169 => (if bt169.2 = 0 then ((money_Add.f k a0 bt169.1).bind fun bt171 => (some (bt171.1, bt171.2))) else (some (0, bt169.2)))) = some (r1, r2) := h
 clear h
 replace H := Option.bind_eq_some_iff.mp H
 obtain ⟨⟨t169, t170⟩, A30, H⟩ := H
 replace H : (if t170 = 0 then ((money_Add.f k a0 t169).bind fun bt171 => (some (bt171.1, bt171.2))) else (some (0, t170))) = some (r1, r2) := H
 have A3 := Aside0.mk A30
 clear A30
 by_cases c4 : t170 = 0
 ·rw [if_pos c4] at H
  have c4b0 : (t170 == 0) = true := beq_iff_eq.mpr c4
  have c4b1 : (t170 != 0) = false := bne_eq_false_iff_eq.mpr c4
  clear c4
  replace H := Option.bind_eq_some_iff.mp H
  obtain ⟨⟨t171, t172⟩, A50, H⟩ := H
  replace H : (some (t171, t172)) = some (r1, r2) := H
  have A5 := Aside0.mk A50
  clear A50
  simp only [Option.some.injEq, Prod.mk.injEq] at H
  obtain ⟨rfl, rfl⟩ := H
  go_enter Tryd.func33, Tryd.ntmps33
  go_wp2_with (first | ((with_reducible refine gate_callee (f := 32) rfl ?_); refine goesL_ (some 10) rfl rfl Tryd.func32 (by kernel_rfl) rfl #[.slice A1 l1.length c1] rfl (by (try simp only [List.map_toArray, List.map_cons, List.map_nil]); first | done | rfl | (simp only [List.length_drop, List.length_take]; rfl)) ?_; (with_reducible refine (share_Employer.calls k _ _ l1 t169 t170 _ ?side1 ?side2 A3.out).mono ?_); (case side1 => repeat (first | exact HR1.out | (with_reducible refine Kd.C_alloc ?_ _) | (with_reducible refine Kd.C_drewN ?_ _) | (with_reducible refine Kd.C_drew ?_))); (case side2 => exact HC1.out); rintro e w6 ⟨rfl, hb⟩; refine ⟨_, rfl, ?_⟩; have n0_ := Aside0.mk (below_step (by repeat (first | (with_reducible first | exact HB.out | apply below_alloc | apply pw_below_drewN | apply below_drew1) | exact HB.out)) hb); clear HB; have HB := n0_; clear n0_; (try clear hb); (try clear hb2); (try clear hk); (try clear hi)) | ((with_reducible refine gate_callee (f := 34) rfl ?_); refine goesL_ (some 18) rfl rfl Tryd.func34 (by kernel_rfl) rfl #[.int .i64 a0, .int .i64 t169] rfl (by (try simp only [List.map_toArray, List.map_cons, List.map_nil]); first | done | rfl | (simp only [List.length_drop, List.length_take]; rfl)) ?_; (with_reducible refine (money_Add.calls k a0 t169 t171 t172 _ A5.out).mono ?_); rintro e w7 ⟨rfl, hb⟩; refine ⟨_, rfl, ?_⟩; have n0_ := Aside0.mk (below_step (by repeat (first | (with_reducible first | exact HB.out | apply below_alloc | apply pw_below_drewN | apply below_drew1) | exact HB.out)) hb); clear HB; have HB := n0_; clear n0_; (try clear hb); (try clear hb2); (try clear hk); (try clear hi)))
  go_ret2
  exact ⟨by first | rfl | (simp [errW_none, errW_some] <;> rfl) | (simp [*, errW_none, errW_some] <;> rfl), by repeat (first | (with_reducible first | exact HB.out | apply below_alloc | apply pw_below_drewN | apply below_drew1) | exact HB.out)⟩
 ·rw [if_neg c4] at H
  have c4b0 : (t170 == 0) = false := beq_eq_false_iff_ne.mpr c4
  have c4b1 : (t170 != 0) = true := bne_iff_ne.mpr c4
  simp only [Option.some.injEq, Prod.mk.injEq] at H
  obtain ⟨rfl, rfl⟩ := H
  go_enter Tryd.func33, Tryd.ntmps33
  go_wp2_with (first | ((with_reducible refine gate_callee (f := 32) rfl ?_); refine goesL_ (some 10) rfl rfl Tryd.func32 (by kernel_rfl) rfl #[.slice A1 l1.length c1] rfl (by (try simp only [List.map_toArray, List.map_cons, List.map_nil]); first | done | rfl | (simp only [List.length_drop, List.length_take]; rfl)) ?_; (with_reducible refine (share_Employer.calls k _ _ l1 t169 t170 _ ?side1 ?side2 A3.out).mono ?_); (case side1 => repeat (first | exact HR1.out | (with_reducible refine Kd.C_alloc ?_ _) | (with_reducible refine Kd.C_drewN ?_ _) | (with_reducible refine Kd.C_drew ?_))); (case side2 => exact HC1.out); rintro e w8 ⟨rfl, hb⟩; refine ⟨_, rfl, ?_⟩; have n0_ := Aside0.mk (below_step (by repeat (first | (with_reducible first | exact HB.out | apply below_alloc | apply pw_below_drewN | apply below_drew1) | exact HB.out)) hb); clear HB; have HB := n0_; clear n0_; (try clear hb); (try clear hb2); (try clear hk); (try clear hi)))
  go_ret2
  exact ⟨by first | rfl | (simp [errW_none, errW_some] <;> rfl) | (simp [*, errW_none, errW_some] <;> rfl), by repeat (first | (with_reducible first | exact HB.out | apply below_alloc | apply pw_below_drewN | apply below_drew1) | exact HB.out)⟩

end Go.Proofs.YtmocphafkimdpaaDoor.P


/- The numbers of the example that the statements about contributions begin with. -/
namespace Go.Proofs.YtmocphafkimdpaaDoor.P
open Go.RowKit Go.Proofs.YtmocphafkimdpaaDoorW.PrintWords Go.Proofs.YtmocphafkimdpaaDoorW.PrintLast Go.Proofs.YtmocphafkimdpaaDoorW.PrintMore

theorem ex_delta1 : share_Delta.f 30 [⟨5, 9⟩] [z29] = some ([⟨5, 9⟩], 0) := by kernel_rfl
theorem ex_delta2 : share_Delta.f 30 [⟨3, 9⟩] [⟨5, 9⟩] = some ([⟨-2, 0⟩], 0) := by kernel_rfl
theorem ex_post1 : share_Post.f 30 [z29] [⟨5, 9⟩] = some ([⟨5, 9⟩], 0) := by kernel_rfl
theorem ex_post2 : share_Post.f 30 [⟨5, 9⟩] [⟨-2, 0⟩] = some ([⟨3, 9⟩], 0) := by kernel_rfl
theorem ex_cost : share_Cost.f 30 100 [⟨1, 7⟩, ⟨0, 2⟩] = some (109, 0) := by kernel_rfl
theorem ex_text1 : money_Text.f (-2) = some ⟨#[45, 48, 46, 48, 50]⟩ := by
 rw [text_f _ (by omega) (by omega)]
 unfold textOf
 rw [show ((-2 : Int).natAbs / 100) = 0 from rfl, dec_small 0 (by omega)]
 rfl
theorem ex_text0 : money_Text.f 0 = some ⟨#[48, 46, 48, 48]⟩ := by
 rw [text_f _ (by omega) (by omega)]
 unfold textOf
 rw [show ((0 : Int).natAbs / 100) = 0 from rfl, dec_small 0 (by omega)]
 rfl
theorem ex_lines : share_Lines.f 30 [] [⟨⟨#[102, 117, 110, 100]⟩, 0, [], 0, 0, 0⟩] [] 0 0 [⟨-2, 0⟩] = some [⟨#[102, 117, 110, 100, 32, 45, 48, 46, 48, 50, 32, 48, 46, 48, 48]⟩] := by
 unfold share_Lines.f
 rw [if_pos (by decide)]
 unfold share_Lines.l0
 rw [if_pos (by decide), if_pos (by decide), if_pos (by decide), if_pos (by decide), if_pos (by decide)]
 rw [show (rd_T29 [⟨-2, 0⟩] 0).f0 = -2 from rfl, show (rd_T29 [⟨-2, 0⟩] 0).f1 = 0 from rfl, ex_text1, ex_text0, Option.bind_some]
 rw [if_pos (by decide), if_pos (by decide), Option.bind_some, if_pos (by decide), if_pos (by decide)]
 unfold share_Lines.l0
 rw [if_neg (by unfold wrap64; simp)]
 rfl

end Go.Proofs.YtmocphafkimdpaaDoor.P


-- written by a program (a patched copy of the kit's print: wip/mkprint.py); Lean checks it
namespace Go.Proofs.YtmocphafkimdpaaDoor.P
open Go.RowKit Go.Proofs.YtmocphafkimdpaaDoorW.PrintWords Go.Proofs.YtmocphafkimdpaaDoorW.PrintLast Go.Proofs.YtmocphafkimdpaaDoorW.PrintMore
attribute [local go_sem] max2_int min2_int max_two min_two max_three min_three max_four min_four   -- for this text's walks alone
set_option linter.unusedVariables false
set_option linter.unusedSimpArgs false

theorem eqA29 (d : Nat) (w : World) (x0 y0 : Int) (x1 y1 : Int) :
  (Op.equalIn (d + 2) 29 (.agg #[.int .i64 x0, .int .i64 x1]) (.agg #[.int .i64 y0, .int .i64 y1])).run Tryd.prog w = .ok (x0 == y0 && (x1 == y1)) w := by
 refine eqA_of Tryd.underlying29 (by kernel_rfl) ?_
 refine eqf_cons (by rfl) (by go_simp; rfl) (by go_simp; rfl) (by go_simp) ?_
 exact eqf_last (by rfl) (by go_simp; rfl) (by go_simp; rfl) (by go_simp)
end Go.Proofs.YtmocphafkimdpaaDoor.P


-- written by a program (a patched copy of the kit's print: wip/mkprint.py); Lean checks it
namespace Go.Proofs.YtmocphafkimdpaaDoor.P
open Go.RowKit Go.Proofs.YtmocphafkimdpaaDoorW.PrintWords Go.Proofs.YtmocphafkimdpaaDoorW.PrintLast Go.Proofs.YtmocphafkimdpaaDoorW.PrintMore
attribute [local go_sem] max2_int min2_int max_two min_two max_three min_three max_four min_four   -- for this text's walks alone
set_option linter.unusedVariables false
set_option linter.unusedSimpArgs false

theorem eqA48 (d : Nat) (w : World) (x0 y0 : ByteArray) (x1 y1 : Int) (x2 y2 : Int) :
  (Op.equalIn (d + 2) 48 (.agg #[.string x0, .int .i64 x1, .int .i64 x2]) (.agg #[.string y0, .int .i64 y1, .int .i64 y2])).run Tryd.prog w = .ok (x0.toList == y0.toList && (x1 == y1 && (x2 == y2))) w := by
 refine eqA_of Tryd.underlying48 (by kernel_rfl) ?_
 refine eqf_cons (by rfl) (by go_simp; rfl) (by go_simp; rfl) (by go_simp) ?_
 refine eqf_cons (by rfl) (by go_simp; rfl) (by go_simp; rfl) (by go_simp) ?_
 exact eqf_last (by rfl) (by go_simp; rfl) (by go_simp; rfl) (by go_simp)
end Go.Proofs.YtmocphafkimdpaaDoor.P


/- The example that the statements about contributions begin with answers true. -/
namespace Go.Proofs.YtmocphafkimdpaaDoor.P
open Go.RowKit Go.Proofs.YtmocphafkimdpaaDoorW.PrintWords Go.Proofs.YtmocphafkimdpaaDoorW.PrintLast Go.Proofs.YtmocphafkimdpaaDoorW.PrintMore

theorem YearAt.below {W W' : World} {g b : Nat} {v : Value} {row : List S29} {p : Int} (h : YearAt W g b v row p) (hb : Below W.heap.size W W') : YearAt W' g b v row p :=
 ⟨(hb.block g (blk_lt h.1)).trans h.1, Kd.R_below h.2 hb⟩

def cells29 (row : List S29) : List Value := row.flatMap fun x => [.int .i64 x.f0, .int .i64 x.f1]
theorem reps29 (w : World) (b : Nat) (ok : Nat → Prop) (row : List S29) : Reps (Kd.M k29 w b ok) 2 row (cells29 row) := by
 induction row with
 | nil => exact Reps.none _ _
 | cons x l ih =>
  have h1 : Reps (Kd.M k29 w b ok) 2 [x] [.int .i64 x.f0, .int .i64 x.f1] := by
   simpa using (Reps.none (Kd.M k29 w b ok) 2).snoc (k29_mkM w b ok x) rfl
  exact Kd.reps_append h1 ih
theorem lit_R (W : World) (row : List S29) (hl : row.length ≤ 1000) : Kd.R k29 29 (W.alloc (.cells (cells29 row).toArray 29)) W.heap.size (fun _ => True) (.slice (some ⟨W.heap.size, 0, none⟩) row.length row.length) row :=
 row_at (Nat.le_refl _) (heap_alloc_new W _) (reps29 W 0 (fun _ => True) row) (by unfold maxLen; omega)
theorem lit_C (W : World) (row : List S29) (hl : row.length ≤ 1000) : Kd.C k29 (W.alloc (.cells (cells29 row).toArray 29)) (some ⟨W.heap.size, 0, none⟩) row.length row := (Kd.R_reads' (lit_R W row hl)).2.2

theorem form29 {W : World} {b : Nat} {ok : Nat → Prop} {v : Value} {x : S29} (h : Kd.R k29 29 W b ok v [x]) : ∃ g c, v = .slice (some ⟨g, 0, none⟩) 1 c := by
 obtain ⟨g, c, h, _⟩ := Kd.R_form h (by simp)
 exact ⟨g, c, h⟩
theorem cell29 {W : World} {b g c : Nat} {ok : Nat → Prop} {x : S29} (h : Kd.R k29 29 W b ok (.slice (some ⟨g, 0, none⟩) 1 c) [x]) : W.cell? ⟨g, 0, none⟩ = some (.int .i64 x.f0) ∧ W.cell? ⟨g, 1, none⟩ = some (.int .i64 x.f1) := by
 obtain ⟨ad, e, h0, h1⟩ := at_T29 (Kd.R_reads' h).2.2 0 (by decide) (by simp)
 cases e
 simp only [add_plain] at h0 h1
 exact ⟨h0, h1⟩
theorem formS {W : World} {b : Nat} {ok : Nat → Prop} {v : Value} {x : ByteArray} (h : Kd.R Kd.string 9 W b ok v [x]) : ∃ g c, v = .slice (some ⟨g, 0, none⟩) 1 c := by
 obtain ⟨g, c, h, _⟩ := Kd.R_form h (by simp)
 exact ⟨g, c, h⟩
theorem cellS {W : World} {b g c : Nat} {ok : Nat → Prop} {x : ByteArray} (h : Kd.R Kd.string 9 W b ok (.slice (some ⟨g, 0, none⟩) 1 c) [x]) : W.cell? ⟨g, 0, none⟩ = some (.string x) := by
 obtain ⟨ad, e, h0⟩ := Kd.at_string (Kd.R_reads' h).2.2 0 (by decide) (by simp)
 cases e
 simp only [add_plain] at h0
 exact h0

/-- The one contribution of the example's table. -/
def exFund : S97 := ⟨⟨#[102, 117, 110, 100]⟩, 0, [], 0, 0, 0⟩
theorem lit97 (W : World) : Kd.C k97 (W.alloc (.cells #[.string ⟨#[102, 117, 110, 100]⟩, .int .i64 0, .slice none 0 0, .int .i64 0, .int .i64 0, .int .i64 0] 97)) (some ⟨W.heap.size, 0, none⟩) 1 [exFund] := by
 have hr : Reps (Kd.M k97 (W.alloc (.cells #[.string ⟨#[102, 117, 110, 100]⟩, .int .i64 0, .slice none 0 0, .int .i64 0, .int .i64 0, .int .i64 0] 97)) W.heap.size (fun k => True ∧ some k ≠ (Value.slice (some ⟨W.heap.size, 0, none⟩) 1 1).ownBlock)) 6 [exFund] [.string ⟨#[102, 117, 110, 100]⟩, .int .i64 0, .slice none 0 0, .int .i64 0, .int .i64 0, .int .i64 0] := by
  exact (Reps.none (Kd.M k97 _ _ _) 6).snoc (k97_mkM _ W.heap.size (fun k => True ∧ some k ≠ (Value.slice (some ⟨W.heap.size, 0, none⟩) 1 1).ownBlock) exFund (v2 := .slice none 0 0) (Kd.R_nil _ _ _ _ _)) rfl
 have h : Kd.R k97 97 (W.alloc (.cells #[.string ⟨#[102, 117, 110, 100]⟩, .int .i64 0, .slice none 0 0, .int .i64 0, .int .i64 0, .int .i64 0] 97)) W.heap.size (fun _ => True) (.slice (some ⟨W.heap.size, 0, none⟩) 1 1) [exFund] :=
  ⟨fun _ _ => trivial, _, show World.ownsRow _ W.heap.size 97 6 (.slice (some ⟨W.heap.size, 0, none⟩) 1 1) 1 _ from ⟨rfl, .inr ⟨_, 1, _, rfl, Nat.le_refl _, heap_alloc_new W _, Nat.le_refl _, by decide, rfl, rfl⟩⟩, hr⟩
 exact (Kd.R_reads' h).2.2

def stipendlaw16_posts.f : Option Bool := some true

set_option maxHeartbeats 4000000 in
set_option maxRecDepth 100000 in
theorem posts_true (w : World) (hG : GTab w) :
  Calls Tryd.prog 22 #[] w fun e w' => e = .returned (.bool true) ∧ Below w.heap.size w w' := by
 have N := Lib.hid (new_ok 1 w (by omega) (by omega))
 have HG := Lib.hid hG
 clear hG
 go_enter Tryd.func22, Tryd.ntmps22
 go_wp2_with fail
 refine N.out.mono ?_
 rintro e w1 ⟨g, v1, rfl, hg, hy1, hb1⟩
 clear N
 have R1 := Lib.hid (fun (W : World) (h1 : W = w1.alloc (.cells (cells29 [⟨5, 9⟩]).toArray 29)) => by
  subst h1
  exact reach_ok 30 g _ 1 0 v1 [z29] [⟨5, 9⟩] [⟨5, 9⟩] [⟨5, 9⟩] 0 (some ⟨w1.heap.size, 0, none⟩) w _ (below_alloc hb1 _) hg (hy1.below (below_alloc (Below.refl _ _) _)) (lit_C w1 [⟨5, 9⟩] (by decide)) (by decide) ex_delta1 ex_post1 rfl (by decide))
 have HB1 := Lib.hid hb1
 clear hy1 hb1
 go_wp2_with fail
 refine (R1.out _ rfl).mono ?_
 rintro e w2 ⟨va, vr1, rfl, hva, hy2, hk2, hb2⟩
 obtain ⟨ga, ca, rfl⟩ : ∃ g c, va = .slice (some ⟨g, 0, none⟩) 1 c := form29 hva
 clear R1
 have hyb := hy2.below (below_alloc (Below.refl _ (w2)) (.cells (cells29 [⟨3, 9⟩]).toArray 29))
 have HVA2 := Lib.hid (Kd.R_types (Kd.R_alloc hva (.cells (cells29 [⟨3, 9⟩]).toArray 29)) hyb.1 (by decide))
 have R2 := Lib.hid (fun (W : World) (h1 : W = w2.alloc (.cells (cells29 [⟨3, 9⟩]).toArray 29)) => by
  subst h1
  exact reach_ok 30 g _ 1 1 vr1 [⟨5, 9⟩] [⟨3, 9⟩] [⟨-2, 0⟩] [⟨3, 9⟩] (0 + 1) (some ⟨w2.heap.size, 0, none⟩) w _ (below_alloc hb2 _) hg hyb (lit_C w2 [⟨3, 9⟩] (by decide)) (by decide) ex_delta2 ex_post2 (by decide) (by decide))
 have HB2 := Lib.hid hb2
 clear hy2 hb2 hva hk2 hyb
 go_wp2_with fail
 refine (R2.out _ rfl).mono ?_
 rintro e w3 ⟨vb, vr2, rfl, hvb, hy3, hk3, hb3⟩
 obtain ⟨gb, cb, rfl⟩ : ∃ g c, vb = .slice (some ⟨g, 0, none⟩) 1 c := form29 hvb
 clear R2
 have HVA3 := Lib.hid (Kd.R_kept HVA2.out hk3 (fun k hk => hk.2))
 have HVB3 := Lib.hid hvb
 have HY3 := Lib.hid hy3
 have HB3 := Lib.hid hb3
 clear hy3 hb3 hvb hk3 HVA2
 have C1 := Lib.hid (fun (W : World) (h1 : W = w3.alloc (.cells (cells29 [⟨1, 7⟩, ⟨0, 2⟩]).toArray 29)) => by
  subst h1
  exact share_Cost.calls 30 100 (some ⟨w3.heap.size, 0, none⟩) 2 [⟨1, 7⟩, ⟨0, 2⟩] 109 0 _ (lit_C w3 [⟨1, 7⟩, ⟨0, 2⟩] (by decide)) (by decide) ex_cost)
 go_wp2_with fail
 refine (C1.out _ rfl).mono ?_
 rintro e w4 ⟨rfl, hb4⟩
 clear C1
 have bl4 := Lib.hid (below_step (below_alloc (Below.refl w3.heap.size w3) _) hb4)
 clear hb4
 have L1 := Lib.hid (fun (W : World) (h1 : W = w4.alloc (.cells #[.string ⟨#[102, 117, 110, 100]⟩, .int .i64 0, .slice none 0 0, .int .i64 0, .int .i64 0, .int .i64 0] 97)) => by
  subst h1
  have hbW := below_step bl4.out (below_alloc (Below.refl w4.heap.size w4) (.cells #[.string ⟨#[102, 117, 110, 100]⟩, .int .i64 0, .slice none 0 0, .int .i64 0, .int .i64 0, .int .i64 0] 97))
  exact share_Lines.calls 30 none 0 [] (some ⟨w4.heap.size, 0, none⟩) 1 [exFund] none 0 [] 0 0 (some ⟨gb, 0, none⟩) cb [⟨-2, 0⟩] _ _ (Kd.C_nil _ _) (Nat.le_refl _) (lit97 w4) (by decide) (Kd.C_nil _ _) (Nat.le_refl _) (Kd.R_reads' (Kd.R_below HVB3.out hbW)).2.2 (Kd.R_reads' HVB3.out).2.1 ex_lines ((HG.out.below HB3.out).below hbW))
 go_wp2_with fail
 refine (L1.out _ rfl).mono ?_
 rintro e w5 ⟨vl, rfl, hvl, hb5⟩
 obtain ⟨gl, cl, rfl⟩ := formS hvl
 clear L1
 have B35 := Lib.hid (below_step (below_step bl4.out (below_alloc (Below.refl w4.heap.size w4) _)) hb5)
 obtain ⟨a0, a1⟩ := cell29 (Kd.R_below HVA3.out B35.out)
 obtain ⟨b0, b1⟩ := cell29 (Kd.R_below HVB3.out B35.out)
 have HY5 := Lib.hid (HY3.out.below B35.out)
 have HVL := Lib.hid hvl
 clear hb5 hvl bl4
 have hu29 := Tryd.underlying29
 go_wp2_with fail
 refine (posts_any g _ _ _ _ _ HY5.out).mono ?_
 rintro e w' ⟨rfl, rfl⟩
 go_wp2_with fail
 refine (posted_any g _ _ _ _ _ HY5.out (by decide)).mono ?_
 rintro e w6 ⟨vp, rfl, hvp, hb6⟩
 obtain ⟨gp, cp, rfl⟩ := form29 hvp
 have HY6 := Lib.hid (HY5.out.below hb6)
 have HB6 := Lib.hid hb6
 clear hvp hb6 a0 a1 b0 b1
 go_wp2_with fail
 refine (posted_any g _ _ _ _ _ HY6.out (by decide)).mono ?_
 rintro e w7 ⟨vq, rfl, hvq, hb7⟩
 obtain ⟨gq, cq, rfl⟩ := form29 hvq
 obtain ⟨q0, q1⟩ := cell29 hvq
 have l0 := cellS (Kd.R_below (Kd.R_below HVL.out HB6.out) hb7)
 have HB7 := Lib.hid hb7
 clear hvq hb7
 go_wp2_with fail
 go_ret
 exact ⟨rfl, below_step (below_step (below_step HB3.out B35.out) HB6.out) HB7.out⟩

theorem stipendlaw16_posts.calls (r : Bool) (w : World) (h : stipendlaw16_posts.f = some r) (hG : GTab w := by first | exact GTab.below HG.out (by repeat (first | (with_reducible first | exact HB.out | apply below_alloc | apply pw_below_drewN | apply below_drew1 | apply below_drew) | exact HB.out)) | exact HG.out) :
  Calls Tryd.prog 22 #[] w fun e w' => e = .returned (.bool r) ∧ Below w.heap.size w w' := by
 obtain rfl : true = r := Option.some.inj h
 exact posts_true w hG

end Go.Proofs.YtmocphafkimdpaaDoor.P
