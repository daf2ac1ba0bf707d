/- A part of the proof of ElementChecks's card: 'ElementChecks' answers true for every input (the conditions: those of the given statement alone). Merged by a program (wip/merge.py) out of: HElementChange, Pf53. -/
import Derived.Test.YtmocphafkimdpaaDoorMElementChecksa
import Derived.Test.YtmocphafkimdpaaDoorMElementChecksi
import Derived.Test.YtmocphafkimdpaaDoorMElementChecksj

/- ElementChange answers true for every list, kind and amount: the plain law. -/
namespace Go.Proofs.YtmocphafkimdpaaDoor.P
open Go.RowKit Go.Proofs.YtmocphafkimdpaaDoorW.PrintWords Go.Proofs.YtmocphafkimdpaaDoorW.PrintLast Go.Proofs.YtmocphafkimdpaaDoorW.PrintMore
set_option linter.unusedVariables false
set_option linter.unusedSimpArgs false

theorem rd48 {xs : List S48} {i : Nat} {x : S48} (h : xs[i]? = some x) : rd_T48 xs (i : Int) = x := by
  unfold rd_T48
  rw [List.getD_eq_getElem?_getD, Int.toNat_natCast, h]
  rfl
/-- Elements, those of a kind turned to one. -/
def chg (kind : ByteArray) (o : S48) : Bool → List S48 → List S48
  | d, [] => if d = true then [] else [o]
  | d, x :: t => if x.f0.toList = kind.toList then (if d = true then chg kind o d t else o :: chg kind o true t) else x :: chg kind o d t
theorem chg_len (kind : ByteArray) (o : S48) : ∀ (l : List S48) (d : Bool), (chg kind o d l).length ≤ l.length + 1
  | [], d => by simp only [chg]; split <;> simp
  | x :: t, d => by
    simp only [chg]
    have h1 := chg_len kind o t d
    have h2 := chg_len kind o t true
    split
    · split <;> simp <;> omega
    · simp; omega
/-- Those of other kinds. -/
def oth (kind : ByteArray) (l : List S48) : List S48 := l.filter fun x => !(x.f0.toList == kind.toList)
def cnt (kind : ByteArray) (l : List S48) : Nat := l.countP fun x => x.f0.toList == kind.toList
theorem oth_chg (kind : ByteArray) (o : S48) (ho : o.f0.toList = kind.toList) : ∀ (l : List S48) (d : Bool), oth kind (chg kind o d l) = oth kind l
  | [], d => by simp only [chg, oth]; split <;> simp [ho]
  | x :: t, d => by
    have h1 := oth_chg kind o ho t d
    have h2 := oth_chg kind o ho t true
    unfold oth at h1 h2 ⊢
    simp only [chg]
    split
    · rename_i h
      split
      · simp [h, h1]
      · simp [h, ho, h2]
    · rename_i h
      simp [h, h1]
theorem cnt_chg (kind : ByteArray) (o : S48) (ho : o.f0.toList = kind.toList) : ∀ (l : List S48) (d : Bool), cnt kind (chg kind o d l) = if d = true then 0 else 1
  | [], d => by cases d <;> simp [chg, cnt, ho]
  | x :: t, d => by
    have h1 := cnt_chg kind o ho t d
    have h2 := cnt_chg kind o ho t true
    unfold cnt at h1 h2 ⊢
    simp only [chg]
    split
    · rename_i h
      cases d
      · simp [ho, h2]
      · simpa using h1
    · rename_i h
      simp [h, h1]
theorem chg_kind (kind : ByteArray) (o : S48) : ∀ (l : List S48) (d : Bool), ∀ x ∈ chg kind o d l, x.f0.toList = kind.toList → x = o
  | [], d, x, hx, h => by
    simp only [chg] at hx
    split at hx <;> simp at hx
    exact hx
  | y :: t, d, x, hx, h => by
    simp only [chg] at hx
    split at hx
    · split at hx
      · exact chg_kind kind o t _ x hx h
      · rcases List.mem_cons.1 hx with hx | hx
        · exact hx
        · exact chg_kind kind o t _ x hx h
    · rename_i hy
      rcases List.mem_cons.1 hx with hx | hx
      · subst hx; exact absurd h hy
      · exact chg_kind kind o t _ x hx h
theorem chg_true (kind : ByteArray) (o : S48) : ∀ (l : List S48), chg kind o true (chg kind o true l) = chg kind o true l
  | [] => rfl
  | x :: t => by
    by_cases h : x.f0.toList = kind.toList
    · simp only [chg, h, if_true]; exact chg_true kind o t
    · simp only [chg, h, if_false]; rw [chg_true kind o t]
theorem chg_idem (kind : ByteArray) (o : S48) (ho : o.f0.toList = kind.toList) : ∀ (l : List S48) (d : Bool), chg kind o d (chg kind o d l) = chg kind o d l
  | [], d => by cases d <;> simp [chg, ho]
  | x :: t, d => by
    by_cases h : x.f0.toList = kind.toList
    · cases d
      · simp only [chg, h, if_true, ho]
        simp only [Bool.false_eq_true, if_false, chg, ho, if_true]
        rw [chg_true kind o t]
      · simp only [chg, h, if_true]; exact chg_true kind o t
    · simp only [chg, h, if_false]; rw [chg_idem kind o ho t d]

theorem change_l0_ev (kind : ByteArray) (amt : Int) (l : List S48) (hl : l.length ≤ 100) : ∀ (t : List S48) (i : Nat) (d : Bool) (acc : List S48), l.drop i = t → i ≤ l.length → acc.length ≤ i → Ev (fun k => element_Change.l0 k kind amt acc d l (l.length : Int) (i : Int)) (acc ++ chg kind ⟨kind, amt, 100⟩ d t)
  | [], i, d, acc, h, hi, ha => by
    have hi' : l.length ≤ i := by simpa using h
    refine Ev.shift (fun k => by rw [element_Change.l0]) ?_
    refine Ev.neg (by omega) ?_
    cases d with
    | true => exact (Ev.pos rfl Ev.now).res (by simp [chg])
    | false => exact Ev.neg (by decide) (Ev.bindc rfl (Ev.pos (by omega) (Ev.const (by simp [chg]))))
  | x :: t, i, d, acc, h, hi, ha => by
    obtain ⟨h1, h2, h3⟩ := drop_cons_get h
    refine Ev.shift (fun k => by rw [element_Change.l0]) ?_
    refine Ev.pos (by omega) (Ev.pos (by omega) (Ev.pos (by omega) ?_))
    rw [rd48 h1, show wrap64 ((i : Int) + 1) = ((i + 1 : Nat) : Int) by rw [w64 (by omega) (by omega)]; rfl]
    by_cases c : x.f0.toList = kind.toList
    · refine Ev.pos c ?_
      cases d with
      | true =>
        refine Ev.pos rfl ((change_l0_ev kind amt l hl t (i + 1) true acc h2 (by omega) (by omega)).res ?_)
        simp only [chg, c, if_true]
      | false =>
        refine Ev.neg (by decide) (Ev.bindc rfl (Ev.pos (by omega) ((change_l0_ev kind amt l hl t (i + 1) true (acc ++ [⟨kind, amt, 100⟩]) h2 (by omega) (by simp; omega)).res ?_)))
        simp [chg, c]
    · refine Ev.neg c (Ev.pos (by omega) ((change_l0_ev kind amt l hl t (i + 1) d (acc ++ [x]) h2 (by omega) (by simp; omega)).res ?_))
      simp [chg, c]
theorem change_ev (kind : ByteArray) (amt : Int) (l : List S48) (hl : l.length ≤ 100) : Ev (fun k => element_Change.f k kind amt l) (chg kind ⟨kind, amt, 100⟩ (amt == 0) l) := by
  unfold element_Change.f
  exact (change_l0_ev kind amt l hl l 0 (amt == 0) [] rfl (Nat.zero_le _) (by simp)).res (by simp)

theorem eq48 (x : S48) : (!(x.f0.toList == x.f0.toList) || (!(x.f1 == x.f1) || (!(x.f2 == x.f2)))) = false := by simp
theorem same_l0_ev (l : List S48) (hl : l.length ≤ 1000) : ∀ (t : List S48) (i : Nat), l.drop i = t → i ≤ l.length → Ev (fun k => api_Element.l0 k l l (l.length : Int) (i : Int)) true
  | [], i, h, hi => by
    have hi' : l.length ≤ i := by simpa using h
    refine Ev.shift (fun k => by rw [api_Element.l0]) ?_
    exact Ev.neg (by omega) Ev.now
  | x :: t, i, h, hi => by
    obtain ⟨h1, h2, h3⟩ := drop_cons_get h
    refine Ev.shift (fun k => by rw [api_Element.l0]) ?_
    refine Ev.pos (by omega) (Ev.pos (by omega) (Ev.pos (by omega) (Ev.pos (by omega) ?_)))
    rw [rd48 h1, eq48, show wrap64 ((i : Int) + 1) = ((i + 1 : Nat) : Int) by rw [w64 (by omega) (by omega)]; rfl]
    exact Ev.neg (by decide) (same_l0_ev l hl t (i + 1) h2 (by omega))
theorem same_ev (l : List S48) (hl : l.length ≤ 1000) : Ev (fun k => element_Same.f k l l) true := by
  unfold element_Same.f api_Element.f
  exact Ev.bind (Ev.pos rfl (same_l0_ev l hl l 0 rfl (Nat.zero_le _))) Ev.now

theorem change_l1 (kind : ByteArray) (amt : Int) (out l others : List S48) (count : Nat) (hl : l.length ≤ 40) (hol : others.length ≤ 100) (ho : out.length ≤ 50) (hc : count = if (amt == 0) = true then 0 else 1)
    (hi' : chg kind ⟨kind, amt, 100⟩ (amt == 0) out = out) : ∀ (t : List S48) (i n : Nat), l.drop i = t → i ≤ l.length → others.drop n = oth kind t → n ≤ others.length → Ev (fun k => stipendlaw11_ElementChange.l1 k kind amt out others (count : Int) (n : Int) l (l.length : Int) (i : Int)) true
  | [], i, n, h, hi, hn, hn' => by
    have hi2 : l.length ≤ i := by simpa using h
    have hn2 : others.length ≤ n := by
      have : others.drop n = [] := hn
      simpa using this
    refine Ev.shift (fun k => by rw [stipendlaw11_ElementChange.l1]) ?_
    refine Ev.neg (by omega) (Ev.pos (by omega) ?_)
    have hj : Ev (fun k => stipendlaw11_ElementChange.j2 k kind amt out false) true := by
      refine Ev.shift (fun k => by rw [stipendlaw11_ElementChange.j2]) ?_
      refine Ev.neg (by decide) (Ev.bind (change_ev kind amt out (by omega)) ?_)
      rw [hi']
      exact Ev.bind (same_ev out (by omega)) Ev.now
    by_cases c : amt = 0
    · refine Ev.pos c ?_
      have : count = 0 := by rw [hc, if_pos (by simp [c])]
      exact Ev.pos (by omega) hj
    · refine Ev.neg c ?_
      have : count = 1 := by rw [hc, if_neg (by simp [c])]
      rw [this]
      exact hj
  | x :: t, i, n, h, hi, hn, hn' => by
    obtain ⟨h1, h2, h3⟩ := drop_cons_get h
    refine Ev.shift (fun k => by rw [stipendlaw11_ElementChange.l1]) ?_
    refine Ev.pos (by omega) (Ev.pos (by omega) (Ev.pos (by omega) ?_))
    rw [rd48 h1, show wrap64 ((i : Int) + 1) = ((i + 1 : Nat) : Int) by rw [w64 (by omega) (by omega)]; rfl]
    by_cases c : x.f0.toList = kind.toList
    · refine Ev.pos c (change_l1 kind amt out l others count hl hol ho hc hi' t (i + 1) n h2 (by omega) ?_ hn')
      rw [hn]; simp [oth, c]
    · have e : oth kind (x :: t) = x :: oth kind t := by simp [oth, c]
      rw [e] at hn
      obtain ⟨g1, g2, g3⟩ := drop_cons_get hn
      refine Ev.neg c (Ev.neg (by omega) (Ev.pos (by omega) (Ev.pos (by omega) ?_)))
      rw [rd48 g1, eq48, show wrap64 ((n : Int) + 1) = ((n + 1 : Nat) : Int) by rw [w64 (by omega) (by omega)]; rfl]
      exact Ev.neg (by decide) (change_l1 kind amt out l others count hl hol ho hc hi' t (i + 1) (n + 1) h2 (by omega) g2 (by omega))

theorem change_l0_law (kind : ByteArray) (amt : Int) (out l : List S48) (hl : l.length ≤ 40) (ho : out.length ≤ 50) (hk : ∀ x ∈ out, x.f0.toList = kind.toList → x = ⟨kind, amt, 100⟩)
    (hc : cnt kind out = if (amt == 0) = true then 0 else 1) (hoth : oth kind out = oth kind l) (hi' : chg kind ⟨kind, amt, 100⟩ (amt == 0) out = out) :
    ∀ (t : List S48) (i : Nat) (acc : List S48) (n : Nat), out.drop i = t → i ≤ out.length → acc.length ≤ i → n ≤ i → acc ++ oth kind t = oth kind out → n + cnt kind t = cnt kind out →
    Ev (fun k => stipendlaw11_ElementChange.l0 k l kind amt out acc (n : Int) out (out.length : Int) (i : Int)) true
  | [], i, acc, n, h, hi, ha, hn, h1, h2 => by
    have hi2 : out.length ≤ i := by simpa using h
    refine Ev.shift (fun k => by rw [stipendlaw11_ElementChange.l0]) ?_
    have e1 : acc = oth kind l := by rw [← hoth, ← h1]; simp [oth]
    have e2 : n = if (amt == 0) = true then 0 else 1 := by rw [← hc, ← h2]; simp [cnt]
    refine Ev.neg (by omega) ?_
    exact change_l1 kind amt out l acc n hl (by omega) ho e2 hi' l 0 0 rfl (Nat.zero_le _) e1 (Nat.zero_le _)
  | x :: t, i, acc, n, h, hi, ha, hn, h1, h2 => by
    obtain ⟨g1, g2, g3⟩ := drop_cons_get h
    refine Ev.shift (fun k => by rw [stipendlaw11_ElementChange.l0]) ?_
    refine Ev.pos (by omega) (Ev.pos (by omega) (Ev.pos (by omega) ?_))
    rw [rd48 g1, show wrap64 ((i : Int) + 1) = ((i + 1 : Nat) : Int) by rw [w64 (by omega) (by omega)]; rfl]
    by_cases c : x.f0.toList = kind.toList
    · have hx := hk x (List.mem_of_getElem? g1) c
      refine Ev.pos c (Ev.bindc rfl ?_)
      have e : (!(x.f0.toList == kind.toList) || (!(x.f1 == amt) || (!(x.f2 == 100)))) = false := by rw [hx]; simp
      refine Ev.neg (by simp only [e]; decide) ?_
      rw [show wrap64 ((n : Int) + 1) = ((n + 1 : Nat) : Int) by rw [w64 (by omega) (by omega)]; rfl]
      refine change_l0_law kind amt out l hl ho hk hc hoth hi' t (i + 1) acc (n + 1) g2 (by omega) (by omega) (by omega) ?_ ?_
      · rw [← h1]; simp [oth, c]
      · rw [← h2]; simp [cnt, c]; omega
    · refine Ev.neg c (Ev.pos (by omega) ?_)
      refine change_l0_law kind amt out l hl ho hk hc hoth hi' t (i + 1) (acc ++ [x]) n g2 (by omega) (by simp; omega) (by omega) ?_ ?_
      · rw [← h1]; simp [oth, c]
      · rw [← h2]; simp [cnt, c]

theorem elementChange_true (l : List S48) (kind : ByteArray) (amt : Int) (_g : okL ok48 l) (_g1 : kind.size ≤ maxLen) (_g2 : (Lit.int .i64 amt).wf = true) : ∃ k, stipendlaw11_ElementChange.f k l kind amt = some true := by
  apply Ev.get
  unfold stipendlaw11_ElementChange.f
  refine Ev.bindc (a := true) rfl (Ev.pos rfl ?_)
  by_cases c : 40 < l.length
  · exact Ev.pos (by omega) Ev.now
  · refine Ev.neg (by omega) (Ev.bind (change_ev kind amt l (by omega)) ?_)
    have hlen := chg_len kind ⟨kind, amt, 100⟩ l (amt == 0)
    exact change_l0_law kind amt _ l (by omega) (by omega) (chg_kind kind _ l _) (cnt_chg kind _ rfl l _) (oth_chg kind _ rfl l _) (chg_idem kind _ rfl l _) _ 0 [] 0 rfl (Nat.zero_le _) (by simp) (Nat.le_refl _) (by simp) (by simp)
end Go.Proofs.YtmocphafkimdpaaDoor.P


-- written by a program (a patched copy of the kit's print: wip/mkprint.py); Lean checks it
namespace Go.Proofs.YtmocphafkimdpaaDoor.P
open Go.RowKit Go.Proofs.YtmocphafkimdpaaDoorW.PrintWords Go.Proofs.YtmocphafkimdpaaDoorW.PrintLast Go.Proofs.YtmocphafkimdpaaDoorW.PrintMore
attribute [local go_sem] max2_int min2_int max_two min_two max_three min_three max_four min_four   -- for this text's walks alone
set_option linter.unusedVariables false
set_option linter.unusedSimpArgs false

/-! ### table_Kind: function 53 -/
def table_Kind.l0 : Nat → ByteArray → List (S89) → Int → Int → Option (ByteArray × Int × Int × Int × Int)
 | 0, _, _, _, _ => none
 | k + 1, x1, x9, x10, x11 => if x11 < x10 then (if 0 ≤ x11 then (if x11 < (x9.length : Int) then (if ((rd_T89 x9 x11).f0).toList = x1.toList then (some ((rd_T89 x9 x11).f0, (rd_T89 x9 x11).f1, (rd_T89 x9 x11).f2, (rd_T89 x9 x11).f3, 0)) else (table_Kind.l0 k x1 x9 x10 (wrap64 (x11 + 1)))) else (none)) else (none)) else (some ((⟨#[]⟩ : ByteArray), 0, 0, 0, 110))
def table_Kind.f (k : Nat) (l0_0 : List (List (S222))) (l0_1 : List (S97)) (l0_2 : List (S89)) (a0_3 : Int) (a0_4 : Int) (a1 : ByteArray) : Option (ByteArray × Int × Int × Int × Int) := table_Kind.l0 k a1 l0_2 (l0_2.length : Int) 0
theorem table_Kind.mono_l : ∀ k, (∀ y0 y1 y2 y3, LeO (table_Kind.l0 k y0 y1 y2 y3) (table_Kind.l0 (k + 1) y0 y1 y2 y3))
 | 0 => fun _ _ _ _ r h => by simp [table_Kind.l0] at h
 | k + 1 => by
  have ih0 := table_Kind.mono_l k
  ·intro y0 y1 y2 y3
   unfold table_Kind.l0
   repeat' first
   | (with_reducible exact ih0 _ _ _ _)
   | (with_reducible exact LeO.refl _)
   | (with_reducible exact LeO.none _)
   | (with_reducible refine LeO.ite ?_ ?_)
   | (with_reducible refine LeO.bind ?_ (fun _ => ?_))
   | exact ih0 _ _ _ _
   | exact LeO.none _
   | refine LeO.ite ?_ ?_
   | refine LeO.bind ?_ (fun _ => ?_)
theorem table_Kind.mono : ∀ a0 a1 a2 a3 a4 a5 k, LeO (table_Kind.f k a0 a1 a2 a3 a4 a5) (table_Kind.f (k + 1) a0 a1 a2 a3 a4 a5) := by
 intro a0 a1 a2 a3 a4 a5 k
 have ih0 := table_Kind.mono_l k
 unfold table_Kind.f
 repeat' first
   | (with_reducible exact ih0 _ _ _ _)
   | (with_reducible exact LeO.refl _)
   | (with_reducible exact LeO.none _)
   | (with_reducible refine LeO.ite ?_ ?_)
   | (with_reducible refine LeO.bind ?_ (fun _ => ?_))
   | exact ih0 _ _ _ _
   | exact LeO.none _
   | refine LeO.ite ?_ ?_
   | refine LeO.bind ?_ (fun _ => ?_)
set_option maxHeartbeats 8000000 in
set_option maxRecDepth 100000 in
theorem table_Kind.calls (k : Nat) (A0_0 : Option Addr) (c0_0 : Nat) (l0_0 : List (List (S222))) (A0_1 : Option Addr) (c0_1 : Nat) (l0_1 : List (S97)) (A0_2 : Option Addr) (c0_2 : Nat) (l0_2 : List (S89)) (a0_3 : Int) (a0_4 : Int) (a1 : ByteArray) (r1 : ByteArray) (r2 : Int) (r3 : Int) (r4 : Int) (r5 : Int) (w : World) (hr0_0 : Kd.C (Kd.slice 222 k222) w A0_0 l0_0.length l0_0) (hc0_0 : l0_0.length ≤ c0_0) (hr0_1 : Kd.C k97 w A0_1 l0_1.length l0_1) (hc0_1 : l0_1.length ≤ c0_1) (hr0_2 : Kd.C k89 w A0_2 l0_2.length l0_2) (hc0_2 : l0_2.length ≤ c0_2) (h : table_Kind.f k l0_0 l0_1 l0_2 a0_3 a0_4 a1 = some (r1, r2, r3, r4, r5)) :
  Calls Tryd.prog 53 #[.agg #[.slice A0_0 l0_0.length c0_0, .slice A0_1 l0_1.length c0_1, .slice A0_2 l0_2.length c0_2, .int .i64 a0_3, .int .i64 a0_4], .string a1] w fun e w' => e = .returned (.tuple #[.agg #[.string r1, .int .i64 r2, .int .i64 r3, .int .i64 r4], .int .i64 r5]) ∧ Below w.heap.size w w' := by
 have hu86 := Tryd.underlying86
 have hu89 := Tryd.underlying89
 have HR0_0 := Aside0.mk hr0_0
 have HC0_0 := Aside0.mk hc0_0
 clear hr0_0 hc0_0
 have HR0_1 := Aside0.mk hr0_1
 have HC0_1 := Aside0.mk hc0_1
 clear hr0_1 hc0_1
 have HR0_2 := Aside0.mk hr0_2
 have HC0_2 := Aside0.mk hc0_2
 clear hr0_2 hc0_2
 have HB := Aside0.mk (Below.refl w.heap.size w)
 have H : (table_Kind.l0 k a1 l0_2 (l0_2.length : Int) 0) = some (r1, r2, r3, r4, r5) := h
 clear h
 have H' := Aside0.mk H
 clear H
 go_enter Tryd.func53, Tryd.ntmps53
 go_wp2_with (first | ((with_reducible refine gate_dst (N := 2) rfl ?_); refine box_event ?hg (N := 2) ?hd (cs := #[.slice A0_0 l0_0.length c0_0, .slice A0_1 l0_1.length c0_1, .slice A0_2 l0_2.length c0_2, .int .i64 a0_3, .int .i64 a0_4]) (t := 86) ?hr ?_; (case hd => rfl); (case hg => rfl); (case hr => first | (go_simp; done) | (go_simp; rfl)); intro gb473 hg w3 hbox hb; have n0_ := Aside0.mk (below_step (by repeat (first | (with_reducible first | exact HB.out | apply below_alloc | apply pw_below_drewN | apply below_drew1) | exact HB.out)) hb); have n1_ := Aside0.mk (hbox); have n2_ := Aside0.mk ((by rw [hg]; exact (below_size (by repeat (first | (with_reducible first | exact HB.out | apply below_alloc | apply pw_below_drewN | apply below_drew1) | exact HB.out))) : w.heap.size ≤ gb473)); have n3_ := Aside0.mk ((by rw [hg]; exact (below_size (by repeat (first | (with_reducible first | exact HB.out | apply below_alloc | apply pw_below_drewN | apply below_drew1) | exact HB.out))) : w.heap.size ≤ gb473)); clear HB; have HB := n0_; have BK473 := n1_; have GW473 := n2_; have GE473 := n3_; clear n0_ n1_ n2_ n3_; clear hb hbox hg) | ((with_reducible refine gate_dst (N := 4) rfl ?_); refine box_event ?hg (N := 4) ?hd (cs := #[.string (⟨#[]⟩ : ByteArray), .int .i64 0, .int .i64 0, .int .i64 0]) (t := 89) ?hr ?_; (case hd => rfl); (case hg => rfl); (case hr => first | (go_simp; done) | (go_simp; rfl)); intro gb474 hg w4 hbox hb; have n0_ := Aside0.mk (blk_below (g := gb473) (o := .cells #[.slice A0_0 l0_0.length c0_0, .slice A0_1 l0_1.length c0_1, .slice A0_2 l0_2.length c0_2, .int .i64 a0_3, .int .i64 a0_4] 86 (0, 0)) (by (with_reducible repeat (first | refine blk_drewN ?_ _ | refine blk_drew ?_ | refine blk_alloc ?_ _)); exact BK473.out) hb); have n1_ := Aside0.mk (below_step (by repeat (first | (with_reducible first | exact HB.out | apply below_alloc | apply pw_below_drewN | apply below_drew1 | refine below_set ?_ GE473.out) | exact HB.out)) hb); have n2_ := Aside0.mk (hbox); have n3_ := Aside0.mk ((by rw [hg]; exact (below_size (by repeat (first | (with_reducible first | exact HB.out | apply below_alloc | apply pw_below_drewN | apply below_drew1 | refine below_set ?_ GE473.out) | exact HB.out))) : w.heap.size ≤ gb474)); have n4_ := Aside0.mk ((by rw [hg]; exact (below_size (by repeat (first | (with_reducible first | exact HB.out | apply below_alloc | apply pw_below_drewN | apply below_drew1 | refine below_set ?_ GE473.out) | exact HB.out))) : w.heap.size ≤ gb474)); have n5_ := Aside0.mk ((by rw [hg]; exact Nat.ne_of_lt (blk_lt (g := gb473) (o := .cells #[.slice A0_0 l0_0.length c0_0, .slice A0_1 l0_1.length c0_1, .slice A0_2 l0_2.length c0_2, .int .i64 a0_3, .int .i64 a0_4] 86 (0, 0)) (by (with_reducible repeat (first | refine blk_drewN ?_ _ | refine blk_drew ?_ | refine blk_alloc ?_ _)); exact BK473.out)) : gb473 ≠ gb474)); have n6_ := Aside0.mk ((by rw [hg]; exact Nat.ne_of_gt (blk_lt (g := gb473) (o := .cells #[.slice A0_0 l0_0.length c0_0, .slice A0_1 l0_1.length c0_1, .slice A0_2 l0_2.length c0_2, .int .i64 a0_3, .int .i64 a0_4] 86 (0, 0)) (by (with_reducible repeat (first | refine blk_drewN ?_ _ | refine blk_drew ?_ | refine blk_alloc ?_ _)); exact BK473.out)) : gb474 ≠ gb473)); clear BK473; clear HB; have BK473 := n0_; have HB := n1_; have BK474 := n2_; have GW474 := n3_; have GE474 := n4_; have NB473_474 := n5_; have NB474_473 := n6_; clear n0_ n1_ n2_ n3_ n4_ n5_ n6_; clear hb hbox hg; have hnb5 := NB473_474.out; have hnc5 := NB474_473.out; have hcz6_0 : w4.cell? ⟨gb473, 0, none⟩ = some (.slice A0_0 l0_0.length c0_0) := (blk_cell BK473.out 0).trans rfl; have hcz6_1 : w4.cell? ⟨gb473, 1, none⟩ = some (.slice A0_1 l0_1.length c0_1) := (blk_cell BK473.out 1).trans rfl; have hcz6_2 : w4.cell? ⟨gb473, 2, none⟩ = some (.slice A0_2 l0_2.length c0_2) := (blk_cell BK473.out 2).trans rfl; have hcz6_3 : w4.cell? ⟨gb473, 3, none⟩ = some (.int .i64 a0_3) := (blk_cell BK473.out 3).trans rfl; have hcz6_4 : w4.cell? ⟨gb473, 4, none⟩ = some (.int .i64 a0_4) := (blk_cell BK473.out 4).trans rfl; have hfz6_0 := blk_frozen BK473.out 0; have hfz6_1 := blk_frozen BK473.out 1; have hfz6_2 := blk_frozen BK473.out 2; have hfz6_3 := blk_frozen BK473.out 3; have hfz6_4 := blk_frozen BK473.out 4))
 go_loopg [11] k (fun kq v11 w' => ∃ (x11_1 : Int) (x475000_1 : ByteArray) (x475001_1 : Int) (x475002_1 : Int) (x475003_1 : Int), v11 = .int .i64 x11_1 ∧ Aside0 (table_Kind.l0 kq a1 l0_2 (l0_2.length : Int) x11_1 = some (r1, r2, r3, r4, r5)) ∧ Aside0 (kq ≤ k) ∧ Aside0 (w'.heap[gb473]? = some (.cells #[(.slice A0_0 l0_0.length c0_0), (.slice A0_1 l0_1.length c0_1), (.slice A0_2 l0_2.length c0_2), .int .i64 a0_3, .int .i64 a0_4] 86 (0, 0))) ∧ Aside0 (w'.heap[gb474]? = some (.cells #[.string x475000_1, .int .i64 x475001_1, .int .i64 x475002_1, .int .i64 x475003_1] 89 (0, 0))) ∧ Aside0 (Below w.heap.size w w'))
 case atStart => exact ⟨(0), ((⟨#[]⟩ : ByteArray)), (0), (0), (0), (by first | rfl | (simp; done) | (simp [*]; done)), H', ⟨Nat.le_refl _⟩, ⟨by (with_reducible repeat (first | refine blk_drewN ?_ _ | refine blk_drew ?_ | refine blk_alloc ?_ _)); exact BK473.out⟩, ⟨by (with_reducible repeat (first | refine blk_drewN ?_ _ | refine blk_drew ?_ | refine blk_alloc ?_ _)); exact BK474.out⟩, ⟨by repeat (first | (with_reducible first | exact HB.out | apply below_alloc | apply pw_below_drewN | apply below_drew1 | refine below_set ?_ GE473.out | refine below_set ?_ GE474.out) | exact HB.out)⟩⟩
 case round =>
  clear H'
  try clear p2
  try clear c5
  try clear hcz6_0
  try clear hcz6_1
  try clear hcz6_2
  try clear hcz6_3
  try clear hcz6_4
  try clear hfz6_0
  try clear hfz6_1
  try clear hfz6_2
  try clear hfz6_3
  try clear hfz6_4
  obtain ⟨x11_1, x475000_1, x475001_1, x475002_1, x475003_1, rfl, HA, HK1, BK473, BK474, HB⟩ := hrel
  cases gk with
  | zero => exact absurd HA.out (by simp [table_Kind.l0])
  | succ k1 =>
   have H := HA.out
   clear HA
   simp only [table_Kind.l0] at H
   by_cases c7 : x11_1 < (l0_2.length : Int)
   ·rw [if_pos c7] at H
    have c7b0 : decide (x11_1 < (l0_2.length : Int)) = true := decide_eq_true c7
    clear c7
    by_cases c8 : 0 ≤ x11_1
    ·rw [if_pos c8] at H
     have c8b0 : decide (0 ≤ x11_1) = true := decide_eq_true c8
     clear c8
     by_cases c9 : x11_1 < (l0_2.length : Int)
     ·rw [if_pos c9] at H
      have c9b0 : decide (x11_1 < (l0_2.length : Int)) = true := decide_eq_true c9
      clear c9
      by_cases c10 : ((rd_T89 l0_2 x11_1).f0).toList = a1.toList
      ·rw [if_pos c10] at H
       have c10b0 : (((rd_T89 l0_2 x11_1).f0).toList == a1.toList) = true := beq_iff_eq.mpr c10
       have c10b1 : (((rd_T89 l0_2 x11_1).f0).toList != a1.toList) = false := bne_eq_false_iff_eq.mpr c10
       clear c10
       simp only [Option.some.injEq, Prod.mk.injEq] at H
       obtain ⟨rfl, rfl, rfl, rfl, rfl⟩ := H
       have p475 : 0 ≤ (x11_1 : Int) := of_decide_eq_true (by first | (with_reducible assumption) | assumption)
       have q475 : x11_1 < (l0_2.length : Int) := of_decide_eq_true (by first | (with_reducible assumption) | assumption)
       obtain ⟨ad475, e475, hx475_0, hx475_1, hx475_2, hx475_3⟩ := at_T89 HR0_2.out x11_1 p475 q475
       cases e475
       replace hx475_0 := (HB.out.cell (World.block_lt_of_cell? w _ hx475_0)).trans hx475_0
       replace hx475_1 := (HB.out.cell (World.block_lt_of_cell? w _ hx475_1)).trans hx475_1
       replace hx475_2 := (HB.out.cell (World.block_lt_of_cell? w _ hx475_2)).trans hx475_2
       replace hx475_3 := (HB.out.cell (World.block_lt_of_cell? w _ hx475_3)).trans hx475_3
       replace p475 := eq_true p475
       replace q475 := eq_true q475
       go_wp2_with (first | ((with_reducible refine gate_dst (N := 7) rfl ?_); refine box_event ?hg (N := 7) ?hd (cs := #[.string (⟨#[]⟩ : ByteArray), .int .i64 0, .int .i64 0, .int .i64 0]) (t := 89) ?hr ?_; (case hd => rfl); (case hg => rfl); (case hr => first | (go_simp; done) | (go_simp; rfl)); intro gb476 hg w11 hbox hb; have n0_ := Aside0.mk (blk_below (g := gb473) (o := .cells #[.slice A0_0 l0_0.length c0_0, .slice A0_1 l0_1.length c0_1, .slice (some ad475) l0_2.length c0_2, .int .i64 a0_3, .int .i64 a0_4] 86 (0, 0)) (by (with_reducible repeat (first | refine blk_drewN ?_ _ | refine blk_drew ?_ | refine blk_alloc ?_ _)); exact BK473.out) hb); have n1_ := Aside0.mk (blk_below (g := gb474) (o := .cells #[.string x475000_1, .int .i64 x475001_1, .int .i64 x475002_1, .int .i64 x475003_1] 89 (0, 0)) (by (with_reducible repeat (first | refine blk_drewN ?_ _ | refine blk_drew ?_ | refine blk_alloc ?_ _)); exact BK474.out) hb); have n2_ := Aside0.mk (below_step (by repeat (first | (with_reducible first | exact HB.out | apply below_alloc | apply pw_below_drewN | apply below_drew1 | refine below_set ?_ GE473.out | refine below_set ?_ GE474.out) | exact HB.out)) hb); have n3_ := Aside0.mk (hbox); have n4_ := Aside0.mk ((by rw [hg]; exact (below_size (by repeat (first | (with_reducible first | exact HB.out | apply below_alloc | apply pw_below_drewN | apply below_drew1 | refine below_set ?_ GE473.out | refine below_set ?_ GE474.out) | exact HB.out))) : w.heap.size ≤ gb476)); have n5_ := Aside0.mk ((by rw [hg]; exact (below_size (by repeat (first | (with_reducible first | exact HB.out | apply below_alloc | apply pw_below_drewN | apply below_drew1 | refine below_set ?_ GE473.out | refine below_set ?_ GE474.out) | exact HB.out))) : w.heap.size ≤ gb476)); have n6_ := Aside0.mk ((by rw [hg]; exact Nat.ne_of_lt (blk_lt (g := gb473) (o := .cells #[.slice A0_0 l0_0.length c0_0, .slice A0_1 l0_1.length c0_1, .slice (some ad475) l0_2.length c0_2, .int .i64 a0_3, .int .i64 a0_4] 86 (0, 0)) (by (with_reducible repeat (first | refine blk_drewN ?_ _ | refine blk_drew ?_ | refine blk_alloc ?_ _)); exact BK473.out)) : gb473 ≠ gb476)); have n7_ := Aside0.mk ((by rw [hg]; exact Nat.ne_of_gt (blk_lt (g := gb473) (o := .cells #[.slice A0_0 l0_0.length c0_0, .slice A0_1 l0_1.length c0_1, .slice (some ad475) l0_2.length c0_2, .int .i64 a0_3, .int .i64 a0_4] 86 (0, 0)) (by (with_reducible repeat (first | refine blk_drewN ?_ _ | refine blk_drew ?_ | refine blk_alloc ?_ _)); exact BK473.out)) : gb476 ≠ gb473)); have n8_ := Aside0.mk ((by rw [hg]; exact Nat.ne_of_lt (blk_lt (g := gb474) (o := .cells #[.string x475000_1, .int .i64 x475001_1, .int .i64 x475002_1, .int .i64 x475003_1] 89 (0, 0)) (by (with_reducible repeat (first | refine blk_drewN ?_ _ | refine blk_drew ?_ | refine blk_alloc ?_ _)); exact BK474.out)) : gb474 ≠ gb476)); have n9_ := Aside0.mk ((by rw [hg]; exact Nat.ne_of_gt (blk_lt (g := gb474) (o := .cells #[.string x475000_1, .int .i64 x475001_1, .int .i64 x475002_1, .int .i64 x475003_1] 89 (0, 0)) (by (with_reducible repeat (first | refine blk_drewN ?_ _ | refine blk_drew ?_ | refine blk_alloc ?_ _)); exact BK474.out)) : gb476 ≠ gb474)); clear BK473; clear BK474; clear HB; have BK473 := n0_; have BK474 := n1_; have HB := n2_; have BK476 := n3_; have GW476 := n4_; have GE476 := n5_; have NB473_476 := n6_; have NB476_473 := n7_; have NB474_476 := n8_; have NB476_474 := n9_; clear n0_ n1_ n2_ n3_ n4_ n5_ n6_ n7_ n8_ n9_; clear hb hbox hg; have hnb12 := NB476_473.out; have hnc12 := NB473_476.out; have hnb13 := NB476_474.out; have hnc13 := NB474_476.out; have hcz14_0 : w11.cell? ⟨gb476, 0, none⟩ = some (.string (⟨#[]⟩ : ByteArray)) := (blk_cell BK476.out 0).trans rfl; have hcz14_1 : w11.cell? ⟨gb476, 1, none⟩ = some (.int .i64 0) := (blk_cell BK476.out 1).trans rfl; have hcz14_2 : w11.cell? ⟨gb476, 2, none⟩ = some (.int .i64 0) := (blk_cell BK476.out 2).trans rfl; have hcz14_3 : w11.cell? ⟨gb476, 3, none⟩ = some (.int .i64 0) := (blk_cell BK476.out 3).trans rfl; have hfz14_0 := blk_frozen BK476.out 0; have hfz14_1 := blk_frozen BK476.out 1; have hfz14_2 := blk_frozen BK476.out 2; have hfz14_3 := blk_frozen BK476.out 3; have hnb15 := NB474_473.out; have hnc15 := NB473_474.out; have hcz16_0 : w11.cell? ⟨gb474, 0, none⟩ = some (.string x475000_1) := (blk_cell BK474.out 0).trans rfl; have hcz16_1 : w11.cell? ⟨gb474, 1, none⟩ = some (.int .i64 x475001_1) := (blk_cell BK474.out 1).trans rfl; have hcz16_2 : w11.cell? ⟨gb474, 2, none⟩ = some (.int .i64 x475002_1) := (blk_cell BK474.out 2).trans rfl; have hcz16_3 : w11.cell? ⟨gb474, 3, none⟩ = some (.int .i64 x475003_1) := (blk_cell BK474.out 3).trans rfl; have hfz16_0 := blk_frozen BK474.out 0; have hfz16_1 := blk_frozen BK474.out 1; have hfz16_2 := blk_frozen BK474.out 2; have hfz16_3 := blk_frozen BK474.out 3))
       refine bodyPost_ret (results_ct rfl _ _ gb474 89 #[.string ((rd_T89 l0_2 x11_1).f0), .int .i64 ((rd_T89 l0_2 x11_1).f1), .int .i64 ((rd_T89 l0_2 x11_1).f2), .int .i64 ((rd_T89 l0_2 x11_1).f3)] (0, 0) _ rfl (by (with_reducible repeat (first | refine blk_drewN ?_ _ | refine blk_drew ?_ | refine blk_alloc ?_ _)); refine blk_put (cs := #[.string ((rd_T89 l0_2 x11_1).f0), .int .i64 ((rd_T89 l0_2 x11_1).f1), .int .i64 ((rd_T89 l0_2 x11_1).f2), .int .i64 x475003_1]) ?_ 3 _ rfl; (with_reducible repeat (first | refine blk_drewN ?_ _ | refine blk_drew ?_ | refine blk_alloc ?_ _)); refine blk_put (cs := #[.string ((rd_T89 l0_2 x11_1).f0), .int .i64 ((rd_T89 l0_2 x11_1).f1), .int .i64 x475002_1, .int .i64 x475003_1]) ?_ 2 _ rfl; (with_reducible repeat (first | refine blk_drewN ?_ _ | refine blk_drew ?_ | refine blk_alloc ?_ _)); refine blk_put (cs := #[.string ((rd_T89 l0_2 x11_1).f0), .int .i64 x475001_1, .int .i64 x475002_1, .int .i64 x475003_1]) ?_ 1 _ rfl; (with_reducible repeat (first | refine blk_drewN ?_ _ | refine blk_drew ?_ | refine blk_alloc ?_ _)); refine blk_put (cs := #[.string x475000_1, .int .i64 x475001_1, .int .i64 x475002_1, .int .i64 x475003_1]) ?_ 0 _ rfl; (with_reducible repeat (first | refine blk_drewN ?_ _ | refine blk_drew ?_ | refine blk_alloc ?_ _)); refine blk_far ?_ NB474_476.out _; (with_reducible repeat (first | refine blk_drewN ?_ _ | refine blk_drew ?_ | refine blk_alloc ?_ _)); refine blk_far ?_ NB474_476.out _; (with_reducible repeat (first | refine blk_drewN ?_ _ | refine blk_drew ?_ | refine blk_alloc ?_ _)); refine blk_far ?_ NB474_476.out _; (with_reducible repeat (first | refine blk_drewN ?_ _ | refine blk_drew ?_ | refine blk_alloc ?_ _)); refine blk_far ?_ NB474_476.out _; (with_reducible repeat (first | refine blk_drewN ?_ _ | refine blk_drew ?_ | refine blk_alloc ?_ _)); exact BK474.out) Tryd.underlying89 rfl (by kernel_rfl)) rfl ?_
       exact ⟨by first | rfl | (simp [errW_none, errW_some] <;> rfl) | (simp [*, errW_none, errW_some] <;> rfl), by repeat (first | (with_reducible first | exact HB.out | apply below_alloc | apply pw_below_drewN | apply below_drew1 | refine below_set ?_ GE473.out | refine below_set ?_ GE474.out | refine below_set ?_ GE476.out) | exact HB.out)⟩
      ·rw [if_neg c10] at H
       have c10b0 : (((rd_T89 l0_2 x11_1).f0).toList == a1.toList) = false := beq_eq_false_iff_ne.mpr c10
       have c10b1 : (((rd_T89 l0_2 x11_1).f0).toList != a1.toList) = true := bne_iff_ne.mpr c10
       have H' := Aside0.mk H
       clear H
       have p475 : 0 ≤ (x11_1 : Int) := of_decide_eq_true (by first | (with_reducible assumption) | assumption)
       have q475 : x11_1 < (l0_2.length : Int) := of_decide_eq_true (by first | (with_reducible assumption) | assumption)
       obtain ⟨ad475, e475, hx475_0, hx475_1, hx475_2, hx475_3⟩ := at_T89 HR0_2.out x11_1 p475 q475
       cases e475
       replace hx475_0 := (HB.out.cell (World.block_lt_of_cell? w _ hx475_0)).trans hx475_0
       replace hx475_1 := (HB.out.cell (World.block_lt_of_cell? w _ hx475_1)).trans hx475_1
       replace hx475_2 := (HB.out.cell (World.block_lt_of_cell? w _ hx475_2)).trans hx475_2
       replace hx475_3 := (HB.out.cell (World.block_lt_of_cell? w _ hx475_3)).trans hx475_3
       replace p475 := eq_true p475
       replace q475 := eq_true q475
       go_wp2_with (first | ((with_reducible refine gate_dst (N := 7) rfl ?_); refine box_event ?hg (N := 7) ?hd (cs := #[.string (⟨#[]⟩ : ByteArray), .int .i64 0, .int .i64 0, .int .i64 0]) (t := 89) ?hr ?_; (case hd => rfl); (case hg => rfl); (case hr => first | (go_simp; done) | (go_simp; rfl)); intro gb476 hg w17 hbox hb; have n0_ := Aside0.mk (blk_below (g := gb473) (o := .cells #[.slice A0_0 l0_0.length c0_0, .slice A0_1 l0_1.length c0_1, .slice (some ad475) l0_2.length c0_2, .int .i64 a0_3, .int .i64 a0_4] 86 (0, 0)) (by (with_reducible repeat (first | refine blk_drewN ?_ _ | refine blk_drew ?_ | refine blk_alloc ?_ _)); exact BK473.out) hb); have n1_ := Aside0.mk (blk_below (g := gb474) (o := .cells #[.string x475000_1, .int .i64 x475001_1, .int .i64 x475002_1, .int .i64 x475003_1] 89 (0, 0)) (by (with_reducible repeat (first | refine blk_drewN ?_ _ | refine blk_drew ?_ | refine blk_alloc ?_ _)); exact BK474.out) hb); have n2_ := Aside0.mk (below_step (by repeat (first | (with_reducible first | exact HB.out | apply below_alloc | apply pw_below_drewN | apply below_drew1 | refine below_set ?_ GE473.out | refine below_set ?_ GE474.out) | exact HB.out)) hb); have n3_ := Aside0.mk (hbox); have n4_ := Aside0.mk ((by rw [hg]; exact (below_size (by repeat (first | (with_reducible first | exact HB.out | apply below_alloc | apply pw_below_drewN | apply below_drew1 | refine below_set ?_ GE473.out | refine below_set ?_ GE474.out) | exact HB.out))) : w.heap.size ≤ gb476)); have n5_ := Aside0.mk ((by rw [hg]; exact (below_size (by repeat (first | (with_reducible first | exact HB.out | apply below_alloc | apply pw_below_drewN | apply below_drew1 | refine below_set ?_ GE473.out | refine below_set ?_ GE474.out) | exact HB.out))) : w.heap.size ≤ gb476)); have n6_ := Aside0.mk ((by rw [hg]; exact Nat.ne_of_lt (blk_lt (g := gb473) (o := .cells #[.slice A0_0 l0_0.length c0_0, .slice A0_1 l0_1.length c0_1, .slice (some ad475) l0_2.length c0_2, .int .i64 a0_3, .int .i64 a0_4] 86 (0, 0)) (by (with_reducible repeat (first | refine blk_drewN ?_ _ | refine blk_drew ?_ | refine blk_alloc ?_ _)); exact BK473.out)) : gb473 ≠ gb476)); have n7_ := Aside0.mk ((by rw [hg]; exact Nat.ne_of_gt (blk_lt (g := gb473) (o := .cells #[.slice A0_0 l0_0.length c0_0, .slice A0_1 l0_1.length c0_1, .slice (some ad475) l0_2.length c0_2, .int .i64 a0_3, .int .i64 a0_4] 86 (0, 0)) (by (with_reducible repeat (first | refine blk_drewN ?_ _ | refine blk_drew ?_ | refine blk_alloc ?_ _)); exact BK473.out)) : gb476 ≠ gb473)); have n8_ := Aside0.mk ((by rw [hg]; exact Nat.ne_of_lt (blk_lt (g := gb474) (o := .cells #[.string x475000_1, .int .i64 x475001_1, .int .i64 x475002_1, .int .i64 x475003_1] 89 (0, 0)) (by (with_reducible repeat (first | refine blk_drewN ?_ _ | refine blk_drew ?_ | refine blk_alloc ?_ _)); exact BK474.out)) : gb474 ≠ gb476)); have n9_ := Aside0.mk ((by rw [hg]; exact Nat.ne_of_gt (blk_lt (g := gb474) (o := .cells #[.string x475000_1, .int .i64 x475001_1, .int .i64 x475002_1, .int .i64 x475003_1] 89 (0, 0)) (by (with_reducible repeat (first | refine blk_drewN ?_ _ | refine blk_drew ?_ | refine blk_alloc ?_ _)); exact BK474.out)) : gb476 ≠ gb474)); clear BK473; clear BK474; clear HB; have BK473 := n0_; have BK474 := n1_; have HB := n2_; have BK476 := n3_; have GW476 := n4_; have GE476 := n5_; have NB473_476 := n6_; have NB476_473 := n7_; have NB474_476 := n8_; have NB476_474 := n9_; clear n0_ n1_ n2_ n3_ n4_ n5_ n6_ n7_ n8_ n9_; clear hb hbox hg; have hnb18 := NB476_473.out; have hnc18 := NB473_476.out; have hnb19 := NB476_474.out; have hnc19 := NB474_476.out; have hcz20_0 : w17.cell? ⟨gb476, 0, none⟩ = some (.string (⟨#[]⟩ : ByteArray)) := (blk_cell BK476.out 0).trans rfl; have hcz20_1 : w17.cell? ⟨gb476, 1, none⟩ = some (.int .i64 0) := (blk_cell BK476.out 1).trans rfl; have hcz20_2 : w17.cell? ⟨gb476, 2, none⟩ = some (.int .i64 0) := (blk_cell BK476.out 2).trans rfl; have hcz20_3 : w17.cell? ⟨gb476, 3, none⟩ = some (.int .i64 0) := (blk_cell BK476.out 3).trans rfl; have hfz20_0 := blk_frozen BK476.out 0; have hfz20_1 := blk_frozen BK476.out 1; have hfz20_2 := blk_frozen BK476.out 2; have hfz20_3 := blk_frozen BK476.out 3))
       go_roundg k1
       case measure => have := HK1.out; omega
       case rel => exact ⟨(wrap64 (x11_1 + 1)), (x475000_1), (x475001_1), (x475002_1), (x475003_1), (by first | rfl | (simp; done) | (simp [*]; done)), H', ⟨by have := HK1.out; omega⟩, ⟨by (with_reducible repeat (first | refine blk_drewN ?_ _ | refine blk_drew ?_ | refine blk_alloc ?_ _)); refine blk_far ?_ NB473_476.out _; (with_reducible repeat (first | refine blk_drewN ?_ _ | refine blk_drew ?_ | refine blk_alloc ?_ _)); refine blk_far ?_ NB473_476.out _; (with_reducible repeat (first | refine blk_drewN ?_ _ | refine blk_drew ?_ | refine blk_alloc ?_ _)); refine blk_far ?_ NB473_476.out _; (with_reducible repeat (first | refine blk_drewN ?_ _ | refine blk_drew ?_ | refine blk_alloc ?_ _)); refine blk_far ?_ NB473_476.out _; (with_reducible repeat (first | refine blk_drewN ?_ _ | refine blk_drew ?_ | refine blk_alloc ?_ _)); exact BK473.out⟩, ⟨by (with_reducible repeat (first | refine blk_drewN ?_ _ | refine blk_drew ?_ | refine blk_alloc ?_ _)); refine blk_far ?_ NB474_476.out _; (with_reducible repeat (first | refine blk_drewN ?_ _ | refine blk_drew ?_ | refine blk_alloc ?_ _)); refine blk_far ?_ NB474_476.out _; (with_reducible repeat (first | refine blk_drewN ?_ _ | refine blk_drew ?_ | refine blk_alloc ?_ _)); refine blk_far ?_ NB474_476.out _; (with_reducible repeat (first | refine blk_drewN ?_ _ | refine blk_drew ?_ | refine blk_alloc ?_ _)); refine blk_far ?_ NB474_476.out _; (with_reducible repeat (first | refine blk_drewN ?_ _ | refine blk_drew ?_ | refine blk_alloc ?_ _)); exact BK474.out⟩, ⟨by repeat (first | (with_reducible first | exact HB.out | apply below_alloc | apply pw_below_drewN | apply below_drew1 | refine below_set ?_ GE473.out | refine below_set ?_ GE474.out | refine below_set ?_ GE476.out) | exact HB.out)⟩⟩
     ·rw [if_neg c9] at H
      exact absurd H (by simp)
    ·rw [if_neg c8] at H
     exact absurd H (by simp)
   ·rw [if_neg c7] at H
    have c7b0 : decide (x11_1 < (l0_2.length : Int)) = false := decide_eq_false c7
    clear c7
    simp only [Option.some.injEq, Prod.mk.injEq] at H
    obtain ⟨rfl, rfl, rfl, rfl, rfl⟩ := H
    have hnb21 := NB474_473.out
    have hnc21 := NB473_474.out
    have hcz22_0 : wr.cell? ⟨gb474, 0, none⟩ = some (.string x475000_1) := (blk_cell BK474.out 0).trans rfl
    have hcz22_1 : wr.cell? ⟨gb474, 1, none⟩ = some (.int .i64 x475001_1) := (blk_cell BK474.out 1).trans rfl
    have hcz22_2 : wr.cell? ⟨gb474, 2, none⟩ = some (.int .i64 x475002_1) := (blk_cell BK474.out 2).trans rfl
    have hcz22_3 : wr.cell? ⟨gb474, 3, none⟩ = some (.int .i64 x475003_1) := (blk_cell BK474.out 3).trans rfl
    have hfz22_0 := blk_frozen BK474.out 0
    have hfz22_1 := blk_frozen BK474.out 1
    have hfz22_2 := blk_frozen BK474.out 2
    have hfz22_3 := blk_frozen BK474.out 3
    go_wp2
    refine bodyPost_ret (results_ct rfl _ _ gb474 89 #[.string (⟨#[]⟩ : ByteArray), .int .i64 0, .int .i64 0, .int .i64 0] (0, 0) _ rfl (by (with_reducible repeat (first | refine blk_drewN ?_ _ | refine blk_drew ?_ | refine blk_alloc ?_ _)); refine blk_put (cs := #[.string (⟨#[]⟩ : ByteArray), .int .i64 0, .int .i64 0, .int .i64 x475003_1]) ?_ 3 _ rfl; (with_reducible repeat (first | refine blk_drewN ?_ _ | refine blk_drew ?_ | refine blk_alloc ?_ _)); refine blk_put (cs := #[.string (⟨#[]⟩ : ByteArray), .int .i64 0, .int .i64 x475002_1, .int .i64 x475003_1]) ?_ 2 _ rfl; (with_reducible repeat (first | refine blk_drewN ?_ _ | refine blk_drew ?_ | refine blk_alloc ?_ _)); refine blk_put (cs := #[.string (⟨#[]⟩ : ByteArray), .int .i64 x475001_1, .int .i64 x475002_1, .int .i64 x475003_1]) ?_ 1 _ rfl; (with_reducible repeat (first | refine blk_drewN ?_ _ | refine blk_drew ?_ | refine blk_alloc ?_ _)); refine blk_put (cs := #[.string x475000_1, .int .i64 x475001_1, .int .i64 x475002_1, .int .i64 x475003_1]) ?_ 0 _ rfl; (with_reducible repeat (first | refine blk_drewN ?_ _ | refine blk_drew ?_ | refine blk_alloc ?_ _)); exact BK474.out) Tryd.underlying89 rfl (by kernel_rfl)) rfl ?_
    exact ⟨by first | rfl | (simp [errW_none, errW_some] <;> rfl) | (simp [*, errW_none, errW_some] <;> rfl), by repeat (first | (with_reducible first | exact HB.out | apply below_alloc | apply pw_below_drewN | apply below_drew1 | refine below_set ?_ GE473.out | refine below_set ?_ GE474.out) | exact HB.out)⟩

end Go.Proofs.YtmocphafkimdpaaDoor.P
