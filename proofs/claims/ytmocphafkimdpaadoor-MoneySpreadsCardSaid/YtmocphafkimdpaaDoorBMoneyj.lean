/- A part of the proof of the cards of Money..: each of these statements answers true for every input (the conditions: those of the given statements alone). Merged by a program (wip/merge.py) out of: GCounts, GOpen, GAmt, Pf46, GParse, Pf64, Pf59, GMon. -/
import Derived.Test.YtmocphafkimdpaaDoorBMoneya
import Derived.Test.YtmocphafkimdpaaDoorBMoneyi
import Derived.WalkKit
import Derived.ProofKit
import Derived.OpenShut
import Derived.ShutString
import Derived.ChangeOld
import Derived.Deep.Slices
import Derived.Test.YtmocphafkimdpaaDoorBMoneyg
import Derived.Lib.Bytes

/- counts() is true: the example that every law of the amounts asks first. -/
namespace Go.Proofs.YtmocphafkimdpaaDoor.P
open Go.RowKit Go.Proofs.YtmocphafkimdpaaDoorW.PrintWords Go.Proofs.YtmocphafkimdpaaDoorW.PrintLast Go.Proofs.YtmocphafkimdpaaDoorW.PrintMore

theorem cn_add1 : money_Add.f 60 250 (-375) = some (-125, 0) := by kernel_rfl
theorem cn_parse : money_Parse.f 60 (⟨#[45, 49, 46, 50, 53]⟩ : ByteArray) = some (-125, 0) := by kernel_rfl
theorem cn_add2 : money_Add.f 60 100000000000 1 = some (0, 10) := by kernel_rfl
theorem cn_spread : money_Spread.f 60 100 [1, 1, 1] = some ([34, 33, 33], 0) := by kernel_rfl
theorem cn_text : money_Text.f (-125) = some ⟨#[45, 49, 46, 50, 53]⟩ := by
  rw [text_f (-125) (by decide) (by decide)]
  kernel_rfl
theorem counts_f : stipendlaw01_counts.f 60 = some true := by
  unfold stipendlaw01_counts.f
  rw [cn_add1, Option.bind_some, cn_parse, Option.bind_some, cn_add2, Option.bind_some, cn_spread, Option.bind_some, if_pos (by kernel_rfl), if_pos rfl, if_pos rfl, if_pos rfl, cn_text, Option.bind_some]
  kernel_rfl
theorem counts_ev : Ev (fun k => stipendlaw01_counts.f k) true := Ev.of_mono stipendlaw01_counts.mono counts_f
end Go.Proofs.YtmocphafkimdpaaDoor.P


/- A datum that is read as an argument is a value of its kind: the printed contracts' own readings, out of a row's premises. -/
namespace Go.Proofs.YtmocphafkimdpaaDoor.P
open Go.RowKit Go.Proofs.YtmocphafkimdpaaDoorW.PrintWords Go.Proofs.YtmocphafkimdpaaDoorW.PrintLast Go.Proofs.YtmocphafkimdpaaDoorW.PrintMore

/-- Every reading at type T is a value of kind d that keeps G. -/
def Opens (P : Program) (T : TypeId) {α : Type} (d : Kd α) (G : α → Prop) : Prop :=
  ∀ (H : Type) (enc : TypeId × Value → H) (w : World) (base : Nat) (spare : Nat → Bool) (held : Bool) (fuel : Nat) (cs : List Value) (x : DataW H × List MemPlace),
    DataW.trod enc P w base spare held fuel T cs = some x → ∃ a, d.K w a cs ∧ G a

/-- .. the fields of a struct, from offset off on (n cells in all). -/
def OpensF (P : Program) (n : Nat) (fs : List Field) (off : Nat) {α : Type} (d : Kd α) (G : α → Prop) : Prop :=
  ∀ (H : Type) (enc : TypeId × Value → H) (w : World) (base : Nat) (spare : Nat → Bool) (held : Bool) (fuel : Nat) (cs : List Value), cs.length = n →
    (∀ f, f ∈ fs → ∃ y, DataW.trod enc P w base spare held fuel f.type ((cs.drop f.offset).take (P.cellsOf f.type)) = some y) → ∃ a, d.K w a (cs.drop off) ∧ G a

theorem opens_int {P : Program} {T : TypeId} {k : IntKind} (ht : P.underlying T = some (.int k)) : Opens P T (Kd.int k) (fun n => (Lit.int k n).wf = true) := by
  intro H enc w base spare held fuel cs x h
  obtain ⟨n, rfl, _, hw⟩ := DataW.trod_int ht h
  exact ⟨n, rfl, hw⟩

theorem opens_string {P : Program} {T : TypeId} (ht : P.underlying T = some .string) : Opens P T Kd.string (fun s => s.size ≤ maxLen) := by
  intro H enc w base spare held fuel cs x h
  cases fuel with
  | zero => simp [DataW.trod] at h
  | succ n =>
    unfold DataW.trod at h
    rw [ht] at h
    split at h <;> simp_all
    rename_i s
    exact ⟨s, rfl, h.1⟩

theorem opens_iso {P : Program} {T : TypeId} {α β : Type} {d : Kd α} {G : α → Prop} (h : Opens P T d G) (f : β → α) (g : α → β) (hfg : ∀ a, f (g a) = a) : Opens P T (Kd.iso d f) (fun b => G (f b)) := by
  intro H enc w base spare held fuel cs x hx
  obtain ⟨a, ha, hg⟩ := h H enc w base spare held fuel cs x hx
  exact ⟨g a, by show d.K w (f (g a)) cs; rw [hfg]; exact ha, by show G (f (g a)); rw [hfg]; exact hg⟩

theorem opensF_one {P : Program} {n : Nat} {f : Field} {α : Type} {d : Kd α} {G : α → Prop} (off : Nat) (h : Opens P f.type d G) (ho : f.offset = off) (hn : off + P.cellsOf f.type = n) : OpensF P n [f] off d G := by
  intro H enc w base spare held fuel cs hl hf
  subst ho
  obtain ⟨y, hy⟩ := hf f (by simp)
  have e : (cs.drop f.offset).take (P.cellsOf f.type) = cs.drop f.offset := List.take_of_length_le (by rw [List.length_drop]; omega)
  rw [e] at hy
  exact h H enc w base spare held fuel _ _ hy

theorem opensF_cons {P : Program} {n off : Nat} {f : Field} {fs : List Field} {α β : Type} {d : Kd α} {d' : Kd β} {G : α → Prop} {G' : β → Prop} (off' : Nat) (h : Opens P f.type d G) (ho : f.offset = off) (he : off + P.cellsOf f.type = off') (hs : OpensF P n fs off' d' G') :
    OpensF P n (f :: fs) off (Kd.pair d d') (fun x => G x.1 ∧ G' x.2) := by
  intro H enc w base spare held fuel cs hl hf
  subst ho he
  obtain ⟨y, hy⟩ := hf f (by simp)
  obtain ⟨a, ha, hg⟩ := h H enc w base spare held fuel _ _ hy
  obtain ⟨b, hb, hg'⟩ := hs H enc w base spare held fuel cs hl (fun f' hf' => hf f' (List.mem_cons_of_mem _ hf'))
  refine ⟨(a, b), ⟨_, _, ?_, ha, hb⟩, hg, hg'⟩
  rw [← List.drop_drop, List.take_append_drop]

theorem opens_struct {P : Program} {T : TypeId} {fs : Array Field} {α : Type} {d : Kd α} {G : α → Prop} (ht : P.underlying T = some (.struct fs)) (h : OpensF P (P.cellsOf T) fs.toList 0 d G) : Opens P T d G := by
  intro H enc w base spare held fuel cs x hx
  obtain ⟨xs, n, _, _, hl, hlen, hf⟩ := DataW.trod_struct ht hx
  obtain ⟨a, ha, hg⟩ := h H enc w base spare held n cs hl (fun f hf' => by
    obtain ⟨i, hi⟩ := List.mem_iff_getElem?.1 hf'
    have h1 := hf i f (by simpa using hi)
    have hlt : i < xs.length := by
      have h2 : i < fs.toList.length := by
        obtain ⟨h3, _⟩ := List.getElem?_eq_some_iff.1 hi
        exact h3
      simp at h2
      omega
    rw [List.getElem?_eq_getElem hlt] at h1
    exact ⟨_, h1⟩)
  exact ⟨a, by simpa using ha, hg⟩

theorem gather {β : Type} {p : Nat → β → Prop} : ∀ {n : Nat}, (∀ i, i < n → ∃ x, p i x) → ∃ q : List β, q.length = n ∧ ∀ i x, q[i]? = some x → p i x
  | 0, _ => ⟨[], rfl, fun i p h => by simp at h⟩
  | n + 1, hall => by
    obtain ⟨q, hq, hp⟩ := gather (n := n) (p := p) (fun i hi => hall i (by omega))
    obtain ⟨x, hx⟩ := hall n (by omega)
    refine ⟨q ++ [x], by simp [hq], fun i p' h => ?_⟩
    rw [List.getElem?_append] at h
    split at h
    · exact hp i p' h
    · rename_i hge
      rcases Nat.eq_or_lt_of_le (Nat.le_of_not_lt hge) with h3 | h3
      · subst h3
        simp at h
        subst h
        rw [hq]
        exact hx
      · rw [List.getElem?_eq_none (by simp; omega)] at h
        cases h

theorem opens_slice {P : Program} {T e : TypeId} {α : Type} {d : Kd α} {G : α → Prop} (ht : P.underlying T = some (.slice e)) (he : Opens P e d G) (hc : P.cellsOf e = d.sz) :
    Opens P T (Kd.slice e d) (fun l => l.length ≤ maxLen ∧ ∀ x ∈ l, G x) := by
  intro H enc w base spare held fuel cs x hx
  rcases Go.Deep.open_slice ht hx with ⟨rfl, _⟩ | ⟨a, len, cap, m, n, D, Pl, rfl, hb, hl, hm, hmm, _, hi⟩
  · exact ⟨[], ⟨none, 0, rfl, Nat.le_refl _, rfl, by simp, fun h => absurd h (by simp)⟩, by simp, by simp⟩
  · have hle : len ≤ m := by rw [hmm]; split <;> omega
    have hall : ∀ i, i < len → ∃ p : α × List Value, w.cells? base (a.add (i * P.cellsOf e)) (P.cellsOf e) = some p.2 ∧ d.K w p.1 p.2 ∧ G p.1 := fun i hlt => by
      obtain ⟨cs', h1, h2⟩ := hi i (by omega)
      obtain ⟨y, hy, hg⟩ := he H enc w base spare held n cs' _ h2
      exact ⟨(y, cs'), h1, hy, hg⟩
    have hex := gather (n := len) (p := fun i (p : α × List Value) => w.cells? base (a.add (i * P.cellsOf e)) (P.cellsOf e) = some p.2 ∧ d.K w p.1 p.2 ∧ G p.1) hall
    obtain ⟨q, hq, hp⟩ := hex
    refine ⟨q.map (·.1), ⟨some a, cap, by simp [hq], by simp [hq]; exact hl, rfl, ?_, fun _ => ⟨a, rfl, fun j p hj => ?_⟩⟩, by simp [hq]; exact Nat.le_trans hl hm, ?_⟩
    · simp [hq]
      have : maxLen = 9223372036854775807 := by decide
      omega
    · rw [List.getElem?_map, Option.map_eq_some_iff] at hj
      obtain ⟨p', hj, rfl⟩ := hj
      obtain ⟨h1, h2, h3⟩ := hp j p' hj
      obtain ⟨_, hlen, hcell⟩ := World.cells?_some h1
      refine ⟨p'.2, d.K_len h2, h2, fun i u hu => ?_⟩
      have hilt : i < P.cellsOf e := by
        obtain ⟨h4, _⟩ := List.getElem?_eq_some_iff.1 hu
        omega
      have := hcell i hilt
      rw [hu, Go.Deep.add_add, hc] at this
      exact this
    · intro y hy
      obtain ⟨p, hpm, rfl⟩ := List.mem_map.1 hy
      obtain ⟨i, hi⟩ := List.mem_iff_getElem?.1 hpm
      exact (hp i p hi).2.2

/-! the kinds of this seat's arguments -/
theorem oc2 : Tryd.prog.cellsOf 2 = 1 := by kernel_rfl
theorem oc3 : Tryd.prog.cellsOf 3 = 1 := by kernel_rfl
theorem oc9 : Tryd.prog.cellsOf 9 = 1 := by kernel_rfl
theorem oc23 : Tryd.prog.cellsOf 23 = 1 := by kernel_rfl
theorem oc29 : Tryd.prog.cellsOf 29 = 2 := by kernel_rfl
theorem oc48 : Tryd.prog.cellsOf 48 = 3 := by kernel_rfl
theorem oc82 : Tryd.prog.cellsOf 82 = 1 := by kernel_rfl
theorem oc83 : Tryd.prog.cellsOf 83 = 1 := by kernel_rfl
theorem oc84 : Tryd.prog.cellsOf 84 = 1 := by kernel_rfl
theorem oc86 : Tryd.prog.cellsOf 86 = 5 := by kernel_rfl
theorem oc89 : Tryd.prog.cellsOf 89 = 4 := by kernel_rfl
theorem oc95 : Tryd.prog.cellsOf 95 = 1 := by kernel_rfl
theorem oc97 : Tryd.prog.cellsOf 97 = 6 := by kernel_rfl
theorem oc222 : Tryd.prog.cellsOf 222 = 3 := by kernel_rfl

theorem o2 : Opens Tryd.prog 2 (Kd.int .i64) (fun n => (Lit.int .i64 n).wf = true) := opens_int Tryd.underlying2
theorem o3 : Opens Tryd.prog 3 (Kd.int .i64) (fun n => (Lit.int .i64 n).wf = true) := opens_int Tryd.underlying3
theorem o9 : Opens Tryd.prog 9 Kd.string (fun s => s.size ≤ maxLen) := opens_string Tryd.underlying9
def okI (n : Int) : Prop := (Lit.int .i64 n).wf = true
def okS (s : ByteArray) : Prop := s.size ≤ maxLen
def okL {α : Type} (g : α → Prop) (l : List α) : Prop := l.length ≤ maxLen ∧ ∀ x ∈ l, g x
def ok29 (x : S29) : Prop := okI x.f0 ∧ okI x.f1
theorem o29 : Opens Tryd.prog 29 k29 ok29 :=
  opens_iso (opens_struct Tryd.underlying29 (opensF_cons 1 o2 rfl (by kernel_rfl) (opensF_one 1 o2 rfl (by kernel_rfl)))) _ (fun a => ⟨a.1, a.2⟩) (fun _ => rfl)
theorem o23 : Opens Tryd.prog 23 (Kd.slice 29 k29) (okL ok29) := opens_slice Tryd.underlying23 o29 oc29
theorem o32 : Opens Tryd.prog 32 (Kd.slice 23 (Kd.slice 29 k29)) (okL (okL ok29)) := opens_slice Tryd.underlying32 o23 oc23
def ok48 (x : S48) : Prop := okS x.f0 ∧ okI x.f1 ∧ okI x.f2
theorem o48 : Opens Tryd.prog 48 k48 ok48 :=
  opens_iso (opens_struct Tryd.underlying48 (opensF_cons 1 o9 rfl (by kernel_rfl) (opensF_cons 2 o2 rfl (by kernel_rfl) (opensF_one 2 o2 rfl (by kernel_rfl))))) _ (fun a => ⟨a.1, a.2.1, a.2.2⟩) (fun _ => rfl)
theorem o71 : Opens Tryd.prog 71 (Kd.slice 48 k48) (okL ok48) := opens_slice Tryd.underlying71 o48 oc48
theorem o52 : Opens Tryd.prog 52 (Kd.slice 3 (Kd.int .i64)) (okL okI) := opens_slice Tryd.underlying52 o3 oc3
theorem o56 : Opens Tryd.prog 56 (Kd.slice 2 (Kd.int .i64)) (okL okI) := opens_slice Tryd.underlying56 o2 oc2
theorem o65 : Opens Tryd.prog 65 (Kd.slice 9 Kd.string) (okL okS) := opens_slice Tryd.underlying65 o9 oc9
def ok222 (x : S222) : Prop := okI x.f0 ∧ okI x.f1 ∧ okI x.f2
theorem o222 : Opens Tryd.prog 222 k222 ok222 :=
  opens_iso (opens_struct Tryd.underlying222 (opensF_cons 1 o2 rfl (by kernel_rfl) (opensF_cons 2 o3 rfl (by kernel_rfl) (opensF_one 2 o3 rfl (by kernel_rfl))))) _ (fun a => ⟨a.1, a.2.1, a.2.2⟩) (fun _ => rfl)
theorem o95 : Opens Tryd.prog 95 (Kd.slice 222 k222) (okL ok222) := opens_slice Tryd.underlying95 o222 oc222
theorem o82 : Opens Tryd.prog 82 (Kd.slice 95 (Kd.slice 222 k222)) (okL (okL ok222)) := opens_slice Tryd.underlying82 o95 oc95
def ok97 (x : S97) : Prop := okS x.f0 ∧ okI x.f1 ∧ okL ok222 x.f2 ∧ okI x.f3 ∧ okI x.f4 ∧ okI x.f5
theorem o97 : Opens Tryd.prog 97 k97 ok97 :=
  opens_iso (opens_struct Tryd.underlying97 (opensF_cons 1 o9 rfl (by kernel_rfl) (opensF_cons 2 o3 rfl (by kernel_rfl) (opensF_cons 3 o95 rfl (by kernel_rfl) (opensF_cons 4 o2 rfl (by kernel_rfl) (opensF_cons 5 o2 rfl (by kernel_rfl) (opensF_one 5 o3 rfl (by kernel_rfl)))))))) _ (fun a => ⟨a.1, a.2.1, a.2.2.1, a.2.2.2.1, a.2.2.2.2.1, a.2.2.2.2.2⟩) (fun _ => rfl)
theorem o83 : Opens Tryd.prog 83 (Kd.slice 97 k97) (okL ok97) := opens_slice Tryd.underlying83 o97 oc97
def ok89 (x : S89) : Prop := okS x.f0 ∧ okI x.f1 ∧ okI x.f2 ∧ okI x.f3
theorem o89 : Opens Tryd.prog 89 k89 ok89 :=
  opens_iso (opens_struct Tryd.underlying89 (opensF_cons 1 o9 rfl (by kernel_rfl) (opensF_cons 2 o3 rfl (by kernel_rfl) (opensF_cons 3 o3 rfl (by kernel_rfl) (opensF_one 3 o3 rfl (by kernel_rfl)))))) _ (fun a => ⟨a.1, a.2.1, a.2.2.1, a.2.2.2⟩) (fun _ => rfl)
theorem o84 : Opens Tryd.prog 84 (Kd.slice 89 k89) (okL ok89) := opens_slice Tryd.underlying84 o89 oc89
/-- A table's cells, side by side. -/
def ok86 (x : List (List S222) × List S97 × List S89 × Int × Int) : Prop := okL (okL ok222) x.1 ∧ okL ok97 x.2.1 ∧ okL ok89 x.2.2.1 ∧ okI x.2.2.2.1 ∧ okI x.2.2.2.2
def k86 : Kd (List (List S222) × List S97 × List S89 × Int × Int) := Kd.pair (Kd.slice 95 (Kd.slice 222 k222)) (Kd.pair (Kd.slice 97 k97) (Kd.pair (Kd.slice 89 k89) (Kd.pair (Kd.int .i64) (Kd.int .i64))))
set_option maxRecDepth 20000 in
theorem o86 : Opens Tryd.prog 86 k86 ok86 :=
  opens_struct Tryd.underlying86 (opensF_cons 1 o82 rfl (by kernel_rfl) (opensF_cons 2 o83 rfl (by kernel_rfl) (opensF_cons 3 o84 rfl (by kernel_rfl) (opensF_cons 4 o3 rfl (by kernel_rfl) (opensF_one 4 o3 rfl (by kernel_rfl))))))

theorem slice_of {P : Program} {T e : TypeId} (ht : P.underlying T = some (.slice e)) {w : World} {r : Reach} {b0 : Nat} {v : Value} (hv : Value.okWide P w r b0 T v) : ∃ A n c, v = .slice A n c := by
  exact Go.WideShapes.okWide_slice ht hv
/-- An argument that is a slice. -/
theorem open_row {P : Program} {T e : TypeId} {α : Type} {d : Kd α} {G : α → Prop} (ht : P.underlying T = some (.slice e)) (ho : Opens P T (Kd.slice e d) (okL G)) {H : Type} {enc : TypeId × Value → H} {w : World} {base b0 : Nat} {spare : Nat → Bool} {held : Bool} {r : Reach} {v : Value} {x : DataW H} {ps : List MemPlace}
    (hv : Value.okWide P w r b0 T v) (h : DataW.Trod enc P w base spare held T v x ps) : ∃ A c l, v = .slice A l.length c ∧ l.length ≤ c ∧ Kd.C d w A l.length l ∧ okL G l := by
  obtain ⟨a, len, cap, rfl⟩ := slice_of ht hv
  obtain ⟨fuel, hf⟩ := h
  obtain ⟨l, ⟨A, c, e1, hl, hC⟩, hg⟩ := ho H enc w base spare held fuel _ _ hf
  simp [Value.cells] at e1
  obtain ⟨rfl, rfl, rfl⟩ := e1
  exact ⟨a, cap, l, rfl, hl, hC, hg⟩
theorem trod_below {P : Program} {H : Type} {enc : TypeId × Value → H} {w : World} {base : Nat} {spare : Nat → Bool} {held : Bool} {T : TypeId} {v : Value} {x : DataW H} {ps : List MemPlace} (h : DataW.Trod enc P w base spare held T v x ps) : ∀ p ∈ ps, p.block < w.heap.size := by
  obtain ⟨m, hm⟩ := h
  exact DataW.trod_lt m _ _ _ hm
end Go.Proofs.YtmocphafkimdpaaDoor.P


/- Amounts: may they be, and two together, in plain words. -/
namespace Go.Proofs.YtmocphafkimdpaaDoor.P
open Go.RowKit Go.Proofs.YtmocphafkimdpaaDoorW.PrintWords Go.Proofs.YtmocphafkimdpaaDoorW.PrintLast Go.Proofs.YtmocphafkimdpaaDoorW.PrintMore

def okAmt (x : Int) : Bool := decide (-100000000000 ≤ x) && decide (x ≤ 100000000000)
theorem okAmt_iff (x : Int) : okAmt x = true ↔ -100000000000 ≤ x ∧ x ≤ 100000000000 := by simp [okAmt]

/-- money.Right: a list's amounts may all be. -/
theorem right_l0 (l : List Int) (hl : l.length < 1000) : ∀ (d i k : Nat), i + d = l.length → d < k → money_Right.l0 k l (l.length : Int) i = some ((l.drop i).all okAmt) := by
  intro d
  induction d with
  | zero =>
    intro i k hi hk
    obtain ⟨k, rfl⟩ : ∃ m, k = m + 1 := ⟨k - 1, by omega⟩
    simp only [money_Right.l0]
    rw [if_neg (by omega), List.drop_of_length_le (by omega)]
    rfl
  | succ d ih =>
    intro i k hi hk
    obtain ⟨k, rfl⟩ : ∃ m, k = m + 1 := ⟨k - 1, by omega⟩
    simp only [money_Right.l0]
    have hlt : i < l.length := by omega
    have hrd : rd l (i : Int) = l[i] := by simp [rd, hlt]
    have hw : wrap64 ((i : Int) + 1) = ((i + 1 : Nat) : Int) := by unfold wrap64; omega
    rw [if_pos (by omega), if_pos (by omega), if_pos (by omega), hrd, hw, List.drop_eq_getElem_cons hlt, List.all_cons]
    by_cases h1 : l[i] > 100000000000
    · rw [if_pos h1]
      have : okAmt l[i] = false := by simp [okAmt]; omega
      rw [this]; rfl
    · rw [if_neg h1]
      by_cases h2 : l[i] < -100000000000
      · rw [if_pos h2]
        have : okAmt l[i] = false := by simp [okAmt]; omega
        rw [this]; rfl
      · rw [if_neg h2, ih (i + 1) k (by omega) (by omega)]
        have : okAmt l[i] = true := by simp [okAmt]; omega
        rw [this]; rfl
theorem right_f (l : List Int) (hl : l.length < 1000) : money_Right.f 1001 l = some (l.all okAmt) := by
  unfold money_Right.f
  have := right_l0 l hl l.length 0 1001 (by omega) (by omega)
  simpa using this

theorem mright_ev (l : List Int) (hl : l.length < 1000) : Ev (fun k => money_Right.f k l) (l.all okAmt) := Ev.of_mono (money_Right.mono _) (right_f l hl)
theorem madd_ev (a b : Int) : Ev (fun k => money_Add.f k a b) (if (okAmt a && okAmt b && okAmt (a + b)) = true then (a + b, 0) else (0, 10)) := by
  unfold money_Add.f
  refine Ev.bind (mright_ev [a, b] (by simp)) ?_
  by_cases c : okAmt a = true ∧ okAmt b = true
  · obtain ⟨ha, hb⟩ := c
    have ha' := (okAmt_iff a).1 ha
    have hb' := (okAmt_iff b).1 hb
    refine Ev.pos (by simp [ha, hb]) ?_
    rw [w64 (x := a + b) (by omega) (by omega)]
    refine Ev.bind (a := if okAmt (a + b) = true then (a + b, 0) else (0, 10)) ?_ (Ev.const (by rw [ha, hb]; rfl))
    unfold money_check.f
    refine Ev.bind (mright_ev [a + b] (by simp)) ?_
    by_cases c : okAmt (a + b) = true
    · rw [if_pos c]
      exact Ev.pos (by simp [c]) Ev.now
    · rw [if_neg c]
      exact Ev.neg (by simp [c]) Ev.now
  · have : (okAmt a && okAmt b) = false := by
      rw [Bool.eq_false_iff]
      intro h
      exact c (Bool.and_eq_true_iff.1 h)
    refine Ev.neg (by simpa using this) ?_
    rw [this]
    exact Ev.now
theorem madd_ok (a b : Int) (ha : okAmt a = true) (hb : okAmt b = true) (hs : okAmt (a + b) = true) : Ev (fun k => money_Add.f k a b) (a + b, 0) := by
  have := madd_ev a b
  rwa [if_pos (by simp [ha, hb, hs])] at this
theorem madd_no (a b : Int) (h : ¬(okAmt a = true ∧ okAmt b = true ∧ okAmt (a + b) = true)) : Ev (fun k => money_Add.f k a b) (0, 10) := by
  have := madd_ev a b
  rwa [if_neg (by simp only [Bool.and_eq_true]; exact fun ⟨⟨a, b⟩, c⟩ => h ⟨a, b, c⟩)] at this

theorem add0 (a : Int) (ha : okAmt a = true) : Ev (fun k => money_Add.f k 0 a) (a, 0) := by
  have := madd_ok 0 a (by decide) ha (by rwa [Int.zero_add])
  rwa [Int.zero_add] at this
theorem add0_no (a : Int) (ha : ¬okAmt a = true) : Ev (fun k => money_Add.f k 0 a) (0, 10) := madd_no 0 a (fun h => ha h.2.1)
end Go.Proofs.YtmocphafkimdpaaDoor.P


-- written by a program (a patched copy of the kit's print: wip/mkprint.py); Lean checks it
namespace Go.Proofs.YtmocphafkimdpaaDoor.P
open Go.RowKit Go.Proofs.YtmocphafkimdpaaDoorW.PrintWords Go.Proofs.YtmocphafkimdpaaDoorW.PrintLast Go.Proofs.YtmocphafkimdpaaDoorW.PrintMore
attribute [local go_sem] max2_int min2_int max_two min_two max_three min_three max_four min_four   -- for this text's walks alone
set_option linter.unusedVariables false
set_option linter.unusedSimpArgs false

/-! ### word_Name: function 46 -/
mutual
def word_Name.j0 : Nat → ByteArray → Bool → Option (Bool)
 | 0, _, _ => none
 | k + 1, x0, x12 => if x12 = true then (some false) else (word_Name.l0 k x0 (x0.size : Int) 0)
def word_Name.l0 : Nat → ByteArray → Int → Int → Option (Bool)
 | 0, _, _, _ => none
 | k + 1, x0, x14, x15 => if x15 < x14 then (if 0 ≤ x15 then (if x15 < (x0.size : Int) then (if (bt x0 x15) ≥ 97 then (if ((bt x0 x15) ≤ 122) then (word_Name.l0 k x0 x14 (wrap64 (x15 + 1))) else (if x15 = 0 then (some false) else (if (bt x0 x15) < 48 then (if (bt x0 x15) = 45 then (word_Name.l0 k x0 x14 (wrap64 (x15 + 1))) else (some false)) else (if (bt x0 x15) > 57 then (if (bt x0 x15) = 45 then (word_Name.l0 k x0 x14 (wrap64 (x15 + 1))) else (some false)) else (word_Name.l0 k x0 x14 (wrap64 (x15 + 1))))))) else (if x15 = 0 then (some false) else (if (bt x0 x15) < 48 then (if (bt x0 x15) = 45 then (word_Name.l0 k x0 x14 (wrap64 (x15 + 1))) else (some false)) else (if (bt x0 x15) > 57 then (if (bt x0 x15) = 45 then (word_Name.l0 k x0 x14 (wrap64 (x15 + 1))) else (some false)) else (word_Name.l0 k x0 x14 (wrap64 (x15 + 1))))))) else (none)) else (none)) else (some true)
end
def word_Name.f (k : Nat) (a0 : ByteArray) : Option (Bool) := if a0.toList = ([] : List UInt8) then (word_Name.j0 k a0 true) else (word_Name.j0 k a0 (decide ((a0.size : Int) > 16)))
theorem word_Name.mono_l : ∀ k, (∀ y0 y1, LeO (word_Name.j0 k y0 y1) (word_Name.j0 (k + 1) y0 y1)) ∧ (∀ y0 y1 y2, LeO (word_Name.l0 k y0 y1 y2) (word_Name.l0 (k + 1) y0 y1 y2))
 | 0 => ⟨fun _ _ r h => by simp [word_Name.j0] at h, fun _ _ _ r h => by simp [word_Name.l0] at h⟩
 | k + 1 => by
  obtain ⟨ih0, ih1⟩ := word_Name.mono_l k
  refine ⟨?_, ?_⟩
  ·intro y0 y1
   unfold word_Name.j0
   repeat' first
   | (with_reducible exact ih0 _ _)
   | (with_reducible exact ih1 _ _ _)
   | (with_reducible exact LeO.refl _)
   | (with_reducible exact LeO.none _)
   | (with_reducible refine LeO.ite ?_ ?_)
   | (with_reducible refine LeO.bind ?_ (fun _ => ?_))
   | exact ih0 _ _
   | exact ih1 _ _ _
   | exact LeO.none _
   | refine LeO.ite ?_ ?_
   | refine LeO.bind ?_ (fun _ => ?_)
  ·intro y0 y1 y2
   unfold word_Name.l0
   repeat' first
   | (with_reducible exact ih0 _ _)
   | (with_reducible exact ih1 _ _ _)
   | (with_reducible exact LeO.refl _)
   | (with_reducible exact LeO.none _)
   | (with_reducible refine LeO.ite ?_ ?_)
   | (with_reducible refine LeO.bind ?_ (fun _ => ?_))
   | exact ih0 _ _
   | exact ih1 _ _ _
   | exact LeO.none _
   | refine LeO.ite ?_ ?_
   | refine LeO.bind ?_ (fun _ => ?_)
theorem word_Name.mono : ∀ a0 k, LeO (word_Name.f k a0) (word_Name.f (k + 1) a0) := by
 intro a0 k
 obtain ⟨ih0, ih1⟩ := word_Name.mono_l k
 unfold word_Name.f
 repeat' first
   | (with_reducible exact ih0 _ _)
   | (with_reducible exact ih1 _ _ _)
   | (with_reducible exact LeO.refl _)
   | (with_reducible exact LeO.none _)
   | (with_reducible refine LeO.ite ?_ ?_)
   | (with_reducible refine LeO.bind ?_ (fun _ => ?_))
   | exact ih0 _ _
   | exact ih1 _ _ _
   | exact LeO.none _
   | refine LeO.ite ?_ ?_
   | refine LeO.bind ?_ (fun _ => ?_)
set_option maxHeartbeats 8000000 in
set_option maxRecDepth 100000 in
theorem word_Name.calls (k : Nat) (a0 : ByteArray) (r : Bool) (w : World) (h : word_Name.f k a0 = some r) :
  Calls Tryd.prog 46 #[.string a0] w fun e w' => e = .returned (.bool r) ∧ Drawn0 w w' := by
 have H : (if a0.toList = ([] : List UInt8) then (word_Name.j0 k a0 true) else (word_Name.j0 k a0 (decide ((a0.size : Int) > 16)))) = some r := h
 clear h
 have HC2 := Aside0.mk H
 clear H
 go_enter Tryd.func46, Tryd.ntmps46
 go_upto_region 1 with (fail)
 go_cut [12] (fun v12 wc => ∃ (kq : Nat) (x12_1 : Bool), v12 = .bool x12_1 ∧ Aside0 (word_Name.j0 kq a0 x12_1 = some r) ∧ Aside0 (kq ≤ k) ∧ Drawn0 w wc)
 case first =>
  have H := HC2.out
  clear HC2
  by_cases c3 : a0.toList = ([] : List UInt8)
  ·rw [if_pos c3] at H
   have c3b0 : (a0.toList == ([] : List UInt8)) = true := beq_iff_eq.mpr c3
   have c3b1 : (a0.toList != ([] : List UInt8)) = false := bne_eq_false_iff_eq.mpr c3
   clear c3
   (first | rw [c3b0] | (simp only [i64_w, i32_w]; rw [c3b0]) | skip)
   have H' := Aside0.mk H
   clear H
   go_wp2
   go_meet
   case rel => exact ⟨_, (true), (by first | rfl | (simp; done) | (simp [*]; done)), H', ⟨by first | omega | exact Nat.le_refl _⟩, by repeat (first | exact Drawn0.refl _ | apply Drawn0.step)⟩
  ·rw [if_neg c3] at H
   have c3b0 : (a0.toList == ([] : List UInt8)) = false := beq_eq_false_iff_ne.mpr c3
   have c3b1 : (a0.toList != ([] : List UInt8)) = true := bne_iff_ne.mpr c3
   (first | rw [c3b0] | (simp only [i64_w, i32_w]; rw [c3b0]) | skip)
   have H' := Aside0.mk H
   clear H
   go_wp2
   go_meet
   case rel => exact ⟨_, (decide ((a0.size : Int) > 16)), (by first | rfl | (simp; done) | (simp [*]; done)), H', ⟨by first | omega | exact Nat.le_refl _⟩, by repeat (first | exact Drawn0.refl _ | apply Drawn0.step)⟩
 case rest =>
  clear HC2
  try clear p2
  try clear c3
  try clear c3b0
  try clear c3b1
  obtain ⟨kq, x12_1, rfl, HA, HJ1, ⟨mc1, rfl⟩⟩ := hcut
  cases kq with
  | zero => exact absurd HA.out (by simp [word_Name.j0])
  | succ kj1 =>
   have H := HA.out
   clear HA
   simp only [word_Name.j0] at H
   by_cases c4 : x12_1 = true
   ·subst c4
    have H1 : (some false) = some r := by rw [if_pos rfl] at H; exact H
    clear H
    have H := H1
    clear H1
    obtain rfl := Option.some.inj H
    go_wp2
    go_ret
    exact ⟨by first | rfl | (simp; done) | (simp [*]; done), by repeat (first | exact Drawn0.refl _ | apply Drawn0.step)⟩
   ·replace c4 := Bool.eq_false_iff.mpr c4
    subst c4
    have H1 : (word_Name.l0 kj1 a0 (a0.size : Int) 0) = some r := by rw [if_neg (show ¬ (false = true) by decide)] at H; exact H
    clear H
    have H := H1
    clear H1
    have H' := Aside0.mk H
    clear H
    go_wp2
    go_loopg [15] kj1 (fun kq v15 w' => ∃ (x15_2 : Int), v15 = .int .i64 x15_2 ∧ Aside0 (word_Name.l0 kq a0 (a0.size : Int) x15_2 = some r) ∧ Aside0 (kq ≤ kj1) ∧ Drawn0 w w')
    case atStart => exact ⟨(0), (by first | rfl | (simp; done) | (simp [*]; done)), H', ⟨Nat.le_refl _⟩, by repeat (first | exact Drawn0.refl _ | apply Drawn0.step)⟩
    case round =>
     clear H'
     try clear c1
     try clear p2
     try clear c3
     try clear c3b0
     try clear c3b1
     try clear c4
     try clear p2
     obtain ⟨x15_2, rfl, HA, HK2, ⟨m2, rfl⟩⟩ := hrel
     cases gk with
     | zero => exact absurd HA.out (by simp [word_Name.l0])
     | succ k2 =>
      have H := HA.out
      clear HA
      simp only [word_Name.l0] at H
      by_cases c5 : x15_2 < (a0.size : Int)
      ·rw [if_pos c5] at H
       have c5b0 : decide (x15_2 < (a0.size : Int)) = true := decide_eq_true c5
       clear c5
       by_cases c6 : 0 ≤ x15_2
       ·rw [if_pos c6] at H
        have c6b0 : decide (0 ≤ x15_2) = true := decide_eq_true c6
        clear c6
        by_cases c7 : x15_2 < (a0.size : Int)
        ·rw [if_pos c7] at H
         have c7b0 : decide (x15_2 < (a0.size : Int)) = true := decide_eq_true c7
         clear c7
         by_cases c9 : (bt a0 x15_2) ≥ 97
         ·rw [if_pos c9] at H
          have c9b0 : decide (97 ≤ (bt a0 x15_2)) = true := decide_eq_true c9
          clear c9
          by_cases c10 : ((bt a0 x15_2) ≤ 122)
          ·rw [if_pos c10] at H
           have c10b0 : decide ((bt a0 x15_2) ≤ 122) = true := decide_eq_true c10
           clear c10
           have H' := Aside0.mk H
           clear H
           have p8 : 0 ≤ (x15_2 : Int) := of_decide_eq_true (by first | (with_reducible assumption) | assumption)
           have q8 : x15_2 < (a0.size : Int) := of_decide_eq_true (by first | (with_reducible assumption) | assumption)
           have hx8 := bt_at a0 x15_2
           replace p8 := eq_true p8
           replace q8 := eq_true q8
           go_wp2
           go_roundg k2
           case measure => have := HJ1.out; have := HK2.out; omega
           case rel => exact ⟨(wrap64 (x15_2 + 1)), (by first | rfl | (simp; done) | (simp [*]; done)), H', ⟨by have := HJ1.out; have := HK2.out; omega⟩, by repeat (first | exact Drawn0.refl _ | apply Drawn0.step)⟩
          ·rw [if_neg c10] at H
           have c10b0 : decide ((bt a0 x15_2) ≤ 122) = false := decide_eq_false c10
           clear c10
           by_cases c11 : x15_2 = 0
           ·rw [if_pos c11] at H
            have c11b0 : (x15_2 == 0) = true := beq_iff_eq.mpr c11
            have c11b1 : (x15_2 != 0) = false := bne_eq_false_iff_eq.mpr c11
            clear c11
            obtain rfl := Option.some.inj H
            have p8 : 0 ≤ (x15_2 : Int) := of_decide_eq_true (by first | (with_reducible assumption) | assumption)
            have q8 : x15_2 < (a0.size : Int) := of_decide_eq_true (by first | (with_reducible assumption) | assumption)
            have hx8 := bt_at a0 x15_2
            replace p8 := eq_true p8
            replace q8 := eq_true q8
            go_wp2
            go_ret
            exact ⟨by first | rfl | (simp; done) | (simp [*]; done), by repeat (first | exact Drawn0.refl _ | apply Drawn0.step)⟩
           ·rw [if_neg c11] at H
            have c11b0 : (x15_2 == 0) = false := beq_eq_false_iff_ne.mpr c11
            have c11b1 : (x15_2 != 0) = true := bne_iff_ne.mpr c11
            by_cases c12 : (bt a0 x15_2) < 48
            ·rw [if_pos c12] at H
             have c12b0 : decide ((bt a0 x15_2) < 48) = true := decide_eq_true c12
             clear c12
             by_cases c13 : (bt a0 x15_2) = 45
             ·rw [if_pos c13] at H
              have c13b0 : ((bt a0 x15_2) == 45) = true := beq_iff_eq.mpr c13
              have c13b1 : ((bt a0 x15_2) != 45) = false := bne_eq_false_iff_eq.mpr c13
              clear c13
              have H' := Aside0.mk H
              clear H
              have p8 : 0 ≤ (x15_2 : Int) := of_decide_eq_true (by first | (with_reducible assumption) | assumption)
              have q8 : x15_2 < (a0.size : Int) := of_decide_eq_true (by first | (with_reducible assumption) | assumption)
              have hx8 := bt_at a0 x15_2
              replace p8 := eq_true p8
              replace q8 := eq_true q8
              go_wp2
              go_roundg k2
              case measure => have := HJ1.out; have := HK2.out; omega
              case rel => exact ⟨(wrap64 (x15_2 + 1)), (by first | rfl | (simp; done) | (simp [*]; done)), H', ⟨by have := HJ1.out; have := HK2.out; omega⟩, by repeat (first | exact Drawn0.refl _ | apply Drawn0.step)⟩
             ·rw [if_neg c13] at H
              have c13b0 : ((bt a0 x15_2) == 45) = false := beq_eq_false_iff_ne.mpr c13
              have c13b1 : ((bt a0 x15_2) != 45) = true := bne_iff_ne.mpr c13
              obtain rfl := Option.some.inj H
              have p8 : 0 ≤ (x15_2 : Int) := of_decide_eq_true (by first | (with_reducible assumption) | assumption)
              have q8 : x15_2 < (a0.size : Int) := of_decide_eq_true (by first | (with_reducible assumption) | assumption)
              have hx8 := bt_at a0 x15_2
              replace p8 := eq_true p8
              replace q8 := eq_true q8
              go_wp2
              go_ret
              exact ⟨by first | rfl | (simp; done) | (simp [*]; done), by repeat (first | exact Drawn0.refl _ | apply Drawn0.step)⟩
            ·rw [if_neg c12] at H
             have c12b0 : decide ((bt a0 x15_2) < 48) = false := decide_eq_false c12
             clear c12
             by_cases c14 : (bt a0 x15_2) > 57
             ·rw [if_pos c14] at H
              have c14b0 : decide (57 < (bt a0 x15_2)) = true := decide_eq_true c14
              clear c14
              by_cases c15 : (bt a0 x15_2) = 45
              ·rw [if_pos c15] at H
               have c15b0 : ((bt a0 x15_2) == 45) = true := beq_iff_eq.mpr c15
               have c15b1 : ((bt a0 x15_2) != 45) = false := bne_eq_false_iff_eq.mpr c15
               clear c15
               have H' := Aside0.mk H
               clear H
               have p8 : 0 ≤ (x15_2 : Int) := of_decide_eq_true (by first | (with_reducible assumption) | assumption)
               have q8 : x15_2 < (a0.size : Int) := of_decide_eq_true (by first | (with_reducible assumption) | assumption)
               have hx8 := bt_at a0 x15_2
               replace p8 := eq_true p8
               replace q8 := eq_true q8
               go_wp2
               go_roundg k2
               case measure => have := HJ1.out; have := HK2.out; omega
               case rel => exact ⟨(wrap64 (x15_2 + 1)), (by first | rfl | (simp; done) | (simp [*]; done)), H', ⟨by have := HJ1.out; have := HK2.out; omega⟩, by repeat (first | exact Drawn0.refl _ | apply Drawn0.step)⟩
              ·rw [if_neg c15] at H
               have c15b0 : ((bt a0 x15_2) == 45) = false := beq_eq_false_iff_ne.mpr c15
               have c15b1 : ((bt a0 x15_2) != 45) = true := bne_iff_ne.mpr c15
               obtain rfl := Option.some.inj H
               have p8 : 0 ≤ (x15_2 : Int) := of_decide_eq_true (by first | (with_reducible assumption) | assumption)
               have q8 : x15_2 < (a0.size : Int) := of_decide_eq_true (by first | (with_reducible assumption) | assumption)
               have hx8 := bt_at a0 x15_2
               replace p8 := eq_true p8
               replace q8 := eq_true q8
               go_wp2
               go_ret
               exact ⟨by first | rfl | (simp; done) | (simp [*]; done), by repeat (first | exact Drawn0.refl _ | apply Drawn0.step)⟩
             ·rw [if_neg c14] at H
              have c14b0 : decide (57 < (bt a0 x15_2)) = false := decide_eq_false c14
              clear c14
              have H' := Aside0.mk H
              clear H
              have p8 : 0 ≤ (x15_2 : Int) := of_decide_eq_true (by first | (with_reducible assumption) | assumption)
              have q8 : x15_2 < (a0.size : Int) := of_decide_eq_true (by first | (with_reducible assumption) | assumption)
              have hx8 := bt_at a0 x15_2
              replace p8 := eq_true p8
              replace q8 := eq_true q8
              go_wp2
              go_roundg k2
              case measure => have := HJ1.out; have := HK2.out; omega
              case rel => exact ⟨(wrap64 (x15_2 + 1)), (by first | rfl | (simp; done) | (simp [*]; done)), H', ⟨by have := HJ1.out; have := HK2.out; omega⟩, by repeat (first | exact Drawn0.refl _ | apply Drawn0.step)⟩
         ·rw [if_neg c9] at H
          have c9b0 : decide (97 ≤ (bt a0 x15_2)) = false := decide_eq_false c9
          clear c9
          by_cases c16 : x15_2 = 0
          ·rw [if_pos c16] at H
           have c16b0 : (x15_2 == 0) = true := beq_iff_eq.mpr c16
           have c16b1 : (x15_2 != 0) = false := bne_eq_false_iff_eq.mpr c16
           clear c16
           obtain rfl := Option.some.inj H
           have p8 : 0 ≤ (x15_2 : Int) := of_decide_eq_true (by first | (with_reducible assumption) | assumption)
           have q8 : x15_2 < (a0.size : Int) := of_decide_eq_true (by first | (with_reducible assumption) | assumption)
           have hx8 := bt_at a0 x15_2
           replace p8 := eq_true p8
           replace q8 := eq_true q8
           go_wp2
           go_ret
           exact ⟨by first | rfl | (simp; done) | (simp [*]; done), by repeat (first | exact Drawn0.refl _ | apply Drawn0.step)⟩
          ·rw [if_neg c16] at H
           have c16b0 : (x15_2 == 0) = false := beq_eq_false_iff_ne.mpr c16
           have c16b1 : (x15_2 != 0) = true := bne_iff_ne.mpr c16
           by_cases c17 : (bt a0 x15_2) < 48
           ·rw [if_pos c17] at H
            have c17b0 : decide ((bt a0 x15_2) < 48) = true := decide_eq_true c17
            clear c17
            by_cases c18 : (bt a0 x15_2) = 45
            ·rw [if_pos c18] at H
             have c18b0 : ((bt a0 x15_2) == 45) = true := beq_iff_eq.mpr c18
             have c18b1 : ((bt a0 x15_2) != 45) = false := bne_eq_false_iff_eq.mpr c18
             clear c18
             have H' := Aside0.mk H
             clear H
             have p8 : 0 ≤ (x15_2 : Int) := of_decide_eq_true (by first | (with_reducible assumption) | assumption)
             have q8 : x15_2 < (a0.size : Int) := of_decide_eq_true (by first | (with_reducible assumption) | assumption)
             have hx8 := bt_at a0 x15_2
             replace p8 := eq_true p8
             replace q8 := eq_true q8
             go_wp2
             go_roundg k2
             case measure => have := HJ1.out; have := HK2.out; omega
             case rel => exact ⟨(wrap64 (x15_2 + 1)), (by first | rfl | (simp; done) | (simp [*]; done)), H', ⟨by have := HJ1.out; have := HK2.out; omega⟩, by repeat (first | exact Drawn0.refl _ | apply Drawn0.step)⟩
            ·rw [if_neg c18] at H
             have c18b0 : ((bt a0 x15_2) == 45) = false := beq_eq_false_iff_ne.mpr c18
             have c18b1 : ((bt a0 x15_2) != 45) = true := bne_iff_ne.mpr c18
             obtain rfl := Option.some.inj H
             have p8 : 0 ≤ (x15_2 : Int) := of_decide_eq_true (by first | (with_reducible assumption) | assumption)
             have q8 : x15_2 < (a0.size : Int) := of_decide_eq_true (by first | (with_reducible assumption) | assumption)
             have hx8 := bt_at a0 x15_2
             replace p8 := eq_true p8
             replace q8 := eq_true q8
             go_wp2
             go_ret
             exact ⟨by first | rfl | (simp; done) | (simp [*]; done), by repeat (first | exact Drawn0.refl _ | apply Drawn0.step)⟩
           ·rw [if_neg c17] at H
            have c17b0 : decide ((bt a0 x15_2) < 48) = false := decide_eq_false c17
            clear c17
            by_cases c19 : (bt a0 x15_2) > 57
            ·rw [if_pos c19] at H
             have c19b0 : decide (57 < (bt a0 x15_2)) = true := decide_eq_true c19
             clear c19
             by_cases c20 : (bt a0 x15_2) = 45
             ·rw [if_pos c20] at H
              have c20b0 : ((bt a0 x15_2) == 45) = true := beq_iff_eq.mpr c20
              have c20b1 : ((bt a0 x15_2) != 45) = false := bne_eq_false_iff_eq.mpr c20
              clear c20
              have H' := Aside0.mk H
              clear H
              have p8 : 0 ≤ (x15_2 : Int) := of_decide_eq_true (by first | (with_reducible assumption) | assumption)
              have q8 : x15_2 < (a0.size : Int) := of_decide_eq_true (by first | (with_reducible assumption) | assumption)
              have hx8 := bt_at a0 x15_2
              replace p8 := eq_true p8
              replace q8 := eq_true q8
              go_wp2
              go_roundg k2
              case measure => have := HJ1.out; have := HK2.out; omega
              case rel => exact ⟨(wrap64 (x15_2 + 1)), (by first | rfl | (simp; done) | (simp [*]; done)), H', ⟨by have := HJ1.out; have := HK2.out; omega⟩, by repeat (first | exact Drawn0.refl _ | apply Drawn0.step)⟩
             ·rw [if_neg c20] at H
              have c20b0 : ((bt a0 x15_2) == 45) = false := beq_eq_false_iff_ne.mpr c20
              have c20b1 : ((bt a0 x15_2) != 45) = true := bne_iff_ne.mpr c20
              obtain rfl := Option.some.inj H
              have p8 : 0 ≤ (x15_2 : Int) := of_decide_eq_true (by first | (with_reducible assumption) | assumption)
              have q8 : x15_2 < (a0.size : Int) := of_decide_eq_true (by first | (with_reducible assumption) | assumption)
              have hx8 := bt_at a0 x15_2
              replace p8 := eq_true p8
              replace q8 := eq_true q8
              go_wp2
              go_ret
              exact ⟨by first | rfl | (simp; done) | (simp [*]; done), by repeat (first | exact Drawn0.refl _ | apply Drawn0.step)⟩
            ·rw [if_neg c19] at H
             have c19b0 : decide (57 < (bt a0 x15_2)) = false := decide_eq_false c19
             clear c19
             have H' := Aside0.mk H
             clear H
             have p8 : 0 ≤ (x15_2 : Int) := of_decide_eq_true (by first | (with_reducible assumption) | assumption)
             have q8 : x15_2 < (a0.size : Int) := of_decide_eq_true (by first | (with_reducible assumption) | assumption)
             have hx8 := bt_at a0 x15_2
             replace p8 := eq_true p8
             replace q8 := eq_true q8
             go_wp2
             go_roundg k2
             case measure => have := HJ1.out; have := HK2.out; omega
             case rel => exact ⟨(wrap64 (x15_2 + 1)), (by first | rfl | (simp; done) | (simp [*]; done)), H', ⟨by have := HJ1.out; have := HK2.out; omega⟩, by repeat (first | exact Drawn0.refl _ | apply Drawn0.step)⟩
        ·rw [if_neg c7] at H
         exact absurd H (by simp)
       ·rw [if_neg c6] at H
        exact absurd H (by simp)
      ·rw [if_neg c5] at H
       have c5b0 : decide (x15_2 < (a0.size : Int)) = false := decide_eq_false c5
       clear c5
       obtain rfl := Option.some.inj H
       go_wp2
       go_ret
       exact ⟨by first | rfl | (simp; done) | (simp [*]; done), by repeat (first | exact Drawn0.refl _ | apply Drawn0.step)⟩

end Go.Proofs.YtmocphafkimdpaaDoor.P


/- money.Parse and word.Name, told of lists of bytes. -/
namespace Go.Proofs.YtmocphafkimdpaaDoor.P
open Go.RowKit Go.Proofs.YtmocphafkimdpaaDoorW.PrintWords Go.Proofs.YtmocphafkimdpaaDoorW.PrintLast Go.Proofs.YtmocphafkimdpaaDoorW.PrintMore
set_option linter.unusedVariables false

abbrev bs (l : List UInt8) : ByteArray := ⟨l.toArray⟩
theorem bs_size (l : List UInt8) : (bs l).size = l.length := by simp [ByteArray.size]
theorem bs_toList (l : List UInt8) : (bs l).toList = l := by rw [Lib.toList_data]
theorem bs_eta (s : ByteArray) : bs s.toList = s := by
  rw [Lib.toList_data]
theorem bs_bt (l : List UInt8) (i : Nat) {c : UInt8} (h : l[i]? = some c) : bt (bs l) (i : Int) = (c.toNat : Int) := by
  obtain ⟨h1, h2⟩ := List.getElem?_eq_some_iff.1 h
  unfold bt
  rw [dif_pos (by rw [Int.toNat_natCast, bs_size]; exact h1)]
  congr 1
  subst h2
  simp [ByteArray.getElem_eq_getElem_data]
theorem bs_extract (l : List UInt8) (a b : Nat) : (bs l).extract a b = bs ((l.take b).drop a) := by
  apply ByteArray.ext
  simp [List.drop_take]

def dig (c : UInt8) : Bool := decide (48 ≤ c.toNat) && decide (c.toNat ≤ 57)
theorem dig_iff (c : UInt8) : dig c = true ↔ 48 ≤ c.toNat ∧ c.toNat ≤ 57 := by simp [dig]
theorem digit_f (c : UInt8) : money_digit.f (c.toNat : Int) = some (dig c) := by
  unfold money_digit.f dig
  by_cases h : 48 ≤ c.toNat
  · rw [if_pos (by omega)]
    congr 1
    simp only [h, decide_true, Bool.true_and, decide_eq_decide]
    omega
  · rw [if_neg (by omega)]
    simp [h]
/-- The number that digits write, behind n. -/
def valFrom (n : Nat) : List UInt8 → Nat
  | [] => n
  | c :: t => valFrom (10 * n + (c.toNat - 48)) t
def wholeOk (l : List UInt8) : Bool := match l with
  | [] => false
  | [_] => true
  | c :: _ => c.toNat != 48

theorem whole_end (n : Nat) (l : List UInt8) : Ev (fun (_ : Nat) => if l = ([] : List UInt8) then (some ((n : Int), false)) else (if (l.length : Int) = 1 then (some ((n : Int), true)) else (if 0 < (l.length : Int) then (some ((n : Int), ((bt (bs l) 0) != 48))) else none))) ((n : Int), wholeOk l) := by
  match l with
  | [] => exact Ev.pos rfl Ev.now
  | [c] => exact Ev.neg (by simp) (Ev.pos (by simp) Ev.now)
  | c :: d :: r =>
    refine Ev.neg (by simp) (Ev.neg (by simp only [List.length_cons]; omega) (Ev.pos (by simp only [List.length_cons]; omega) (Ev.const ?_)))
    have e : bt (bs (c :: d :: r)) 0 = (c.toNat : Int) := bs_bt (c :: d :: r) 0 rfl
    rw [e]
    simp only [wholeOk]
    congr 2
    rw [Bool.eq_iff_iff]
    simp only [bne_iff_ne, ne_eq]
    omega
theorem whole_l0_ev (l : List UInt8) (hl : l.length ≤ 12) : ∀ (t : List UInt8) (i n : Nat), l.drop i = t → i ≤ l.length → n < 10 ^ i →
    Ev (fun k => money_whole.l0 k (bs l) (n : Int) (l.length : Int) (i : Int)) (if t.all dig = true then ((valFrom n t : Nat), wholeOk l) else (0, false))
  | [], i, n, h, hi, hn => by
    clear hn
    have hi' : l.length ≤ i := by simpa using h
    refine Ev.shift (fun k => by rw [money_whole.l0]) ?_
    refine Ev.neg (by omega) ?_
    rw [bs_toList, bs_size]
    exact (whole_end n l).res (if_pos rfl).symm
  | c :: t, i, n, h, hi, hn => by
    obtain ⟨h1, h2, h3⟩ := drop_cons_get h
    have hp : 10 ^ i ≤ 10 ^ 11 := Nat.pow_le_pow_right (by decide) (by omega)
    refine Ev.shift (fun k => by rw [money_whole.l0]) ?_
    refine Ev.pos (by omega) (Ev.pos (by omega) (Ev.pos (by rw [bs_size]; omega) ?_))
    rw [bs_bt l i h1, digit_f]
    by_cases cd : dig c = true
    · have cd' := (dig_iff c).1 cd
      refine Ev.bindc rfl (Ev.pos cd ?_)
      rw [w64 (x := 10 * (n : Int)) (by omega) (by omega), w64 (x := (i : Int) + 1) (by omega) (by omega)]
      rw [show wrap64 (10 * (n : Int) + ((c.toNat : Int) - 48) % 256) = ((10 * n + (c.toNat - 48) : Nat) : Int) by rw [w64 (by omega) (by omega)]; omega]
      rw [show ((c :: t).all dig) = t.all dig by simp [cd]]
      exact whole_l0_ev l hl t (i + 1) _ h2 (by omega) (by rw [Nat.pow_succ]; omega)
    · refine Ev.bindc rfl (Ev.neg cd ?_)
      rw [if_neg (by simp [cd])]
      exact Ev.now
theorem whole_ev (l : List UInt8) (hl : l.length ≤ 12) : Ev (fun k => money_whole.f k (bs l)) (if l.all dig = true then ((valFrom 0 l : Nat), wholeOk l) else (0, false)) := by
  unfold money_whole.f
  rw [bs_size]
  exact whole_l0_ev l hl l 0 0 rfl (Nat.zero_le _) (by decide)

theorem digits_l0_ev (l : List UInt8) (hl : l.length ≤ 1000) : ∀ (t : List UInt8) (i : Nat), l.drop i = t → i ≤ l.length → Ev (fun k => money_digits.l0 k (bs l) (l.length : Int) (i : Int)) (t.all dig)
  | [], i, h, hi => by
    have hi' : l.length ≤ i := by simpa using h
    refine Ev.shift (fun k => by rw [money_digits.l0]) ?_
    exact Ev.neg (by omega) Ev.now
  | c :: t, i, h, hi => by
    obtain ⟨h1, h2, h3⟩ := drop_cons_get h
    refine Ev.shift (fun k => by rw [money_digits.l0]) ?_
    refine Ev.pos (by omega) (Ev.pos (by omega) (Ev.pos (by rw [bs_size]; omega) ?_))
    rw [bs_bt l i h1, digit_f]
    by_cases cd : dig c = true
    · refine Ev.bindc rfl (Ev.pos cd ?_)
      rw [w64 (x := (i : Int) + 1) (by omega) (by omega), show ((c :: t).all dig) = t.all dig by simp [cd]]
      exact digits_l0_ev l hl t (i + 1) h2 (by omega)
    · refine Ev.bindc rfl (Ev.neg cd ?_)
      rw [show ((c :: t).all dig) = false by simp [cd]]
      exact Ev.now
theorem digits_ev (l : List UInt8) (hl : l.length ≤ 1000) : Ev (fun k => money_digits.f k (bs l)) (l.all dig) := by
  unfold money_digits.f
  rw [bs_size]
  exact digits_l0_ev l hl l 0 rfl (Nat.zero_le _)

theorem valFrom_lt (t : List UInt8) : ∀ (n p : Nat), t.all dig = true → n < p → valFrom n t < p * 10 ^ t.length := by
  induction t with
  | nil =>
    intro n p _ h
    have e : valFrom n [] = n := rfl
    rw [e, List.length_nil, Nat.pow_zero, Nat.mul_one]
    exact h
  | cons c t ih =>
    intro n p ha h
    simp only [List.all_cons, Bool.and_eq_true] at ha
    have := (dig_iff c).1 ha.1
    have h2 := ih (10 * n + (c.toNat - 48)) (10 * p) ha.2 (by omega)
    have e : valFrom n (c :: t) = valFrom (10 * n + (c.toNat - 48)) t := rfl
    rw [e, List.length_cons, Nat.pow_succ, Nat.mul_comm (10 ^ t.length) 10, ← Nat.mul_assoc, Nat.mul_comm p 10]
    exact h2

theorem check_ev (x : Int) : Ev (fun k => money_check.f k x) (if okAmt x = true then (x, 0) else (0, 10)) := by
  unfold money_check.f
  refine Ev.bind (mright_ev [x] (by simp)) ?_
  by_cases c : okAmt x = true
  · rw [if_pos c]
    exact Ev.pos (by simp [c]) Ev.now
  · rw [if_neg c]
    exact Ev.neg (by simp [c]) Ev.now

def sgn (b : Bool) : Int := if b = true then -1 else 1
/-- What stands ahead of the point, the coins behind it, and the sign. -/
def partOf (neg : Bool) (l : List UInt8) (coins : Nat) : Int × Int :=
  if 12 < l.length then (if (l.all dig && wholeOk (l.take 12)) = true then (0, 10) else (0, 5))
  else if (l.all dig && wholeOk l) = true then
    (if neg = true ∧ valFrom 0 l = 0 ∧ coins = 0 then (0, 5)
     else if okAmt ((sgn neg) * ((valFrom 0 l * 100 + coins : Nat) : Int)) = true then ((sgn neg) * ((valFrom 0 l * 100 + coins : Nat) : Int), 0) else (0, 10))
  else (0, 5)
def bodyOf (neg : Bool) (l : List UInt8) : Int × Int :=
  if 20 < l.length then (0, 5)
  else if 3 < l.length ∧ l[l.length - 3]? = some 46 then
    (if dig (l.getD (l.length - 2) 0) = true ∧ dig (l.getD (l.length - 1) 0) = true then partOf neg (l.take (l.length - 3)) (((l.getD (l.length - 2) 0).toNat - 48) * 10 + ((l.getD (l.length - 1) 0).toNat - 48)) else (0, 5))
  else partOf neg l 0
def parseOf (l : List UInt8) : Int × Int := match l with
  | 45 :: t => bodyOf true t
  | l => bodyOf false l

theorem parse_j3_ev (neg : Bool) (l : List UInt8) (coins : Nat) (hc : coins < 100) (hl : l.length ≤ 20) : Ev (fun k => money_Parse.j3 k (bs l) (sgn neg) (coins : Int)) (partOf neg l coins) := by
  refine Ev.shift (fun k => by rw [money_Parse.j3]) ?_
  rw [bs_size]
  unfold partOf
  by_cases c : 12 < l.length
  · rw [if_pos c]
    refine Ev.pos (by omega) (Ev.pos (by decide) (Ev.pos (by omega) ?_))
    rw [bs_extract, List.drop_zero]
    refine Ev.bind (whole_ev (l.take 12) (by simp; omega)) ?_
    by_cases c1 : (l.take 12).all dig = true
    · rw [if_pos c1]
      by_cases c2 : wholeOk (l.take 12) = true
      · refine Ev.pos c2 (Ev.bind (digits_ev l (by omega)) ?_)
        rw [c2, Bool.and_true]
        by_cases c3 : l.all dig = true
        · exact (Ev.pos c3 Ev.now).res (if_pos c3).symm
        · exact (Ev.neg c3 Ev.now).res (if_neg c3).symm
      · rw [if_neg (by simp [c2])]
        exact Ev.neg c2 Ev.now
    · have : l.all dig = false := by
        rw [Bool.eq_false_iff]
        intro h
        refine c1 (List.all_eq_true.2 fun x hx => List.all_eq_true.1 h x (List.mem_of_mem_take hx))
      rw [if_neg c1, this]
      exact Ev.neg (by simp) Ev.now
  · rw [if_neg c]
    refine Ev.neg (by omega) (Ev.bind (whole_ev l (by omega)) ?_)
    by_cases c1 : l.all dig = true
    · rw [if_pos c1, c1, Bool.true_and]
      by_cases c2 : wholeOk l = true
      · rw [if_pos c2]
        refine Ev.pos c2 ?_
        have hv := valFrom_lt l 0 1 c1 (by decide)
        have hp : 10 ^ l.length ≤ 10 ^ 12 := Nat.pow_le_pow_right (by decide) (by omega)
        rw [Nat.one_mul] at hv
        generalize valFrom 0 l = v at hv ⊢
        have e1 : wrap64 ((wrap64 ((v : Int) * 100)) + (coins : Int)) = ((v * 100 + coins : Nat) : Int) := by
          rw [w64 (x := (v : Int) * 100) (by omega) (by omega), w64 (by omega) (by omega)]; omega
        rw [e1]
        have e2 : wrap64 ((sgn neg) * ((v * 100 + coins : Nat) : Int)) = (sgn neg) * ((v * 100 + coins : Nat) : Int) := by
          cases neg <;> exact w64 (by simp [sgn]; omega) (by simp [sgn]; omega)
        rw [e2]
        have hk : Ev (fun k => (money_check.f k ((sgn neg) * ((v * 100 + coins : Nat) : Int))).bind fun bt288 => some (bt288.1, bt288.2)) (if okAmt ((sgn neg) * ((v * 100 + coins : Nat) : Int)) = true then ((sgn neg) * ((v * 100 + coins : Nat) : Int), 0) else (0, 10)) :=
          Ev.bind (check_ev _) Ev.now
        cases neg with
        | false =>
          rw [if_neg (by simp)]
          exact Ev.neg (by simp [sgn]) hk
        | true =>
          refine Ev.pos (by simp [sgn]) ?_
          by_cases d1 : v = 0
          · refine Ev.pos (by omega) ?_
            by_cases d2 : coins = 0
            · rw [if_pos ⟨rfl, d1, d2⟩]
              exact Ev.pos (by omega) Ev.now
            · rw [if_neg (fun h => d2 h.2.2)]
              exact Ev.neg (by omega) hk
          · rw [if_neg (fun h => d1 h.2.1)]
            exact Ev.neg (by omega) hk
      · rw [if_neg c2]
        exact Ev.neg c2 Ev.now
    · rw [if_neg c1, show (l.all dig && wholeOk l) = false by simp [c1]]
      exact Ev.neg (by simp) Ev.now

theorem getD_some {l : List UInt8} {i : Nat} (h : i < l.length) : l[i]? = some (l.getD i 0) := by
  rw [List.getD_eq_getElem?_getD, List.getElem?_eq_getElem h, Option.getD_some]
theorem parse_j1_ev (neg : Bool) (l : List UInt8) (hl : l.length ≤ 1000000) : Ev (fun k => money_Parse.j1 k (bs l) (sgn neg)) (bodyOf neg l) := by
  refine Ev.shift (fun k => by rw [money_Parse.j1]) ?_
  rw [bs_size]
  unfold bodyOf
  by_cases c : 20 < l.length
  · rw [if_pos c]
    exact Ev.pos (by omega) Ev.now
  · rw [if_neg c]
    refine Ev.neg (by omega) ?_
    rw [w64 (x := (l.length : Int) - 3) (by omega) (by omega)]
    by_cases c1 : 3 < l.length
    · have e0 : (l.length : Int) - 3 = ((l.length - 3 : Nat) : Int) := by omega
      refine Ev.pos (by omega) (Ev.pos (by omega) (Ev.pos (by omega) ?_))
      rw [e0, bs_bt l (l.length - 3) (getD_some (by omega))]
      refine Ev.shift (fun k => by rw [money_Parse.j2]) ?_
      rw [bs_size]
      by_cases c2 : l[l.length - 3]? = some 46
      · rw [if_pos ⟨c1, c2⟩]
        have e46 : l.getD (l.length - 3) 0 = 46 := by rw [List.getD_eq_getElem?_getD, c2]; rfl
        refine Ev.pos (by rw [e46]; decide) ?_
        rw [show wrap64 (((l.length - 3 : Nat) : Int) + 1) = ((l.length - 2 : Nat) : Int) by rw [w64 (by omega) (by omega)]; omega, show wrap64 (((l.length - 3 : Nat) : Int) + 2) = ((l.length - 1 : Nat) : Int) by rw [w64 (by omega) (by omega)]; omega]
        refine Ev.pos (by omega) (Ev.pos (by omega) ?_)
        rw [bs_bt l (l.length - 2) (getD_some (by omega)), digit_f, bs_bt l (l.length - 1) (getD_some (by omega)), digit_f]
        by_cases d1 : dig (l.getD (l.length - 2) 0) = true
        · refine Ev.bindc rfl (Ev.pos d1 (Ev.pos (by omega) (Ev.pos (by omega) ?_)))
          by_cases d2 : dig (l.getD (l.length - 1) 0) = true
          · refine Ev.bindc rfl (Ev.pos d2 (Ev.pos (by omega) (Ev.pos (by omega) ?_)))
            rw [if_pos ⟨d1, d2⟩, bs_extract, List.drop_zero, Int.toNat_natCast]
            have d1' := (dig_iff _).1 d1
            have d2' := (dig_iff _).1 d2
            rw [show (((((l.getD (l.length - 2) 0).toNat : Int) - 48) % 256) * 10 + ((((l.getD (l.length - 1) 0).toNat : Int) - 48) % 256)) = ((((l.getD (l.length - 2) 0).toNat - 48) * 10 + ((l.getD (l.length - 1) 0).toNat - 48) : Nat) : Int) by omega]
            exact parse_j3_ev neg _ _ (by omega) (by simp; omega)
          · rw [if_neg (fun h => d2 h.2)]
            exact Ev.bindc rfl (Ev.neg d2 Ev.now)
        · rw [if_neg (fun h => d1 h.1)]
          exact Ev.bindc rfl (Ev.neg d1 Ev.now)
      · rw [if_neg (fun h => c2 h.2)]
        refine Ev.neg ?_ (parse_j3_ev neg l 0 (by decide) (by omega))
        intro h
        have h1 : ((l.getD (l.length - 3) 0).toNat : Int) = 46 := by simpa using h
        refine c2 ?_
        rw [getD_some (by omega)]
        congr 1
        exact UInt8.toNat_inj.1 (by show _ = 46; omega)
    · rw [if_neg (fun h => c1 h.1)]
      refine Ev.neg (by omega) ?_
      refine Ev.shift (fun k => by rw [money_Parse.j2]) ?_
      exact Ev.neg (by decide) (parse_j3_ev neg l 0 (by decide) (by omega))
theorem parse_bs_ev (l : List UInt8) (hl : l.length ≤ 1000000) : Ev (fun k => money_Parse.f k (bs l)) (parseOf l) := by
  unfold money_Parse.f
  rw [bs_size]
  match l, hl with
  | [], _ =>
    refine Ev.neg (by simp) (Ev.shift (fun k => by rw [money_Parse.j0]) (Ev.neg (by decide) ?_))
    exact parse_j1_ev false [] (by simp)
  | c :: t, hl =>
    refine Ev.pos (by simp only [List.length_cons]; omega) (Ev.pos (by simp only [List.length_cons]; omega) (Ev.shift (fun k => by rw [money_Parse.j0]) ?_))
    rw [show ((0 : Int)) = ((0 : Nat) : Int) from rfl, bs_bt (c :: t) 0 rfl, bs_size]
    by_cases h : c = 45
    · subst h
      refine Ev.pos (by decide) (Ev.pos (by simp; omega) ?_)
      rw [bs_extract, List.take_length, List.drop_one, List.tail_cons]
      exact parse_j1_ev true t (by simp at hl; omega)
    · have e : parseOf (c :: t) = bodyOf false (c :: t) := by
        unfold parseOf
        split
        · rename_i h2; injection h2 with h2; exact absurd h2 h
        · rfl
      rw [e]
      refine Ev.neg ?_ (parse_j1_ev false (c :: t) hl)
      intro h2
      have h1 : (c.toNat : Int) = 45 := by simpa using h2
      exact h (UInt8.toNat_inj.1 (by show _ = 45; omega))
theorem mparse_ev (s : ByteArray) (hl : s.size ≤ 1000000) : Ev (fun k => money_Parse.f k s) (parseOf s.toList) := by
  have := parse_bs_ev s.toList (by rw [Lib.toList_data, data_length]; exact hl)
  rwa [bs_eta] at this

/-- A name: a small letter, and small letters, digits and dashes behind it. -/
def small (c : UInt8) : Bool := decide (97 ≤ c.toNat) && decide (c.toNat ≤ 122)
def nameOf (l : List UInt8) : Bool := match l with
  | [] => false
  | c :: t => decide (t.length < 16) && small c && t.all fun c => small c || dig c || decide (c.toNat = 45)
theorem name_l0_ev (l : List UInt8) (hl : l.length ≤ 1000) : ∀ (t : List UInt8) (i : Nat), l.drop i = t → i ≤ l.length → Ev (fun k => word_Name.l0 k (bs l) (l.length : Int) (i : Int)) (if i = 0 then (match t with | [] => true | c :: t => small c && t.all fun c => small c || dig c || decide (c.toNat = 45)) else t.all fun c => small c || dig c || decide (c.toNat = 45))
  | [], i, h, hi => by
    have hi' : l.length ≤ i := by simpa using h
    refine Ev.shift (fun k => by rw [word_Name.l0]) ?_
    refine Ev.neg (by omega) ?_
    split <;> exact Ev.now
  | c :: t, i, h, hi => by
    obtain ⟨h1, h2, h3⟩ := drop_cons_get h
    have ih := name_l0_ev l hl t (i + 1) h2 (by omega)
    rw [if_neg (by omega)] at ih
    refine Ev.shift (fun k => by rw [word_Name.l0]) ?_
    refine Ev.pos (by omega) (Ev.pos (by omega) (Ev.pos (by rw [bs_size]; omega) ?_))
    rw [bs_bt l i h1, show wrap64 ((i : Int) + 1) = ((i + 1 : Nat) : Int) by rw [w64 (by omega) (by omega)]; rfl]
    by_cases s1 : small c = true
    · have s1' : 97 ≤ c.toNat ∧ c.toNat ≤ 122 := by simpa [small] using s1
      have e : (if i = 0 then (small c && t.all fun c => small c || dig c || decide (c.toNat = 45)) else ((c :: t).all fun c => small c || dig c || decide (c.toNat = 45))) = t.all fun c => small c || dig c || decide (c.toNat = 45) := by
        split <;> simp [s1]
      refine (Ev.pos (by omega) (Ev.pos (by omega) ih)).res e.symm
    · have s1' : ¬(97 ≤ c.toNat ∧ c.toNat ≤ 122) := by simpa [small] using s1
      have hrest : Ev (fun k => if (i : Int) = 0 then some false else if (c.toNat : Int) < 48 then if (c.toNat : Int) = 45 then word_Name.l0 k (bs l) (l.length : Int) ((i + 1 : Nat) : Int) else some false else if (c.toNat : Int) > 57 then if (c.toNat : Int) = 45 then word_Name.l0 k (bs l) (l.length : Int) ((i + 1 : Nat) : Int) else some false else word_Name.l0 k (bs l) (l.length : Int) ((i + 1 : Nat) : Int))
          (if i = 0 then (small c && t.all fun c => small c || dig c || decide (c.toNat = 45)) else ((c :: t).all fun c => small c || dig c || decide (c.toNat = 45))) := by
        by_cases i0 : i = 0
        · rw [if_pos i0, Bool.eq_false_iff.2 s1]
          exact Ev.pos (by omega) Ev.now
        · rw [if_neg i0, List.all_cons, Bool.eq_false_iff.2 s1, Bool.false_or]
          refine Ev.neg (by omega) ?_
          by_cases d1 : c.toNat < 48
          · refine Ev.pos (by omega) ?_
            by_cases d2 : c.toNat = 45
            · refine (Ev.pos (by omega) ih).res ?_
              simp [d2]
            · refine (Ev.neg (by omega) Ev.now).res ?_
              simp [d2, dig]; omega
          · refine Ev.neg (by omega) ?_
            by_cases d3 : 57 < c.toNat
            · refine Ev.pos (by omega) (Ev.neg (by omega) ?_)
              refine Ev.now.res ?_
              simp [dig]; omega
            · refine (Ev.neg (by omega) ih).res ?_
              simp [dig]; omega
      by_cases d : 97 ≤ c.toNat
      · exact Ev.pos (by omega) (Ev.neg (by omega) hrest)
      · exact Ev.neg (by omega) hrest
theorem name_bs_ev (l : List UInt8) (hl : l.length ≤ 1000000) : Ev (fun k => word_Name.f k (bs l)) (nameOf l) := by
  unfold word_Name.f
  rw [bs_toList, bs_size]
  match l, hl with
  | [], _ =>
    refine Ev.pos rfl (Ev.shift (fun k => by rw [word_Name.j0]) ?_)
    exact Ev.pos rfl (Ev.const rfl)
  | c :: t, hl =>
    refine Ev.neg (by simp) (Ev.shift (fun k => by rw [word_Name.j0]) ?_)
    by_cases h : 16 < (c :: t).length
    · refine (Ev.pos (by simp at h ⊢; omega) Ev.now).res ?_
      simp at h
      simp [nameOf]
      intro h2; omega
    · refine Ev.neg (by simp at h ⊢; omega) ?_
      rw [bs_size]
      refine (name_l0_ev (c :: t) (by omega) (c :: t) 0 rfl (Nat.zero_le _)).res ?_
      have h3 : t.length < 16 := by simp only [List.length_cons] at h; omega
      simp only [nameOf, h3, decide_true, Bool.true_and, if_true]
theorem name_ev (s : ByteArray) (hl : s.size ≤ 1000000) : Ev (fun k => word_Name.f k s) (nameOf s.toList) := by
  have := name_bs_ev s.toList (by rw [Lib.toList_data, data_length]; exact hl)
  rwa [bs_eta] at this
end Go.Proofs.YtmocphafkimdpaaDoor.P


-- written by a program (a patched copy of the kit's print: wip/mkprint.py); Lean checks it
namespace Go.Proofs.YtmocphafkimdpaaDoor.P
open Go.RowKit Go.Proofs.YtmocphafkimdpaaDoorW.PrintWords Go.Proofs.YtmocphafkimdpaaDoorW.PrintLast Go.Proofs.YtmocphafkimdpaaDoorW.PrintMore
attribute [local go_sem] max2_int min2_int max_two min_two max_three min_three max_four min_four   -- for this text's walks alone
set_option linter.unusedVariables false
set_option linter.unusedSimpArgs false

/-! ### money_Sub: function 64 -/
def money_Sub.f (k : Nat) (a0 : Int) (a1 : Int) : Option (Int × Int) := (money_Right.f k (([a0, a1] : List Int))).bind fun t601 => (if t601 = true then ((money_check.f k (wrap64 (a0 - a1))).bind fun bt602 => (some (bt602.1, bt602.2))) else (some (0, 10)))
theorem money_Sub.mono : ∀ a0 a1 k, LeO (money_Sub.f k a0 a1) (money_Sub.f (k + 1) a0 a1) := by
 intro a0 a1 k
 unfold money_Sub.f
 repeat' first
   | (with_reducible exact money_Right.mono _ _)
   | (with_reducible exact money_check.mono _ _)
   | (with_reducible exact LeO.refl _)
   | (with_reducible exact LeO.none _)
   | (with_reducible refine LeO.ite ?_ ?_)
   | (with_reducible refine LeO.bind ?_ (fun _ => ?_))
   | exact money_Right.mono _ _
   | exact money_check.mono _ _
   | exact LeO.none _
   | refine LeO.ite ?_ ?_
   | refine LeO.bind ?_ (fun _ => ?_)
set_option maxHeartbeats 8000000 in
set_option maxRecDepth 100000 in
theorem money_Sub.calls (k : Nat) (a0 : Int) (a1 : Int) (r1 : Int) (r2 : Int) (w : World) (h : money_Sub.f k a0 a1 = some (r1, r2)) :
  Calls Tryd.prog 64 #[.int .i64 a0, .int .i64 a1] w fun e w' => e = .returned (.tuple #[.int .i64 r1, .int .i64 r2]) ∧ Below w.heap.size w w' := by
 have HB := Aside0.mk (Below.refl w.heap.size w)
 have H : ((money_Right.f k (([a0, a1] : List Int))).bind fun t601 => (if t601 = true then ((money_check.f k (wrap64 (a0 - a1))).bind fun bt602 => (some (bt602.1, bt602.2))) else (some (0, 10)))) = some (r1, r2) := h
 clear h
 obtain ⟨y598, hy598⟩ : ∃ y_ : List Int, y_ = (([a0, a1] : List Int)) := ⟨_, rfl⟩
 replace H : ((money_Right.f k y598).bind fun t601 => (if t601 = true then ((money_check.f k (wrap64 (a0 - a1))).bind fun bt602 => (some (bt602.1, bt602.2))) else (some (0, 10)))) = some (r1, r2) := by first | (rw [hy598]; with_reducible exact H) | (have H2_ := (Option.bind_some _ _).symm.trans H; rw [hy598]; with_reducible exact H2_) | (have H2_ := (Option.bind_some _ _).symm.trans H; with_reducible exact H2_) | with_reducible exact H | (rw [hy598]; exact H) | exact H
 have Ny598 := Aside0.mk hy598
 clear hy598
 replace H := Option.bind_eq_some_iff.mp H
 obtain ⟨t601, A30, H⟩ := H
 replace H : (if t601 = true then ((money_check.f k (wrap64 (a0 - a1))).bind fun bt602 => (some (bt602.1, bt602.2))) else (some (0, 10))) = some (r1, r2) := H
 have A3 := Aside0.mk A30
 clear A30
 by_cases c4 : t601 = true
 ·subst c4
  have H1 : ((money_check.f k (wrap64 (a0 - a1))).bind fun bt602 => (some (bt602.1, bt602.2))) = some (r1, r2) := by rw [if_pos rfl] at H; exact H
  clear H
  have H := H1
  clear H1
  replace H := Option.bind_eq_some_iff.mp H
  obtain ⟨⟨t602, t603⟩, A50, H⟩ := H
  replace H : (some (t602, t603)) = some (r1, r2) := H
  have A5 := Aside0.mk A50
  clear A50
  simp only [Option.some.injEq, Prod.mk.injEq] at H
  obtain ⟨rfl, rfl⟩ := H
  go_enter Tryd.func64, Tryd.ntmps64
  go_wp2_with (first | ((with_reducible refine gate_dst (N := 8) rfl ?_); refine Kd.R_lit (Kd.int .i64) _ 2 ?hg (N := 8) ?hd (xs := ([a0, a1] : List Int)) (inner := [.int .i64 a0, .int .i64 a1]) (ok := fun _ => True) (okp := fun _ => True) ?hr ?hp (fun _ hk => hk) trivial (Below.refl _ _) (Nat.le_refl _) (by simp) ?_; (case hd => rfl); (case hg => rfl); (case hr => first | (go_simp; done) | (go_simp; rfl)); (case hp => exact (Reps.one (show Kd.M (Kd.int .i64) _ _ _ a0 [.int .i64 a0] from rfl) (Reps.one (show Kd.M (Kd.int .i64) _ _ _ a1 [.int .i64 a1] from rfl) (Reps.none _ _)))); intro v599 w6 ho7 hb hg_ hnew_; clear hg_ hnew_; (first | rw [← Ny598.out] at ho7 | (simp only [Int.reduceToNat] at ho7; rw [← Ny598.out] at ho7)); have n0_ := Aside0.mk (Kd.R_lower ho7 (below_size (by repeat (first | (with_reducible first | exact HB.out | apply below_alloc | apply pw_below_drewN | apply below_drew1) | exact HB.out)))); have n1_ := Aside0.mk (below_step (by repeat (first | (with_reducible first | exact HB.out | apply below_alloc | apply pw_below_drewN | apply below_drew1) | exact HB.out)) hb); clear HB; have HO600 := n0_; have HB := n1_; clear n0_ n1_; clear hb ho7; obtain ⟨Ao8, co8, eo8⟩ := Kd.R_slice HO600.out; subst eo8) | ((with_reducible refine gate_callee (f := 65) rfl ?_); refine goesL_ (some 9) rfl rfl Tryd.func65 (by kernel_rfl) rfl #[.slice Ao8 y598.length co8] rfl (by (try simp only [List.map_toArray, List.map_cons, List.map_nil]); first | done | rfl | (simp only [List.length_drop, List.length_take]; rfl)) ?_; (with_reducible refine (money_Right.calls k _ _ y598 true _ ?side1 ?side2 A3.out).mono ?_); (case side1 => repeat (first | exact (Kd.R_reads' HO600.out).2.2 | (with_reducible refine Kd.C_alloc ?_ _) | (with_reducible refine Kd.C_drewN ?_ _) | (with_reducible refine Kd.C_drew ?_))); (case side2 => exact (Kd.R_reads' HO600.out).2.1); rintro e w' ⟨rfl, ⟨nd, rfl⟩⟩; refine ⟨_, rfl, ?_⟩) | ((with_reducible refine gate_callee (f := 77) rfl ?_); refine goesL_ (some 14) rfl rfl Tryd.func77 (by kernel_rfl) rfl #[.int .i64 (wrap64 (a0 - a1))] rfl (by (try simp only [List.map_toArray, List.map_cons, List.map_nil]); first | done | rfl | (simp only [List.length_drop, List.length_take]; rfl)) ?_; (with_reducible refine (money_check.calls k (wrap64 (a0 - a1)) t602 t603 _ A5.out).mono ?_); rintro e w9 ⟨rfl, hb⟩; refine ⟨_, rfl, ?_⟩; have n0_ := Aside0.mk (Kd.R_below (by (with_reducible repeat (first | apply Kd.R_alloc | apply Kd.R_drewN | apply Kd.R_drew)); exact HO600.out) hb); have n1_ := Aside0.mk (below_step (by repeat (first | (with_reducible first | exact HB.out | apply below_alloc | apply pw_below_drewN | apply below_drew1) | exact HB.out)) hb); clear HO600; clear HB; have HO600 := n0_; have HB := n1_; clear n0_ n1_; (try clear hb); (try clear hb2); (try clear hk); (try clear hi)))
  go_ret2
  exact ⟨by first | rfl | (simp [errW_none, errW_some] <;> rfl) | (simp [*, errW_none, errW_some] <;> rfl), by repeat (first | (with_reducible first | exact HB.out | apply below_alloc | apply pw_below_drewN | apply below_drew1) | exact HB.out)⟩
 ·replace c4 := Bool.eq_false_iff.mpr c4
  subst c4
  have H1 : (some (0, 10)) = some (r1, r2) := by rw [if_neg (show ¬ (false = true) by decide)] at H; exact H
  clear H
  have H := H1
  clear H1
  simp only [Option.some.injEq, Prod.mk.injEq] at H
  obtain ⟨rfl, rfl⟩ := H
  go_enter Tryd.func64, Tryd.ntmps64
  go_wp2_with (first | ((with_reducible refine gate_dst (N := 8) rfl ?_); refine Kd.R_lit (Kd.int .i64) _ 2 ?hg (N := 8) ?hd (xs := ([a0, a1] : List Int)) (inner := [.int .i64 a0, .int .i64 a1]) (ok := fun _ => True) (okp := fun _ => True) ?hr ?hp (fun _ hk => hk) trivial (Below.refl _ _) (Nat.le_refl _) (by simp) ?_; (case hd => rfl); (case hg => rfl); (case hr => first | (go_simp; done) | (go_simp; rfl)); (case hp => exact (Reps.one (show Kd.M (Kd.int .i64) _ _ _ a0 [.int .i64 a0] from rfl) (Reps.one (show Kd.M (Kd.int .i64) _ _ _ a1 [.int .i64 a1] from rfl) (Reps.none _ _)))); intro v599 w10 ho11 hb hg_ hnew_; clear hg_ hnew_; (first | rw [← Ny598.out] at ho11 | (simp only [Int.reduceToNat] at ho11; rw [← Ny598.out] at ho11)); have n0_ := Aside0.mk (Kd.R_lower ho11 (below_size (by repeat (first | (with_reducible first | exact HB.out | apply below_alloc | apply pw_below_drewN | apply below_drew1) | exact HB.out)))); have n1_ := Aside0.mk (below_step (by repeat (first | (with_reducible first | exact HB.out | apply below_alloc | apply pw_below_drewN | apply below_drew1) | exact HB.out)) hb); clear HB; have HO600 := n0_; have HB := n1_; clear n0_ n1_; clear hb ho11; obtain ⟨Ao12, co12, eo12⟩ := Kd.R_slice HO600.out; subst eo12) | ((with_reducible refine gate_callee (f := 65) rfl ?_); refine goesL_ (some 9) rfl rfl Tryd.func65 (by kernel_rfl) rfl #[.slice Ao12 y598.length co12] rfl (by (try simp only [List.map_toArray, List.map_cons, List.map_nil]); first | done | rfl | (simp only [List.length_drop, List.length_take]; rfl)) ?_; (with_reducible refine (money_Right.calls k _ _ y598 false _ ?side1 ?side2 A3.out).mono ?_); (case side1 => repeat (first | exact (Kd.R_reads' HO600.out).2.2 | (with_reducible refine Kd.C_alloc ?_ _) | (with_reducible refine Kd.C_drewN ?_ _) | (with_reducible refine Kd.C_drew ?_))); (case side2 => exact (Kd.R_reads' HO600.out).2.1); rintro e w' ⟨rfl, ⟨nd, rfl⟩⟩; refine ⟨_, rfl, ?_⟩))
  go_ret2
  exact ⟨by first | rfl | (simp [errW_none, errW_some] <;> rfl) | (simp [*, errW_none, errW_some] <;> rfl), by repeat (first | (with_reducible first | exact HB.out | apply below_alloc | apply pw_below_drewN | apply below_drew1) | exact HB.out)⟩

end Go.Proofs.YtmocphafkimdpaaDoor.P


-- written by a program (a patched copy of the kit's print: wip/mkprint.py); Lean checks it
namespace Go.Proofs.YtmocphafkimdpaaDoor.P
open Go.RowKit Go.Proofs.YtmocphafkimdpaaDoorW.PrintWords Go.Proofs.YtmocphafkimdpaaDoorW.PrintLast Go.Proofs.YtmocphafkimdpaaDoorW.PrintMore
attribute [local go_sem] max2_int min2_int max_two min_two max_three min_three max_four min_four   -- for this text's walks alone
set_option linter.unusedVariables false
set_option linter.unusedSimpArgs false

/-! ### stipendref01_Right: function 59 -/
def stipendref01_Right.f (a0 : Int) : Option (Bool) := if a0 ≥ (-100000000000) then (some (decide (a0 ≤ 100000000000))) else (some false)
set_option maxHeartbeats 8000000 in
set_option maxRecDepth 100000 in
theorem stipendref01_Right.calls (a0 : Int) (r : Bool) (w : World) (h : stipendref01_Right.f a0 = some r) :
  Calls Tryd.prog 59 #[.int .i64 a0] w fun e w' => e = .returned (.bool r) ∧ Drawn0 w w' := by
 have H : (if a0 ≥ (-100000000000) then (some (decide (a0 ≤ 100000000000))) else (some false)) = some r := h
 clear h
 by_cases c2 : a0 ≥ (-100000000000)
 ·rw [if_pos c2] at H
  have c2b0 : decide ((-100000000000) ≤ a0) = true := decide_eq_true c2
  clear c2
  obtain rfl := Option.some.inj H
  go_enter Tryd.func59, Tryd.ntmps59
  go_wp2
  go_ret
  exact ⟨by first | rfl | (simp; done) | (simp [*]; done), by repeat (first | exact Drawn0.refl _ | apply Drawn0.step)⟩
 ·rw [if_neg c2] at H
  have c2b0 : decide ((-100000000000) ≤ a0) = false := decide_eq_false c2
  clear c2
  obtain rfl := Option.some.inj H
  go_enter Tryd.func59, Tryd.ntmps59
  go_wp2
  go_ret
  exact ⟨by first | rfl | (simp; done) | (simp [*]; done), by repeat (first | exact Drawn0.refl _ | apply Drawn0.step)⟩

end Go.Proofs.YtmocphafkimdpaaDoor.P


/- Amounts less one another, and what the reference calls right. -/
namespace Go.Proofs.YtmocphafkimdpaaDoor.P
open Go.RowKit Go.Proofs.YtmocphafkimdpaaDoorW.PrintWords Go.Proofs.YtmocphafkimdpaaDoorW.PrintLast Go.Proofs.YtmocphafkimdpaaDoorW.PrintMore

theorem i64b {x : Int} (g : (Lit.int .i64 x).wf = true) : -9223372036854775808 ≤ x ∧ x ≤ 9223372036854775807 := by
  have := g
  simp [Lit.wf] at this
  exact this
theorem refRight_f (a : Int) : stipendref01_Right.f a = some (okAmt a) := by
  unfold stipendref01_Right.f okAmt
  by_cases c : a ≥ -100000000000
  · rw [if_pos c, decide_eq_true (show (-100000000000 : Int) ≤ a from c), Bool.true_and]
  · rw [if_neg c, decide_eq_false (show ¬(-100000000000 : Int) ≤ a from c), Bool.false_and]
theorem check_b_ev (x : Int) : Ev (fun k => (money_check.f k x).bind fun b => some (b.1, b.2)) (if okAmt x = true then (x, 0) else (0, 10)) := Ev.bind (check_ev x) Ev.now
theorem msub_ev (a b : Int) : Ev (fun k => money_Sub.f k a b) (if (okAmt a && okAmt b && okAmt (a - b)) = true then (a - b, 0) else (0, 10)) := by
  unfold money_Sub.f
  refine Ev.bind (mright_ev [a, b] (by simp)) ?_
  by_cases c : okAmt a = true ∧ okAmt b = true
  · obtain ⟨ha, hb⟩ := c
    have ha' := (okAmt_iff a).1 ha
    have hb' := (okAmt_iff b).1 hb
    refine Ev.pos (by simp [ha, hb]) ?_
    rw [w64 (x := a - b) (by omega) (by omega)]
    refine (check_b_ev (a - b)).res ?_
    rw [ha, hb]
    rfl
  · refine (Ev.neg (by simpa using c) Ev.now).res ?_
    rw [if_neg]
    simp only [Bool.and_eq_true]
    exact fun h => c h.1
end Go.Proofs.YtmocphafkimdpaaDoor.P
