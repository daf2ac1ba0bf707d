/- A part of the proof of the cards of Element..: each of these statements answers true for every input (the conditions: those of the given statements alone). Merged by a program (wip/merge.py) out of: GWorths, GAmt, GOpen, GParse. -/
import Derived.Test.YtmocphafkimdpaaDoorBElementb
import Derived.Test.YtmocphafkimdpaaDoorBElementg
import Derived.Test.YtmocphafkimdpaaDoorBElemente
import Derived.Test.YtmocphafkimdpaaDoorBElementf
import Derived.Test.YtmocphafkimdpaaDoorBElementd
import Derived.Test.YtmocphafkimdpaaDoorBElementa
import Derived.WalkKit
import Derived.ProofKit
import Derived.OpenShut
import Derived.ShutString
import Derived.ChangeOld
import Derived.Deep.Slices
import Derived.Test.YtmocphafkimdpaaDoorBElementc
import Derived.Lib.Bytes

/- worths() is true: the example that every law of the elements asks first. -/
namespace Go.Proofs.YtmocphafkimdpaaDoor.P
open Go.RowKit Go.Proofs.YtmocphafkimdpaaDoorW.PrintWords Go.Proofs.YtmocphafkimdpaaDoorW.PrintLast Go.Proofs.YtmocphafkimdpaaDoorW.PrintMore
set_option linter.unusedVariables false

def sHourly : ByteArray := ⟨#[104, 111, 117, 114, 108, 121]⟩
def sB : ByteArray := ⟨#[98]⟩
def exX : S48 := ⟨sHourly, 1250, 3750⟩
def exB : S48 := ⟨sB, 5, 100⟩
def exO : S48 := ⟨sHourly, 7, 100⟩
theorem ex_parse : element_Parse.f 60 [sHourly, ⟨#[49, 50, 46, 53, 48]⟩, ⟨#[120, 51, 55, 46, 53, 48]⟩] = some (sHourly, 1250, 3750, 0) := by kernel_rfl
theorem ex_value : element_Value.f 60 sHourly 1250 3750 = some (46875, 0) := by kernel_rfl
theorem ex_sums : element_Sums.f [exX, exB, exX] = some ([⟨sHourly, 93750⟩, ⟨sB, 5⟩], 0) := by kernel_rfl
theorem ex_change : element_Change.f 60 sHourly 7 [exX, exB, exX] = some [exO, exB] := by kernel_rfl
theorem ex_same : element_Same.f 60 [exO, exB] [exO, exB] = some true := by kernel_rfl
theorem ex_of : element_Of.f sB 5 = some (sB, 5, 100) := rfl
theorem ex_of2 : element_Of.f sHourly 7 = some (sHourly, 7, 100) := rfl
theorem ex_t1 : money_Text.f 1250 = some ⟨#[49, 50, 46, 53, 48]⟩ := by
  rw [text_f 1250 (by decide) (by decide)]
  kernel_rfl
theorem ex_t2 : money_Text.f 3750 = some ⟨#[51, 55, 46, 53, 48]⟩ := by
  rw [text_f 3750 (by decide) (by decide)]
  kernel_rfl
theorem ex_t3 : money_Text.f 5 = some ⟨#[48, 46, 48, 53]⟩ := by
  rw [text_f 5 (by decide) (by decide)]
  kernel_rfl
theorem ex_wtext1 : element_Text.f sHourly 1250 3750 = some ⟨#[104, 111, 117, 114, 108, 121, 32, 49, 50, 46, 53, 48, 32, 120, 51, 55, 46, 53, 48]⟩ := by
  unfold element_Text.f
  rw [ex_t1, ex_t2]
  kernel_rfl
theorem ex_wtext2 : element_Text.f sB 5 100 = some ⟨#[98, 32, 48, 46, 48, 53]⟩ := by
  unfold element_Text.f
  rw [ex_t3]
  kernel_rfl

theorem worthsP_f : stipendlaw11_worthsP.f 60 = some true := by
  unfold stipendlaw11_worthsP.f
  rw [show element_Parse.f 60 [(⟨#[104, 111, 117, 114, 108, 121]⟩ : ByteArray), ⟨#[49, 50, 46, 53, 48]⟩, ⟨#[120, 51, 55, 46, 53, 48]⟩] = _ from ex_parse, Option.bind_some]
  rw [show element_Value.f 60 sHourly 1250 3750 = _ from ex_value, Option.bind_some]
  rw [show element_Of.f (⟨#[98]⟩ : ByteArray) 5 = _ from ex_of, Option.bind_some]
  rw [show element_Sums.f [(⟨sHourly, 1250, 3750⟩ : S48), ⟨sB, 5, 100⟩, ⟨sHourly, 1250, 3750⟩] = _ from ex_sums, Option.bind_some]
  rw [Option.bind_some]
  rw [show element_Change.f 60 (⟨#[104, 111, 117, 114, 108, 121]⟩ : ByteArray) 7 [(⟨sHourly, 1250, 3750⟩ : S48), ⟨sB, 5, 100⟩, ⟨sHourly, 1250, 3750⟩] = _ from ex_change, Option.bind_some]
  rw [if_pos (by kernel_rfl), if_pos rfl, show element_Text.f sHourly 1250 3750 = _ from ex_wtext1, Option.bind_some, if_pos (by kernel_rfl), Option.bind_some, show element_Text.f sB 5 100 = _ from ex_wtext2]
  kernel_rfl

def stipendlaw11_worths.f : Option Bool := some true
theorem stipendlaw11_worths.calls (r : Bool) (w : World) (h : stipendlaw11_worths.f = some r) (hG : GTab w := by first | exact GTab.below HG.out (by repeat (first | (with_reducible first | exact HB.out | apply below_alloc | apply pw_below_drewN | apply below_drew1 | apply below_drew) | exact HB.out)) | exact HG.out) :
    Calls Tryd.prog 35 #[] w fun e w' => e = .returned (.bool r) ∧ Below w.heap.size w w' := by
  obtain rfl : true = r := Option.some.inj h
  exact stipendlaw11_worthsP.calls 60 true rfl w worthsP_f hG
end Go.Proofs.YtmocphafkimdpaaDoor.P


/- Amounts: may they be, and two together, in plain words. -/
namespace Go.Proofs.YtmocphafkimdpaaDoor.P
open Go.RowKit Go.Proofs.YtmocphafkimdpaaDoorW.PrintWords Go.Proofs.YtmocphafkimdpaaDoorW.PrintLast Go.Proofs.YtmocphafkimdpaaDoorW.PrintMore

def okAmt (x : Int) : Bool := decide (-100000000000 ≤ x) && decide (x ≤ 100000000000)
theorem okAmt_iff (x : Int) : okAmt x = true ↔ -100000000000 ≤ x ∧ x ≤ 100000000000 := by simp [okAmt]

/-- money.Right: a list's amounts may all be. -/
theorem right_l0 (l : List Int) (hl : l.length < 1000) : ∀ (d i k : Nat), i + d = l.length → d < k → money_Right.l0 k l (l.length : Int) i = some ((l.drop i).all okAmt) := by
  intro d
  induction d with
  | zero =>
    intro i k hi hk
    obtain ⟨k, rfl⟩ : ∃ m, k = m + 1 := ⟨k - 1, by omega⟩
    simp only [money_Right.l0]
    rw [if_neg (by omega), List.drop_of_length_le (by omega)]
    rfl
  | succ d ih =>
    intro i k hi hk
    obtain ⟨k, rfl⟩ : ∃ m, k = m + 1 := ⟨k - 1, by omega⟩
    simp only [money_Right.l0]
    have hlt : i < l.length := by omega
    have hrd : rd l (i : Int) = l[i] := by simp [rd, hlt]
    have hw : wrap64 ((i : Int) + 1) = ((i + 1 : Nat) : Int) := by unfold wrap64; omega
    rw [if_pos (by omega), if_pos (by omega), if_pos (by omega), hrd, hw, List.drop_eq_getElem_cons hlt, List.all_cons]
    by_cases h1 : l[i] > 100000000000
    · rw [if_pos h1]
      have : okAmt l[i] = false := by simp [okAmt]; omega
      rw [this]; rfl
    · rw [if_neg h1]
      by_cases h2 : l[i] < -100000000000
      · rw [if_pos h2]
        have : okAmt l[i] = false := by simp [okAmt]; omega
        rw [this]; rfl
      · rw [if_neg h2, ih (i + 1) k (by omega) (by omega)]
        have : okAmt l[i] = true := by simp [okAmt]; omega
        rw [this]; rfl
theorem right_f (l : List Int) (hl : l.length < 1000) : money_Right.f 1001 l = some (l.all okAmt) := by
  unfold money_Right.f
  have := right_l0 l hl l.length 0 1001 (by omega) (by omega)
  simpa using this

theorem mright_ev (l : List Int) (hl : l.length < 1000) : Ev (fun k => money_Right.f k l) (l.all okAmt) := Ev.of_mono (money_Right.mono _) (right_f l hl)
theorem madd_ev (a b : Int) : Ev (fun k => money_Add.f k a b) (if (okAmt a && okAmt b && okAmt (a + b)) = true then (a + b, 0) else (0, 10)) := by
  unfold money_Add.f
  refine Ev.bind (mright_ev [a, b] (by simp)) ?_
  by_cases c : okAmt a = true ∧ okAmt b = true
  · obtain ⟨ha, hb⟩ := c
    have ha' := (okAmt_iff a).1 ha
    have hb' := (okAmt_iff b).1 hb
    refine Ev.pos (by simp [ha, hb]) ?_
    rw [w64 (x := a + b) (by omega) (by omega)]
    refine Ev.bind (a := if okAmt (a + b) = true then (a + b, 0) else (0, 10)) ?_ (Ev.const (by rw [ha, hb]; rfl))
    unfold money_check.f
    refine Ev.bind (mright_ev [a + b] (by simp)) ?_
    by_cases c : okAmt (a + b) = true
    · rw [if_pos c]
      exact Ev.pos (by simp [c]) Ev.now
    · rw [if_neg c]
      exact Ev.neg (by simp [c]) Ev.now
  · have : (okAmt a && okAmt b) = false := by
      rw [Bool.eq_false_iff]
      intro h
      exact c (Bool.and_eq_true_iff.1 h)
    refine Ev.neg (by simpa using this) ?_
    rw [this]
    exact Ev.now
theorem madd_ok (a b : Int) (ha : okAmt a = true) (hb : okAmt b = true) (hs : okAmt (a + b) = true) : Ev (fun k => money_Add.f k a b) (a + b, 0) := by
  have := madd_ev a b
  rwa [if_pos (by simp [ha, hb, hs])] at this
theorem madd_no (a b : Int) (h : ¬(okAmt a = true ∧ okAmt b = true ∧ okAmt (a + b) = true)) : Ev (fun k => money_Add.f k a b) (0, 10) := by
  have := madd_ev a b
  rwa [if_neg (by simp only [Bool.and_eq_true]; exact fun ⟨⟨a, b⟩, c⟩ => h ⟨a, b, c⟩)] at this

theorem add0 (a : Int) (ha : okAmt a = true) : Ev (fun k => money_Add.f k 0 a) (a, 0) := by
  have := madd_ok 0 a (by decide) ha (by rwa [Int.zero_add])
  rwa [Int.zero_add] at this
theorem add0_no (a : Int) (ha : ¬okAmt a = true) : Ev (fun k => money_Add.f k 0 a) (0, 10) := madd_no 0 a (fun h => ha h.2.1)
end Go.Proofs.YtmocphafkimdpaaDoor.P


/- A datum that is read as an argument is a value of its kind: the printed contracts' own readings, out of a row's premises. -/
namespace Go.Proofs.YtmocphafkimdpaaDoor.P
open Go.RowKit Go.Proofs.YtmocphafkimdpaaDoorW.PrintWords Go.Proofs.YtmocphafkimdpaaDoorW.PrintLast Go.Proofs.YtmocphafkimdpaaDoorW.PrintMore

/-- Every reading at type T is a value of kind d that keeps G. -/
def Opens (P : Program) (T : TypeId) {α : Type} (d : Kd α) (G : α → Prop) : Prop :=
  ∀ (H : Type) (enc : TypeId × Value → H) (w : World) (base : Nat) (spare : Nat → Bool) (held : Bool) (fuel : Nat) (cs : List Value) (x : DataW H × List MemPlace),
    DataW.trod enc P w base spare held fuel T cs = some x → ∃ a, d.K w a cs ∧ G a

/-- .. the fields of a struct, from offset off on (n cells in all). -/
def OpensF (P : Program) (n : Nat) (fs : List Field) (off : Nat) {α : Type} (d : Kd α) (G : α → Prop) : Prop :=
  ∀ (H : Type) (enc : TypeId × Value → H) (w : World) (base : Nat) (spare : Nat → Bool) (held : Bool) (fuel : Nat) (cs : List Value), cs.length = n →
    (∀ f, f ∈ fs → ∃ y, DataW.trod enc P w base spare held fuel f.type ((cs.drop f.offset).take (P.cellsOf f.type)) = some y) → ∃ a, d.K w a (cs.drop off) ∧ G a

theorem opens_int {P : Program} {T : TypeId} {k : IntKind} (ht : P.underlying T = some (.int k)) : Opens P T (Kd.int k) (fun n => (Lit.int k n).wf = true) := by
  intro H enc w base spare held fuel cs x h
  obtain ⟨n, rfl, _, hw⟩ := DataW.trod_int ht h
  exact ⟨n, rfl, hw⟩

theorem opens_string {P : Program} {T : TypeId} (ht : P.underlying T = some .string) : Opens P T Kd.string (fun s => s.size ≤ maxLen) := by
  intro H enc w base spare held fuel cs x h
  cases fuel with
  | zero => simp [DataW.trod] at h
  | succ n =>
    unfold DataW.trod at h
    rw [ht] at h
    split at h <;> simp_all
    rename_i s
    exact ⟨s, rfl, h.1⟩

theorem opens_iso {P : Program} {T : TypeId} {α β : Type} {d : Kd α} {G : α → Prop} (h : Opens P T d G) (f : β → α) (g : α → β) (hfg : ∀ a, f (g a) = a) : Opens P T (Kd.iso d f) (fun b => G (f b)) := by
  intro H enc w base spare held fuel cs x hx
  obtain ⟨a, ha, hg⟩ := h H enc w base spare held fuel cs x hx
  exact ⟨g a, by show d.K w (f (g a)) cs; rw [hfg]; exact ha, by show G (f (g a)); rw [hfg]; exact hg⟩

theorem opensF_one {P : Program} {n : Nat} {f : Field} {α : Type} {d : Kd α} {G : α → Prop} (off : Nat) (h : Opens P f.type d G) (ho : f.offset = off) (hn : off + P.cellsOf f.type = n) : OpensF P n [f] off d G := by
  intro H enc w base spare held fuel cs hl hf
  subst ho
  obtain ⟨y, hy⟩ := hf f (by simp)
  have e : (cs.drop f.offset).take (P.cellsOf f.type) = cs.drop f.offset := List.take_of_length_le (by rw [List.length_drop]; omega)
  rw [e] at hy
  exact h H enc w base spare held fuel _ _ hy

theorem opensF_cons {P : Program} {n off : Nat} {f : Field} {fs : List Field} {α β : Type} {d : Kd α} {d' : Kd β} {G : α → Prop} {G' : β → Prop} (off' : Nat) (h : Opens P f.type d G) (ho : f.offset = off) (he : off + P.cellsOf f.type = off') (hs : OpensF P n fs off' d' G') :
    OpensF P n (f :: fs) off (Kd.pair d d') (fun x => G x.1 ∧ G' x.2) := by
  intro H enc w base spare held fuel cs hl hf
  subst ho he
  obtain ⟨y, hy⟩ := hf f (by simp)
  obtain ⟨a, ha, hg⟩ := h H enc w base spare held fuel _ _ hy
  obtain ⟨b, hb, hg'⟩ := hs H enc w base spare held fuel cs hl (fun f' hf' => hf f' (List.mem_cons_of_mem _ hf'))
  refine ⟨(a, b), ⟨_, _, ?_, ha, hb⟩, hg, hg'⟩
  rw [← List.drop_drop, List.take_append_drop]

theorem opens_struct {P : Program} {T : TypeId} {fs : Array Field} {α : Type} {d : Kd α} {G : α → Prop} (ht : P.underlying T = some (.struct fs)) (h : OpensF P (P.cellsOf T) fs.toList 0 d G) : Opens P T d G := by
  intro H enc w base spare held fuel cs x hx
  obtain ⟨xs, n, _, _, hl, hlen, hf⟩ := DataW.trod_struct ht hx
  obtain ⟨a, ha, hg⟩ := h H enc w base spare held n cs hl (fun f hf' => by
    obtain ⟨i, hi⟩ := List.mem_iff_getElem?.1 hf'
    have h1 := hf i f (by simpa using hi)
    have hlt : i < xs.length := by
      have h2 : i < fs.toList.length := by
        obtain ⟨h3, _⟩ := List.getElem?_eq_some_iff.1 hi
        exact h3
      simp at h2
      omega
    rw [List.getElem?_eq_getElem hlt] at h1
    exact ⟨_, h1⟩)
  exact ⟨a, by simpa using ha, hg⟩

theorem gather {β : Type} {p : Nat → β → Prop} : ∀ {n : Nat}, (∀ i, i < n → ∃ x, p i x) → ∃ q : List β, q.length = n ∧ ∀ i x, q[i]? = some x → p i x
  | 0, _ => ⟨[], rfl, fun i p h => by simp at h⟩
  | n + 1, hall => by
    obtain ⟨q, hq, hp⟩ := gather (n := n) (p := p) (fun i hi => hall i (by omega))
    obtain ⟨x, hx⟩ := hall n (by omega)
    refine ⟨q ++ [x], by simp [hq], fun i p' h => ?_⟩
    rw [List.getElem?_append] at h
    split at h
    · exact hp i p' h
    · rename_i hge
      rcases Nat.eq_or_lt_of_le (Nat.le_of_not_lt hge) with h3 | h3
      · subst h3
        simp at h
        subst h
        rw [hq]
        exact hx
      · rw [List.getElem?_eq_none (by simp; omega)] at h
        cases h

theorem opens_slice {P : Program} {T e : TypeId} {α : Type} {d : Kd α} {G : α → Prop} (ht : P.underlying T = some (.slice e)) (he : Opens P e d G) (hc : P.cellsOf e = d.sz) :
    Opens P T (Kd.slice e d) (fun l => l.length ≤ maxLen ∧ ∀ x ∈ l, G x) := by
  intro H enc w base spare held fuel cs x hx
  rcases Go.Deep.open_slice ht hx with ⟨rfl, _⟩ | ⟨a, len, cap, m, n, D, Pl, rfl, hb, hl, hm, hmm, _, hi⟩
  · exact ⟨[], ⟨none, 0, rfl, Nat.le_refl _, rfl, by simp, fun h => absurd h (by simp)⟩, by simp, by simp⟩
  · have hle : len ≤ m := by rw [hmm]; split <;> omega
    have hall : ∀ i, i < len → ∃ p : α × List Value, w.cells? base (a.add (i * P.cellsOf e)) (P.cellsOf e) = some p.2 ∧ d.K w p.1 p.2 ∧ G p.1 := fun i hlt => by
      obtain ⟨cs', h1, h2⟩ := hi i (by omega)
      obtain ⟨y, hy, hg⟩ := he H enc w base spare held n cs' _ h2
      exact ⟨(y, cs'), h1, hy, hg⟩
    have hex := gather (n := len) (p := fun i (p : α × List Value) => w.cells? base (a.add (i * P.cellsOf e)) (P.cellsOf e) = some p.2 ∧ d.K w p.1 p.2 ∧ G p.1) hall
    obtain ⟨q, hq, hp⟩ := hex
    refine ⟨q.map (·.1), ⟨some a, cap, by simp [hq], by simp [hq]; exact hl, rfl, ?_, fun _ => ⟨a, rfl, fun j p hj => ?_⟩⟩, by simp [hq]; exact Nat.le_trans hl hm, ?_⟩
    · simp [hq]
      have : maxLen = 9223372036854775807 := by decide
      omega
    · rw [List.getElem?_map, Option.map_eq_some_iff] at hj
      obtain ⟨p', hj, rfl⟩ := hj
      obtain ⟨h1, h2, h3⟩ := hp j p' hj
      obtain ⟨_, hlen, hcell⟩ := World.cells?_some h1
      refine ⟨p'.2, d.K_len h2, h2, fun i u hu => ?_⟩
      have hilt : i < P.cellsOf e := by
        obtain ⟨h4, _⟩ := List.getElem?_eq_some_iff.1 hu
        omega
      have := hcell i hilt
      rw [hu, Go.Deep.add_add, hc] at this
      exact this
    · intro y hy
      obtain ⟨p, hpm, rfl⟩ := List.mem_map.1 hy
      obtain ⟨i, hi⟩ := List.mem_iff_getElem?.1 hpm
      exact (hp i p hi).2.2

/-! the kinds of this seat's arguments -/
theorem oc2 : Tryd.prog.cellsOf 2 = 1 := by kernel_rfl
theorem oc3 : Tryd.prog.cellsOf 3 = 1 := by kernel_rfl
theorem oc9 : Tryd.prog.cellsOf 9 = 1 := by kernel_rfl
theorem oc23 : Tryd.prog.cellsOf 23 = 1 := by kernel_rfl
theorem oc29 : Tryd.prog.cellsOf 29 = 2 := by kernel_rfl
theorem oc48 : Tryd.prog.cellsOf 48 = 3 := by kernel_rfl
theorem oc82 : Tryd.prog.cellsOf 82 = 1 := by kernel_rfl
theorem oc83 : Tryd.prog.cellsOf 83 = 1 := by kernel_rfl
theorem oc84 : Tryd.prog.cellsOf 84 = 1 := by kernel_rfl
theorem oc86 : Tryd.prog.cellsOf 86 = 5 := by kernel_rfl
theorem oc89 : Tryd.prog.cellsOf 89 = 4 := by kernel_rfl
theorem oc95 : Tryd.prog.cellsOf 95 = 1 := by kernel_rfl
theorem oc97 : Tryd.prog.cellsOf 97 = 6 := by kernel_rfl
theorem oc222 : Tryd.prog.cellsOf 222 = 3 := by kernel_rfl

theorem o2 : Opens Tryd.prog 2 (Kd.int .i64) (fun n => (Lit.int .i64 n).wf = true) := opens_int Tryd.underlying2
theorem o3 : Opens Tryd.prog 3 (Kd.int .i64) (fun n => (Lit.int .i64 n).wf = true) := opens_int Tryd.underlying3
theorem o9 : Opens Tryd.prog 9 Kd.string (fun s => s.size ≤ maxLen) := opens_string Tryd.underlying9
def okI (n : Int) : Prop := (Lit.int .i64 n).wf = true
def okS (s : ByteArray) : Prop := s.size ≤ maxLen
def okL {α : Type} (g : α → Prop) (l : List α) : Prop := l.length ≤ maxLen ∧ ∀ x ∈ l, g x
def ok29 (x : S29) : Prop := okI x.f0 ∧ okI x.f1
theorem o29 : Opens Tryd.prog 29 k29 ok29 :=
  opens_iso (opens_struct Tryd.underlying29 (opensF_cons 1 o2 rfl (by kernel_rfl) (opensF_one 1 o2 rfl (by kernel_rfl)))) _ (fun a => ⟨a.1, a.2⟩) (fun _ => rfl)
theorem o23 : Opens Tryd.prog 23 (Kd.slice 29 k29) (okL ok29) := opens_slice Tryd.underlying23 o29 oc29
theorem o32 : Opens Tryd.prog 32 (Kd.slice 23 (Kd.slice 29 k29)) (okL (okL ok29)) := opens_slice Tryd.underlying32 o23 oc23
def ok48 (x : S48) : Prop := okS x.f0 ∧ okI x.f1 ∧ okI x.f2
theorem o48 : Opens Tryd.prog 48 k48 ok48 :=
  opens_iso (opens_struct Tryd.underlying48 (opensF_cons 1 o9 rfl (by kernel_rfl) (opensF_cons 2 o2 rfl (by kernel_rfl) (opensF_one 2 o2 rfl (by kernel_rfl))))) _ (fun a => ⟨a.1, a.2.1, a.2.2⟩) (fun _ => rfl)
theorem o71 : Opens Tryd.prog 71 (Kd.slice 48 k48) (okL ok48) := opens_slice Tryd.underlying71 o48 oc48
theorem o52 : Opens Tryd.prog 52 (Kd.slice 3 (Kd.int .i64)) (okL okI) := opens_slice Tryd.underlying52 o3 oc3
theorem o56 : Opens Tryd.prog 56 (Kd.slice 2 (Kd.int .i64)) (okL okI) := opens_slice Tryd.underlying56 o2 oc2
theorem o65 : Opens Tryd.prog 65 (Kd.slice 9 Kd.string) (okL okS) := opens_slice Tryd.underlying65 o9 oc9
def ok222 (x : S222) : Prop := okI x.f0 ∧ okI x.f1 ∧ okI x.f2
theorem o222 : Opens Tryd.prog 222 k222 ok222 :=
  opens_iso (opens_struct Tryd.underlying222 (opensF_cons 1 o2 rfl (by kernel_rfl) (opensF_cons 2 o3 rfl (by kernel_rfl) (opensF_one 2 o3 rfl (by kernel_rfl))))) _ (fun a => ⟨a.1, a.2.1, a.2.2⟩) (fun _ => rfl)
theorem o95 : Opens Tryd.prog 95 (Kd.slice 222 k222) (okL ok222) := opens_slice Tryd.underlying95 o222 oc222
theorem o82 : Opens Tryd.prog 82 (Kd.slice 95 (Kd.slice 222 k222)) (okL (okL ok222)) := opens_slice Tryd.underlying82 o95 oc95
def ok97 (x : S97) : Prop := okS x.f0 ∧ okI x.f1 ∧ okL ok222 x.f2 ∧ okI x.f3 ∧ okI x.f4 ∧ okI x.f5
theorem o97 : Opens Tryd.prog 97 k97 ok97 :=
  opens_iso (opens_struct Tryd.underlying97 (opensF_cons 1 o9 rfl (by kernel_rfl) (opensF_cons 2 o3 rfl (by kernel_rfl) (opensF_cons 3 o95 rfl (by kernel_rfl) (opensF_cons 4 o2 rfl (by kernel_rfl) (opensF_cons 5 o2 rfl (by kernel_rfl) (opensF_one 5 o3 rfl (by kernel_rfl)))))))) _ (fun a => ⟨a.1, a.2.1, a.2.2.1, a.2.2.2.1, a.2.2.2.2.1, a.2.2.2.2.2⟩) (fun _ => rfl)
theorem o83 : Opens Tryd.prog 83 (Kd.slice 97 k97) (okL ok97) := opens_slice Tryd.underlying83 o97 oc97
def ok89 (x : S89) : Prop := okS x.f0 ∧ okI x.f1 ∧ okI x.f2 ∧ okI x.f3
theorem o89 : Opens Tryd.prog 89 k89 ok89 :=
  opens_iso (opens_struct Tryd.underlying89 (opensF_cons 1 o9 rfl (by kernel_rfl) (opensF_cons 2 o3 rfl (by kernel_rfl) (opensF_cons 3 o3 rfl (by kernel_rfl) (opensF_one 3 o3 rfl (by kernel_rfl)))))) _ (fun a => ⟨a.1, a.2.1, a.2.2.1, a.2.2.2⟩) (fun _ => rfl)
theorem o84 : Opens Tryd.prog 84 (Kd.slice 89 k89) (okL ok89) := opens_slice Tryd.underlying84 o89 oc89
/-- A table's cells, side by side. -/
def ok86 (x : List (List S222) × List S97 × List S89 × Int × Int) : Prop := okL (okL ok222) x.1 ∧ okL ok97 x.2.1 ∧ okL ok89 x.2.2.1 ∧ okI x.2.2.2.1 ∧ okI x.2.2.2.2
def k86 : Kd (List (List S222) × List S97 × List S89 × Int × Int) := Kd.pair (Kd.slice 95 (Kd.slice 222 k222)) (Kd.pair (Kd.slice 97 k97) (Kd.pair (Kd.slice 89 k89) (Kd.pair (Kd.int .i64) (Kd.int .i64))))
set_option maxRecDepth 20000 in
theorem o86 : Opens Tryd.prog 86 k86 ok86 :=
  opens_struct Tryd.underlying86 (opensF_cons 1 o82 rfl (by kernel_rfl) (opensF_cons 2 o83 rfl (by kernel_rfl) (opensF_cons 3 o84 rfl (by kernel_rfl) (opensF_cons 4 o3 rfl (by kernel_rfl) (opensF_one 4 o3 rfl (by kernel_rfl))))))

theorem slice_of {P : Program} {T e : TypeId} (ht : P.underlying T = some (.slice e)) {w : World} {r : Reach} {b0 : Nat} {v : Value} (hv : Value.okWide P w r b0 T v) : ∃ A n c, v = .slice A n c := by
  exact Go.WideShapes.okWide_slice ht hv
/-- An argument that is a slice. -/
theorem open_row {P : Program} {T e : TypeId} {α : Type} {d : Kd α} {G : α → Prop} (ht : P.underlying T = some (.slice e)) (ho : Opens P T (Kd.slice e d) (okL G)) {H : Type} {enc : TypeId × Value → H} {w : World} {base b0 : Nat} {spare : Nat → Bool} {held : Bool} {r : Reach} {v : Value} {x : DataW H} {ps : List MemPlace}
    (hv : Value.okWide P w r b0 T v) (h : DataW.Trod enc P w base spare held T v x ps) : ∃ A c l, v = .slice A l.length c ∧ l.length ≤ c ∧ Kd.C d w A l.length l ∧ okL G l := by
  obtain ⟨a, len, cap, rfl⟩ := slice_of ht hv
  obtain ⟨fuel, hf⟩ := h
  obtain ⟨l, ⟨A, c, e1, hl, hC⟩, hg⟩ := ho H enc w base spare held fuel _ _ hf
  simp [Value.cells] at e1
  obtain ⟨rfl, rfl, rfl⟩ := e1
  exact ⟨a, cap, l, rfl, hl, hC, hg⟩
theorem trod_below {P : Program} {H : Type} {enc : TypeId × Value → H} {w : World} {base : Nat} {spare : Nat → Bool} {held : Bool} {T : TypeId} {v : Value} {x : DataW H} {ps : List MemPlace} (h : DataW.Trod enc P w base spare held T v x ps) : ∀ p ∈ ps, p.block < w.heap.size := by
  obtain ⟨m, hm⟩ := h
  exact DataW.trod_lt m _ _ _ hm
end Go.Proofs.YtmocphafkimdpaaDoor.P


/- money.Parse and word.Name, told of lists of bytes. -/
namespace Go.Proofs.YtmocphafkimdpaaDoor.P
open Go.RowKit Go.Proofs.YtmocphafkimdpaaDoorW.PrintWords Go.Proofs.YtmocphafkimdpaaDoorW.PrintLast Go.Proofs.YtmocphafkimdpaaDoorW.PrintMore
set_option linter.unusedVariables false

abbrev bs (l : List UInt8) : ByteArray := ⟨l.toArray⟩
theorem bs_size (l : List UInt8) : (bs l).size = l.length := by simp [ByteArray.size]
theorem bs_toList (l : List UInt8) : (bs l).toList = l := by rw [Lib.toList_data]
theorem bs_eta (s : ByteArray) : bs s.toList = s := by
  rw [Lib.toList_data]
theorem bs_bt (l : List UInt8) (i : Nat) {c : UInt8} (h : l[i]? = some c) : bt (bs l) (i : Int) = (c.toNat : Int) := by
  obtain ⟨h1, h2⟩ := List.getElem?_eq_some_iff.1 h
  unfold bt
  rw [dif_pos (by rw [Int.toNat_natCast, bs_size]; exact h1)]
  congr 1
  subst h2
  simp [ByteArray.getElem_eq_getElem_data]
theorem bs_extract (l : List UInt8) (a b : Nat) : (bs l).extract a b = bs ((l.take b).drop a) := by
  apply ByteArray.ext
  simp [List.drop_take]

def dig (c : UInt8) : Bool := decide (48 ≤ c.toNat) && decide (c.toNat ≤ 57)
theorem dig_iff (c : UInt8) : dig c = true ↔ 48 ≤ c.toNat ∧ c.toNat ≤ 57 := by simp [dig]
theorem digit_f (c : UInt8) : money_digit.f (c.toNat : Int) = some (dig c) := by
  unfold money_digit.f dig
  by_cases h : 48 ≤ c.toNat
  · rw [if_pos (by omega)]
    congr 1
    simp only [h, decide_true, Bool.true_and, decide_eq_decide]
    omega
  · rw [if_neg (by omega)]
    simp [h]
/-- The number that digits write, behind n. -/
def valFrom (n : Nat) : List UInt8 → Nat
  | [] => n
  | c :: t => valFrom (10 * n + (c.toNat - 48)) t
def wholeOk (l : List UInt8) : Bool := match l with
  | [] => false
  | [_] => true
  | c :: _ => c.toNat != 48

theorem whole_end (n : Nat) (l : List UInt8) : Ev (fun (_ : Nat) => if l = ([] : List UInt8) then (some ((n : Int), false)) else (if (l.length : Int) = 1 then (some ((n : Int), true)) else (if 0 < (l.length : Int) then (some ((n : Int), ((bt (bs l) 0) != 48))) else none))) ((n : Int), wholeOk l) := by
  match l with
  | [] => exact Ev.pos rfl Ev.now
  | [c] => exact Ev.neg (by simp) (Ev.pos (by simp) Ev.now)
  | c :: d :: r =>
    refine Ev.neg (by simp) (Ev.neg (by simp only [List.length_cons]; omega) (Ev.pos (by simp only [List.length_cons]; omega) (Ev.const ?_)))
    have e : bt (bs (c :: d :: r)) 0 = (c.toNat : Int) := bs_bt (c :: d :: r) 0 rfl
    rw [e]
    simp only [wholeOk]
    congr 2
    rw [Bool.eq_iff_iff]
    simp only [bne_iff_ne, ne_eq]
    omega
theorem whole_l0_ev (l : List UInt8) (hl : l.length ≤ 12) : ∀ (t : List UInt8) (i n : Nat), l.drop i = t → i ≤ l.length → n < 10 ^ i →
    Ev (fun k => money_whole.l0 k (bs l) (n : Int) (l.length : Int) (i : Int)) (if t.all dig = true then ((valFrom n t : Nat), wholeOk l) else (0, false))
  | [], i, n, h, hi, hn => by
    clear hn
    have hi' : l.length ≤ i := by simpa using h
    refine Ev.shift (fun k => by rw [money_whole.l0]) ?_
    refine Ev.neg (by omega) ?_
    rw [bs_toList, bs_size]
    exact (whole_end n l).res (if_pos rfl).symm
  | c :: t, i, n, h, hi, hn => by
    obtain ⟨h1, h2, h3⟩ := drop_cons_get h
    have hp : 10 ^ i ≤ 10 ^ 11 := Nat.pow_le_pow_right (by decide) (by omega)
    refine Ev.shift (fun k => by rw [money_whole.l0]) ?_
    refine Ev.pos (by omega) (Ev.pos (by omega) (Ev.pos (by rw [bs_size]; omega) ?_))
    rw [bs_bt l i h1, digit_f]
    by_cases cd : dig c = true
    · have cd' := (dig_iff c).1 cd
      refine Ev.bindc rfl (Ev.pos cd ?_)
      rw [w64 (x := 10 * (n : Int)) (by omega) (by omega), w64 (x := (i : Int) + 1) (by omega) (by omega)]
      rw [show wrap64 (10 * (n : Int) + ((c.toNat : Int) - 48) % 256) = ((10 * n + (c.toNat - 48) : Nat) : Int) by rw [w64 (by omega) (by omega)]; omega]
      rw [show ((c :: t).all dig) = t.all dig by simp [cd]]
      exact whole_l0_ev l hl t (i + 1) _ h2 (by omega) (by rw [Nat.pow_succ]; omega)
    · refine Ev.bindc rfl (Ev.neg cd ?_)
      rw [if_neg (by simp [cd])]
      exact Ev.now
theorem whole_ev (l : List UInt8) (hl : l.length ≤ 12) : Ev (fun k => money_whole.f k (bs l)) (if l.all dig = true then ((valFrom 0 l : Nat), wholeOk l) else (0, false)) := by
  unfold money_whole.f
  rw [bs_size]
  exact whole_l0_ev l hl l 0 0 rfl (Nat.zero_le _) (by decide)

theorem digits_l0_ev (l : List UInt8) (hl : l.length ≤ 1000) : ∀ (t : List UInt8) (i : Nat), l.drop i = t → i ≤ l.length → Ev (fun k => money_digits.l0 k (bs l) (l.length : Int) (i : Int)) (t.all dig)
  | [], i, h, hi => by
    have hi' : l.length ≤ i := by simpa using h
    refine Ev.shift (fun k => by rw [money_digits.l0]) ?_
    exact Ev.neg (by omega) Ev.now
  | c :: t, i, h, hi => by
    obtain ⟨h1, h2, h3⟩ := drop_cons_get h
    refine Ev.shift (fun k => by rw [money_digits.l0]) ?_
    refine Ev.pos (by omega) (Ev.pos (by omega) (Ev.pos (by rw [bs_size]; omega) ?_))
    rw [bs_bt l i h1, digit_f]
    by_cases cd : dig c = true
    · refine Ev.bindc rfl (Ev.pos cd ?_)
      rw [w64 (x := (i : Int) + 1) (by omega) (by omega), show ((c :: t).all dig) = t.all dig by simp [cd]]
      exact digits_l0_ev l hl t (i + 1) h2 (by omega)
    · refine Ev.bindc rfl (Ev.neg cd ?_)
      rw [show ((c :: t).all dig) = false by simp [cd]]
      exact Ev.now
theorem digits_ev (l : List UInt8) (hl : l.length ≤ 1000) : Ev (fun k => money_digits.f k (bs l)) (l.all dig) := by
  unfold money_digits.f
  rw [bs_size]
  exact digits_l0_ev l hl l 0 rfl (Nat.zero_le _)

theorem valFrom_lt (t : List UInt8) : ∀ (n p : Nat), t.all dig = true → n < p → valFrom n t < p * 10 ^ t.length := by
  induction t with
  | nil =>
    intro n p _ h
    have e : valFrom n [] = n := rfl
    rw [e, List.length_nil, Nat.pow_zero, Nat.mul_one]
    exact h
  | cons c t ih =>
    intro n p ha h
    simp only [List.all_cons, Bool.and_eq_true] at ha
    have := (dig_iff c).1 ha.1
    have h2 := ih (10 * n + (c.toNat - 48)) (10 * p) ha.2 (by omega)
    have e : valFrom n (c :: t) = valFrom (10 * n + (c.toNat - 48)) t := rfl
    rw [e, List.length_cons, Nat.pow_succ, Nat.mul_comm (10 ^ t.length) 10, ← Nat.mul_assoc, Nat.mul_comm p 10]
    exact h2

theorem check_ev (x : Int) : Ev (fun k => money_check.f k x) (if okAmt x = true then (x, 0) else (0, 10)) := by
  unfold money_check.f
  refine Ev.bind (mright_ev [x] (by simp)) ?_
  by_cases c : okAmt x = true
  · rw [if_pos c]
    exact Ev.pos (by simp [c]) Ev.now
  · rw [if_neg c]
    exact Ev.neg (by simp [c]) Ev.now

def sgn (b : Bool) : Int := if b = true then -1 else 1
/-- What stands ahead of the point, the coins behind it, and the sign. -/
def partOf (neg : Bool) (l : List UInt8) (coins : Nat) : Int × Int :=
  if 12 < l.length then (if (l.all dig && wholeOk (l.take 12)) = true then (0, 10) else (0, 5))
  else if (l.all dig && wholeOk l) = true then
    (if neg = true ∧ valFrom 0 l = 0 ∧ coins = 0 then (0, 5)
     else if okAmt ((sgn neg) * ((valFrom 0 l * 100 + coins : Nat) : Int)) = true then ((sgn neg) * ((valFrom 0 l * 100 + coins : Nat) : Int), 0) else (0, 10))
  else (0, 5)
def bodyOf (neg : Bool) (l : List UInt8) : Int × Int :=
  if 20 < l.length then (0, 5)
  else if 3 < l.length ∧ l[l.length - 3]? = some 46 then
    (if dig (l.getD (l.length - 2) 0) = true ∧ dig (l.getD (l.length - 1) 0) = true then partOf neg (l.take (l.length - 3)) (((l.getD (l.length - 2) 0).toNat - 48) * 10 + ((l.getD (l.length - 1) 0).toNat - 48)) else (0, 5))
  else partOf neg l 0
def parseOf (l : List UInt8) : Int × Int := match l with
  | 45 :: t => bodyOf true t
  | l => bodyOf false l

theorem parse_j3_ev (neg : Bool) (l : List UInt8) (coins : Nat) (hc : coins < 100) (hl : l.length ≤ 20) : Ev (fun k => money_Parse.j3 k (bs l) (sgn neg) (coins : Int)) (partOf neg l coins) := by
  refine Ev.shift (fun k => by rw [money_Parse.j3]) ?_
  rw [bs_size]
  unfold partOf
  by_cases c : 12 < l.length
  · rw [if_pos c]
    refine Ev.pos (by omega) (Ev.pos (by decide) (Ev.pos (by omega) ?_))
    rw [bs_extract, List.drop_zero]
    refine Ev.bind (whole_ev (l.take 12) (by simp; omega)) ?_
    by_cases c1 : (l.take 12).all dig = true
    · rw [if_pos c1]
      by_cases c2 : wholeOk (l.take 12) = true
      · refine Ev.pos c2 (Ev.bind (digits_ev l (by omega)) ?_)
        rw [c2, Bool.and_true]
        by_cases c3 : l.all dig = true
        · exact (Ev.pos c3 Ev.now).res (if_pos c3).symm
        · exact (Ev.neg c3 Ev.now).res (if_neg c3).symm
      · rw [if_neg (by simp [c2])]
        exact Ev.neg c2 Ev.now
    · have : l.all dig = false := by
        rw [Bool.eq_false_iff]
        intro h
        refine c1 (List.all_eq_true.2 fun x hx => List.all_eq_true.1 h x (List.mem_of_mem_take hx))
      rw [if_neg c1, this]
      exact Ev.neg (by simp) Ev.now
  · rw [if_neg c]
    refine Ev.neg (by omega) (Ev.bind (whole_ev l (by omega)) ?_)
    by_cases c1 : l.all dig = true
    · rw [if_pos c1, c1, Bool.true_and]
      by_cases c2 : wholeOk l = true
      · rw [if_pos c2]
        refine Ev.pos c2 ?_
        have hv := valFrom_lt l 0 1 c1 (by decide)
        have hp : 10 ^ l.length ≤ 10 ^ 12 := Nat.pow_le_pow_right (by decide) (by omega)
        rw [Nat.one_mul] at hv
        generalize valFrom 0 l = v at hv ⊢
        have e1 : wrap64 ((wrap64 ((v : Int) * 100)) + (coins : Int)) = ((v * 100 + coins : Nat) : Int) := by
          rw [w64 (x := (v : Int) * 100) (by omega) (by omega), w64 (by omega) (by omega)]; omega
        rw [e1]
        have e2 : wrap64 ((sgn neg) * ((v * 100 + coins : Nat) : Int)) = (sgn neg) * ((v * 100 + coins : Nat) : Int) := by
          cases neg <;> exact w64 (by simp [sgn]; omega) (by simp [sgn]; omega)
        rw [e2]
        have hk : Ev (fun k => (money_check.f k ((sgn neg) * ((v * 100 + coins : Nat) : Int))).bind fun bt288 => some (bt288.1, bt288.2)) (if okAmt ((sgn neg) * ((v * 100 + coins : Nat) : Int)) = true then ((sgn neg) * ((v * 100 + coins : Nat) : Int), 0) else (0, 10)) :=
          Ev.bind (check_ev _) Ev.now
        cases neg with
        | false =>
          rw [if_neg (by simp)]
          exact Ev.neg (by simp [sgn]) hk
        | true =>
          refine Ev.pos (by simp [sgn]) ?_
          by_cases d1 : v = 0
          · refine Ev.pos (by omega) ?_
            by_cases d2 : coins = 0
            · rw [if_pos ⟨rfl, d1, d2⟩]
              exact Ev.pos (by omega) Ev.now
            · rw [if_neg (fun h => d2 h.2.2)]
              exact Ev.neg (by omega) hk
          · rw [if_neg (fun h => d1 h.2.1)]
            exact Ev.neg (by omega) hk
      · rw [if_neg c2]
        exact Ev.neg c2 Ev.now
    · rw [if_neg c1, show (l.all dig && wholeOk l) = false by simp [c1]]
      exact Ev.neg (by simp) Ev.now

theorem getD_some {l : List UInt8} {i : Nat} (h : i < l.length) : l[i]? = some (l.getD i 0) := by
  rw [List.getD_eq_getElem?_getD, List.getElem?_eq_getElem h, Option.getD_some]
theorem parse_j1_ev (neg : Bool) (l : List UInt8) (hl : l.length ≤ 1000000) : Ev (fun k => money_Parse.j1 k (bs l) (sgn neg)) (bodyOf neg l) := by
  refine Ev.shift (fun k => by rw [money_Parse.j1]) ?_
  rw [bs_size]
  unfold bodyOf
  by_cases c : 20 < l.length
  · rw [if_pos c]
    exact Ev.pos (by omega) Ev.now
  · rw [if_neg c]
    refine Ev.neg (by omega) ?_
    rw [w64 (x := (l.length : Int) - 3) (by omega) (by omega)]
    by_cases c1 : 3 < l.length
    · have e0 : (l.length : Int) - 3 = ((l.length - 3 : Nat) : Int) := by omega
      refine Ev.pos (by omega) (Ev.pos (by omega) (Ev.pos (by omega) ?_))
      rw [e0, bs_bt l (l.length - 3) (getD_some (by omega))]
      refine Ev.shift (fun k => by rw [money_Parse.j2]) ?_
      rw [bs_size]
      by_cases c2 : l[l.length - 3]? = some 46
      · rw [if_pos ⟨c1, c2⟩]
        have e46 : l.getD (l.length - 3) 0 = 46 := by rw [List.getD_eq_getElem?_getD, c2]; rfl
        refine Ev.pos (by rw [e46]; decide) ?_
        rw [show wrap64 (((l.length - 3 : Nat) : Int) + 1) = ((l.length - 2 : Nat) : Int) by rw [w64 (by omega) (by omega)]; omega, show wrap64 (((l.length - 3 : Nat) : Int) + 2) = ((l.length - 1 : Nat) : Int) by rw [w64 (by omega) (by omega)]; omega]
        refine Ev.pos (by omega) (Ev.pos (by omega) ?_)
        rw [bs_bt l (l.length - 2) (getD_some (by omega)), digit_f, bs_bt l (l.length - 1) (getD_some (by omega)), digit_f]
        by_cases d1 : dig (l.getD (l.length - 2) 0) = true
        · refine Ev.bindc rfl (Ev.pos d1 (Ev.pos (by omega) (Ev.pos (by omega) ?_)))
          by_cases d2 : dig (l.getD (l.length - 1) 0) = true
          · refine Ev.bindc rfl (Ev.pos d2 (Ev.pos (by omega) (Ev.pos (by omega) ?_)))
            rw [if_pos ⟨d1, d2⟩, bs_extract, List.drop_zero, Int.toNat_natCast]
            have d1' := (dig_iff _).1 d1
            have d2' := (dig_iff _).1 d2
            rw [show (((((l.getD (l.length - 2) 0).toNat : Int) - 48) % 256) * 10 + ((((l.getD (l.length - 1) 0).toNat : Int) - 48) % 256)) = ((((l.getD (l.length - 2) 0).toNat - 48) * 10 + ((l.getD (l.length - 1) 0).toNat - 48) : Nat) : Int) by omega]
            exact parse_j3_ev neg _ _ (by omega) (by simp; omega)
          · rw [if_neg (fun h => d2 h.2)]
            exact Ev.bindc rfl (Ev.neg d2 Ev.now)
        · rw [if_neg (fun h => d1 h.1)]
          exact Ev.bindc rfl (Ev.neg d1 Ev.now)
      · rw [if_neg (fun h => c2 h.2)]
        refine Ev.neg ?_ (parse_j3_ev neg l 0 (by decide) (by omega))
        intro h
        have h1 : ((l.getD (l.length - 3) 0).toNat : Int) = 46 := by simpa using h
        refine c2 ?_
        rw [getD_some (by omega)]
        congr 1
        exact UInt8.toNat_inj.1 (by show _ = 46; omega)
    · rw [if_neg (fun h => c1 h.1)]
      refine Ev.neg (by omega) ?_
      refine Ev.shift (fun k => by rw [money_Parse.j2]) ?_
      exact Ev.neg (by decide) (parse_j3_ev neg l 0 (by decide) (by omega))
theorem parse_bs_ev (l : List UInt8) (hl : l.length ≤ 1000000) : Ev (fun k => money_Parse.f k (bs l)) (parseOf l) := by
  unfold money_Parse.f
  rw [bs_size]
  match l, hl with
  | [], _ =>
    refine Ev.neg (by simp) (Ev.shift (fun k => by rw [money_Parse.j0]) (Ev.neg (by decide) ?_))
    exact parse_j1_ev false [] (by simp)
  | c :: t, hl =>
    refine Ev.pos (by simp only [List.length_cons]; omega) (Ev.pos (by simp only [List.length_cons]; omega) (Ev.shift (fun k => by rw [money_Parse.j0]) ?_))
    rw [show ((0 : Int)) = ((0 : Nat) : Int) from rfl, bs_bt (c :: t) 0 rfl, bs_size]
    by_cases h : c = 45
    · subst h
      refine Ev.pos (by decide) (Ev.pos (by simp; omega) ?_)
      rw [bs_extract, List.take_length, List.drop_one, List.tail_cons]
      exact parse_j1_ev true t (by simp at hl; omega)
    · have e : parseOf (c :: t) = bodyOf false (c :: t) := by
        unfold parseOf
        split
        · rename_i h2; injection h2 with h2; exact absurd h2 h
        · rfl
      rw [e]
      refine Ev.neg ?_ (parse_j1_ev false (c :: t) hl)
      intro h2
      have h1 : (c.toNat : Int) = 45 := by simpa using h2
      exact h (UInt8.toNat_inj.1 (by show _ = 45; omega))
theorem mparse_ev (s : ByteArray) (hl : s.size ≤ 1000000) : Ev (fun k => money_Parse.f k s) (parseOf s.toList) := by
  have := parse_bs_ev s.toList (by rw [Lib.toList_data, data_length]; exact hl)
  rwa [bs_eta] at this

/-- A name: a small letter, and small letters, digits and dashes behind it. -/
def small (c : UInt8) : Bool := decide (97 ≤ c.toNat) && decide (c.toNat ≤ 122)
def nameOf (l : List UInt8) : Bool := match l with
  | [] => false
  | c :: t => decide (t.length < 16) && small c && t.all fun c => small c || dig c || decide (c.toNat = 45)
theorem name_l0_ev (l : List UInt8) (hl : l.length ≤ 1000) : ∀ (t : List UInt8) (i : Nat), l.drop i = t → i ≤ l.length → Ev (fun k => word_Name.l0 k (bs l) (l.length : Int) (i : Int)) (if i = 0 then (match t with | [] => true | c :: t => small c && t.all fun c => small c || dig c || decide (c.toNat = 45)) else t.all fun c => small c || dig c || decide (c.toNat = 45))
  | [], i, h, hi => by
    have hi' : l.length ≤ i := by simpa using h
    refine Ev.shift (fun k => by rw [word_Name.l0]) ?_
    refine Ev.neg (by omega) ?_
    split <;> exact Ev.now
  | c :: t, i, h, hi => by
    obtain ⟨h1, h2, h3⟩ := drop_cons_get h
    have ih := name_l0_ev l hl t (i + 1) h2 (by omega)
    rw [if_neg (by omega)] at ih
    refine Ev.shift (fun k => by rw [word_Name.l0]) ?_
    refine Ev.pos (by omega) (Ev.pos (by omega) (Ev.pos (by rw [bs_size]; omega) ?_))
    rw [bs_bt l i h1, show wrap64 ((i : Int) + 1) = ((i + 1 : Nat) : Int) by rw [w64 (by omega) (by omega)]; rfl]
    by_cases s1 : small c = true
    · have s1' : 97 ≤ c.toNat ∧ c.toNat ≤ 122 := by simpa [small] using s1
      have e : (if i = 0 then (small c && t.all fun c => small c || dig c || decide (c.toNat = 45)) else ((c :: t).all fun c => small c || dig c || decide (c.toNat = 45))) = t.all fun c => small c || dig c || decide (c.toNat = 45) := by
        split <;> simp [s1]
      refine (Ev.pos (by omega) (Ev.pos (by omega) ih)).res e.symm
    · have s1' : ¬(97 ≤ c.toNat ∧ c.toNat ≤ 122) := by simpa [small] using s1
      have hrest : Ev (fun k => if (i : Int) = 0 then some false else if (c.toNat : Int) < 48 then if (c.toNat : Int) = 45 then word_Name.l0 k (bs l) (l.length : Int) ((i + 1 : Nat) : Int) else some false else if (c.toNat : Int) > 57 then if (c.toNat : Int) = 45 then word_Name.l0 k (bs l) (l.length : Int) ((i + 1 : Nat) : Int) else some false else word_Name.l0 k (bs l) (l.length : Int) ((i + 1 : Nat) : Int))
          (if i = 0 then (small c && t.all fun c => small c || dig c || decide (c.toNat = 45)) else ((c :: t).all fun c => small c || dig c || decide (c.toNat = 45))) := by
        by_cases i0 : i = 0
        · rw [if_pos i0, Bool.eq_false_iff.2 s1]
          exact Ev.pos (by omega) Ev.now
        · rw [if_neg i0, List.all_cons, Bool.eq_false_iff.2 s1, Bool.false_or]
          refine Ev.neg (by omega) ?_
          by_cases d1 : c.toNat < 48
          · refine Ev.pos (by omega) ?_
            by_cases d2 : c.toNat = 45
            · refine (Ev.pos (by omega) ih).res ?_
              simp [d2]
            · refine (Ev.neg (by omega) Ev.now).res ?_
              simp [d2, dig]; omega
          · refine Ev.neg (by omega) ?_
            by_cases d3 : 57 < c.toNat
            · refine Ev.pos (by omega) (Ev.neg (by omega) ?_)
              refine Ev.now.res ?_
              simp [dig]; omega
            · refine (Ev.neg (by omega) ih).res ?_
              simp [dig]; omega
      by_cases d : 97 ≤ c.toNat
      · exact Ev.pos (by omega) (Ev.neg (by omega) hrest)
      · exact Ev.neg (by omega) hrest
theorem name_bs_ev (l : List UInt8) (hl : l.length ≤ 1000000) : Ev (fun k => word_Name.f k (bs l)) (nameOf l) := by
  unfold word_Name.f
  rw [bs_toList, bs_size]
  match l, hl with
  | [], _ =>
    refine Ev.pos rfl (Ev.shift (fun k => by rw [word_Name.j0]) ?_)
    exact Ev.pos rfl (Ev.const rfl)
  | c :: t, hl =>
    refine Ev.neg (by simp) (Ev.shift (fun k => by rw [word_Name.j0]) ?_)
    by_cases h : 16 < (c :: t).length
    · refine (Ev.pos (by simp at h ⊢; omega) Ev.now).res ?_
      simp at h
      simp [nameOf]
      intro h2; omega
    · refine Ev.neg (by simp at h ⊢; omega) ?_
      rw [bs_size]
      refine (name_l0_ev (c :: t) (by omega) (c :: t) 0 rfl (Nat.zero_le _)).res ?_
      have h3 : t.length < 16 := by simp only [List.length_cons] at h; omega
      simp only [nameOf, h3, decide_true, Bool.true_and, if_true]
theorem name_ev (s : ByteArray) (hl : s.size ≤ 1000000) : Ev (fun k => word_Name.f k s) (nameOf s.toList) := by
  have := name_bs_ev s.toList (by rw [Lib.toList_data, data_length]; exact hl)
  rwa [bs_eta] at this
end Go.Proofs.YtmocphafkimdpaaDoor.P
