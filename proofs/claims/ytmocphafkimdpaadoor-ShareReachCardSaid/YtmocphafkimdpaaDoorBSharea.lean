/- A part of the proof of the cards of Share..: each of these statements answers true for every input (the conditions: those of the given statements alone). Merged by a program (wip/merge.py) out of: P0, GTab, GEv, Pf65, Pf77, Pf34, GAmt, GFloat, GPair, GLess. -/
import Derived.Test.YtmocphafkimdpaaDoorProg
import Derived.Below
import Derived.Deep.Draws
import Derived.Deep.AppendLies
import Derived.Maps.AppendAt
import Derived.OwnWalk
import Derived.Laws.BytesArg
import Derived.Laws.MakeOwn
import Derived.Laws.OwnMore
import Derived.Deep.OwnRows
import Derived.Tactics
import Derived.Lib.ConvBytes
import Derived.Laws.Slices
import Derived.WalkKit
import Derived.KernelRfl
import Derived.RowKit3
import Derived.Deep.LoopGhost
import Derived.Deep.QuietTactic
import Derived.BigQuiet
import Derived.WideLaws
import Derived.Deep.DeepCutAuto
import Derived.Deep.CutBlock
import Derived.Deep.RegionHeld3
import Derived.Laws.Rows
import Derived.Lib.AppendStr
import Derived.ArgAppend
import Derived.Laws.IdiomCopy
import Derived.OrdersHeld
import Derived.Laws.BitsLemmas
import Derived.RowKit
import Derived.Test.YtmocphafkimdpaaDoorWWords
import Derived.Test.YtmocphafkimdpaaDoorWLast
import Derived.Test.YtmocphafkimdpaaDoorWTab
import Derived.Test.YtmocphafkimdpaaDoorWFour
import Derived.Test.YtmocphafkimdpaaDoorWQPut
import Derived.Test.YtmocphafkimdpaaDoorWApart
import Derived.Test.YtmocphafkimdpaaDoorWArr
import Derived.Test.YtmocphafkimdpaaDoorWZeros
import Derived.Test.YtmocphafkimdpaaDoorWFoot
import Derived.Test.YtmocphafkimdpaaDoorWKept
import Derived.Test.YtmocphafkimdpaaDoorWShare
import Derived.Test.YtmocphafkimdpaaDoorWN
import Derived.Test.YtmocphafkimdpaaDoorWFootNe
import Derived.Test.YtmocphafkimdpaaDoorWAt
import Derived.Test.YtmocphafkimdpaaDoorWEqStruct
import Derived.Test.YtmocphafkimdpaaDoorWRepsOne
import Derived.Test.YtmocphafkimdpaaDoorWInv
import Derived.Test.YtmocphafkimdpaaDoorWInvWords
import Derived.Test.YtmocphafkimdpaaDoorWGuard
import Derived.Test.YtmocphafkimdpaaDoorWNEv
import Derived.Test.YtmocphafkimdpaaDoorWMore
import Derived.Lib.LaidTab
import Derived.Lib.ItoaNum
import Derived.WalkSmall
import Derived.Laws.FloatArith
import Derived.Laws.ComplexArith
import Derived.WalkLawsBesides
import Derived.Lib.Hide
import Derived.LoopTactic
import Derived.Outline

-- written by a program (a patched copy of the kit's print: wip/mkprint.py); Lean checks it
namespace Go.Proofs.YtmocphafkimdpaaDoor.P
open Go.RowKit Go.Proofs.YtmocphafkimdpaaDoorW.PrintWords Go.Proofs.YtmocphafkimdpaaDoorW.PrintLast Go.Proofs.YtmocphafkimdpaaDoorW.PrintMore
attribute [local go_sem] max2_int min2_int max_two min_two max_three min_three max_four min_four   -- for this text's walks alone
set_option linter.unusedVariables false
set_option linter.unusedSimpArgs false



def errW : Option Int → Value
  | none => .nilIface
  | some c => .iface 0 (.int .i64 c)
theorem errW_none : errW none = .nilIface := rfl
theorem errW_some (c : Int) : errW (some c) = .iface 0 (.int .i64 c) := rfl

theorem info2 : (Tryd.prog.info? 2).map (fun i => (i.zero, i.size, i.bytes)) = some (some (.int .i64 0), 1, 8) := by kernel_rfl
theorem info4 : (Tryd.prog.info? 4).map (fun i => (i.zero, i.size, i.bytes)) = some (some (.bool false), 1, 1) := by kernel_rfl
theorem info5 : (Tryd.prog.info? 5).map (fun i => (i.zero, i.size, i.bytes)) = some (some (.int .u8 0), 1, 1) := by kernel_rfl
theorem info9 : (Tryd.prog.info? 9).map (fun i => (i.zero, i.size, i.bytes)) = some (some (.string ⟨#[]⟩), 1, 16) := by kernel_rfl
theorem info23 : (Tryd.prog.info? 23).map (fun i => (i.zero, i.size, i.bytes)) = some (some (.slice none 0 0), 1, 24) := by kernel_rfl
theorem info29 : (Tryd.prog.info? 29).map (fun i => (i.zero, i.size, i.bytes)) = some (some (.agg #[(.int .i64 0), (.int .i64 0)]), 2, 16) := by kernel_rfl
theorem info48 : (Tryd.prog.info? 48).map (fun i => (i.zero, i.size, i.bytes)) = some (some (.agg #[(.string ⟨#[]⟩), (.int .i64 0), (.int .i64 0)]), 3, 32) := by kernel_rfl
theorem info76 : (Tryd.prog.info? 76).map (fun i => (i.zero, i.size, i.bytes)) = some (some (.agg #[(.string ⟨#[]⟩), (.int .i64 0)]), 2, 24) := by kernel_rfl
theorem info104 : (Tryd.prog.info? 104).map (fun i => (i.zero, i.size, i.bytes)) = some (some (.int .u64 0), 1, 8) := by kernel_rfl
-- the values' own types
/-! #### struct type 29 -/
structure S29 where
  f0 : Int
  f1 : Int
def z29 : S29 := ⟨(0 : Int), (0 : Int)⟩
def k29 : Kd S29 := Kd.iso (Kd.pair (Kd.int .i64) (Kd.int .i64)) (fun x : S29 => (x.f0, x.f1))
theorem k29_heap : Kd.Heap k29 := Kd.heap_iso _ (Kd.heap_pair (Kd.heap_int .i64) (Kd.heap_int .i64))
theorem k29_open {w : World} {x : S29} {cs : List Value} (h : k29.K w x cs) : cs = [.int .i64 x.f0, .int .i64 x.f1] := by
  obtain ⟨_, _, rfl, rfl, rfl⟩ := h
  exact rfl
theorem k29_openM {w : World} {base : Nat} {ok : Nat → Prop} {x : S29} {cs : List Value} (h : k29.M w base ok x cs) : cs = [.int .i64 x.f0, .int .i64 x.f1] := by
  obtain ⟨_, _, rfl, rfl, rfl⟩ := h
  exact rfl
theorem k29_mk (w : World) (x : S29)  : k29.K w x [.int .i64 x.f0, .int .i64 x.f1] := ⟨[.int .i64 x.f0], [.int .i64 x.f1], rfl, rfl, rfl⟩
theorem k29_mkM (w : World) (base : Nat) (ok : Nat → Prop) (x : S29)  : k29.M w base ok x [.int .i64 x.f0, .int .i64 x.f1] := ⟨[.int .i64 x.f0], [.int .i64 x.f1], rfl, rfl, rfl⟩
theorem k29_mkF (W : World) (ok : Nat → Prop) (x : S29) : Kd.FK k29 W ok x [.int .i64 x.f0, .int .i64 x.f1] := fun W2 _ => k29_mk W2 x
def rd_T29 (xs : List S29) (i : Int) : S29 := xs.getD i.toNat z29
theorem at_T29 {w : World} {A : Option Addr} {n : Nat} {xs : List S29} (h : Kd.C k29 w A n xs) (i : Int) (h0 : 0 ≤ i) (h1 : i < n) : ∃ ad , A = some ad ∧ w.cell? (ad.add (i.toNat * 2)) = some (.int .i64 (rd_T29 xs i).f0) ∧ w.cell? ⟨(ad.add (i.toNat * 2)).block, (ad.add (i.toNat * 2)).off + 1, none⟩ = some (.int .i64 (rd_T29 xs i).f1) := by
  obtain ⟨ad, c, e, _, hK, hc0⟩ := Kd.C_get h z29 i h0 h1
  have hc : ∀ j u, c[j]? = some u → w.cell? (ad.add (i.toNat * 2 + j)) = some u := hc0
  obtain rfl := k29_open hK
  exact ⟨ad, e, hc 0 _ rfl, by rw [← add_field _ _ 1 (by omega)]; exact hc 1 _ rfl⟩

def rd_L2 (xs : List (List S29)) (i : Int) : (List S29) := xs.getD i.toNat ([] : List S29)
theorem at_L2 {w : World} {A : Option Addr} {n : Nat} {xs : List (List S29)} (h : Kd.C (Kd.slice 29 k29) w A n xs) (i : Int) (h0 : 0 ≤ i) (h1 : i < n) : ∃ ad A0 c0, A = some ad ∧ w.cell? (ad.add i.toNat) = some (.slice A0 (rd_L2 xs i).length c0) ∧ (rd_L2 xs i).length ≤ c0 ∧ k29.C w A0 (rd_L2 xs i).length (rd_L2 xs i) := by
  obtain ⟨ad, c, e, _, hK, hc0⟩ := Kd.C_get h ([] : List S29) i h0 h1
  have hc : ∀ j u, c[j]? = some u → w.cell? (ad.add (i.toNat * 1 + j)) = some u := hc0
  obtain ⟨A0, c0, rfl, l0, g0⟩ := hK
  exact ⟨ad, A0, c0, e, by have hq := hc 0 _ rfl; rwa [Nat.mul_one, Nat.add_zero] at hq, l0, g0⟩

/-! #### struct type 222 -/
structure S222 where
  f0 : Int
  f1 : Int
  f2 : Int
def z222 : S222 := ⟨(0 : Int), (0 : Int), (0 : Int)⟩
def k222 : Kd S222 := Kd.iso (Kd.pair (Kd.int .i64) (Kd.pair (Kd.int .i64) (Kd.int .i64))) (fun x : S222 => (x.f0, x.f1, x.f2))
theorem k222_heap : Kd.Heap k222 := Kd.heap_iso _ (Kd.heap_pair (Kd.heap_int .i64) (Kd.heap_pair (Kd.heap_int .i64) (Kd.heap_int .i64)))
theorem k222_open {w : World} {x : S222} {cs : List Value} (h : k222.K w x cs) : cs = [.int .i64 x.f0, .int .i64 x.f1, .int .i64 x.f2] := by
  obtain ⟨_, _, rfl, rfl, ⟨_, _, rfl, rfl, rfl⟩⟩ := h
  exact rfl
theorem k222_openM {w : World} {base : Nat} {ok : Nat → Prop} {x : S222} {cs : List Value} (h : k222.M w base ok x cs) : cs = [.int .i64 x.f0, .int .i64 x.f1, .int .i64 x.f2] := by
  obtain ⟨_, _, rfl, rfl, ⟨_, _, rfl, rfl, rfl⟩⟩ := h
  exact rfl
theorem k222_mk (w : World) (x : S222)  : k222.K w x [.int .i64 x.f0, .int .i64 x.f1, .int .i64 x.f2] := ⟨[.int .i64 x.f0], [.int .i64 x.f1, .int .i64 x.f2], rfl, rfl, ⟨[.int .i64 x.f1], [.int .i64 x.f2], rfl, rfl, rfl⟩⟩
theorem k222_mkM (w : World) (base : Nat) (ok : Nat → Prop) (x : S222)  : k222.M w base ok x [.int .i64 x.f0, .int .i64 x.f1, .int .i64 x.f2] := ⟨[.int .i64 x.f0], [.int .i64 x.f1, .int .i64 x.f2], rfl, rfl, ⟨[.int .i64 x.f1], [.int .i64 x.f2], rfl, rfl, rfl⟩⟩
theorem k222_mkF (W : World) (ok : Nat → Prop) (x : S222) : Kd.FK k222 W ok x [.int .i64 x.f0, .int .i64 x.f1, .int .i64 x.f2] := fun W2 _ => k222_mk W2 x
def rd_T222 (xs : List S222) (i : Int) : S222 := xs.getD i.toNat z222
theorem at_T222 {w : World} {A : Option Addr} {n : Nat} {xs : List S222} (h : Kd.C k222 w A n xs) (i : Int) (h0 : 0 ≤ i) (h1 : i < n) : ∃ ad , A = some ad ∧ w.cell? (ad.add (i.toNat * 3)) = some (.int .i64 (rd_T222 xs i).f0) ∧ w.cell? ⟨(ad.add (i.toNat * 3)).block, (ad.add (i.toNat * 3)).off + 1, none⟩ = some (.int .i64 (rd_T222 xs i).f1) ∧ w.cell? ⟨(ad.add (i.toNat * 3)).block, (ad.add (i.toNat * 3)).off + 2, none⟩ = some (.int .i64 (rd_T222 xs i).f2) := by
  obtain ⟨ad, c, e, _, hK, hc0⟩ := Kd.C_get h z222 i h0 h1
  have hc : ∀ j u, c[j]? = some u → w.cell? (ad.add (i.toNat * 3 + j)) = some u := hc0
  obtain rfl := k222_open hK
  exact ⟨ad, e, hc 0 _ rfl, by rw [← add_field _ _ 1 (by omega)]; exact hc 1 _ rfl, by rw [← add_field _ _ 2 (by omega)]; exact hc 2 _ rfl⟩

def rd_L6 (xs : List (List S222)) (i : Int) : (List S222) := xs.getD i.toNat ([] : List S222)
theorem at_L6 {w : World} {A : Option Addr} {n : Nat} {xs : List (List S222)} (h : Kd.C (Kd.slice 222 k222) w A n xs) (i : Int) (h0 : 0 ≤ i) (h1 : i < n) : ∃ ad A0 c0, A = some ad ∧ w.cell? (ad.add i.toNat) = some (.slice A0 (rd_L6 xs i).length c0) ∧ (rd_L6 xs i).length ≤ c0 ∧ k222.C w A0 (rd_L6 xs i).length (rd_L6 xs i) := by
  obtain ⟨ad, c, e, _, hK, hc0⟩ := Kd.C_get h ([] : List S222) i h0 h1
  have hc : ∀ j u, c[j]? = some u → w.cell? (ad.add (i.toNat * 1 + j)) = some u := hc0
  obtain ⟨A0, c0, rfl, l0, g0⟩ := hK
  exact ⟨ad, A0, c0, e, by have hq := hc 0 _ rfl; rwa [Nat.mul_one, Nat.add_zero] at hq, l0, g0⟩

/-! #### struct type 97 -/
structure S97 where
  f0 : ByteArray
  f1 : Int
  f2 : (List S222)
  f3 : Int
  f4 : Int
  f5 : Int
def z97 : S97 := ⟨(⟨#[]⟩ : ByteArray), (0 : Int), ([] : List S222), (0 : Int), (0 : Int), (0 : Int)⟩
def k97 : Kd S97 := Kd.iso (Kd.pair Kd.string (Kd.pair (Kd.int .i64) (Kd.pair (Kd.slice 222 k222) (Kd.pair (Kd.int .i64) (Kd.pair (Kd.int .i64) (Kd.int .i64)))))) (fun x : S97 => (x.f0, x.f1, x.f2, x.f3, x.f4, x.f5))
theorem k97_heap : Kd.Heap k97 := Kd.heap_iso _ (Kd.heap_pair Kd.heap_string (Kd.heap_pair (Kd.heap_int .i64) (Kd.heap_pair (Kd.heap_slice 222 k222_heap) (Kd.heap_pair (Kd.heap_int .i64) (Kd.heap_pair (Kd.heap_int .i64) (Kd.heap_int .i64))))))
theorem k97_open {w : World} {x : S97} {cs : List Value} (h : k97.K w x cs) : ∃ A2 c2, cs = [.string x.f0, .int .i64 x.f1, .slice A2 x.f2.length c2, .int .i64 x.f3, .int .i64 x.f4, .int .i64 x.f5] ∧ x.f2.length ≤ c2 ∧ k222.C w A2 x.f2.length x.f2 := by
  obtain ⟨_, _, rfl, rfl, ⟨_, _, rfl, rfl, ⟨_, _, rfl, ⟨A2, c2, rfl, l2, g2⟩, ⟨_, _, rfl, rfl, ⟨_, _, rfl, rfl, rfl⟩⟩⟩⟩⟩ := h
  exact ⟨A2, c2, rfl, l2, g2⟩
theorem k97_openM {w : World} {base : Nat} {ok : Nat → Prop} {x : S97} {cs : List Value} (h : k97.M w base ok x cs) : ∃ v2, cs = [.string x.f0, .int .i64 x.f1, v2, .int .i64 x.f3, .int .i64 x.f4, .int .i64 x.f5] ∧ k222.R 222 w base ok v2 x.f2 := by
  obtain ⟨_, _, rfl, rfl, ⟨_, _, rfl, rfl, ⟨_, _, rfl, ⟨v2, rfl, g2⟩, ⟨_, _, rfl, rfl, ⟨_, _, rfl, rfl, rfl⟩⟩⟩⟩⟩ := h
  exact ⟨v2, rfl, g2⟩
theorem k97_mk (w : World) (x : S97) {A2 : Option Addr} {c2 : Nat} (l2 : x.f2.length ≤ c2) (g2 : k222.C w A2 x.f2.length x.f2) : k97.K w x [.string x.f0, .int .i64 x.f1, .slice A2 x.f2.length c2, .int .i64 x.f3, .int .i64 x.f4, .int .i64 x.f5] := ⟨[.string x.f0], [.int .i64 x.f1, .slice A2 x.f2.length c2, .int .i64 x.f3, .int .i64 x.f4, .int .i64 x.f5], rfl, rfl, ⟨[.int .i64 x.f1], [.slice A2 x.f2.length c2, .int .i64 x.f3, .int .i64 x.f4, .int .i64 x.f5], rfl, rfl, ⟨[.slice A2 x.f2.length c2], [.int .i64 x.f3, .int .i64 x.f4, .int .i64 x.f5], rfl, ⟨A2, c2, rfl, l2, g2⟩, ⟨[.int .i64 x.f3], [.int .i64 x.f4, .int .i64 x.f5], rfl, rfl, ⟨[.int .i64 x.f4], [.int .i64 x.f5], rfl, rfl, rfl⟩⟩⟩⟩⟩
theorem k97_mkM (w : World) (base : Nat) (ok : Nat → Prop) (x : S97) {v2 : Value} (g2 : k222.R 222 w base ok v2 x.f2) : k97.M w base ok x [.string x.f0, .int .i64 x.f1, v2, .int .i64 x.f3, .int .i64 x.f4, .int .i64 x.f5] := ⟨[.string x.f0], [.int .i64 x.f1, v2, .int .i64 x.f3, .int .i64 x.f4, .int .i64 x.f5], rfl, rfl, ⟨[.int .i64 x.f1], [v2, .int .i64 x.f3, .int .i64 x.f4, .int .i64 x.f5], rfl, rfl, ⟨[v2], [.int .i64 x.f3, .int .i64 x.f4, .int .i64 x.f5], rfl, ⟨v2, rfl, g2⟩, ⟨[.int .i64 x.f3], [.int .i64 x.f4, .int .i64 x.f5], rfl, rfl, ⟨[.int .i64 x.f4], [.int .i64 x.f5], rfl, rfl, rfl⟩⟩⟩⟩⟩
theorem k97_openF {W : World} {ok : Nat → Prop} {x : S97} {cs : List Value} (h : Kd.FK k97 W ok x cs) : ∃ A2 c2, cs = [.string x.f0, .int .i64 x.f1, .slice A2 x.f2.length c2, .int .i64 x.f3, .int .i64 x.f4, .int .i64 x.f5] ∧ x.f2.length ≤ c2 ∧ Kd.F k222 W ok A2 x.f2.length x.f2 := by
  obtain ⟨A2, c2, rfl, l2, _⟩ := k97_open (Kd.FK_now h)
  exact ⟨A2, c2, rfl, l2, (fun W' hW => by obtain ⟨A2_, c2_, he, l2_, g2_⟩ := k97_open (h W' hW); injection (Option.some.inj (show some (Value.slice A2 x.f2.length c2) = some (Value.slice A2_ x.f2.length c2_) from congrArg (fun l => l[2]?) he)) with ha_ _ _; rw [ha_]; exact g2_)⟩
theorem k97_mkF (W : World) (ok : Nat → Prop) (x : S97) {A2 : Option Addr} {c2 : Nat} (l2 : x.f2.length ≤ c2) (g2 : Kd.F k222 W ok A2 x.f2.length x.f2) : Kd.FK k97 W ok x [.string x.f0, .int .i64 x.f1, .slice A2 x.f2.length c2, .int .i64 x.f3, .int .i64 x.f4, .int .i64 x.f5] := fun W2 hW => k97_mk W2 x l2 (g2 W2 hW)
def rd_T97 (xs : List S97) (i : Int) : S97 := xs.getD i.toNat z97
theorem at_T97 {w : World} {A : Option Addr} {n : Nat} {xs : List S97} (h : Kd.C k97 w A n xs) (i : Int) (h0 : 0 ≤ i) (h1 : i < n) : ∃ ad A2 c2, A = some ad ∧ w.cell? (ad.add (i.toNat * 6)) = some (.string (rd_T97 xs i).f0) ∧ w.cell? ⟨(ad.add (i.toNat * 6)).block, (ad.add (i.toNat * 6)).off + 1, none⟩ = some (.int .i64 (rd_T97 xs i).f1) ∧ w.cell? ⟨(ad.add (i.toNat * 6)).block, (ad.add (i.toNat * 6)).off + 2, none⟩ = some (.slice A2 (rd_T97 xs i).f2.length c2) ∧ w.cell? ⟨(ad.add (i.toNat * 6)).block, (ad.add (i.toNat * 6)).off + 3, none⟩ = some (.int .i64 (rd_T97 xs i).f3) ∧ w.cell? ⟨(ad.add (i.toNat * 6)).block, (ad.add (i.toNat * 6)).off + 4, none⟩ = some (.int .i64 (rd_T97 xs i).f4) ∧ w.cell? ⟨(ad.add (i.toNat * 6)).block, (ad.add (i.toNat * 6)).off + 5, none⟩ = some (.int .i64 (rd_T97 xs i).f5) ∧ (rd_T97 xs i).f2.length ≤ c2 ∧ k222.C w A2 (rd_T97 xs i).f2.length (rd_T97 xs i).f2 := by
  obtain ⟨ad, c, e, _, hK, hc0⟩ := Kd.C_get h z97 i h0 h1
  have hc : ∀ j u, c[j]? = some u → w.cell? (ad.add (i.toNat * 6 + j)) = some u := hc0
  obtain ⟨A2, c2, rfl, l2, g2⟩ := k97_open hK
  exact ⟨ad, A2, c2, e, hc 0 _ rfl, by rw [← add_field _ _ 1 (by omega)]; exact hc 1 _ rfl, by rw [← add_field _ _ 2 (by omega)]; exact hc 2 _ rfl, by rw [← add_field _ _ 3 (by omega)]; exact hc 3 _ rfl, by rw [← add_field _ _ 4 (by omega)]; exact hc 4 _ rfl, by rw [← add_field _ _ 5 (by omega)]; exact hc 5 _ rfl, l2, g2⟩

/-! #### struct type 89 -/
structure S89 where
  f0 : ByteArray
  f1 : Int
  f2 : Int
  f3 : Int
def z89 : S89 := ⟨(⟨#[]⟩ : ByteArray), (0 : Int), (0 : Int), (0 : Int)⟩
def k89 : Kd S89 := Kd.iso (Kd.pair Kd.string (Kd.pair (Kd.int .i64) (Kd.pair (Kd.int .i64) (Kd.int .i64)))) (fun x : S89 => (x.f0, x.f1, x.f2, x.f3))
theorem k89_heap : Kd.Heap k89 := Kd.heap_iso _ (Kd.heap_pair Kd.heap_string (Kd.heap_pair (Kd.heap_int .i64) (Kd.heap_pair (Kd.heap_int .i64) (Kd.heap_int .i64))))
theorem k89_open {w : World} {x : S89} {cs : List Value} (h : k89.K w x cs) : cs = [.string x.f0, .int .i64 x.f1, .int .i64 x.f2, .int .i64 x.f3] := by
  obtain ⟨_, _, rfl, rfl, ⟨_, _, rfl, rfl, ⟨_, _, rfl, rfl, rfl⟩⟩⟩ := h
  exact rfl
theorem k89_openM {w : World} {base : Nat} {ok : Nat → Prop} {x : S89} {cs : List Value} (h : k89.M w base ok x cs) : cs = [.string x.f0, .int .i64 x.f1, .int .i64 x.f2, .int .i64 x.f3] := by
  obtain ⟨_, _, rfl, rfl, ⟨_, _, rfl, rfl, ⟨_, _, rfl, rfl, rfl⟩⟩⟩ := h
  exact rfl
theorem k89_mk (w : World) (x : S89)  : k89.K w x [.string x.f0, .int .i64 x.f1, .int .i64 x.f2, .int .i64 x.f3] := ⟨[.string x.f0], [.int .i64 x.f1, .int .i64 x.f2, .int .i64 x.f3], rfl, rfl, ⟨[.int .i64 x.f1], [.int .i64 x.f2, .int .i64 x.f3], rfl, rfl, ⟨[.int .i64 x.f2], [.int .i64 x.f3], rfl, rfl, rfl⟩⟩⟩
theorem k89_mkM (w : World) (base : Nat) (ok : Nat → Prop) (x : S89)  : k89.M w base ok x [.string x.f0, .int .i64 x.f1, .int .i64 x.f2, .int .i64 x.f3] := ⟨[.string x.f0], [.int .i64 x.f1, .int .i64 x.f2, .int .i64 x.f3], rfl, rfl, ⟨[.int .i64 x.f1], [.int .i64 x.f2, .int .i64 x.f3], rfl, rfl, ⟨[.int .i64 x.f2], [.int .i64 x.f3], rfl, rfl, rfl⟩⟩⟩
theorem k89_mkF (W : World) (ok : Nat → Prop) (x : S89) : Kd.FK k89 W ok x [.string x.f0, .int .i64 x.f1, .int .i64 x.f2, .int .i64 x.f3] := fun W2 _ => k89_mk W2 x
def rd_T89 (xs : List S89) (i : Int) : S89 := xs.getD i.toNat z89
theorem at_T89 {w : World} {A : Option Addr} {n : Nat} {xs : List S89} (h : Kd.C k89 w A n xs) (i : Int) (h0 : 0 ≤ i) (h1 : i < n) : ∃ ad , A = some ad ∧ w.cell? (ad.add (i.toNat * 4)) = some (.string (rd_T89 xs i).f0) ∧ w.cell? ⟨(ad.add (i.toNat * 4)).block, (ad.add (i.toNat * 4)).off + 1, none⟩ = some (.int .i64 (rd_T89 xs i).f1) ∧ w.cell? ⟨(ad.add (i.toNat * 4)).block, (ad.add (i.toNat * 4)).off + 2, none⟩ = some (.int .i64 (rd_T89 xs i).f2) ∧ w.cell? ⟨(ad.add (i.toNat * 4)).block, (ad.add (i.toNat * 4)).off + 3, none⟩ = some (.int .i64 (rd_T89 xs i).f3) := by
  obtain ⟨ad, c, e, _, hK, hc0⟩ := Kd.C_get h z89 i h0 h1
  have hc : ∀ j u, c[j]? = some u → w.cell? (ad.add (i.toNat * 4 + j)) = some u := hc0
  obtain rfl := k89_open hK
  exact ⟨ad, e, hc 0 _ rfl, by rw [← add_field _ _ 1 (by omega)]; exact hc 1 _ rfl, by rw [← add_field _ _ 2 (by omega)]; exact hc 2 _ rfl, by rw [← add_field _ _ 3 (by omega)]; exact hc 3 _ rfl⟩

/-! #### struct type 48 -/
structure S48 where
  f0 : ByteArray
  f1 : Int
  f2 : Int
def z48 : S48 := ⟨(⟨#[]⟩ : ByteArray), (0 : Int), (0 : Int)⟩
def k48 : Kd S48 := Kd.iso (Kd.pair Kd.string (Kd.pair (Kd.int .i64) (Kd.int .i64))) (fun x : S48 => (x.f0, x.f1, x.f2))
theorem k48_heap : Kd.Heap k48 := Kd.heap_iso _ (Kd.heap_pair Kd.heap_string (Kd.heap_pair (Kd.heap_int .i64) (Kd.heap_int .i64)))
theorem k48_open {w : World} {x : S48} {cs : List Value} (h : k48.K w x cs) : cs = [.string x.f0, .int .i64 x.f1, .int .i64 x.f2] := by
  obtain ⟨_, _, rfl, rfl, ⟨_, _, rfl, rfl, rfl⟩⟩ := h
  exact rfl
theorem k48_openM {w : World} {base : Nat} {ok : Nat → Prop} {x : S48} {cs : List Value} (h : k48.M w base ok x cs) : cs = [.string x.f0, .int .i64 x.f1, .int .i64 x.f2] := by
  obtain ⟨_, _, rfl, rfl, ⟨_, _, rfl, rfl, rfl⟩⟩ := h
  exact rfl
theorem k48_mk (w : World) (x : S48)  : k48.K w x [.string x.f0, .int .i64 x.f1, .int .i64 x.f2] := ⟨[.string x.f0], [.int .i64 x.f1, .int .i64 x.f2], rfl, rfl, ⟨[.int .i64 x.f1], [.int .i64 x.f2], rfl, rfl, rfl⟩⟩
theorem k48_mkM (w : World) (base : Nat) (ok : Nat → Prop) (x : S48)  : k48.M w base ok x [.string x.f0, .int .i64 x.f1, .int .i64 x.f2] := ⟨[.string x.f0], [.int .i64 x.f1, .int .i64 x.f2], rfl, rfl, ⟨[.int .i64 x.f1], [.int .i64 x.f2], rfl, rfl, rfl⟩⟩
theorem k48_mkF (W : World) (ok : Nat → Prop) (x : S48) : Kd.FK k48 W ok x [.string x.f0, .int .i64 x.f1, .int .i64 x.f2] := fun W2 _ => k48_mk W2 x
def rd_T48 (xs : List S48) (i : Int) : S48 := xs.getD i.toNat z48
theorem at_T48 {w : World} {A : Option Addr} {n : Nat} {xs : List S48} (h : Kd.C k48 w A n xs) (i : Int) (h0 : 0 ≤ i) (h1 : i < n) : ∃ ad , A = some ad ∧ w.cell? (ad.add (i.toNat * 3)) = some (.string (rd_T48 xs i).f0) ∧ w.cell? ⟨(ad.add (i.toNat * 3)).block, (ad.add (i.toNat * 3)).off + 1, none⟩ = some (.int .i64 (rd_T48 xs i).f1) ∧ w.cell? ⟨(ad.add (i.toNat * 3)).block, (ad.add (i.toNat * 3)).off + 2, none⟩ = some (.int .i64 (rd_T48 xs i).f2) := by
  obtain ⟨ad, c, e, _, hK, hc0⟩ := Kd.C_get h z48 i h0 h1
  have hc : ∀ j u, c[j]? = some u → w.cell? (ad.add (i.toNat * 3 + j)) = some u := hc0
  obtain rfl := k48_open hK
  exact ⟨ad, e, hc 0 _ rfl, by rw [← add_field _ _ 1 (by omega)]; exact hc 1 _ rfl, by rw [← add_field _ _ 2 (by omega)]; exact hc 2 _ rfl⟩

/-! #### struct type 76 -/
structure S76 where
  f0 : ByteArray
  f1 : Int
def z76 : S76 := ⟨(⟨#[]⟩ : ByteArray), (0 : Int)⟩
def k76 : Kd S76 := Kd.iso (Kd.pair Kd.string (Kd.int .i64)) (fun x : S76 => (x.f0, x.f1))
theorem k76_heap : Kd.Heap k76 := Kd.heap_iso _ (Kd.heap_pair Kd.heap_string (Kd.heap_int .i64))
theorem k76_open {w : World} {x : S76} {cs : List Value} (h : k76.K w x cs) : cs = [.string x.f0, .int .i64 x.f1] := by
  obtain ⟨_, _, rfl, rfl, rfl⟩ := h
  exact rfl
theorem k76_openM {w : World} {base : Nat} {ok : Nat → Prop} {x : S76} {cs : List Value} (h : k76.M w base ok x cs) : cs = [.string x.f0, .int .i64 x.f1] := by
  obtain ⟨_, _, rfl, rfl, rfl⟩ := h
  exact rfl
theorem k76_mk (w : World) (x : S76)  : k76.K w x [.string x.f0, .int .i64 x.f1] := ⟨[.string x.f0], [.int .i64 x.f1], rfl, rfl, rfl⟩
theorem k76_mkM (w : World) (base : Nat) (ok : Nat → Prop) (x : S76)  : k76.M w base ok x [.string x.f0, .int .i64 x.f1] := ⟨[.string x.f0], [.int .i64 x.f1], rfl, rfl, rfl⟩
theorem k76_mkF (W : World) (ok : Nat → Prop) (x : S76) : Kd.FK k76 W ok x [.string x.f0, .int .i64 x.f1] := fun W2 _ => k76_mk W2 x
def rd_T76 (xs : List S76) (i : Int) : S76 := xs.getD i.toNat z76
theorem at_T76 {w : World} {A : Option Addr} {n : Nat} {xs : List S76} (h : Kd.C k76 w A n xs) (i : Int) (h0 : 0 ≤ i) (h1 : i < n) : ∃ ad , A = some ad ∧ w.cell? (ad.add (i.toNat * 2)) = some (.string (rd_T76 xs i).f0) ∧ w.cell? ⟨(ad.add (i.toNat * 2)).block, (ad.add (i.toNat * 2)).off + 1, none⟩ = some (.int .i64 (rd_T76 xs i).f1) := by
  obtain ⟨ad, c, e, _, hK, hc0⟩ := Kd.C_get h z76 i h0 h1
  have hc : ∀ j u, c[j]? = some u → w.cell? (ad.add (i.toNat * 2 + j)) = some u := hc0
  obtain rfl := k76_open hK
  exact ⟨ad, e, hc 0 _ rfl, by rw [← add_field _ _ 1 (by omega)]; exact hc 1 _ rfl⟩

/-! #### struct type 187 -/
structure S187 where
  f0 : Int
  f1 : Int
  f2 : Int
def z187 : S187 := ⟨(0 : Int), (0 : Int), (0 : Int)⟩
def k187 : Kd S187 := Kd.iso (Kd.pair (Kd.int .u16) (Kd.pair (Kd.int .u16) (Kd.int .u16))) (fun x : S187 => (x.f0, x.f1, x.f2))
theorem k187_heap : Kd.Heap k187 := Kd.heap_iso _ (Kd.heap_pair (Kd.heap_int .u16) (Kd.heap_pair (Kd.heap_int .u16) (Kd.heap_int .u16)))
theorem k187_open {w : World} {x : S187} {cs : List Value} (h : k187.K w x cs) : cs = [.int .u16 x.f0, .int .u16 x.f1, .int .u16 x.f2] := by
  obtain ⟨_, _, rfl, rfl, ⟨_, _, rfl, rfl, rfl⟩⟩ := h
  exact rfl
theorem k187_openM {w : World} {base : Nat} {ok : Nat → Prop} {x : S187} {cs : List Value} (h : k187.M w base ok x cs) : cs = [.int .u16 x.f0, .int .u16 x.f1, .int .u16 x.f2] := by
  obtain ⟨_, _, rfl, rfl, ⟨_, _, rfl, rfl, rfl⟩⟩ := h
  exact rfl
theorem k187_mk (w : World) (x : S187)  : k187.K w x [.int .u16 x.f0, .int .u16 x.f1, .int .u16 x.f2] := ⟨[.int .u16 x.f0], [.int .u16 x.f1, .int .u16 x.f2], rfl, rfl, ⟨[.int .u16 x.f1], [.int .u16 x.f2], rfl, rfl, rfl⟩⟩
theorem k187_mkM (w : World) (base : Nat) (ok : Nat → Prop) (x : S187)  : k187.M w base ok x [.int .u16 x.f0, .int .u16 x.f1, .int .u16 x.f2] := ⟨[.int .u16 x.f0], [.int .u16 x.f1, .int .u16 x.f2], rfl, rfl, ⟨[.int .u16 x.f1], [.int .u16 x.f2], rfl, rfl, rfl⟩⟩
theorem k187_mkF (W : World) (ok : Nat → Prop) (x : S187) : Kd.FK k187 W ok x [.int .u16 x.f0, .int .u16 x.f1, .int .u16 x.f2] := fun W2 _ => k187_mk W2 x
def rd_T187 (xs : List S187) (i : Int) : S187 := xs.getD i.toNat z187
theorem at_T187 {w : World} {A : Option Addr} {n : Nat} {xs : List S187} (h : Kd.C k187 w A n xs) (i : Int) (h0 : 0 ≤ i) (h1 : i < n) : ∃ ad , A = some ad ∧ w.cell? (ad.add (i.toNat * 3)) = some (.int .u16 (rd_T187 xs i).f0) ∧ w.cell? ⟨(ad.add (i.toNat * 3)).block, (ad.add (i.toNat * 3)).off + 1, none⟩ = some (.int .u16 (rd_T187 xs i).f1) ∧ w.cell? ⟨(ad.add (i.toNat * 3)).block, (ad.add (i.toNat * 3)).off + 2, none⟩ = some (.int .u16 (rd_T187 xs i).f2) := by
  obtain ⟨ad, c, e, _, hK, hc0⟩ := Kd.C_get h z187 i h0 h1
  have hc : ∀ j u, c[j]? = some u → w.cell? (ad.add (i.toNat * 3 + j)) = some u := hc0
  obtain rfl := k187_open hK
  exact ⟨ad, e, hc 0 _ rfl, by rw [← add_field _ _ 1 (by omega)]; exact hc 1 _ rfl, by rw [← add_field _ _ 2 (by omega)]; exact hc 2 _ rfl⟩

/-! #### struct type 190 -/
structure S190 where
  f0 : Int
  f1 : Int
  f2 : Int
def z190 : S190 := ⟨(0 : Int), (0 : Int), (0 : Int)⟩
def k190 : Kd S190 := Kd.iso (Kd.pair (Kd.int .u32) (Kd.pair (Kd.int .u32) (Kd.int .u32))) (fun x : S190 => (x.f0, x.f1, x.f2))
theorem k190_heap : Kd.Heap k190 := Kd.heap_iso _ (Kd.heap_pair (Kd.heap_int .u32) (Kd.heap_pair (Kd.heap_int .u32) (Kd.heap_int .u32)))
theorem k190_open {w : World} {x : S190} {cs : List Value} (h : k190.K w x cs) : cs = [.int .u32 x.f0, .int .u32 x.f1, .int .u32 x.f2] := by
  obtain ⟨_, _, rfl, rfl, ⟨_, _, rfl, rfl, rfl⟩⟩ := h
  exact rfl
theorem k190_openM {w : World} {base : Nat} {ok : Nat → Prop} {x : S190} {cs : List Value} (h : k190.M w base ok x cs) : cs = [.int .u32 x.f0, .int .u32 x.f1, .int .u32 x.f2] := by
  obtain ⟨_, _, rfl, rfl, ⟨_, _, rfl, rfl, rfl⟩⟩ := h
  exact rfl
theorem k190_mk (w : World) (x : S190)  : k190.K w x [.int .u32 x.f0, .int .u32 x.f1, .int .u32 x.f2] := ⟨[.int .u32 x.f0], [.int .u32 x.f1, .int .u32 x.f2], rfl, rfl, ⟨[.int .u32 x.f1], [.int .u32 x.f2], rfl, rfl, rfl⟩⟩
theorem k190_mkM (w : World) (base : Nat) (ok : Nat → Prop) (x : S190)  : k190.M w base ok x [.int .u32 x.f0, .int .u32 x.f1, .int .u32 x.f2] := ⟨[.int .u32 x.f0], [.int .u32 x.f1, .int .u32 x.f2], rfl, rfl, ⟨[.int .u32 x.f1], [.int .u32 x.f2], rfl, rfl, rfl⟩⟩
theorem k190_mkF (W : World) (ok : Nat → Prop) (x : S190) : Kd.FK k190 W ok x [.int .u32 x.f0, .int .u32 x.f1, .int .u32 x.f2] := fun W2 _ => k190_mk W2 x
def rd_T190 (xs : List S190) (i : Int) : S190 := xs.getD i.toNat z190
theorem at_T190 {w : World} {A : Option Addr} {n : Nat} {xs : List S190} (h : Kd.C k190 w A n xs) (i : Int) (h0 : 0 ≤ i) (h1 : i < n) : ∃ ad , A = some ad ∧ w.cell? (ad.add (i.toNat * 3)) = some (.int .u32 (rd_T190 xs i).f0) ∧ w.cell? ⟨(ad.add (i.toNat * 3)).block, (ad.add (i.toNat * 3)).off + 1, none⟩ = some (.int .u32 (rd_T190 xs i).f1) ∧ w.cell? ⟨(ad.add (i.toNat * 3)).block, (ad.add (i.toNat * 3)).off + 2, none⟩ = some (.int .u32 (rd_T190 xs i).f2) := by
  obtain ⟨ad, c, e, _, hK, hc0⟩ := Kd.C_get h z190 i h0 h1
  have hc : ∀ j u, c[j]? = some u → w.cell? (ad.add (i.toNat * 3 + j)) = some u := hc0
  obtain rfl := k190_open hK
  exact ⟨ad, e, hc 0 _ rfl, by rw [← add_field _ _ 1 (by omega)]; exact hc 1 _ rfl, by rw [← add_field _ _ 2 (by omega)]; exact hc 2 _ rfl⟩

end Go.Proofs.YtmocphafkimdpaaDoor.P


/- The laid tables that library functions read, and that they stay as they are in later worlds. -/
namespace Go.Proofs.YtmocphafkimdpaaDoor.P
open Go.RowKit

/-- The powers of ten, as FormatUint reads them. -/
def GTab (w : World) : Prop := Lib.TabIs Tryd.prog w "internal/strconv.uint64pow10" .u64 Lib.pow10Tab

theorem var_lt {w : World} {n : String} {cs : Array Value} {g : Nat} (hg : Tryd.prog.globalNamed n = some g) (hv : w.var? Tryd.prog n = some cs) : g < w.heap.size := by
  unfold World.var? at hv
  rw [hg, Option.bind_some] at hv
  apply Classical.byContradiction
  intro hge
  rw [Array.getElem?_eq_none (by omega)] at hv
  cases hv

theorem GTab.below {w W : World} (h : GTab w) (hb : Below w.heap.size w W) : GTab W := by
  have hg : Tryd.prog.globalNamed "internal/strconv.uint64pow10" = some 5 := by kernel_rfl
  exact var?_below hb hg (var_lt hg h) h

/-- The tables that strings.Fields reads. -/
def GSp (w : World) : Prop := w = w
theorem GSp.below {w W : World} (_h : GSp w) (_hb : Below w.heap.size w W) : GSp W := rfl

end Go.Proofs.YtmocphafkimdpaaDoor.P


/- From some number of rounds on: how the printed functions, which count their rounds, are told without a count. -/
namespace Go.Proofs.YtmocphafkimdpaaDoor.P
open Go.RowKit Go.Proofs.YtmocphafkimdpaaDoorW.PrintWords Go.Proofs.YtmocphafkimdpaaDoorW.PrintLast Go.Proofs.YtmocphafkimdpaaDoorW.PrintMore

def Ev {α : Type} (f : Nat → Option α) (r : α) : Prop := ∃ k0, ∀ k, k0 ≤ k → f k = some r

theorem Ev.now {α : Type} {r : α} : Ev (fun _ => some r) r := ⟨0, fun _ _ => rfl⟩
theorem Ev.const {α : Type} {o : Option α} {r : α} (h : o = some r) : Ev (fun _ => o) r := ⟨0, fun _ _ => h⟩
theorem Ev.shift {α : Type} {f g : Nat → Option α} {r : α} (e : ∀ k, f (k + 1) = g k) (h : Ev g r) : Ev f r := by
  obtain ⟨k0, h⟩ := h
  refine ⟨k0 + 1, fun k hk => ?_⟩
  obtain ⟨k, rfl⟩ : ∃ m, k = m + 1 := ⟨k - 1, by omega⟩
  rw [e, h k (by omega)]
theorem Ev.bind {α β : Type} {f : Nat → Option α} {g : Nat → α → Option β} {a : α} {r : β} (h : Ev f a) (h2 : Ev (fun k => g k a) r) : Ev (fun k => (f k).bind (g k)) r := by
  obtain ⟨k0, h⟩ := h
  obtain ⟨k1, h2⟩ := h2
  refine ⟨max k0 k1, fun k hk => ?_⟩
  show (f k).bind (g k) = some r
  rw [h k (by omega), Option.bind_some]
  exact h2 k (by omega)
theorem Ev.bindc {α β : Type} {o : Option α} {g : Nat → α → Option β} {a : α} {r : β} (h : o = some a) (h2 : Ev (fun k => g k a) r) : Ev (fun k => o.bind (g k)) r := Ev.bind (Ev.const h) h2
theorem Ev.pos {α : Type} {c : Prop} [Decidable c] {f g : Nat → Option α} {r : α} (hc : c) (h : Ev f r) : Ev (fun k => if c then f k else g k) r := by
  obtain ⟨k0, h⟩ := h
  exact ⟨k0, fun k hk => by show (if c then f k else g k) = some r; rw [if_pos hc]; exact h k hk⟩
theorem Ev.neg {α : Type} {c : Prop} [Decidable c] {f g : Nat → Option α} {r : α} (hc : ¬c) (h : Ev g r) : Ev (fun k => if c then f k else g k) r := by
  obtain ⟨k0, h⟩ := h
  exact ⟨k0, fun k hk => by show (if c then f k else g k) = some r; rw [if_neg hc]; exact h k hk⟩
theorem Ev.congr {α : Type} {f g : Nat → Option α} {r : α} (e : ∀ k, f k = g k) (h : Ev g r) : Ev f r := by
  obtain ⟨k0, h⟩ := h
  exact ⟨k0, fun k hk => by rw [e, h k hk]⟩
theorem Ev.get {α : Type} {f : Nat → Option α} {r : α} (h : Ev f r) : ∃ k, f k = some r := h.elim fun k0 h => ⟨k0, h k0 (Nat.le_refl _)⟩
/-- Where more rounds never tell another thing. -/
theorem Ev.of_mono {α : Type} {f : Nat → Option α} {r : α} (m : ∀ k, LeO (f k) (f (k + 1))) {k : Nat} (h : f k = some r) : Ev f r := by
  refine ⟨k, fun j hj => ?_⟩
  obtain ⟨d, rfl⟩ : ∃ d, j = k + d := ⟨j - k, by omega⟩
  clear hj
  induction d with
  | zero => exact h
  | succ d ih => exact m (k + d) r ih
theorem Ev.res {α : Type} {f : Nat → Option α} {r r' : α} (h : Ev f r) (e : r = r') : Ev f r' := e ▸ h

theorem w64 {x : Int} (h0 : -9223372036854775808 ≤ x) (h1 : x ≤ 9223372036854775807) : wrap64 x = x := by unfold wrap64; omega
theorem rdt {xs : List S29} {i : Nat} {x : S29} (h : xs[i]? = some x) : rd_T29 xs (i : Int) = x := by
  unfold rd_T29
  rw [List.getD_eq_getElem?_getD, Int.toNat_natCast, h]
  rfl
theorem rdi {xs : List Int} {i : Nat} {x : Int} (h : xs[i]? = some x) : rd xs (i : Int) = x := by
  unfold rd
  rw [List.getD_eq_getElem?_getD, Int.toNat_natCast, h]
  rfl
theorem drop_cons_get {α : Type} {l : List α} {i : Nat} {a : α} {t : List α} (h : l.drop i = a :: t) : l[i]? = some a ∧ l.drop (i + 1) = t ∧ i < l.length := by
  have h1 : (l.drop i)[0]? = some a := by rw [h]; rfl
  rw [List.getElem?_drop] at h1
  have h2 : l.drop (i + 1) = t := by rw [← List.drop_drop, h]; rfl
  have h3 : i < l.length := by
    apply Classical.byContradiction
    intro hn
    rw [List.drop_eq_nil_of_le (by omega)] at h
    cases h
  exact ⟨by simpa using h1, h2, h3⟩
end Go.Proofs.YtmocphafkimdpaaDoor.P


-- written by a program (a patched copy of the kit's print: wip/mkprint.py); Lean checks it
namespace Go.Proofs.YtmocphafkimdpaaDoor.P
open Go.RowKit Go.Proofs.YtmocphafkimdpaaDoorW.PrintWords Go.Proofs.YtmocphafkimdpaaDoorW.PrintLast Go.Proofs.YtmocphafkimdpaaDoorW.PrintMore
attribute [local go_sem] max2_int min2_int max_two min_two max_three min_three max_four min_four   -- for this text's walks alone
set_option linter.unusedVariables false
set_option linter.unusedSimpArgs false

/-! ### money_Right: function 65 -/
def money_Right.l0 : Nat → List Int → Int → Int → Option (Bool)
 | 0, _, _, _ => none
 | k + 1, x5, x6, x7 => if x7 < x6 then (if 0 ≤ x7 then (if x7 < (x5.length : Int) then (if (rd x5 x7) > 100000000000 then (some false) else (if (rd x5 x7) < (-100000000000) then (some false) else (money_Right.l0 k x5 x6 (wrap64 (x7 + 1))))) else (none)) else (none)) else (some true)
def money_Right.f (k : Nat) (l0 : List Int) : Option (Bool) := money_Right.l0 k l0 (l0.length : Int) 0
theorem money_Right.mono_l : ∀ k, (∀ y0 y1 y2, LeO (money_Right.l0 k y0 y1 y2) (money_Right.l0 (k + 1) y0 y1 y2))
 | 0 => fun _ _ _ r h => by simp [money_Right.l0] at h
 | k + 1 => by
  have ih0 := money_Right.mono_l k
  ·intro y0 y1 y2
   unfold money_Right.l0
   repeat' first
   | (with_reducible exact ih0 _ _ _)
   | (with_reducible exact LeO.refl _)
   | (with_reducible exact LeO.none _)
   | (with_reducible refine LeO.ite ?_ ?_)
   | (with_reducible refine LeO.bind ?_ (fun _ => ?_))
   | exact ih0 _ _ _
   | exact LeO.none _
   | refine LeO.ite ?_ ?_
   | refine LeO.bind ?_ (fun _ => ?_)
theorem money_Right.mono : ∀ a0 k, LeO (money_Right.f k a0) (money_Right.f (k + 1) a0) := by
 intro a0 k
 have ih0 := money_Right.mono_l k
 unfold money_Right.f
 repeat' first
   | (with_reducible exact ih0 _ _ _)
   | (with_reducible exact LeO.refl _)
   | (with_reducible exact LeO.none _)
   | (with_reducible refine LeO.ite ?_ ?_)
   | (with_reducible refine LeO.bind ?_ (fun _ => ?_))
   | exact ih0 _ _ _
   | exact LeO.none _
   | refine LeO.ite ?_ ?_
   | refine LeO.bind ?_ (fun _ => ?_)
set_option maxHeartbeats 8000000 in
set_option maxRecDepth 100000 in
theorem money_Right.calls (k : Nat) (A0 : Option Addr) (c0 : Nat) (l0 : List Int) (r : Bool) (w : World) (hr0 : Kd.C (Kd.int .i64) w A0 l0.length l0) (hc0 : l0.length ≤ c0) (h : money_Right.f k l0 = some r) :
  Calls Tryd.prog 65 #[.slice A0 l0.length c0] w fun e w' => e = .returned (.bool r) ∧ Drawn0 w w' := by
 have HR0 := Aside0.mk hr0
 have HC0 := Aside0.mk hc0
 clear hr0 hc0
 have H : (money_Right.l0 k l0 (l0.length : Int) 0) = some r := h
 clear h
 have H' := Aside0.mk H
 clear H
 go_enter Tryd.func65, Tryd.ntmps65
 go_wp2
 go_loopg [7] k (fun kq v7 w' => ∃ (x7_1 : Int), v7 = .int .i64 x7_1 ∧ Aside0 (money_Right.l0 kq l0 (l0.length : Int) x7_1 = some r) ∧ Aside0 (kq ≤ k) ∧ Drawn0 w w')
 case atStart => exact ⟨(0), (by first | rfl | (simp; done) | (simp [*]; done)), H', ⟨Nat.le_refl _⟩, by repeat (first | exact Drawn0.refl _ | apply Drawn0.step)⟩
 case round =>
  clear H'
  obtain ⟨x7_1, rfl, HA, HK1, ⟨m1, rfl⟩⟩ := hrel
  cases gk with
  | zero => exact absurd HA.out (by simp [money_Right.l0])
  | succ k1 =>
   have H := HA.out
   clear HA
   simp only [money_Right.l0] at H
   by_cases c2 : x7_1 < (l0.length : Int)
   ·rw [if_pos c2] at H
    have c2b0 : decide (x7_1 < (l0.length : Int)) = true := decide_eq_true c2
    clear c2
    by_cases c3 : 0 ≤ x7_1
    ·rw [if_pos c3] at H
     have c3b0 : decide (0 ≤ x7_1) = true := decide_eq_true c3
     clear c3
     by_cases c4 : x7_1 < (l0.length : Int)
     ·rw [if_pos c4] at H
      have c4b0 : decide (x7_1 < (l0.length : Int)) = true := decide_eq_true c4
      clear c4
      by_cases c5 : (rd l0 x7_1) > 100000000000
      ·rw [if_pos c5] at H
       have c5b0 : decide (100000000000 < (rd l0 x7_1)) = true := decide_eq_true c5
       clear c5
       obtain rfl := Option.some.inj H
       have p101 : 0 ≤ (x7_1 : Int) := of_decide_eq_true (by first | (with_reducible assumption) | assumption)
       have q101 : x7_1 < (l0.length : Int) := of_decide_eq_true (by first | (with_reducible assumption) | assumption)
       obtain ⟨ad101, e101, hx101_0⟩ := Kd.at_int HR0.out x7_1 p101 q101
       cases e101
       replace p101 := eq_true p101
       replace q101 := eq_true q101
       go_wp2
       go_ret
       exact ⟨by first | rfl | (simp; done) | (simp [*]; done), by repeat (first | exact Drawn0.refl _ | apply Drawn0.step)⟩
      ·rw [if_neg c5] at H
       have c5b0 : decide (100000000000 < (rd l0 x7_1)) = false := decide_eq_false c5
       clear c5
       by_cases c6 : (rd l0 x7_1) < (-100000000000)
       ·rw [if_pos c6] at H
        have c6b0 : decide ((rd l0 x7_1) < (-100000000000)) = true := decide_eq_true c6
        clear c6
        obtain rfl := Option.some.inj H
        have p101 : 0 ≤ (x7_1 : Int) := of_decide_eq_true (by first | (with_reducible assumption) | assumption)
        have q101 : x7_1 < (l0.length : Int) := of_decide_eq_true (by first | (with_reducible assumption) | assumption)
        obtain ⟨ad101, e101, hx101_0⟩ := Kd.at_int HR0.out x7_1 p101 q101
        cases e101
        replace p101 := eq_true p101
        replace q101 := eq_true q101
        go_wp2
        go_ret
        exact ⟨by first | rfl | (simp; done) | (simp [*]; done), by repeat (first | exact Drawn0.refl _ | apply Drawn0.step)⟩
       ·rw [if_neg c6] at H
        have c6b0 : decide ((rd l0 x7_1) < (-100000000000)) = false := decide_eq_false c6
        clear c6
        have H' := Aside0.mk H
        clear H
        have p101 : 0 ≤ (x7_1 : Int) := of_decide_eq_true (by first | (with_reducible assumption) | assumption)
        have q101 : x7_1 < (l0.length : Int) := of_decide_eq_true (by first | (with_reducible assumption) | assumption)
        obtain ⟨ad101, e101, hx101_0⟩ := Kd.at_int HR0.out x7_1 p101 q101
        cases e101
        replace p101 := eq_true p101
        replace q101 := eq_true q101
        go_wp2
        go_roundg k1
        case measure => have := HK1.out; omega
        case rel => exact ⟨(wrap64 (x7_1 + 1)), (by first | rfl | (simp; done) | (simp [*]; done)), H', ⟨by have := HK1.out; omega⟩, by repeat (first | exact Drawn0.refl _ | apply Drawn0.step)⟩
     ·rw [if_neg c4] at H
      exact absurd H (by simp)
    ·rw [if_neg c3] at H
     exact absurd H (by simp)
   ·rw [if_neg c2] at H
    have c2b0 : decide (x7_1 < (l0.length : Int)) = false := decide_eq_false c2
    clear c2
    obtain rfl := Option.some.inj H
    go_wp2
    go_ret
    exact ⟨by first | rfl | (simp; done) | (simp [*]; done), by repeat (first | exact Drawn0.refl _ | apply Drawn0.step)⟩

end Go.Proofs.YtmocphafkimdpaaDoor.P


-- written by a program (a patched copy of the kit's print: wip/mkprint.py); Lean checks it
namespace Go.Proofs.YtmocphafkimdpaaDoor.P
open Go.RowKit Go.Proofs.YtmocphafkimdpaaDoorW.PrintWords Go.Proofs.YtmocphafkimdpaaDoorW.PrintLast Go.Proofs.YtmocphafkimdpaaDoorW.PrintMore
attribute [local go_sem] max2_int min2_int max_two min_two max_three min_three max_four min_four   -- for this text's walks alone
set_option linter.unusedVariables false
set_option linter.unusedSimpArgs false

/-! ### money_check: function 77 -/
def money_check.f (k : Nat) (a0 : Int) : Option (Int × Int) := (money_Right.f k (([a0] : List Int))).bind fun t105 => (if t105 = true then (some (a0, 0)) else (some (0, 10)))
theorem money_check.mono : ∀ a0 k, LeO (money_check.f k a0) (money_check.f (k + 1) a0) := by
 intro a0 k
 unfold money_check.f
 repeat' first
   | (with_reducible exact money_Right.mono _ _)
   | (with_reducible exact LeO.refl _)
   | (with_reducible exact LeO.none _)
   | (with_reducible refine LeO.ite ?_ ?_)
   | (with_reducible refine LeO.bind ?_ (fun _ => ?_))
   | exact money_Right.mono _ _
   | exact LeO.none _
   | refine LeO.ite ?_ ?_
   | refine LeO.bind ?_ (fun _ => ?_)
set_option maxHeartbeats 8000000 in
set_option maxRecDepth 100000 in
theorem money_check.calls (k : Nat) (a0 : Int) (r1 : Int) (r2 : Int) (w : World) (h : money_check.f k a0 = some (r1, r2)) :
  Calls Tryd.prog 77 #[.int .i64 a0] w fun e w' => e = .returned (.tuple #[.int .i64 r1, .int .i64 r2]) ∧ Below w.heap.size w w' := by
 have HB := Aside0.mk (Below.refl w.heap.size w)
 have H : ((money_Right.f k (([a0] : List Int))).bind fun t105 => (if t105 = true then (some (a0, 0)) else (some (0, 10)))) = some (r1, r2) := h
 clear h
 obtain ⟨y102, hy102⟩ : ∃ y_ : List Int, y_ = (([a0] : List Int)) := ⟨_, rfl⟩
 replace H : ((money_Right.f k y102).bind fun t105 => (if t105 = true then (some (a0, 0)) else (some (0, 10)))) = some (r1, r2) := by first | (rw [hy102]; with_reducible exact H) | (have H2_ := (Option.bind_some _ _).symm.trans H; rw [hy102]; with_reducible exact H2_) | (have H2_ := (Option.bind_some _ _).symm.trans H; with_reducible exact H2_) | with_reducible exact H | (rw [hy102]; exact H) | exact H
 have Ny102 := Aside0.mk hy102
 clear hy102
 replace H := Option.bind_eq_some_iff.mp H
 obtain ⟨t105, A20, H⟩ := H
 replace H : (if t105 = true then (some (a0, 0)) else (some (0, 10))) = some (r1, r2) := H
 have A2 := Aside0.mk A20
 clear A20
 by_cases c3 : t105 = true
 ·subst c3
  have H1 : (some (a0, 0)) = some (r1, r2) := by rw [if_pos rfl] at H; exact H
  clear H
  have H := H1
  clear H1
  simp only [Option.some.injEq, Prod.mk.injEq] at H
  obtain ⟨rfl, rfl⟩ := H
  go_enter Tryd.func77, Tryd.ntmps77
  go_wp2_with (first | ((with_reducible refine gate_dst (N := 5) rfl ?_); refine Kd.R_lit (Kd.int .i64) _ 2 ?hg (N := 5) ?hd (xs := ([a0] : List Int)) (inner := [.int .i64 a0]) (ok := fun _ => True) (okp := fun _ => True) ?hr ?hp (fun _ hk => hk) trivial (Below.refl _ _) (Nat.le_refl _) (by simp) ?_; (case hd => rfl); (case hg => rfl); (case hr => first | (go_simp; done) | (go_simp; rfl)); (case hp => exact (Reps.one (show Kd.M (Kd.int .i64) _ _ _ a0 [.int .i64 a0] from rfl) (Reps.none _ _))); intro v103 w4 ho5 hb hg_ hnew_; clear hg_ hnew_; (first | rw [← Ny102.out] at ho5 | (simp only [Int.reduceToNat] at ho5; rw [← Ny102.out] at ho5)); have n0_ := Aside0.mk (Kd.R_lower ho5 (below_size (by repeat (first | (with_reducible first | exact HB.out | apply below_alloc | apply pw_below_drewN | apply below_drew1) | exact HB.out)))); have n1_ := Aside0.mk (below_step (by repeat (first | (with_reducible first | exact HB.out | apply below_alloc | apply pw_below_drewN | apply below_drew1) | exact HB.out)) hb); clear HB; have HO104 := n0_; have HB := n1_; clear n0_ n1_; clear hb ho5; obtain ⟨Ao6, co6, eo6⟩ := Kd.R_slice HO104.out; subst eo6) | ((with_reducible refine gate_callee (f := 65) rfl ?_); refine goesL_ (some 6) rfl rfl Tryd.func65 (by kernel_rfl) rfl #[.slice Ao6 y102.length co6] rfl (by (try simp only [List.map_toArray, List.map_cons, List.map_nil]); first | done | rfl | (simp only [List.length_drop, List.length_take]; rfl)) ?_; (with_reducible refine (money_Right.calls k _ _ y102 true _ ?side1 ?side2 A2.out).mono ?_); (case side1 => repeat (first | exact (Kd.R_reads' HO104.out).2.2 | (with_reducible refine Kd.C_alloc ?_ _) | (with_reducible refine Kd.C_drewN ?_ _) | (with_reducible refine Kd.C_drew ?_))); (case side2 => exact (Kd.R_reads' HO104.out).2.1); rintro e w' ⟨rfl, ⟨nd, rfl⟩⟩; refine ⟨_, rfl, ?_⟩))
  go_ret2
  exact ⟨by first | rfl | (simp [errW_none, errW_some] <;> rfl) | (simp [*, errW_none, errW_some] <;> rfl), by repeat (first | (with_reducible first | exact HB.out | apply below_alloc | apply pw_below_drewN | apply below_drew1) | exact HB.out)⟩
 ·replace c3 := Bool.eq_false_iff.mpr c3
  subst c3
  have H1 : (some (0, 10)) = some (r1, r2) := by rw [if_neg (show ¬ (false = true) by decide)] at H; exact H
  clear H
  have H := H1
  clear H1
  simp only [Option.some.injEq, Prod.mk.injEq] at H
  obtain ⟨rfl, rfl⟩ := H
  go_enter Tryd.func77, Tryd.ntmps77
  go_wp2_with (first | ((with_reducible refine gate_dst (N := 5) rfl ?_); refine Kd.R_lit (Kd.int .i64) _ 2 ?hg (N := 5) ?hd (xs := ([a0] : List Int)) (inner := [.int .i64 a0]) (ok := fun _ => True) (okp := fun _ => True) ?hr ?hp (fun _ hk => hk) trivial (Below.refl _ _) (Nat.le_refl _) (by simp) ?_; (case hd => rfl); (case hg => rfl); (case hr => first | (go_simp; done) | (go_simp; rfl)); (case hp => exact (Reps.one (show Kd.M (Kd.int .i64) _ _ _ a0 [.int .i64 a0] from rfl) (Reps.none _ _))); intro v103 w7 ho8 hb hg_ hnew_; clear hg_ hnew_; (first | rw [← Ny102.out] at ho8 | (simp only [Int.reduceToNat] at ho8; rw [← Ny102.out] at ho8)); have n0_ := Aside0.mk (Kd.R_lower ho8 (below_size (by repeat (first | (with_reducible first | exact HB.out | apply below_alloc | apply pw_below_drewN | apply below_drew1) | exact HB.out)))); have n1_ := Aside0.mk (below_step (by repeat (first | (with_reducible first | exact HB.out | apply below_alloc | apply pw_below_drewN | apply below_drew1) | exact HB.out)) hb); clear HB; have HO104 := n0_; have HB := n1_; clear n0_ n1_; clear hb ho8; obtain ⟨Ao9, co9, eo9⟩ := Kd.R_slice HO104.out; subst eo9) | ((with_reducible refine gate_callee (f := 65) rfl ?_); refine goesL_ (some 6) rfl rfl Tryd.func65 (by kernel_rfl) rfl #[.slice Ao9 y102.length co9] rfl (by (try simp only [List.map_toArray, List.map_cons, List.map_nil]); first | done | rfl | (simp only [List.length_drop, List.length_take]; rfl)) ?_; (with_reducible refine (money_Right.calls k _ _ y102 false _ ?side1 ?side2 A2.out).mono ?_); (case side1 => repeat (first | exact (Kd.R_reads' HO104.out).2.2 | (with_reducible refine Kd.C_alloc ?_ _) | (with_reducible refine Kd.C_drewN ?_ _) | (with_reducible refine Kd.C_drew ?_))); (case side2 => exact (Kd.R_reads' HO104.out).2.1); rintro e w' ⟨rfl, ⟨nd, rfl⟩⟩; refine ⟨_, rfl, ?_⟩))
  go_ret2
  exact ⟨by first | rfl | (simp [errW_none, errW_some] <;> rfl) | (simp [*, errW_none, errW_some] <;> rfl), by repeat (first | (with_reducible first | exact HB.out | apply below_alloc | apply pw_below_drewN | apply below_drew1) | exact HB.out)⟩

end Go.Proofs.YtmocphafkimdpaaDoor.P


-- written by a program (a patched copy of the kit's print: wip/mkprint.py); Lean checks it
namespace Go.Proofs.YtmocphafkimdpaaDoor.P
open Go.RowKit Go.Proofs.YtmocphafkimdpaaDoorW.PrintWords Go.Proofs.YtmocphafkimdpaaDoorW.PrintLast Go.Proofs.YtmocphafkimdpaaDoorW.PrintMore
attribute [local go_sem] max2_int min2_int max_two min_two max_three min_three max_four min_four   -- for this text's walks alone
set_option linter.unusedVariables false
set_option linter.unusedSimpArgs false

/-! ### money_Add: function 34 -/
def money_Add.f (k : Nat) (a0 : Int) (a1 : Int) : Option (Int × Int) := (money_Right.f k (([a0, a1] : List Int))).bind fun t109 => (if t109 = true then ((money_check.f k (wrap64 (a0 + a1))).bind fun bt110 => (some (bt110.1, bt110.2))) else (some (0, 10)))
theorem money_Add.mono : ∀ a0 a1 k, LeO (money_Add.f k a0 a1) (money_Add.f (k + 1) a0 a1) := by
 intro a0 a1 k
 unfold money_Add.f
 repeat' first
   | (with_reducible exact money_Right.mono _ _)
   | (with_reducible exact money_check.mono _ _)
   | (with_reducible exact LeO.refl _)
   | (with_reducible exact LeO.none _)
   | (with_reducible refine LeO.ite ?_ ?_)
   | (with_reducible refine LeO.bind ?_ (fun _ => ?_))
   | exact money_Right.mono _ _
   | exact money_check.mono _ _
   | exact LeO.none _
   | refine LeO.ite ?_ ?_
   | refine LeO.bind ?_ (fun _ => ?_)
set_option maxHeartbeats 8000000 in
set_option maxRecDepth 100000 in
theorem money_Add.calls (k : Nat) (a0 : Int) (a1 : Int) (r1 : Int) (r2 : Int) (w : World) (h : money_Add.f k a0 a1 = some (r1, r2)) :
  Calls Tryd.prog 34 #[.int .i64 a0, .int .i64 a1] w fun e w' => e = .returned (.tuple #[.int .i64 r1, .int .i64 r2]) ∧ Below w.heap.size w w' := by
 have HB := Aside0.mk (Below.refl w.heap.size w)
 have H : ((money_Right.f k (([a0, a1] : List Int))).bind fun t109 => (if t109 = true then ((money_check.f k (wrap64 (a0 + a1))).bind fun bt110 => (some (bt110.1, bt110.2))) else (some (0, 10)))) = some (r1, r2) := h
 clear h
 obtain ⟨y106, hy106⟩ : ∃ y_ : List Int, y_ = (([a0, a1] : List Int)) := ⟨_, rfl⟩
 replace H : ((money_Right.f k y106).bind fun t109 => (if t109 = true then ((money_check.f k (wrap64 (a0 + a1))).bind fun bt110 => (some (bt110.1, bt110.2))) else (some (0, 10)))) = some (r1, r2) := by first | (rw [hy106]; with_reducible exact H) | (have H2_ := (Option.bind_some _ _).symm.trans H; rw [hy106]; with_reducible exact H2_) | (have H2_ := (Option.bind_some _ _).symm.trans H; with_reducible exact H2_) | with_reducible exact H | (rw [hy106]; exact H) | exact H
 have Ny106 := Aside0.mk hy106
 clear hy106
 replace H := Option.bind_eq_some_iff.mp H
 obtain ⟨t109, A30, H⟩ := H
 replace H : (if t109 = true then ((money_check.f k (wrap64 (a0 + a1))).bind fun bt110 => (some (bt110.1, bt110.2))) else (some (0, 10))) = some (r1, r2) := H
 have A3 := Aside0.mk A30
 clear A30
 by_cases c4 : t109 = true
 ·subst c4
  have H1 : ((money_check.f k (wrap64 (a0 + a1))).bind fun bt110 => (some (bt110.1, bt110.2))) = some (r1, r2) := by rw [if_pos rfl] at H; exact H
  clear H
  have H := H1
  clear H1
  replace H := Option.bind_eq_some_iff.mp H
  obtain ⟨⟨t110, t111⟩, A50, H⟩ := H
  replace H : (some (t110, t111)) = some (r1, r2) := H
  have A5 := Aside0.mk A50
  clear A50
  simp only [Option.some.injEq, Prod.mk.injEq] at H
  obtain ⟨rfl, rfl⟩ := H
  go_enter Tryd.func34, Tryd.ntmps34
  go_wp2_with (first | ((with_reducible refine gate_dst (N := 8) rfl ?_); refine Kd.R_lit (Kd.int .i64) _ 2 ?hg (N := 8) ?hd (xs := ([a0, a1] : List Int)) (inner := [.int .i64 a0, .int .i64 a1]) (ok := fun _ => True) (okp := fun _ => True) ?hr ?hp (fun _ hk => hk) trivial (Below.refl _ _) (Nat.le_refl _) (by simp) ?_; (case hd => rfl); (case hg => rfl); (case hr => first | (go_simp; done) | (go_simp; rfl)); (case hp => exact (Reps.one (show Kd.M (Kd.int .i64) _ _ _ a0 [.int .i64 a0] from rfl) (Reps.one (show Kd.M (Kd.int .i64) _ _ _ a1 [.int .i64 a1] from rfl) (Reps.none _ _)))); intro v107 w6 ho7 hb hg_ hnew_; clear hg_ hnew_; (first | rw [← Ny106.out] at ho7 | (simp only [Int.reduceToNat] at ho7; rw [← Ny106.out] at ho7)); have n0_ := Aside0.mk (Kd.R_lower ho7 (below_size (by repeat (first | (with_reducible first | exact HB.out | apply below_alloc | apply pw_below_drewN | apply below_drew1) | exact HB.out)))); have n1_ := Aside0.mk (below_step (by repeat (first | (with_reducible first | exact HB.out | apply below_alloc | apply pw_below_drewN | apply below_drew1) | exact HB.out)) hb); clear HB; have HO108 := n0_; have HB := n1_; clear n0_ n1_; clear hb ho7; obtain ⟨Ao8, co8, eo8⟩ := Kd.R_slice HO108.out; subst eo8) | ((with_reducible refine gate_callee (f := 65) rfl ?_); refine goesL_ (some 9) rfl rfl Tryd.func65 (by kernel_rfl) rfl #[.slice Ao8 y106.length co8] rfl (by (try simp only [List.map_toArray, List.map_cons, List.map_nil]); first | done | rfl | (simp only [List.length_drop, List.length_take]; rfl)) ?_; (with_reducible refine (money_Right.calls k _ _ y106 true _ ?side1 ?side2 A3.out).mono ?_); (case side1 => repeat (first | exact (Kd.R_reads' HO108.out).2.2 | (with_reducible refine Kd.C_alloc ?_ _) | (with_reducible refine Kd.C_drewN ?_ _) | (with_reducible refine Kd.C_drew ?_))); (case side2 => exact (Kd.R_reads' HO108.out).2.1); rintro e w' ⟨rfl, ⟨nd, rfl⟩⟩; refine ⟨_, rfl, ?_⟩) | ((with_reducible refine gate_callee (f := 77) rfl ?_); refine goesL_ (some 14) rfl rfl Tryd.func77 (by kernel_rfl) rfl #[.int .i64 (wrap64 (a0 + a1))] rfl (by (try simp only [List.map_toArray, List.map_cons, List.map_nil]); first | done | rfl | (simp only [List.length_drop, List.length_take]; rfl)) ?_; (with_reducible refine (money_check.calls k (wrap64 (a0 + a1)) t110 t111 _ A5.out).mono ?_); rintro e w9 ⟨rfl, hb⟩; refine ⟨_, rfl, ?_⟩; have n0_ := Aside0.mk (Kd.R_below (by (with_reducible repeat (first | apply Kd.R_alloc | apply Kd.R_drewN | apply Kd.R_drew)); exact HO108.out) hb); have n1_ := Aside0.mk (below_step (by repeat (first | (with_reducible first | exact HB.out | apply below_alloc | apply pw_below_drewN | apply below_drew1) | exact HB.out)) hb); clear HO108; clear HB; have HO108 := n0_; have HB := n1_; clear n0_ n1_; (try clear hb); (try clear hb2); (try clear hk); (try clear hi)))
  go_ret2
  exact ⟨by first | rfl | (simp [errW_none, errW_some] <;> rfl) | (simp [*, errW_none, errW_some] <;> rfl), by repeat (first | (with_reducible first | exact HB.out | apply below_alloc | apply pw_below_drewN | apply below_drew1) | exact HB.out)⟩
 ·replace c4 := Bool.eq_false_iff.mpr c4
  subst c4
  have H1 : (some (0, 10)) = some (r1, r2) := by rw [if_neg (show ¬ (false = true) by decide)] at H; exact H
  clear H
  have H := H1
  clear H1
  simp only [Option.some.injEq, Prod.mk.injEq] at H
  obtain ⟨rfl, rfl⟩ := H
  go_enter Tryd.func34, Tryd.ntmps34
  go_wp2_with (first | ((with_reducible refine gate_dst (N := 8) rfl ?_); refine Kd.R_lit (Kd.int .i64) _ 2 ?hg (N := 8) ?hd (xs := ([a0, a1] : List Int)) (inner := [.int .i64 a0, .int .i64 a1]) (ok := fun _ => True) (okp := fun _ => True) ?hr ?hp (fun _ hk => hk) trivial (Below.refl _ _) (Nat.le_refl _) (by simp) ?_; (case hd => rfl); (case hg => rfl); (case hr => first | (go_simp; done) | (go_simp; rfl)); (case hp => exact (Reps.one (show Kd.M (Kd.int .i64) _ _ _ a0 [.int .i64 a0] from rfl) (Reps.one (show Kd.M (Kd.int .i64) _ _ _ a1 [.int .i64 a1] from rfl) (Reps.none _ _)))); intro v107 w10 ho11 hb hg_ hnew_; clear hg_ hnew_; (first | rw [← Ny106.out] at ho11 | (simp only [Int.reduceToNat] at ho11; rw [← Ny106.out] at ho11)); have n0_ := Aside0.mk (Kd.R_lower ho11 (below_size (by repeat (first | (with_reducible first | exact HB.out | apply below_alloc | apply pw_below_drewN | apply below_drew1) | exact HB.out)))); have n1_ := Aside0.mk (below_step (by repeat (first | (with_reducible first | exact HB.out | apply below_alloc | apply pw_below_drewN | apply below_drew1) | exact HB.out)) hb); clear HB; have HO108 := n0_; have HB := n1_; clear n0_ n1_; clear hb ho11; obtain ⟨Ao12, co12, eo12⟩ := Kd.R_slice HO108.out; subst eo12) | ((with_reducible refine gate_callee (f := 65) rfl ?_); refine goesL_ (some 9) rfl rfl Tryd.func65 (by kernel_rfl) rfl #[.slice Ao12 y106.length co12] rfl (by (try simp only [List.map_toArray, List.map_cons, List.map_nil]); first | done | rfl | (simp only [List.length_drop, List.length_take]; rfl)) ?_; (with_reducible refine (money_Right.calls k _ _ y106 false _ ?side1 ?side2 A3.out).mono ?_); (case side1 => repeat (first | exact (Kd.R_reads' HO108.out).2.2 | (with_reducible refine Kd.C_alloc ?_ _) | (with_reducible refine Kd.C_drewN ?_ _) | (with_reducible refine Kd.C_drew ?_))); (case side2 => exact (Kd.R_reads' HO108.out).2.1); rintro e w' ⟨rfl, ⟨nd, rfl⟩⟩; refine ⟨_, rfl, ?_⟩))
  go_ret2
  exact ⟨by first | rfl | (simp [errW_none, errW_some] <;> rfl) | (simp [*, errW_none, errW_some] <;> rfl), by repeat (first | (with_reducible first | exact HB.out | apply below_alloc | apply pw_below_drewN | apply below_drew1) | exact HB.out)⟩

end Go.Proofs.YtmocphafkimdpaaDoor.P


/- Amounts: may they be, and two together, in plain words. -/
namespace Go.Proofs.YtmocphafkimdpaaDoor.P
open Go.RowKit Go.Proofs.YtmocphafkimdpaaDoorW.PrintWords Go.Proofs.YtmocphafkimdpaaDoorW.PrintLast Go.Proofs.YtmocphafkimdpaaDoorW.PrintMore

def okAmt (x : Int) : Bool := decide (-100000000000 ≤ x) && decide (x ≤ 100000000000)
theorem okAmt_iff (x : Int) : okAmt x = true ↔ -100000000000 ≤ x ∧ x ≤ 100000000000 := by simp [okAmt]

/-- money.Right: a list's amounts may all be. -/
theorem right_l0 (l : List Int) (hl : l.length < 1000) : ∀ (d i k : Nat), i + d = l.length → d < k → money_Right.l0 k l (l.length : Int) i = some ((l.drop i).all okAmt) := by
  intro d
  induction d with
  | zero =>
    intro i k hi hk
    obtain ⟨k, rfl⟩ : ∃ m, k = m + 1 := ⟨k - 1, by omega⟩
    simp only [money_Right.l0]
    rw [if_neg (by omega), List.drop_of_length_le (by omega)]
    rfl
  | succ d ih =>
    intro i k hi hk
    obtain ⟨k, rfl⟩ : ∃ m, k = m + 1 := ⟨k - 1, by omega⟩
    simp only [money_Right.l0]
    have hlt : i < l.length := by omega
    have hrd : rd l (i : Int) = l[i] := by simp [rd, hlt]
    have hw : wrap64 ((i : Int) + 1) = ((i + 1 : Nat) : Int) := by unfold wrap64; omega
    rw [if_pos (by omega), if_pos (by omega), if_pos (by omega), hrd, hw, List.drop_eq_getElem_cons hlt, List.all_cons]
    by_cases h1 : l[i] > 100000000000
    · rw [if_pos h1]
      have : okAmt l[i] = false := by simp [okAmt]; omega
      rw [this]; rfl
    · rw [if_neg h1]
      by_cases h2 : l[i] < -100000000000
      · rw [if_pos h2]
        have : okAmt l[i] = false := by simp [okAmt]; omega
        rw [this]; rfl
      · rw [if_neg h2, ih (i + 1) k (by omega) (by omega)]
        have : okAmt l[i] = true := by simp [okAmt]; omega
        rw [this]; rfl
theorem right_f (l : List Int) (hl : l.length < 1000) : money_Right.f 1001 l = some (l.all okAmt) := by
  unfold money_Right.f
  have := right_l0 l hl l.length 0 1001 (by omega) (by omega)
  simpa using this

theorem mright_ev (l : List Int) (hl : l.length < 1000) : Ev (fun k => money_Right.f k l) (l.all okAmt) := Ev.of_mono (money_Right.mono _) (right_f l hl)
theorem madd_ev (a b : Int) : Ev (fun k => money_Add.f k a b) (if (okAmt a && okAmt b && okAmt (a + b)) = true then (a + b, 0) else (0, 10)) := by
  unfold money_Add.f
  refine Ev.bind (mright_ev [a, b] (by simp)) ?_
  by_cases c : okAmt a = true ∧ okAmt b = true
  · obtain ⟨ha, hb⟩ := c
    have ha' := (okAmt_iff a).1 ha
    have hb' := (okAmt_iff b).1 hb
    refine Ev.pos (by simp [ha, hb]) ?_
    rw [w64 (x := a + b) (by omega) (by omega)]
    refine Ev.bind (a := if okAmt (a + b) = true then (a + b, 0) else (0, 10)) ?_ (Ev.const (by rw [ha, hb]; rfl))
    unfold money_check.f
    refine Ev.bind (mright_ev [a + b] (by simp)) ?_
    by_cases c : okAmt (a + b) = true
    · rw [if_pos c]
      exact Ev.pos (by simp [c]) Ev.now
    · rw [if_neg c]
      exact Ev.neg (by simp [c]) Ev.now
  · have : (okAmt a && okAmt b) = false := by
      rw [Bool.eq_false_iff]
      intro h
      exact c (Bool.and_eq_true_iff.1 h)
    refine Ev.neg (by simpa using this) ?_
    rw [this]
    exact Ev.now
theorem madd_ok (a b : Int) (ha : okAmt a = true) (hb : okAmt b = true) (hs : okAmt (a + b) = true) : Ev (fun k => money_Add.f k a b) (a + b, 0) := by
  have := madd_ev a b
  rwa [if_pos (by simp [ha, hb, hs])] at this
theorem madd_no (a b : Int) (h : ¬(okAmt a = true ∧ okAmt b = true ∧ okAmt (a + b) = true)) : Ev (fun k => money_Add.f k a b) (0, 10) := by
  have := madd_ev a b
  rwa [if_neg (by simp only [Bool.and_eq_true]; exact fun ⟨⟨a, b⟩, c⟩ => h ⟨a, b, c⟩)] at this

theorem add0 (a : Int) (ha : okAmt a = true) : Ev (fun k => money_Add.f k 0 a) (a, 0) := by
  have := madd_ok 0 a (by decide) ha (by rwa [Int.zero_add])
  rwa [Int.zero_add] at this
theorem add0_no (a : Int) (ha : ¬okAmt a = true) : Ev (fun k => money_Add.f k 0 a) (0, 10) := madd_no 0 a (fun h => ha h.2.1)
end Go.Proofs.YtmocphafkimdpaaDoor.P


/- Plain laws of doubles that stand for whole numbers: what is written of a whole number below 2^53 is read as it; order, cutting and the sign are the whole numbers'. -/
namespace Go.Proofs.YtmocphafkimdpaaDoor.P
open Ieee

/-- A magnitude with its sign. -/
def mval (s : Bool) (m : Nat) : Int := if s then -(m : Int) else (m : Int)

theorem signed_eq (s : Bool) (m u : Nat) : signed s m u = mval s m * (2 : Int) ^ u := by
  unfold signed mval
  cases s
  · simp [Nat.shiftLeft_eq]
  · simp [Nat.shiftLeft_eq, Int.neg_mul]

/-- The bits of a double that stands for the whole number n. -/
def IsInt (b : Nat) (n : Int) : Prop := b < 2 ^ 64 ∧ ∃ s m e, double.read b = .number s m e ∧ -1074 ≤ e ∧ mval s m * (2 : Int) ^ (e + 1074).toNat = n * (2 : Int) ^ 1074

theorem two_pow_pos' (k : Nat) : (0 : Int) < 2 ^ k := Int.pow_pos (by decide)

theorem compare_scale (a b c d K L : Int) (hK : 0 < K) (hL : 0 < L) (h1 : c * L = a * K) (h2 : d * L = b * K) : compare a b = compare c d := by
  have lt_iff : a < b ↔ c < d := by
    constructor
    · intro h
      have : a * K < b * K := Int.mul_lt_mul_of_pos_right h hK
      rw [← h1, ← h2] at this
      exact Int.lt_of_mul_lt_mul_right this (by omega)
    · intro h
      have : c * L < d * L := Int.mul_lt_mul_of_pos_right h hL
      rw [h1, h2] at this
      exact Int.lt_of_mul_lt_mul_right this (by omega)
  have eq_iff : a = b ↔ c = d := by
    constructor
    · intro h
      subst h
      have : c * L = d * L := by rw [h1, h2]
      exact Int.eq_of_mul_eq_mul_right (by omega) this
    · intro h
      subst h
      have : a * K = b * K := by rw [← h1, ← h2]
      exact Int.eq_of_mul_eq_mul_right (by omega) this
  show (if a < b then Ordering.lt else if a = b then Ordering.eq else Ordering.gt) = (if c < d then Ordering.lt else if c = d then Ordering.eq else Ordering.gt)
  simp only [lt_iff, eq_iff]

theorem order_int {b c : Nat} {n k : Int} (hb : IsInt b n) (hc : IsInt c k) : double.order b c = some (compare n k) := by
  obtain ⟨_, s, m, e, hr, he, hv⟩ := hb
  obtain ⟨_, t, m', e', hr', he', hv'⟩ := hc
  unfold Format.order
  rw [hr, hr']
  simp only [Datum.order]
  congr 1
  symm
  rw [signed_eq, signed_eq]
  refine compare_scale n k _ _ (2 ^ 1074) (2 ^ (min e e' + 1074).toNat) (two_pow_pos' _) (two_pow_pos' _) ?_ ?_
  · rw [Int.mul_assoc, ← Int.pow_add, ← hv]
    congr 2
    omega
  · rw [Int.mul_assoc, ← Int.pow_add, ← hv']
    congr 2
    omega

theorem cut_zero (n drop : Nat) (neg : Bool) : Toward.zero.cut neg n drop = n / (1 <<< min drop (n.log2 + 2)) := by
  simp [Toward.cut]

theorem toInt_int {b : Nat} {n : Int} (hb : IsInt b n) : (double.read b).toInt .zero = some n := by
  obtain ⟨_, s, m, e, hr, he, hv⟩ := hb
  rw [hr]
  simp only [Datum.toInt, Datum.integral, cut_zero]
  rw [signed_eq, Int.pow_zero, Int.mul_one]
  congr 1
  by_cases h0 : 0 ≤ e
  · obtain ⟨u, rfl⟩ := Int.eq_ofNat_of_zero_le h0
    have h1 : (-(u : Int)).toNat = 0 := by omega
    have h2 : ((u : Int) + 1074).toNat = u + 1074 := by omega
    rw [h1, Nat.zero_min, Int.toNat_natCast]
    rw [h2, Int.pow_add, ← Int.mul_assoc] at hv
    have h3 : mval s m * 2 ^ u = n := Int.eq_of_mul_eq_mul_right (Int.ne_of_gt (two_pow_pos' 1074)) hv
    rw [← h3]
    simp only [Nat.shiftLeft_eq]
    unfold mval
    cases s <;> simp [Int.neg_mul]
  · obtain ⟨d, rfl⟩ : ∃ d : Nat, e = -(d : Int) := ⟨(-e).toNat, by omega⟩
    have hd1 : 0 < d := by omega
    have hd2 : d ≤ 1074 := by omega
    have h1 : (- -(d : Int)).toNat = d := by omega
    have h2 : (-(d : Int) + 1074).toNat = 1074 - d := by omega
    have h4 : (-(d : Int)).toNat = 0 := by omega
    rw [h1, h4, Nat.shiftLeft_zero]
    have h5 : (2 : Int) ^ 1074 = 2 ^ d * 2 ^ (1074 - d) := by rw [← Int.pow_add]; congr 1; omega
    rw [h2, h5, ← Int.mul_assoc] at hv
    have h3 : mval s m = n * 2 ^ d := Int.eq_of_mul_eq_mul_right (Int.ne_of_gt (two_pow_pos' _)) hv
    have hm : m = n.natAbs * 2 ^ d := by
      have := congrArg Int.natAbs h3
      rw [Int.natAbs_mul, Int.natAbs_pow] at this
      have e1 : (mval s m).natAbs = m := by unfold mval; cases s <;> simp
      rw [e1] at this
      exact this
    by_cases hn : n = 0
    · subst hn
      have : m = 0 := by simpa using hm
      subst this
      simp [mval]
    · have hna : 1 ≤ n.natAbs := by omega
      have hlog : d ≤ m.log2 := by
        have : 2 ^ d ≤ m := by rw [hm]; exact Nat.le_mul_of_pos_left _ hna
        exact (Nat.le_log2 (by have := Nat.two_pow_pos d; omega)).2 this
      have hmin : min d (m.log2 + 2) = d := by omega
      rw [hmin]
      have hq : m / (1 <<< d) = n.natAbs := by
        rw [Nat.one_shiftLeft, hm]
        exact Nat.mul_div_cancel _ (Nat.two_pow_pos d)
      rw [hq]
      unfold mval at h3 ⊢
      have hp := two_pow_pos' d
      cases s
      · have : 0 ≤ n := by
          apply Classical.byContradiction
          intro hneg
          have : n * 2 ^ d < 0 := Int.mul_neg_of_neg_of_pos (by omega) hp
          simp at h3
          omega
        simp
        omega
      · have : n ≤ 0 := by
          apply Classical.byContradiction
          intro hneg
          have : 0 < n * 2 ^ d := Int.mul_pos (by omega) hp
          simp at h3
          omega
        simp
        omega

/-- The bits of a whole number. -/
def fl (n : Int) : Nat := FloatKind.f64.nearest n

theorem read_word (s : Bool) (r : Nat) (hr : r < 9223372036854775808) : double.read (double.word s r) =
    if r < 4503599627370496 then .number s r (-1074)
    else if r < 9218868437227405312 then .number s (4503599627370496 + r % 4503599627370496) (-1074 + (r / 4503599627370496 - 1 : Nat))
    else if r = 9218868437227405312 then .infinity s
    else .nan s (r - 9218868437227405312) := by
  have hw : double.signWeight = 9223372036854775808 := rfl
  have h1 : (double.word s r / double.signWeight % 2 == 1) = s := by
    unfold Format.word
    rw [hw]
    cases s
    · have : r / 9223372036854775808 = 0 := Nat.div_eq_of_lt hr
      simp [this]
    · have : (9223372036854775808 + r) / 9223372036854775808 = 1 := by omega
      simp [this]
  have h2 : double.word s r % double.signWeight = r := by
    unfold Format.word
    rw [hw]
    cases s
    · simpa using Nat.mod_eq_of_lt hr
    · simp only [if_true]
      omega
  unfold Format.read
  simp only [h1, h2]
  rfl

theorem word_lt64 (s : Bool) (r : Nat) (hr : r < 9223372036854775808) : double.word s r < 18446744073709551616 := by
  have hw : double.signWeight = 9223372036854775808 := rfl
  unfold Format.word
  rw [hw]
  cases s
  · simp; omega
  · simp only [if_true]; omega

theorem rung_min (L kept : Nat) (hL : L < 53) (hk : kept < 9007199254740992) : min ((L + 1022) * 4503599627370496 + kept) 9218868437227405312 = (L + 1022) * 4503599627370496 + kept :=
  Nat.min_eq_left (by omega)
theorem rung_lt (L kept : Nat) (hL : L < 53) (hk : kept < 9007199254740992) : (L + 1022) * 4503599627370496 + kept < 9223372036854775808 := by omega
theorem rung_inf (L kept : Nat) (hL : L < 53) (hk : kept < 9007199254740992) : (L + 1022) * 4503599627370496 + kept < 9218868437227405312 := by omega
theorem rung_norm (L kept : Nat) : ¬ (L + 1022) * 4503599627370496 + kept < 4503599627370496 := by omega
theorem rung_div (L kept : Nat) (h1 : 4503599627370496 ≤ kept) (hk : kept < 9007199254740992) : ((L + 1022) * 4503599627370496 + kept) / 4503599627370496 = L + 1023 := by omega
theorem rung_mod (L kept : Nat) (h1 : 4503599627370496 ≤ kept) (hk : kept < 9007199254740992) : ((L + 1022) * 4503599627370496 + kept) % 4503599627370496 = kept - 4503599627370496 := by omega

theorem isInt_fl (n : Int) (h : n.natAbs < 9007199254740992) : IsInt (fl n) n := by
  have hfl : fl n = double.nearest (decide (n < 0)) n.natAbs 0 := rfl
  have hl : double.leastPlace = -1074 := rfl
  by_cases h0 : n = 0
  · subst h0
    exact ⟨by decide, false, 0, -1074, by decide, by omega, by rw [Int.zero_mul]; rfl⟩
  · have hm0 : n.natAbs ≠ 0 := by omega
    have hL : n.natAbs.log2 < 53 := (Nat.log2_lt hm0).2 (show n.natAbs < 2 ^ 53 from h)
    have hlo : 2 ^ n.natAbs.log2 ≤ n.natAbs := Nat.log2_self_le hm0
    have hhi : n.natAbs < 2 ^ (n.natAbs.log2 + 1) := Nat.lt_log2_self
    rw [hfl]
    unfold Format.nearest
    rw [if_neg hm0]
    have hlast : max (0 + (n.natAbs.log2 : Int) - (double.fractionBits : Int)) double.leastPlace = (n.natAbs.log2 : Int) - 52 := by
      rw [hl]
      show max (0 + (n.natAbs.log2 : Int) - 52) (-1074) = _
      omega
    simp only [hlast]
    generalize hLe : n.natAbs.log2 = L at *
    have e1 : (0 - ((L : Int) - 52)).toNat = 52 - L := by omega
    have e2 : (((L : Int) - 52) - 0).toNat = 0 := by omega
    have e3 : (((L : Int) - 52) - double.leastPlace).toNat = L + 1022 := by rw [hl]; omega
    rw [e1, e2, e3]
    have hcut : Toward.even.cut (decide (n < 0)) (n.natAbs <<< (52 - L)) 0 = n.natAbs * 2 ^ (52 - L) := by
      simp [Toward.cut, Nat.shiftLeft_eq, Nat.mod_one]
    rw [hcut]
    generalize hkept : n.natAbs * 2 ^ (52 - L) = kept
    have hk1 : 4503599627370496 ≤ kept := by
      rw [← hkept]
      have h3 : 2 ^ L * 2 ^ (52 - L) ≤ n.natAbs * 2 ^ (52 - L) := Nat.mul_le_mul_right _ hlo
      rw [← Nat.pow_add, show L + (52 - L) = 52 by omega] at h3
      exact h3
    have hk2 : kept < 9007199254740992 := by
      rw [← hkept]
      have h3 : n.natAbs * 2 ^ (52 - L) < 2 ^ (L + 1) * 2 ^ (52 - L) := Nat.mul_lt_mul_of_pos_right hhi (Nat.two_pow_pos _)
      rw [← Nat.pow_add, show L + 1 + (52 - L) = 53 by omega] at h3
      exact h3
    have hb : double.binade = 4503599627370496 := rfl
    have hi : double.infRung = 9218868437227405312 := rfl
    rw [hb, hi]
    rw [rung_min L kept hL hk2]
    have hr63 := rung_lt L kept hL hk2
    refine ⟨word_lt64 _ _ hr63, decide (n < 0), kept, (L : Int) - 52, ?_, by omega, ?_⟩
    · rw [read_word _ _ hr63, if_neg (rung_norm L kept), if_pos (rung_inf L kept hL hk2), rung_div L kept hk1 hk2, rung_mod L kept hk1 hk2]
      have g1 : 4503599627370496 + (kept - 4503599627370496) = kept := Nat.add_sub_cancel' hk1
      have g2 : (-1074 : Int) + ((L + 1023 - 1 : Nat) : Int) = (L : Int) - 52 := by omega
      rw [g1, g2]
    · have e4 : ((L : Int) - 52 + 1074).toNat = L + 1022 := by omega
      rw [e4, ← hkept]
      have hsum : (2 : Int) ^ (52 - L) * 2 ^ (L + 1022) = 2 ^ 1074 := (Int.pow_add 2 _ _).symm.trans (congrArg (fun x => (2 : Int) ^ x) (by omega))
      have hv : mval (decide (n < 0)) (n.natAbs * 2 ^ (52 - L)) = n * 2 ^ (52 - L) := by
        unfold mval
        by_cases hneg : n < 0
        · have h5 : -((n.natAbs : Nat) : Int) = n := by omega
          simp only [hneg, decide_true, if_true]
          rw [Int.natCast_mul, Int.natCast_pow, ← Int.neg_mul, h5]
          rfl
        · have h5 : ((n.natAbs : Nat) : Int) = n := by omega
          simp only [hneg, decide_false]
          rw [if_neg (by simp), Int.natCast_mul, Int.natCast_pow, h5]
          rfl
      rw [hv, Int.mul_assoc, hsum]

theorem xor_low0 (r : Nat) (h : r < 2 ^ 63) : r ^^^ 2 ^ 63 = 2 ^ 63 + r := by
  apply Nat.eq_of_testBit_eq
  intro i
  rw [Nat.testBit_xor, Nat.testBit_two_pow]
  by_cases hi : i = 63
  · subst hi
    rw [Nat.testBit_lt_two_pow h, Nat.testBit_two_pow_add_eq, Nat.testBit_lt_two_pow h]
    simp
  · by_cases hlt : i < 63
    · rw [Nat.testBit_two_pow_add_gt hlt]
      simp [Ne.symm hi]
    · have h1 : r < 2 ^ i := Nat.lt_of_lt_of_le h (Nat.pow_le_pow_right (by decide) (by omega))
      have h2 : 2 ^ 63 + r < 2 ^ i := by
        have h3 : 2 ^ 64 ≤ 2 ^ i := Nat.pow_le_pow_right (by decide) (by omega)
        have h4 : 2 ^ 63 + r < 2 ^ 64 := by omega
        exact Nat.lt_of_lt_of_le h4 h3
      rw [Nat.testBit_lt_two_pow h1, Nat.testBit_lt_two_pow h2]
      simp [Ne.symm hi]

theorem xor_low (r : Nat) (h : r < 9223372036854775808) : r ^^^ 9223372036854775808 = 9223372036854775808 + r := xor_low0 r h

theorem neg_word (s : Bool) (r : Nat) (hr : r < 9223372036854775808) : Op.negFloat .f64 (double.word s r) = double.word (!s) r := by
  have hw : double.signWeight = 9223372036854775808 := rfl
  have hp : 2 ^ (FloatKind.f64.format.exponentBits + FloatKind.f64.format.fractionBits) = 9223372036854775808 := by decide
  unfold Op.negFloat Format.word
  rw [hp, hw]
  cases s
  · simp only [Bool.not_false, if_true]
    rw [if_neg (by simp)]
    exact xor_low r hr
  · simp only [Bool.not_true, if_true]
    rw [if_neg (by simp), ← xor_low r hr, Nat.xor_assoc, Nat.xor_self, Nat.xor_zero]

theorem word_of (b : Nat) (h : b < 18446744073709551616) : ∃ s r, b = double.word s r ∧ r < 9223372036854775808 := by
  have hw : double.signWeight = 9223372036854775808 := rfl
  by_cases hb : b < 9223372036854775808
  · exact ⟨false, b, by simp [Format.word], hb⟩
  · exact ⟨true, b - 9223372036854775808, by simp only [Format.word, if_true, hw]; omega, by omega⟩

theorem isInt_neg {b : Nat} {n : Int} (h : IsInt b n) : IsInt (Op.negFloat .f64 b) (-n) := by
  obtain ⟨hb, s, m, e, hr, he, hv⟩ := h
  obtain ⟨t, r, rfl, hr63⟩ := word_of b hb
  rw [neg_word t r hr63]
  refine ⟨word_lt64 _ _ hr63, !s, m, e, ?_, he, ?_⟩
  · rw [read_word _ _ hr63] at hr ⊢
    by_cases h1 : r < 4503599627370496
    · rw [if_pos h1] at hr ⊢
      injection hr with a1 a2 a3
      rw [a1, a2, a3]
    · rw [if_neg h1] at hr ⊢
      by_cases h2 : r < 9218868437227405312
      · rw [if_pos h2] at hr ⊢
        injection hr with a1 a2 a3
        rw [a1, a2, a3]
      · rw [if_neg h2] at hr
        by_cases h3 : r = 9218868437227405312
        · rw [if_pos h3] at hr
          cases hr
        · rw [if_neg h3] at hr
          cases hr
  · have : mval (!s) m = -mval s m := by unfold mval; cases s <;> simp
    rw [this, Int.neg_mul, hv, Int.neg_mul]

theorem isInt_hi : IsInt 4845873199050653696 9007199254740992 := ⟨by decide, false, 4503599627370496, 1, by decide, by decide, by decide +kernel⟩
theorem isInt_lo : IsInt 14069245235905429504 (-9007199254740992) := ⟨by decide, true, 4503599627370496, 1, by decide, by decide, by decide +kernel⟩

end Go.Proofs.YtmocphafkimdpaaDoor.P


/- The pairs of package pair at whole numbers below 2^53: what pair.Of, Right, Sides, Add and Sub answer. -/
namespace Go.Proofs.YtmocphafkimdpaaDoor.P
open Go.RowKit Go.Proofs.YtmocphafkimdpaaDoorW.PrintWords Go.Proofs.YtmocphafkimdpaaDoorW.PrintLast Go.Proofs.YtmocphafkimdpaaDoorW.PrintMore

theorem cmp_gt {a b : Int} (h : b < a) : compare a b = Ordering.gt := by
  show (if a < b then Ordering.lt else if a = b then Ordering.eq else Ordering.gt) = _
  rw [if_neg (by omega), if_neg (by omega)]
theorem cmp_lt {a b : Int} (h : a < b) : compare a b = Ordering.lt := by
  show (if a < b then Ordering.lt else if a = b then Ordering.eq else Ordering.gt) = _
  rw [if_pos h]
theorem cmp_eq (a : Int) : compare a a = Ordering.eq := by
  show (if a < a then Ordering.lt else if a = a then Ordering.eq else Ordering.gt) = _
  rw [if_neg (by omega), if_pos rfl]

theorem toIntVal_int {b : Nat} {n : Int} (hb : IsInt b n) (h : n.natAbs < 9007199254740992) : floatToIntVal .f64 b .i64 = some n := by
  unfold floatToIntVal
  have : (FloatKind.f64.decode b).toInt .zero = some n := toInt_int hb
  rw [this]
  have h1 : IntKind.i64.min = -9223372036854775808 := by decide
  have h2 : IntKind.i64.max = 9223372036854775807 := by decide
  simp only [h1, h2]
  rw [if_pos (by omega)]

theorem convert_int {b : Nat} {n : Int} (hb : IsInt b n) (h : n.natAbs < 9007199254740992) (W : World) : (convert 106 2 (.float .f64 b)).run Tryd.prog W = .ok (.int .i64 n) W :=
  run_convert_float_int W 106 2 .f64 .i64 b n (by rw [Tryd.underlying106]; rfl) Tryd.underlying2 (toIntVal_int hb h)

theorem neg_complex (x y : Nat) (W : World) : (Op.unary .neg (.complex .f64 x y)).run Tryd.prog W = .ok (.complex .f64 (Op.negFloat .f64 x) (Op.negFloat .f64 y)) W := rfl

theorem whole_any (b : Nat) (n : Int) (hb : IsInt b n) (h : n.natAbs < 9007199254740992) (w : World) :
    Calls Tryd.prog 123 #[.float .f64 b] w fun e w' => e = .returned (.bool true) ∧ w = w' := by
  have h1 : FloatKind.f64.format.order b 14069245235905429504 = some .gt := by
    have := order_int hb isInt_lo
    rw [cmp_gt (by omega)] at this
    exact this
  have h2 : FloatKind.f64.format.order b 4845873199050653696 = some .lt := by
    have := order_int hb isInt_hi
    rw [cmp_lt (by omega)] at this
    exact this
  have h3 : FloatKind.f64.format.order b (floatOfInt .f64 n) = some .eq := by
    have := order_int hb (isInt_fl n h)
    rw [cmp_eq] at this
    exact this
  have hc := convert_int hb h
  clear hb h
  go_enter Tryd.func123, Tryd.ntmps123
  go_wp2
  go_ret
  exact ⟨rfl, rfl⟩

theorem right_any (x y : Nat) (n m : Int) (hx : IsInt x n) (hn : n.natAbs < 9007199254740992) (hy : IsInt y m) (hm : m.natAbs < 9007199254740992) (w : World) :
    Calls Tryd.prog 113 #[.complex .f64 x y] w fun e w' => e = .returned (.bool true) ∧ w = w' := by
  go_enter Tryd.func113, Tryd.ntmps113
  go_wp2_with fail
  refine (whole_any x n hx hn _).mono ?_
  rintro e w' ⟨rfl, rfl⟩
  go_wp2_with fail
  refine (whole_any y m hy hm _).mono ?_
  rintro e w' ⟨rfl, rfl⟩
  go_wp2_with fail
  go_ret
  exact ⟨rfl, rfl⟩

theorem of_any (a b : Int) (ha : a.natAbs < 9007199254740992) (hb : b.natAbs < 9007199254740992) (w : World) :
    Calls Tryd.prog 111 #[.int .i64 a, .int .i64 b] w fun e w' => e = .returned (.tuple #[.complex .f64 (fl a) (fl b), .int .i64 0]) ∧ w = w' := by
  have h1 : decide (9007199254740992 < a) = false := by simp; omega
  have h2 : decide (a < -9007199254740992) = false := by simp; omega
  have h3 : decide (9007199254740992 < b) = false := by simp; omega
  have h4 : decide (b < -9007199254740992) = false := by simp; omega
  clear ha hb
  go_enter Tryd.func111, Tryd.ntmps111
  go_wp2
  go_ret2
  exact ⟨rfl, rfl⟩

theorem sides_any (x y : Nat) (n m : Int) (hx : IsInt x n) (hn : n.natAbs < 9007199254740992) (hy : IsInt y m) (hm : m.natAbs < 9007199254740992) (w : World) :
    Calls Tryd.prog 103 #[.complex .f64 x y] w fun e w' => e = .returned (.tuple #[.int .i64 n, .int .i64 m, .int .i64 0]) ∧ w = w' := by
  have hc := convert_int hx hn
  have hc' := convert_int hy hm
  go_enter Tryd.func103, Tryd.ntmps103
  go_wp2_with (go_at_call 113; refine (right_any x y n m hx hn hy hm _).mono ?_; rintro e w' ⟨rfl, rfl⟩)
  go_ret3
  exact ⟨rfl, rfl⟩

theorem isInt_zero : IsInt 0 0 := isInt_fl 0 (by decide)

set_option maxHeartbeats 1000000 in
/-- pair.Add at two pairs. -/
theorem add_two (g cap : Nat) (x1 y1 x2 y2 : Nat) (n1 m1 n2 m2 : Int) (w : World)
    (hc0 : w.cell? ⟨g, 0, none⟩ = some (.complex .f64 x1 y1)) (hc1 : w.cell? ⟨g, 1, none⟩ = some (.complex .f64 x2 y2))
    (hx1 : IsInt x1 n1) (hy1 : IsInt y1 m1) (hx2 : IsInt x2 n2) (hy2 : IsInt y2 m2)
    (b1 : n1.natAbs < 1000000000000) (b2 : m1.natAbs < 1000000000000) (b3 : n2.natAbs < 1000000000000) (b4 : m2.natAbs < 1000000000000) :
    Calls Tryd.prog 112 #[.slice (some ⟨g, 0, none⟩) 2 cap] w fun e w' => e = .returned (.tuple #[.complex .f64 (fl (n1 + n2)) (fl (m1 + m2)), .int .i64 0]) ∧ w = w' := by
  have k0 := convert_int isInt_zero (by decide)
  have k1 := convert_int hx1 (by omega)
  have k2 := convert_int hy1 (by omega)
  have k3 := convert_int hx2 (by omega)
  have k4 := convert_int hy2 (by omega)
  have k5 := convert_int (isInt_fl n1 (by omega)) (by omega)
  have k6 := convert_int (isInt_fl m1 (by omega)) (by omega)
  have r1 := Lib.hid (fun w => right_any x1 y1 n1 m1 hx1 (by omega) hy1 (by omega) w)
  have r2 := Lib.hid (fun w => right_any x2 y2 n2 m2 hx2 (by omega) hy2 (by omega) w)
  have o1 := Lib.hid (fun w => of_any n1 m1 (by omega) (by omega) w)
  have o2 := Lib.hid (fun w => of_any (n1 + n2) (m1 + m2) (by omega) (by omega) w)
  clear hx1 hy1 hx2 hy2
  have c1 : -1000000000000 < n1 := by omega
  have c2 : n1 < 1000000000000 := by omega
  have c3 : -1000000000000 < m1 := by omega
  have c4 : m1 < 1000000000000 := by omega
  have c5 : -1000000000000 < n2 := by omega
  have c6 : n2 < 1000000000000 := by omega
  have c7 : -1000000000000 < m2 := by omega
  have c8 : m2 < 1000000000000 := by omega
  clear b1 b2 b3 b4
  go_enter Tryd.func112, Tryd.ntmps112
  go_wp2_with fail
  go_loop [4, 13] (fun s i => (s = .complex .f64 0 0 ∧ i = .int .i64 0) ∨ (s = .complex .f64 (fl n1) (fl m1) ∧ i = .int .i64 1) ∨ (s = .complex .f64 (fl (n1 + n2)) (fl (m1 + m2)) ∧ i = .int .i64 2)) (fun _ i => 3 - (intOf i).toNat)
  case atStart => exact .inl ⟨rfl, rfl⟩
  case round =>
    rcases hrel with ⟨rfl, rfl⟩ | ⟨rfl, rfl⟩ | ⟨rfl, rfl⟩
    · go_wp2_with fail
      refine (r1.out _).mono ?_
      rintro e w' ⟨rfl, rfl⟩
      go_wp2_with fail
      refine (o1.out _).mono ?_
      rintro e w' ⟨rfl, rfl⟩
      go_wp2_with fail
      go_round
      case rel => exact .inr (.inl ⟨rfl, rfl⟩)
      case measure => simp [intOf]
    · go_wp2_with fail
      refine (r2.out _).mono ?_
      rintro e w' ⟨rfl, rfl⟩
      go_wp2_with fail
      refine (o2.out _).mono ?_
      rintro e w' ⟨rfl, rfl⟩
      go_wp2_with fail
      go_round
      case rel => exact .inr (.inr ⟨rfl, rfl⟩)
      case measure => simp [intOf]
    · go_wp2_with fail
      go_ret2
      exact ⟨rfl, rfl⟩

end Go.Proofs.YtmocphafkimdpaaDoor.P


/- share.less: a share less another one, both sides at once, where all may be; else it is told. -/
namespace Go.Proofs.YtmocphafkimdpaaDoor.P
open Go.RowKit Go.Proofs.YtmocphafkimdpaaDoorW.PrintWords Go.Proofs.YtmocphafkimdpaaDoorW.PrintLast Go.Proofs.YtmocphafkimdpaaDoorW.PrintMore

theorem add_neg (g cap : Nat) (x1 y1 x2 y2 : Nat) (n1 m1 n2 m2 : Int) (w : World)
    (hc0 : w.cell? ⟨g, 0, none⟩ = some (.complex .f64 x1 y1)) (hc1 : w.cell? ⟨g, 1, none⟩ = some (.complex .f64 (Op.negFloat .f64 x2) (Op.negFloat .f64 y2)))
    (hx1 : IsInt x1 n1) (hy1 : IsInt y1 m1) (hx2 : IsInt x2 n2) (hy2 : IsInt y2 m2)
    (b1 : n1.natAbs < 1000000000000) (b2 : m1.natAbs < 1000000000000) (b3 : n2.natAbs < 1000000000000) (b4 : m2.natAbs < 1000000000000) :
    Calls Tryd.prog 112 #[.slice (some ⟨g, 0, none⟩) 2 cap] w fun e w' => e = .returned (.tuple #[.complex .f64 (fl (n1 - n2)) (fl (m1 - m2)), .int .i64 0]) ∧ w = w' := by
  have h := add_two g cap x1 y1 _ _ n1 m1 (-n2) (-m2) w hc0 hc1 hx1 hy1 (isInt_neg hx2) (isInt_neg hy2) b1 b2 (by omega) (by omega)
  rw [← Int.sub_eq_add_neg, ← Int.sub_eq_add_neg] at h
  exact h

set_option maxHeartbeats 1000000 in
theorem sub_any (x1 y1 x2 y2 : Nat) (n1 m1 n2 m2 : Int) (w : World)
    (hx1 : IsInt x1 n1) (hy1 : IsInt y1 m1) (hx2 : IsInt x2 n2) (hy2 : IsInt y2 m2)
    (b1 : n1.natAbs < 1000000000000) (b2 : m1.natAbs < 1000000000000) (b3 : n2.natAbs < 1000000000000) (b4 : m2.natAbs < 1000000000000) :
    Calls Tryd.prog 102 #[.complex .f64 x1 y1, .complex .f64 x2 y2] w fun e w' => e = .returned (.tuple #[.complex .f64 (fl (n1 - n2)) (fl (m1 - m2)), .int .i64 0]) ∧ w' = w.alloc (.cells #[.complex .f64 x1 y1, .complex .f64 (Op.negFloat .f64 x2) (Op.negFloat .f64 y2)] 151) := by
  have A := Lib.hid (fun (g cap : Nat) (W : World) h0 h1 => add_neg g cap x1 y1 x2 y2 n1 m1 n2 m2 W h0 h1 hx1 hy1 hx2 hy2 b1 b2 b3 b4)
  clear hx1 hy1 hx2 hy2 b1 b2 b3 b4
  have hneg := neg_complex x2 y2
  go_enter Tryd.func102, Tryd.ntmps102
  go_wp2_with fail
  refine (A.out w.heap.size 2 _ ?h0 ?h1).mono ?_
  case h0 => go_simp
  case h1 => go_simp
  rintro e w' ⟨rfl, rfl⟩
  go_wp2_with fail
  go_ret2
  exact ⟨rfl, rfl⟩

set_option maxHeartbeats 1000000 in
theorem pshare_any (a b : Int) (ha : a.natAbs < 1000000000000) (hb : b.natAbs < 1000000000000) (w : World) :
    Calls Tryd.prog 101 #[.agg #[.int .i64 a, .int .i64 b]] w fun e w' => e = .returned (.tuple #[.complex .f64 (fl a) (fl b), .int .i64 0]) ∧ w' = w.alloc (.cells #[.int .i64 a, .int .i64 b] 29) := by
  have A := Lib.hid (fun (W : World) => of_any a b (by omega) (by omega) W)
  clear ha hb
  go_enter Tryd.func101, Tryd.ntmps101
  go_wp2_with fail
  refine (A.out _).mono ?_
  rintro e w' ⟨rfl, rfl⟩
  go_wp2_with fail
  go_ret2
  exact ⟨rfl, rfl⟩

/-- May an amount be? -/
theorem right_cells (g cap : Nat) (l : List Int) (w : World) (hl : l.length < 1000) (hcap : l.length ≤ cap) (hc : ∀ j, j < l.length → w.cell? ⟨g, j, none⟩ = some (.int .i64 (l.getD j 0))) :
    Calls Tryd.prog 65 #[.slice (some ⟨g, 0, none⟩) l.length cap] w fun e w' => e = .returned (.bool (l.all okAmt)) ∧ Drawn0 w w' := by
  refine money_Right.calls 1001 _ _ l _ w (Kd.C_of_reads (d := (0 : Int)) (h1 := fun _ => rfl) ⟨rfl, by omega, fun _ => ⟨_, rfl, fun j hj => ?_⟩⟩) hcap (right_f l hl)
  rw [add_plain]
  exact hc j hj

def share_less.f (a0_0 a0_1 a1_0 a1_1 : Int) : Option (Int × Int × Int) :=
  if [a0_0, a0_1, a1_0, a1_1].all okAmt = true then (if [a0_0 - a1_0, a0_1 - a1_1].all okAmt = true then some (a0_0 - a1_0, a0_1 - a1_1, 0) else some (0, 0, 10)) else some (0, 0, 10)

theorem cells_new (W : World) (l : List Int) (T : TypeId) (g : Nat) (hg : W.heap.size = g) : ∀ j, j < l.length → (W.alloc (.cells (l.map fun x => Value.int .i64 x).toArray T)).cell? ⟨g, j, none⟩ = some (.int .i64 (l.getD j 0)) := by
  subst hg
  intro j hj
  rw [World.cell?_alloc_new]
  simp [hj]

set_option maxHeartbeats 4000000 in
theorem less_no (a b c d : Int) (w : World) (h : [a, b, c, d].all okAmt = false) :
    Calls Tryd.prog 74 #[.agg #[.int .i64 a, .int .i64 b], .agg #[.int .i64 c, .int .i64 d]] w fun e w' => e = .returned (.tuple #[.agg #[.int .i64 0, .int .i64 0], .int .i64 10]) ∧ Below w.heap.size w w' := by
  have R := Lib.hid (fun (g cap : Nat) (W : World) h1 h2 => right_cells g cap [a, b, c, d] W (by simp) h1 h2)
  have H := Lib.hid h
  clear h
  have hu29 := Tryd.underlying29
  go_enter Tryd.func74, Tryd.ntmps74
  go_wp2_with fail
  refine (R.out (w.heap.size + 1 + 1 + 1) 4 _ (by simp) ?h2).mono ?_
  case h2 => exact cells_new _ [a, b, c, d] 2 _ (by simp)
  rintro e w' ⟨rfl, ⟨nd, rfl⟩⟩
  rw [H.out]
  go_wp2_with fail
  refine bodyPost_ret (v := .tuple #[.agg #[.int .i64 0, .int .i64 0], .int .i64 10]) (by simp [results, Tryd.results74, go_sem]) rfl ⟨rfl, ?_⟩
  repeat (first | exact Below.refl _ _ | apply below_alloc | apply pw_below_drewN | refine below_set ?_ (by omega))

set_option maxHeartbeats 8000000 in
set_option maxRecDepth 100000 in
theorem less_yes (a b c d : Int) (v : Bool) (w : World) (h : [a, b, c, d].all okAmt = true) (hv : [a - c, b - d].all okAmt = v) :
    Calls Tryd.prog 74 #[.agg #[.int .i64 a, .int .i64 b], .agg #[.int .i64 c, .int .i64 d]] w fun e w' => e = .returned (.tuple #[.agg #[.int .i64 (if v = true then a - c else 0), .int .i64 (if v = true then b - d else 0)], .int .i64 (if v = true then 0 else 10)]) ∧ Below w.heap.size w w' := by
  have R := Lib.hid (fun (g cap : Nat) (W : World) h1 h2 => right_cells g cap [a, b, c, d] W (by simp) h1 h2)
  have R2 := Lib.hid (fun (g cap : Nat) (W : World) h1 h2 => right_cells g cap [a - c, b - d] W (by simp) h1 h2)
  have hb : (-100000000000 ≤ a ∧ a ≤ 100000000000) ∧ (-100000000000 ≤ b ∧ b ≤ 100000000000) ∧ (-100000000000 ≤ c ∧ c ≤ 100000000000) ∧ (-100000000000 ≤ d ∧ d ≤ 100000000000) := by
    simpa [okAmt_iff] using h
  obtain ⟨⟨a1, a2⟩, ⟨b1, b2⟩, ⟨c1, c2⟩, ⟨d1, d2⟩⟩ := hb
  have P1 := Lib.hid (fun W => pshare_any a b (by omega) (by omega) W)
  have P2 := Lib.hid (fun W => pshare_any c d (by omega) (by omega) W)
  have S := Lib.hid (fun W => sub_any (fl a) (fl b) (fl c) (fl d) a b c d W (isInt_fl a (by omega)) (isInt_fl b (by omega)) (isInt_fl c (by omega)) (isInt_fl d (by omega)) (by omega) (by omega) (by omega) (by omega))
  have D := Lib.hid (fun W => sides_any (fl (a - c)) (fl (b - d)) (a - c) (b - d) (isInt_fl _ (by omega)) (by omega) (isInt_fl _ (by omega)) (by omega) W)
  have H := Lib.hid h
  have HV := Lib.hid hv
  clear h hv a1 a2 b1 b2 c1 c2 d1 d2
  have hu29 := Tryd.underlying29
  go_enter Tryd.func74, Tryd.ntmps74
  go_wp2_with fail
  refine (R.out (w.heap.size + 1 + 1 + 1) 4 _ (by simp) ?h2).mono ?_
  case h2 => exact cells_new _ [a, b, c, d] 2 _ (by simp)
  rintro e w' ⟨rfl, ⟨nd, rfl⟩⟩
  rw [H.out]
  go_wp2_with fail
  refine (P1.out _).mono ?_
  rintro e w' ⟨rfl, rfl⟩
  go_wp2_with fail
  refine (P2.out _).mono ?_
  rintro e w' ⟨rfl, rfl⟩
  go_wp2_with fail
  refine (S.out _).mono ?_
  rintro e w' ⟨rfl, rfl⟩
  go_wp2_with fail
  refine (D.out _).mono ?_
  rintro e w' ⟨rfl, rfl⟩
  go_wp2_with fail
  refine (R2.out (w.heap.size + 1 + 1 + 1 + 1 + 1 + 1 + 1) 2 _ (by simp) ?h3).mono ?_
  case h3 => exact cells_new _ [a - c, b - d] 2 _ (by simp)
  rintro e w' ⟨rfl, ⟨nd2, rfl⟩⟩
  rw [HV.out]
  clear R R2 P1 P2 S D H HV
  cases v with
  | true =>
    go_wp2_with fail
    refine bodyPost_ret (v := .tuple #[.agg #[.int .i64 (a - c), .int .i64 (b - d)], .int .i64 0]) (by simp [results, Tryd.results74, go_sem]) rfl ⟨rfl, ?_⟩
    repeat (first | exact Below.refl _ _ | apply below_alloc | apply pw_below_drewN | refine below_set ?_ (by omega))
  | false =>
    go_wp2_with fail
    refine bodyPost_ret (v := .tuple #[.agg #[.int .i64 0, .int .i64 0], .int .i64 10]) (by simp [results, Tryd.results74, go_sem]) rfl ⟨rfl, ?_⟩
    repeat (first | exact Below.refl _ _ | apply below_alloc | apply pw_below_drewN | refine below_set ?_ (by omega))

theorem share_less.calls (a0_0 a0_1 a1_0 a1_1 r1 r2 r3 : Int) (w : World) (h : share_less.f a0_0 a0_1 a1_0 a1_1 = some (r1, r2, r3)) :
    Calls Tryd.prog 74 #[.agg #[.int .i64 a0_0, .int .i64 a0_1], .agg #[.int .i64 a1_0, .int .i64 a1_1]] w fun e w' => e = .returned (.tuple #[.agg #[.int .i64 r1, .int .i64 r2], .int .i64 r3]) ∧ Below w.heap.size w w' := by
  unfold share_less.f at h
  cases h1 : [a0_0, a0_1, a1_0, a1_1].all okAmt with
  | false =>
    rw [h1, if_neg (by decide)] at h
    simp only [Option.some.injEq, Prod.mk.injEq] at h
    obtain ⟨rfl, rfl, rfl⟩ := h
    exact less_no _ _ _ _ w h1
  | true =>
    rw [h1, if_pos rfl] at h
    refine (less_yes a0_0 a0_1 a1_0 a1_1 _ w h1 rfl).mono ?_
    cases h2 : [a0_0 - a1_0, a0_1 - a1_1].all okAmt with
    | false =>
      rw [h2, if_neg (by decide)] at h
      simp only [Option.some.injEq, Prod.mk.injEq] at h
      obtain ⟨rfl, rfl, rfl⟩ := h
      rintro e w' ⟨rfl, hb⟩
      exact ⟨by simp, hb⟩
    | true =>
      rw [h2, if_pos rfl] at h
      simp only [Option.some.injEq, Prod.mk.injEq] at h
      obtain ⟨rfl, rfl, rfl⟩ := h
      rintro e w' ⟨rfl, hb⟩
      exact ⟨by simp, hb⟩

end Go.Proofs.YtmocphafkimdpaaDoor.P
