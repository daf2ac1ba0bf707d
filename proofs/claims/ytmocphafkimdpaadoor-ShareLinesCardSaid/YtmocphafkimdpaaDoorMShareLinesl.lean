/- A part of the proof of ShareLines's card: 'ShareLines' answers true for every input (the conditions: those of the given statement alone). Merged by a program (wip/merge.py) out of: HShareLines, GOpen86. -/
import Derived.Test.YtmocphafkimdpaaDoorMShareLinese
import Derived.Test.YtmocphafkimdpaaDoorMShareLinesk
import Derived.Test.YtmocphafkimdpaaDoorMShareLinesa

/- ShareLines answers true for every table and every row: the plain law. -/
namespace Go.Proofs.YtmocphafkimdpaaDoor.P
open Go.RowKit Go.Proofs.YtmocphafkimdpaaDoorW.PrintWords Go.Proofs.YtmocphafkimdpaaDoorW.PrintLast Go.Proofs.YtmocphafkimdpaaDoorW.PrintMore
set_option linter.unusedVariables false
set_option linter.unusedSimpArgs false

theorem parse_line (x : Int) (h : okAmt x = true) : Ev (fun k => money_Parse.f k (bs (textOf x))) (x, 0) := by
 have hx := (okAmt_iff x).1 h
 have hl := text_len x (by omega) (by omega)
 have := mparse_ev (bs (textOf x)) (by rw [bs_size]; omega)
 rw [bs_toList, parse_text x (by omega) (by omega), if_pos h] at this
 exact this

theorem sl_l0 (b : List S97) (l : List S29) (hl : l.length ≤ 30) (hbl : b.length = l.length) (hok : ∀ s ∈ l, okSh s = true) :
  ∀ (u : List S97) (i : Nat), b.drop i = u → i ≤ b.length → Ev (fun k => stipendlaw16_ShareLines.l0 k l (List.zipWith lineOf b l) b (b.length : Int) (i : Int)) true
 | [], i, hu, hi => by
  have : b.length ≤ i := by simpa using hu
  refine Ev.shift (fun k => by rw [stipendlaw16_ShareLines.l0]) ?_
  exact Ev.neg (by omega) Ev.now
 | c :: u, i, hu, hi => by
  obtain ⟨g1, g2, g3⟩ := drop_cons_get hu
  have hil : i < l.length := by omega
  have hs1 : l[i]? = some l[i] := List.getElem?_eq_getElem hil
  have hso := hok l[i] (List.getElem_mem hil)
  have hz : (List.zipWith lineOf b l)[i]? = some (lineOf c l[i]) := by
   rw [List.getElem?_zipWith, g1, hs1]
  have hzl : (List.zipWith lineOf b l).length = l.length := by rw [List.length_zipWith]; omega
  have hw : wrap64 ((i : Int) + 1) = ((i + 1 : Nat) : Int) := by rw [w64 (by omega) (by omega)]; rfl
  have IH := sl_l0 b l hl hbl hok u (i + 1) g2 (by omega)
  refine Ev.shift (fun k => by rw [stipendlaw16_ShareLines.l0]) ?_
  refine Ev.pos (by omega) (Ev.pos (by omega) (Ev.pos (by omega) ?_))
  rw [rdt97 g1]
  refine Ev.bind (name_any c.f0) ?_
  by_cases hn : nameOf c.f0.toList = true
  ·refine Ev.pos hn (Ev.pos (by rw [hzl]; omega) ?_)
   rw [rdo hz]
   refine Ev.bindc (line_cut c l[i] hn hso) (Ev.pos rfl (Ev.pos rfl (Ev.pos (show (0 : Int) < 3 by decide) ?_)))
   have hne : ((rdOf ByteArray.empty [c.f0, bs (textOf l[i].f0), bs (textOf l[i].f1)] 0).toList != c.f0.toList) = false := by
    show (c.f0.toList != c.f0.toList) = false
    simp
   obtain ⟨a1, a2⟩ := Bool.and_eq_true_iff.1 hso
   show Ev (fun k => stipendlaw16_ShareLines.j2 k l (List.zipWith lineOf b l) (i : Int) [c.f0, bs (textOf l[i].f0), bs (textOf l[i].f1)] b (b.length : Int) (i : Int) ((rdOf ByteArray.empty [c.f0, bs (textOf l[i].f0), bs (textOf l[i].f1)] 0).toList != c.f0.toList)) true
   rw [hne]
   refine Ev.shift (fun k => by rw [stipendlaw16_ShareLines.j2]) ?_
   refine Ev.neg (by decide) (Ev.pos (show (1 : Int) < 3 by decide) ?_)
   refine Ev.bind (parse_line l[i].f0 a1) (Ev.pos (show (2 : Int) < 3 by decide) ?_)
   refine Ev.bind (parse_line l[i].f1 a2) (Ev.pos rfl (Ev.pos rfl (Ev.pos (by omega) (Ev.pos (by omega) ?_))))
   rw [rdt hs1]
   refine Ev.neg (by simp) ?_
   rw [hw]
   exact IH
  ·refine Ev.neg hn ?_
   rw [hw]
   exact IH

theorem shareLines_true (a : List (List S222)) (b : List S97) (ks : List S89) (p q : Int) (l : List S29) (g : ok86w (a, b, ks, p, q)) (gl : okL ok29 l) : ∃ k, stipendlaw16_ShareLines.f k a b ks p q l = some true := by
 apply Ev.get
 have hbn : ∀ c ∈ b, c.f0.size ≤ reachBytes := fun c hc => (g.2.1.2 c hc).1
 unfold stipendlaw16_ShareLines.f
 refine Ev.bindc (a := true) rfl (Ev.pos rfl ?_)
 have hj : Ev (fun k => stipendlaw16_ShareLines.j0 k l true a b ks p q) true := by
  refine Ev.shift (fun k => by rw [stipendlaw16_ShareLines.j0]) ?_
  exact Ev.pos rfl Ev.now
 by_cases c1 : 30 < l.length
 ·exact Ev.pos (by omega) hj
 refine Ev.neg (by omega) ?_
 by_cases c2 : 30 < b.length
 ·exact Ev.pos (by omega) hj
 refine Ev.neg (by omega) (Ev.bind (right_ev l (by omega)) ?_)
 cases hr : l.all okSh with
 | false => exact hj
 | true =>
  have hok : ∀ s ∈ l, okSh s = true := List.all_eq_true.1 hr
  refine Ev.shift (fun k => by rw [stipendlaw16_ShareLines.j0]) ?_
  refine Ev.neg (by decide) (Ev.bind (lines_ev a b ks p q l (by omega) hbn hok) ?_)
  by_cases c : l.length = b.length
  ·rw [if_pos c]
   have hzl : (List.zipWith lineOf b l).length = l.length := by rw [List.length_zipWith]; omega
   refine Ev.pos (by omega) (Ev.pos (by rw [hzl]) ?_)
   exact sl_l0 b l (by omega) c.symm hok b 0 rfl (Nat.zero_le _)
  ·rw [if_neg c]
   exact Ev.neg (by omega) (Ev.const rfl)
end Go.Proofs.YtmocphafkimdpaaDoor.P


/- A table's cells, opened. -/
namespace Go.Proofs.YtmocphafkimdpaaDoor.P
open Go.RowKit Go.Proofs.YtmocphafkimdpaaDoorW.PrintWords
theorem k86_open {w : World} {x : List (List S222) × List S97 × List S89 × Int × Int} {cs : List Value} (h : k86.K w x cs) :
  ∃ A0 c0 A1 c1 A2 c2, cs = [.slice A0 x.1.length c0, .slice A1 x.2.1.length c1, .slice A2 x.2.2.1.length c2, .int .i64 x.2.2.2.1, .int .i64 x.2.2.2.2] ∧ x.1.length ≤ c0 ∧ Kd.C (Kd.slice 222 k222) w A0 x.1.length x.1 ∧ x.2.1.length ≤ c1 ∧ Kd.C k97 w A1 x.2.1.length x.2.1 ∧ x.2.2.1.length ≤ c2 ∧ Kd.C k89 w A2 x.2.2.1.length x.2.2.1 := by
 obtain ⟨_, _, rfl, ⟨A0, c0, rfl, l0, g0⟩, ⟨_, _, rfl, ⟨A1, c1, rfl, l1, g1⟩, ⟨_, _, rfl, ⟨A2, c2, rfl, l2, g2⟩, ⟨_, _, rfl, rfl, rfl⟩⟩⟩⟩ := h
 exact ⟨A0, c0, A1, c1, A2, c2, rfl, l0, g0, l1, g1, l2, g2⟩
end Go.Proofs.YtmocphafkimdpaaDoor.P
