/- What the rows' list of variables gives: the tables are laid; and a world in which they are. No condition. Rows of structs of whole numbers, a struct of whole numbers, a file, as a statement's arguments: opened into what the walks ask for. No condition. -/
import Derived.Test.YtegbfimfpkendaaDoorCards
import Derived.Test.YtegbfimfpkendaaDoorTie
import Derived.Test.YtegbfimfpkendaaDoorMg27
import Derived.WalkKit
import Derived.ProofKit
import Derived.OpenShut
import Derived.LaidMore
import Derived.LaidOnce
import Derived.Deep.DeepHandedRow
import Derived.Lib.LaidTab
import Derived.LaidLaws
import Derived.Test.YtegbfimfpkendaaDoorProg
import Derived.Test.YtegbfimfpkendaaDoorBa
import Derived.ChangeOld
import Derived.SizedLaws
namespace Go.Proofs.YtegbfimfpkendaaDoor.PbK
open Go.ChangeShapes Go.WideShapes Go.ChangeAt Go.RowKit Go.Proofs.YtegbfimfpkendaaDoorW.PrintWords PaC PaE PaF PaG PaQ PaW
set_option linter.unusedVariables false
set_option linter.unusedSimpArgs false
abbrev laid6 : List (String × DataW Unit) := [("math/bits.deBruijn32tab", Rows.laid_math_bits_deBruijn32tab), ("math/bits.deBruijn64tab", Rows.laid_math_bits_deBruijn64tab), ("internal/strconv.uint64pow10", Rows.laid_internal_strconv_uint64pow10), ("millwright/parse.names", Rows.laid_millwright_parse_names), ("millwright/parse.forms", Rows.laid_millwright_parse_forms), ("millwright/parse.answers", Rows.laid_millwright_parse_answers)]
theorem plain {W : World} (h : laidMetH Tryd.prog laid6 W) : laidMet Tryd.prog laid6 W := by
  first | exact (show laidMet Tryd.prog laid6 W ∧ handlesMet Tryd.prog _ W from h).1 | exact h
theorem tab_third {P : Program} {W : World} {name n1 n2 : String} {d1 d2 : DataW Unit} {k : IntKind} {zs : List Int} {rest : List (String × DataW Unit)} {g : Nat} {t e : TypeId} {n : Nat}
    (hg : P.globalNamed name = some g) (hty : (P.globals[g]?).map (·.type) = some t) (ht : P.underlying t = some (.array n e)) (he : P.underlying e = some (.int k)) (hce : P.cellsOf e = 1) (hct : P.cellsOf t = n)
    (h : laidMet P ((n1, d1) :: (n2, d2) :: (name, Lib.tabData k zs) :: rest) W) : Lib.TabIs P W name k zs := by
  obtain ⟨ps, ⟨g1, t1, c1, f1, p1, q1, _, _, _, _, ⟨g2, t2, c2, f2, p2, q2, _, _, _, _, ⟨g', t', cs, fuel, p, q, hg', ht', hvar, hd, _, _⟩, _⟩, _⟩, _⟩ := h
  obtain rfl := Option.some.inj (hg.symm.trans hg')
  obtain rfl := Option.some.inj (hty.symm.trans ht')
  unfold Lib.TabIs
  rw [hvar, ← Lib.cells_of_tab ht he hce hct hd]
theorem table {W : World} (h : laidMetH Tryd.prog laid6 W) : NumA.Tab W :=
  ⟨tab_third (g := 3) (t := 132) (e := 125) (n := 20) (by kernel_rfl) (by kernel_rfl) Tryd.underlying132 Tryd.underlying125 (by kernel_rfl) (by kernel_rfl) (plain h)⟩
theorem string_table {H : Type} {enc : TypeId × Value → H} {P : Program} {W : World} {name : String} {g : Nat} {t e : TypeId} {N : Nat} {sp : Nat → Bool} {held : Bool} {fuel : Nat} {cs : Array Value} {p : List MemPlace} {l : List (List UInt8)}
    (hg : P.globalNamed name = some g) (ht : P.underlying t = some (.array N e)) (he : P.underlying e = some .string) (hce : P.cellsOf e = 1) (hl : l.length = N) (hv : W.var? P name = some cs)
    (hd : DataW.trod enc P W 0 sp held fuel t cs.toList = some (.agg (l.map fun b => .lit (.string b)), p)) : ∀ k : Nat, k < N → W.cell? ⟨g, k, none⟩ = some (.string ⟨(l.getD k []).toArray⟩) := by
  intro k hk
  obtain ⟨xs, n, rfl, hx, hlen, hn, hel⟩ := DataW.trod_array ht hd
  have h1 := hel k hk
  rw [hce, Nat.mul_one] at h1
  have hkx : k < xs.length := by omega
  rw [List.getElem?_eq_getElem hkx] at h1
  obtain ⟨s, h2, h3, _⟩ := DataW.trod_string he h1
  simp only [Prod.mk.injEq, DataW.agg.injEq] at hx
  have h4 := congrArg (fun z => z[k]?) hx.1
  have hkl : k < l.length := by omega
  simp only [List.getElem?_map, List.getElem?_eq_getElem hkx, List.getElem?_eq_getElem hkl, Option.map_some, Option.some.injEq, h3, DataW.lit.injEq, Lit.string.injEq] at h4
  rw [World.var?_cell hg hv k]
  have h5 : cs[k]? = some (.string s) := by
    have := congrArg (fun z => z[0]?) h2
    simp only [List.getElem?_take, List.getElem?_drop, Nat.add_zero] at this
    simpa using this
  rw [h5]
  have hgd : l.getD k [] = l[k] := by simp [List.getD_eq_getElem?_getD, hkl]
  rw [hgd, h4]
theorem var_block {P : Program} {W : World} {name : String} {g : Nat} {cs : Array Value} (hg : P.globalNamed name = some g) (hv : W.var? P name = some cs) : ∃ t fr, W.heap[g]? = some (.cells cs t fr) := by
  unfold World.var? at hv
  rw [hg, Option.bind_some] at hv
  split at hv
  · rename_i cs' t fr hh
    cases hv
    exact ⟨t, fr, hh⟩
  · cases hv
theorem chunks {α β : Type} (f : β → List α) : ∀ (l : List β) (cs : List α), cs.length = 3 * l.length → (∀ i (h : i < l.length), (cs.drop (i * 3)).take 3 = f l[i]) → cs = l.flatMap f
  | [], cs, hl, _ => by simpa using hl
  | x :: l, cs, hl, h => by
    rw [List.length_cons] at hl
    have h0 : cs.take 3 = f x := h 0 (by simp)
    have ih := chunks f l (cs.drop 3) (by rw [List.length_drop]; omega) (fun i hi => by
      have := h (i + 1) (by simp; omega)
      rw [List.drop_drop]
      rw [show (i + 1) * 3 = 3 + i * 3 by omega] at this
      exact this)
    rw [List.flatMap_cons, ← ih, ← h0]
    exact (List.take_append_drop 3 cs).symm
theorem fm_table {H : Type} {enc : TypeId × Value → H} {P : Program} {W : World} {t e tS tI : TypeId} {f0 f1 f2 : Field} {N : Nat} {sp : Nat → Bool} {held : Bool} {fuel : Nat} {cs : Array Value} {p : List MemPlace} {l : List Fm}
    (ht : P.underlying t = some (.array N e)) (he : P.underlying e = some (.struct #[f0, f1, f2])) (h0 : (f0.type, f0.offset) = (tS, 0)) (h1 : (f1.type, f1.offset) = (tI, 1)) (h2 : (f2.type, f2.offset) = (tI, 2)) (hS : P.underlying tS = some .string) (hI : P.underlying tI = some (.int .i64)) (cS : P.cellsOf tS = 1) (cI : P.cellsOf tI = 1) (ce : P.cellsOf t = 3 * N ∧ P.cellsOf e = 3 ∧ l.length = N)
    (hd : DataW.trod enc P W 0 sp held fuel t cs.toList = some (.agg (l.map fun x => .agg [.lit (.string x.op.data.toList), .lit (.int .i64 x.kind), .lit (.int .i64 x.n)]), p)) : cs.toList = l.flatMap fmCells := by
  obtain ⟨xs, n, rfl, hx, hlen, hn, hel⟩ := DataW.trod_array ht hd
  simp only [Prod.mk.injEq, DataW.agg.injEq] at hx
  simp only [Prod.mk.injEq] at h0 h1 h2
  refine chunks fmCells l cs.toList (by rw [hlen, ce.1, ce.2.2]) fun i hi => ?_
  have hi2 : i < N := by omega
  have e1 := hel i hi2
  have hix : i < xs.length := by omega
  rw [ce.2.1, List.getElem?_eq_getElem hix] at e1
  obtain ⟨ys, m, _, hy, hyl, hyn, hyf⟩ := DataW.trod_struct he e1
  have hy3 : ys.length = 3 := hyn
  have b0 := hyf 0 f0 rfl
  have b1 := hyf 1 f1 rfl
  have b2 := hyf 2 f2 rfl
  rw [h0.1, h0.2, cS, List.getElem?_eq_getElem (by omega)] at b0
  rw [h1.1, h1.2, cI, List.getElem?_eq_getElem (by omega)] at b1
  rw [h2.1, h2.2, cI, List.getElem?_eq_getElem (by omega)] at b2
  obtain ⟨s, u0, v0, _⟩ := DataW.trod_string hS b0
  obtain ⟨z1, u1, v1, _⟩ := DataW.trod_int hI b1
  obtain ⟨z2, u2, v2, _⟩ := DataW.trod_int hI b2
  have h4 := congrArg (fun z => z[i]?) hx.1
  simp only [List.getElem?_map, List.getElem?_eq_getElem hix, List.getElem?_eq_getElem hi, Option.map_some, Option.some.injEq, hy, DataW.agg.injEq] at h4
  generalize hq : (cs.toList.drop (i * 3)).take 3 = q at u0 u1 u2 hyl ⊢
  rw [ce.2.1] at hyl
  match ys, hy3, q, hyl with
  | [y0, y1, y2], _, [q0, q1, q2], _ =>
    simp only [List.map_cons, List.map_nil, List.cons.injEq, and_true] at h4
    simp only [List.getElem_cons_zero, List.getElem_cons_succ] at v0 v1 v2
    rw [v0, v1, v2] at h4
    simp only [DataW.lit.injEq, Lit.string.injEq, Lit.int.injEq, true_and] at h4
    have w0 : q0 = .string s := by simpa using u0
    have w1 : q1 = .int .i64 z1 := by simpa using u1
    have w2 : q2 = .int .i64 z2 := by simpa using u2
    rw [w0, w1, w2]
    obtain ⟨k0, k1, k2⟩ := h4
    have hs : s = l[i].op := by
      apply ByteArray.ext
      apply Array.ext'
      first | exact k0.symm | exact k0
    rw [hs, ← k1, ← k2]
    rfl
theorem names {W : World} (h : laidMetH Tryd.prog laid6 W) : NamesIs W := by
  obtain ⟨ps, ⟨g1, t1, c1, f1, p1, q1, _, _, _, _, ⟨g2, t2, c2, f2, p2, q2, _, _, _, _, ⟨g3, t3, c3, f3, p3, q3, _, _, _, _, ⟨g', t', cs, fuel, p, q, hg', ht', hvar, hd, _, _⟩, _⟩, _⟩, _⟩, _⟩ := plain h
  obtain rfl := Option.some.inj ((show Tryd.prog.globalNamed "millwright/parse.names" = some 0 by kernel_rfl).symm.trans hg')
  obtain rfl := Option.some.inj ((show (Tryd.prog.globals[0]?).map (·.type) = some 83 by kernel_rfl).symm.trans ht')
  have key := string_table (l := namesT) hg' Tryd.underlying83 Tryd.underlying9 (by kernel_rfl) rfl hvar hd
  exact ⟨World.block_lt_of_cell? W ⟨0, 0, none⟩ (key 0 (by decide)), key⟩
theorem forms_block {W : World} (h : laidMetH Tryd.prog laid6 W) : ∃ t fr, W.heap[1]? = some (.cells formsA t fr) := by
  obtain ⟨ps, ⟨g1, t1, c1, f1, p1, q1, _, _, _, _, ⟨g2, t2, c2, f2, p2, q2, _, _, _, _, ⟨g3, t3, c3, f3, p3, q3, _, _, _, _, ⟨g4, t4, c4, f4, p4, q4, _, _, _, _, ⟨g', t', cs, fuel, p, q, hg', ht', hvar, hd, _, _⟩, _⟩, _⟩, _⟩, _⟩, _⟩ := plain h
  obtain rfl := Option.some.inj ((show Tryd.prog.globalNamed "millwright/parse.forms" = some 1 by kernel_rfl).symm.trans hg')
  obtain rfl := Option.some.inj ((show (Tryd.prog.globals[1]?).map (·.type) = some 105 by kernel_rfl).symm.trans ht')
  have key := fm_table (l := formsT) Tryd.underlying105 Tryd.underlying102 rfl rfl rfl Tryd.underlying9 Tryd.underlying3 (by kernel_rfl) (by kernel_rfl) ⟨by kernel_rfl, by kernel_rfl, rfl⟩ hd
  obtain ⟨t, fr, hb⟩ := var_block hg' hvar
  refine ⟨t, fr, hb.trans ?_⟩
  have e : cs = formsA := Array.ext' key
  rw [e]
theorem answers_block {W : World} (h : laidMetH Tryd.prog laid6 W) : ∃ t fr, W.heap[2]? = some (.cells answersA t fr) := by
  obtain ⟨ps, ⟨g1, t1, c1, f1, p1, q1, _, _, _, _, ⟨g2, t2, c2, f2, p2, q2, _, _, _, _, ⟨g3, t3, c3, f3, p3, q3, _, _, _, _, ⟨g4, t4, c4, f4, p4, q4, _, _, _, _, ⟨g5, t5, c5, f5, p5, q5, _, _, _, _, ⟨g', t', cs, fuel, p, q, hg', ht', hvar, hd, _, _⟩, _⟩, _⟩, _⟩, _⟩, _⟩, _⟩ := plain h
  obtain rfl := Option.some.inj ((show Tryd.prog.globalNamed "millwright/parse.answers" = some 2 by kernel_rfl).symm.trans hg')
  obtain rfl := Option.some.inj ((show (Tryd.prog.globals[2]?).map (·.type) = some 116 by kernel_rfl).symm.trans ht')
  have key := fm_table (l := answersT) Tryd.underlying116 Tryd.underlying102 rfl rfl rfl Tryd.underlying9 Tryd.underlying3 (by kernel_rfl) (by kernel_rfl) ⟨by kernel_rfl, by kernel_rfl, rfl⟩ hd
  obtain ⟨t, fr, hb⟩ := var_block hg' hvar
  refine ⟨t, fr, hb.trans ?_⟩
  have e : cs = answersA := Array.ext' key
  rw [e]
theorem forms_C {W : World} {g : Nat} {t : TypeId} {fr : Nat × Nat} (hb : W.heap[g]? = some (.cells formsA t fr)) : Kd.C kFm W (some ⟨g, 0, none⟩) formsT.length formsT := by
  refine ⟨rfl, by decide, fun _ => ⟨⟨g, 0, none⟩, rfl, fun j x hj => ?_⟩⟩
  have hjl : j < 6 := (List.getElem?_eq_some_iff.1 hj).1
  have cell : ∀ k, W.cell? ⟨g, k, none⟩ = formsA[k]? := fun k => by simp [World.cell?, hb]
  have : j = 0 ∨ j = 1 ∨ j = 2 ∨ j = 3 ∨ j = 4 ∨ j = 5 := by omega
  rcases this with rfl | rfl | rfl | rfl | rfl | rfl <;>
    (obtain rfl := Option.some.inj hj; refine ⟨_, rfl, ⟨_, _, rfl, rfl, ⟨_, _, rfl, rfl, rfl⟩⟩, fun i u hu => ?_⟩; rw [Go.Proofs.YtegbfimfpkendaaDoorW.PrintWords.add_plain, cell]; match i, hu with | 0, hu => exact hu | 1, hu => exact hu | 2, hu => exact hu)
theorem answers_C {W : World} {g : Nat} {t : TypeId} {fr : Nat × Nat} (hb : W.heap[g]? = some (.cells answersA t fr)) : Kd.C kFm W (some ⟨g, 0, none⟩) answersT.length answersT := by
  refine ⟨rfl, by decide, fun _ => ⟨⟨g, 0, none⟩, rfl, fun j x hj => ?_⟩⟩
  have hjl : j < 3 := (List.getElem?_eq_some_iff.1 hj).1
  have cell : ∀ k, W.cell? ⟨g, k, none⟩ = answersA[k]? := fun k => by simp [World.cell?, hb]
  have : j = 0 ∨ j = 1 ∨ j = 2 := by omega
  rcases this with rfl | rfl | rfl <;>
    (obtain rfl := Option.some.inj hj; refine ⟨_, rfl, ⟨_, _, rfl, rfl, ⟨_, _, rfl, rfl, rfl⟩⟩, fun i u hu => ?_⟩; rw [Go.Proofs.YtegbfimfpkendaaDoorW.PrintWords.add_plain, cell]; match i, hu with | 0, hu => exact hu | 1, hu => exact hu | 2, hu => exact hu)
theorem laid_of {W : World} (h : laidMetH Tryd.prog laid6 W) : Laid W := by
  obtain ⟨t1, fr1, b1⟩ := forms_block h
  obtain ⟨t2, fr2, b2⟩ := answers_block h
  exact ⟨names h, ⟨(Array.getElem?_eq_some_iff.1 b1).1, forms_C b1⟩, ⟨(Array.getElem?_eq_some_iff.1 b2).1, answers_C b2⟩, ⟨⟨t1, fr1, b1⟩, ⟨t2, fr2, b2⟩⟩, table h⟩
theorem own : ownKnob Tryd.prog.godebug = none := by kernel_rfl
theorem door_met (os : Os) (args : Array Value) : laidMetH Tryd.prog laid6 ((World.doorLaid Tryd.prog 59 os).forCall (fun _ _ => 0) ⟨#[], args, []⟩).memory :=
  laidMetH_of_parts3 (fuel := 8) (laidMet_of_run' 8 (by kernel_rfl) (by kernel_rfl)) (by kernel_rfl) (by kernel_rfl)
end Go.Proofs.YtegbfimfpkendaaDoor.PbK
namespace Go.Proofs.YtegbfimfpkendaaDoor.PbO
open Go.ChangeShapes Go.WideShapes Go.ChangeAt Go.RowKit Go.Proofs.YtegbfimfpkendaaDoorW.PrintWords
set_option linter.unusedVariables false
theorem len2 {r : List Int} (h : r.length = 2) : ∃ a b, r = [a, b] := by
  match r, h with
  | [a, b], _ => exact ⟨a, b, rfl⟩
theorem open_row {W : World} {a : Option Addr} {len cap : Nat} {zs : List Int} (h : (a = none ∧ len = 0 ∧ cap = 0 ∧ zs = []) ∨ ∃ x, a = some x ∧ len ≤ cap ∧ cap ≤ maxLen ∧ zs.length = cap ∧ (∀ i, i < zs.length → W.cell? (x.add i) = some (.int .u8 (zs.getD i 0))) ∧ ∀ n ∈ zs, (Lit.int .u8 n).wf = true) :
    ∃ l : List Int, l.length = len ∧ (Kd.int .u8).C W a l.length l ∧ l.length ≤ cap ∧ ∀ x ∈ l, (Lit.int .u8 x).wf = true := by
  rcases h with ⟨rfl, rfl, rfl, rfl⟩ | ⟨x, rfl, h1, h2, h3, h4, h5⟩
  · exact ⟨[], rfl, Kd.C_nil _ _, Nat.le_refl _, fun _ hx => by cases hx⟩
  · have hl : (zs.take len).length = len := by rw [List.length_take]; omega
    refine ⟨zs.take len, hl, ?_, by omega, fun y hy => h5 y (List.mem_of_mem_take hy)⟩
    refine Kd.C_of_reads (d := (0 : Int)) (h1 := fun _ => rfl) ⟨rfl, by have : cap ≤ 9223372036854775807 := h2; omega, fun _ => ⟨x, rfl, fun j hj => ?_⟩⟩
    have hj' : j < zs.length := by omega
    rw [h4 j hj']
    have hjl : j < (zs.take len).length := hj
    simp [List.getD_eq_getElem?_getD, List.getElem?_eq_getElem hj', show j < len by omega]
end Go.Proofs.YtegbfimfpkendaaDoor.PbO
