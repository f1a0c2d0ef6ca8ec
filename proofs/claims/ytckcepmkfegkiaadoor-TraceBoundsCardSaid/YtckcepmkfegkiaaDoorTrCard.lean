/- What the rows' list of variables gives: the table of words, the map of ends, the powers of ten are laid; and a world in which they are. No condition. -/
import Derived.Test.YtckcepmkfegkiaaDoorCards
import Derived.Test.YtckcepmkfegkiaaDoorTie
import Derived.Test.YtckcepmkfegkiaaDoorTrY
import Derived.Test.YtckcepmkfegkiaaDoorNumA
import Derived.WalkKit
import Derived.ProofKit
import Derived.OpenShut
import Derived.LaidMore
import Derived.LaidOnce
import Derived.Maps.OwnSet
import Derived.Deep.DeepHandedRow
import Derived.Lib.LaidTab
import Derived.LaidLaws
namespace Go.Proofs.YtckcepmkfegkiaaDoor.TrCard
open Go.ChangeShapes Go.WideShapes Go.ChangeAt Go.RowKit Go.WideElems Go.Maps TrG TrX
set_option linter.unusedVariables false
set_option linter.unusedSimpArgs false
abbrev laid4 : List (String × DataW Unit) := [("math/bits.deBruijn32tab", Rows.laid_math_bits_deBruijn32tab), ("math/bits.deBruijn64tab", Rows.laid_math_bits_deBruijn64tab), ("internal/strconv.uint64pow10", Rows.laid_internal_strconv_uint64pow10), ("millwright/trace.words", Rows.laid_millwright_trace_words)]
abbrev laid5 : List (String × DataW Unit) := [("math/bits.deBruijn32tab", Rows.laid_math_bits_deBruijn32tab), ("math/bits.deBruijn64tab", Rows.laid_math_bits_deBruijn64tab), ("internal/strconv.uint64pow10", Rows.laid_internal_strconv_uint64pow10), ("millwright/trace.words", Rows.laid_millwright_trace_words), ("millwright/trace.ends", Rows.laid_millwright_trace_ends)]
theorem plain {W : World} (h : laidMetH Tryd.prog laid5 W) : laidMet Tryd.prog laid4 W := (show laidMet Tryd.prog laid4 W ∧ handlesMet Tryd.prog _ W from h).1
theorem tab_third {P : Program} {W : World} {name n1 n2 : String} {d1 d2 : DataW Unit} {k : IntKind} {zs : List Int} {rest : List (String × DataW Unit)} {g : Nat} {t e : TypeId} {n : Nat}
    (hg : P.globalNamed name = some g) (hty : (P.globals[g]?).map (·.type) = some t) (ht : P.underlying t = some (.array n e)) (he : P.underlying e = some (.int k)) (hce : P.cellsOf e = 1) (hct : P.cellsOf t = n)
    (h : laidMet P ((n1, d1) :: (n2, d2) :: (name, Lib.tabData k zs) :: rest) W) : Lib.TabIs P W name k zs := by
  obtain ⟨ps, ⟨g1, t1, c1, f1, p1, q1, _, _, _, _, ⟨g2, t2, c2, f2, p2, q2, _, _, _, _, ⟨g', t', cs, fuel, p, q, hg', ht', hvar, hd, _, _⟩, _⟩, _⟩, _⟩ := h
  obtain rfl := Option.some.inj (hg.symm.trans hg')
  obtain rfl := Option.some.inj (hty.symm.trans ht')
  unfold Lib.TabIs
  rw [hvar, ← Lib.cells_of_tab ht he hce hct hd]
theorem table {W : World} (h : laidMetH Tryd.prog laid5 W) : NumA.Tab W :=
  ⟨tab_third (g := 2) (t := 131) (e := 124) (n := 20) (by kernel_rfl) (by kernel_rfl) Tryd.underlying131 Tryd.underlying124 (by kernel_rfl) (by kernel_rfl) (plain h)⟩
theorem string_table {H : Type} {enc : TypeId × Value → H} {P : Program} {W : World} {name : String} {g : Nat} {t e : TypeId} {N : Nat} {sp : Nat → Bool} {held : Bool} {fuel : Nat} {cs : Array Value} {p : List MemPlace} {l : List (List UInt8)}
    (hg : P.globalNamed name = some g) (ht : P.underlying t = some (.array N e)) (he : P.underlying e = some .string) (hce : P.cellsOf e = 1) (hl : l.length = N) (hv : W.var? P name = some cs)
    (hd : DataW.trod enc P W 0 sp held fuel t cs.toList = some (.agg (l.map fun b => .lit (.string b)), p)) : ∀ k : Nat, k < N → W.cell? ⟨g, k, none⟩ = some (.string ⟨(l.getD k []).toArray⟩) := by
  intro k hk
  obtain ⟨xs, n, rfl, hx, hlen, hn, hel⟩ := DataW.trod_array ht hd
  have h1 := hel k hk
  rw [hce, Nat.mul_one] at h1
  have hkx : k < xs.length := by omega
  rw [List.getElem?_eq_getElem hkx] at h1
  obtain ⟨s, h2, h3, _⟩ := DataW.trod_string he h1
  simp only [Prod.mk.injEq, DataW.agg.injEq] at hx
  have h4 := congrArg (fun z => z[k]?) hx.1
  have hkl : k < l.length := by omega
  simp only [List.getElem?_map, List.getElem?_eq_getElem hkx, List.getElem?_eq_getElem hkl, Option.map_some, Option.some.injEq, h3, DataW.lit.injEq, Lit.string.injEq] at h4
  rw [World.var?_cell hg hv k]
  have h5 : cs[k]? = some (.string s) := by
    have := congrArg (fun z => z[0]?) h2
    simp only [List.getElem?_take, List.getElem?_drop, Nat.add_zero] at this
    simpa using this
  rw [h5]
  have hgd : l.getD k [] = l[k] := by simp [List.getD_eq_getElem?_getD, hkl]
  rw [hgd, h4]
theorem words {W : World} (h : laidMetH Tryd.prog laid5 W) : WordsIs W := by
  obtain ⟨ps, ⟨g1, t1, c1, f1, p1, q1, _, _, _, _, ⟨g2, t2, c2, f2, p2, q2, _, _, _, _, ⟨g3, t3, c3, f3, p3, q3, _, _, _, _, ⟨g', t', cs, fuel, p, q, hg', ht', hvar, hd, _, _⟩, _⟩, _⟩, _⟩, _⟩ := plain h
  obtain rfl := Option.some.inj ((show Tryd.prog.globalNamed "millwright/trace.words" = some 0 by kernel_rfl).symm.trans hg')
  obtain rfl := Option.some.inj ((show (Tryd.prog.globals[0]?).map (·.type) = some 88 by kernel_rfl).symm.trans ht')
  have key := string_table (l := wordsT) hg' Tryd.underlying88 Tryd.underlying9 (by kernel_rfl) rfl hvar hd
  exact ⟨World.block_lt_of_cell? W ⟨0, 0, none⟩ (key 0 (by decide)), key⟩
theorem elemAt_func {P : Program} {w : World} {base : Nat} {sp : Nat → Bool} {n : Nat} {e : TypeId} {ps rs : Array TypeId} {va : Bool} {v : Value} {b : UInt8} {r : List UInt8} {y : DataW (List UInt8) × List MemPlace} {f0 : FuncId}
    (he : P.underlying e = some (.func ps rs va)) (hone : ((List.range P.funcs.size).filter fun f => (P.funcs[f]?).any (·.name.toUTF8.data.toList == b :: r)) = [f0])
    (h : elemAt (funcToken P) P w base sp true n e v = some y) (hy : y.1 = .held (b :: r)) : v = .func (.func f0) #[] #[] := by
  obtain ⟨y1, y2⟩ := y
  subst hy
  unfold elemAt at h
  split at h
  · rename_i hf
    have hc : v.cells.toList = [v] := by
      cases v <;> simp [Value.formed, he] at hf <;> rfl
    rw [hc] at h
    exact func_of_trod he hone h
  · cases h
theorem law3 : Keyed Tryd.prog 3 := int_keyed Tryd.underlying3
theorem ends {W : World} (h : laidMetH Tryd.prog laid5 W) : EndsIs W := by
  obtain ⟨g, t, cs, fuel, p, hg, ht, hv, hd⟩ := h.funcs (n := "millwright/trace.ends") (.tail _ (.tail _ (.tail _ (.tail _ (.head _)))))
  obtain rfl := Option.some.inj ((show Tryd.prog.globalNamed "millwright/trace.ends" = some 1 by kernel_rfl).symm.trans hg)
  obtain rfl := Option.some.inj ((show (Tryd.prog.globals[1]?).map (·.type) = some 98 by kernel_rfl).symm.trans ht)
  rcases open_map Tryd.underlying98 hd with ⟨_, hx⟩ | ⟨bm, es, clock, m, rfl, hcs, hb, _, F, hx⟩
  · cases hx
  simp only [Prod.mk.injEq] at hx
  have hcell : W.cell? ⟨1, 0, none⟩ = some (.map (some bm)) := by
    have := World.var?_cell hg hv 0
    rw [Array.eq_one_of_toList hcs] at this
    simpa using this
  have look : ∀ (n : Int) (b : UInt8) (r : List UInt8) (f0 : FuncId), keyOf Tryd.prog 3 (.int .i64 n) = some (.int .i64 n) → ((List.range Tryd.prog.funcs.size).filter fun f => (Tryd.prog.funcs[f]?).any (·.name.toUTF8.data.toList == b :: r)) = [f0] →
      (∀ zd, (DataW.map ((es.toList.map (rg Tryd.prog 3 (elemAt (funcToken Tryd.prog) Tryd.prog W 0 (fun _ => true) true m 97))).foldr DataW.insert [])).atKey (.int .i64 n) zd = .held (b :: r)) →
      ∀ W' : World, W'.heap[bm]? = W.heap[bm]? → (Instr.lookup 98 (.map (some bm)) (.int .i64 n) false).run Tryd.prog W' = .ok (.func (.func f0) #[] #[]) W' := by
    intro n b r f0 hk hone hat0 W' hW
    have zero : (zeroValue 97).run Tryd.prog W' = .ok .nilFunc W' := by kernel_rfl
    rcases fit_look (w := W') false law3 Tryd.underlying98 zero (hW.trans hb) F hk with ⟨_, _, hat⟩ | ⟨e0, y, _, _, hrun, hRv, hat, _⟩
    · have h1 := (hat .nil).symm.trans (hat0 .nil)
      cases h1
    · have h1 := (hat .nil).symm.trans (hat0 .nil)
      rw [elemAt_func Tryd.underlying97 hone hRv h1] at hrun
      exact hrun
  rw [← hx.1] at look
  refine ⟨bm, hcell, (Array.getElem?_eq_some_iff.1 hb).1, World.block_lt_of_cell? W ⟨1, 0, none⟩ hcell, fun W' hW => ⟨?_, ?_, ?_, ?_, ?_⟩⟩
  · exact look 2 _ _ _ (keyOf_int_mk Tryd.underlying3 (by decide)) (by kernel_rfl) (fun _ => rfl) W' hW
  · exact look 3 _ _ _ (keyOf_int_mk Tryd.underlying3 (by decide)) (by kernel_rfl) (fun _ => rfl) W' hW
  · exact look 4 _ _ _ (keyOf_int_mk Tryd.underlying3 (by decide)) (by kernel_rfl) (fun _ => rfl) W' hW
  · exact look 5 _ _ _ (keyOf_int_mk Tryd.underlying3 (by decide)) (by kernel_rfl) (fun _ => rfl) W' hW
  · exact look 6 _ _ _ (keyOf_int_mk Tryd.underlying3 (by decide)) (by kernel_rfl) (fun _ => rfl) W' hW
theorem own : ownKnob Tryd.prog.godebug = none := by kernel_rfl
theorem door_met (os : Os) (args : Array Value) : laidMetH Tryd.prog laid5 ((World.doorLaid Tryd.prog 59 os).forCall (fun _ _ => 0) ⟨#[], args, []⟩).memory :=
  laidMetH_of_parts3 (fuel := 8) (laidMet_of_run' 8 (by kernel_rfl) (by kernel_rfl)) (by kernel_rfl) (by kernel_rfl)
end Go.Proofs.YtckcepmkfegkiaaDoor.TrCard
