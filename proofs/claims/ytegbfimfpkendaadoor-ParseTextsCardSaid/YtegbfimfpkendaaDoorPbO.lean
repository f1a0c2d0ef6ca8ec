/- Rows of structs of whole numbers, a struct of whole numbers, a file, as a statement's arguments: opened into what the walks ask for. No condition. -/
import Derived.Test.YtegbfimfpkendaaDoorProg
import Derived.Test.YtegbfimfpkendaaDoorBa
import Derived.WalkKit
import Derived.ProofKit
import Derived.OpenShut
import Derived.ChangeOld
import Derived.SizedLaws
namespace Go.Proofs.YtegbfimfpkendaaDoor.PbO
open Go.ChangeShapes Go.WideShapes Go.ChangeAt Go.RowKit Go.Proofs.YtegbfimfpkendaaDoorW.PrintWords
set_option linter.unusedVariables false
def zOf : Value → Int
  | .int _ z => z
  | _ => 0
theorem open_ints_struct {H : Type} {enc : TypeId × Value → H} {P : Program} {W : World} {base : Nat} {spare : Nat → Bool} {held : Bool} {e : TypeId} {fs : Array Field} {n m : Nat} {cs : List Value} {x : DataW H × List MemPlace}
    (he : P.underlying e = some (.struct fs)) (hn : P.cellsOf e = n) (hfs : fs.size = n) (hf : ∀ (i : Nat) (f : Field), fs[i]? = some f → P.underlying f.type = some (.int .i64) ∧ f.offset = i ∧ P.cellsOf f.type = 1)
    (h : DataW.trod enc P W base spare held m e cs = some x) : cs.length = n ∧ cs = (cs.map zOf).map (.int .i64) ∧ (∀ z ∈ cs.map zOf, (Lit.int .i64 z).wf = true) ∧ x.1 = .agg ((cs.map zOf).map fun z => .lit (.int .i64 z)) ∧ x.2 = [] := by
  obtain ⟨xs, k, _, hx, hl, hlen, hg⟩ := DataW.trod_struct he h
  rw [hn] at hl
  have each : ∀ i (hi : i < cs.length), ∃ z, cs[i] = .int .i64 z ∧ xs[i]? = some (.lit (.int .i64 z), []) ∧ (Lit.int .i64 z).wf = true := by
    intro i hi
    have hi2 : i < fs.size := by omega
    have h1 := hf i fs[i] (Array.getElem?_eq_getElem hi2)
    have h2 := hg i fs[i] (Array.getElem?_eq_getElem hi2)
    rw [h1.2.1, h1.2.2] at h2
    have hi3 : i < xs.length := by omega
    rw [List.getElem?_eq_getElem hi3] at h2
    obtain ⟨z, e1, e2, e3⟩ := DataW.trod_int h1.1 h2
    refine ⟨z, ?_, ?_, e3⟩
    · have := congrArg (fun l => l[0]?) e1
      simp only [List.getElem?_take, List.getElem?_drop, Nat.add_zero] at this
      simpa [hi] using this
    · rw [List.getElem?_eq_getElem hi3, e2]
  have hcs : cs = (cs.map zOf).map (.int .i64) := by
    apply List.ext_getElem
    · simp
    · intro i h1 h2
      obtain ⟨z, e1, _⟩ := each i h1
      simp only [List.getElem_map, e1, zOf]
  refine ⟨hl, hcs, ?_, ?_, ?_⟩
  · intro z hz
    obtain ⟨v, hv, rfl⟩ := List.mem_map.1 hz
    obtain ⟨i, hi, rfl⟩ := List.getElem_of_mem hv
    obtain ⟨z, e1, _, e3⟩ := each i hi
    rw [e1]
    exact e3
  · rw [hx]
    show DataW.agg _ = DataW.agg _
    congr 1
    apply List.ext_getElem
    · simp; omega
    · intro i h1 h2
      have hi : i < cs.length := by simpa using h2
      obtain ⟨z, e1, e2, _⟩ := each i hi
      have hi3 : i < xs.length := by omega
      rw [List.getElem?_eq_getElem hi3, Option.some.injEq] at e2
      simp only [List.getElem_map, e1, e2, zOf]
  · rw [hx]
    show List.flatMap _ _ = []
    apply List.flatMap_eq_nil_iff.2
    intro y hy
    obtain ⟨i, hi, rfl⟩ := List.getElem_of_mem hy
    have hi2 : i < cs.length := by omega
    obtain ⟨z, e1, e2, _⟩ := each i hi2
    rw [List.getElem?_eq_getElem hi, Option.some.injEq] at e2
    rw [e2]
theorem collect {α : Type} {Q : Nat → α → Prop} : ∀ (len : Nat), (∀ i, i < len → ∃ r, Q i r) → ∃ rows : List α, rows.length = len ∧ ∀ i r, rows[i]? = some r → Q i r
  | 0, _ => ⟨[], rfl, fun i r hr => by simp at hr⟩
  | len + 1, h => by
    obtain ⟨rows, h1, h2⟩ := collect len (fun i hi => h i (by omega))
    obtain ⟨r, h3⟩ := h len (by omega)
    refine ⟨rows ++ [r], by simp [h1], fun i r' hr' => ?_⟩
    by_cases hi : i < rows.length
    · rw [List.getElem?_append_left hi] at hr'
      exact h2 i r' hr'
    · rw [List.getElem?_append_right (by omega)] at hr'
      have hi0 : i - rows.length = 0 := by
        have := (List.getElem?_eq_some_iff.1 hr').1
        simp at this
        omega
      rw [hi0] at hr'
      simp at hr'
      subst hr'
      have : i = len := by omega
      subst this
      exact h3
theorem open_recs {H : Type} {enc : TypeId × Value → H} {P : Program} {W : World} {base : Nat} {spare : Nat → Bool} {held : Bool} {t e : TypeId} {fs : Array Field} {n : Nat} {A : Option Addr} {len cap : Nat} {d : DataW H} {p : List MemPlace}
    (ht : P.underlying t = some (.slice e)) (he : P.underlying e = some (.struct fs)) (hn : P.cellsOf e = n) (hfs : fs.size = n) (hf : ∀ (i : Nat) (f : Field), fs[i]? = some f → P.underlying f.type = some (.int .i64) ∧ f.offset = i ∧ P.cellsOf f.type = 1)
    (h : DataW.Trod enc P W base spare held t (.slice A len cap) d p) :
    ∃ rows : List (List Int), rows.length = len ∧ len ≤ cap ∧ cap ≤ maxLen ∧ (∀ r ∈ rows, r.length = n ∧ ∀ z ∈ r, (Lit.int .i64 z).wf = true) ∧
      (0 < len → ∃ a, A = some a ∧ ∀ j r, rows[j]? = some r → ∀ i z, r[i]? = some z → W.cell? (a.add (j * n + i)) = some (.int .i64 z)) ∧
      (d = .nil ∧ len = 0 ∨ ∃ elems spare', d = .slice elems spare' ∧ elems.length = len) := by
  obtain ⟨fuel, hh⟩ := h
  rcases DataW.trod_slice ht hh with ⟨hcs, hx⟩ | ⟨a, l, c, elems, rest, k, _, hcs, hx, _, hl, hm, hlen, hel, _, _⟩
  · simp [Value.cells] at hcs
    obtain ⟨rfl, rfl, rfl⟩ := hcs
    simp only [Prod.mk.injEq] at hx
    exact ⟨[], rfl, Nat.le_refl _, Nat.zero_le _, fun _ hr => (by cases hr), fun h0 => absurd h0 (by omega), .inl ⟨hx.1, rfl⟩⟩
  · simp [Value.cells] at hcs
    obtain ⟨rfl, rfl, rfl⟩ := hcs
    simp only [Prod.mk.injEq] at hx
    have each : ∀ i, i < len → ∃ r : List Int, r.length = n ∧ (∀ z ∈ r, (Lit.int .i64 z).wf = true) ∧ ∀ j z, r[j]? = some z → W.cell? (a.add (i * n + j)) = some (.int .i64 z) := by
      intro i hi
      have h1 := hel i hi
      rw [List.getElem?_eq_getElem (by omega), Option.bind_eq_some_iff] at h1
      obtain ⟨cs, h2, h3⟩ := h1
      rw [hn] at h2
      obtain ⟨_, e1, e2⟩ := World.cells?_some h2
      obtain ⟨f1, f2, f3, _, _⟩ := open_ints_struct he hn hfs hf h3
      refine ⟨cs.map zOf, by rw [List.length_map]; exact f1, f3, fun j z hz => ?_⟩
      have hj : j < n := by
        have := (List.getElem?_eq_some_iff.1 hz).1
        rw [List.length_map] at this
        omega
      have h4 := e2 j hj
      have e0 : (a.add (i * n)).add j = a.add (i * n + j) := Go.Addr.add_add _ _ _
      rw [e0] at h4
      rw [h4, f2, List.getElem?_map, hz]
      rfl
    obtain ⟨rows, hr1, hr2⟩ : ∃ rows : List (List Int), rows.length = len ∧ ∀ i r, rows[i]? = some r → r.length = n ∧ (∀ z ∈ r, (Lit.int .i64 z).wf = true) ∧ ∀ j z, r[j]? = some z → W.cell? (a.add (i * n + j)) = some (.int .i64 z) :=
      collect (Q := fun (i : Nat) (r : List Int) => r.length = n ∧ (∀ z ∈ r, (Lit.int .i64 z).wf = true) ∧ ∀ j z, r[j]? = some z → W.cell? (a.add (i * n + j)) = some (.int .i64 z)) len each
    refine ⟨rows, hr1, hl, hm, ?_, fun _ => ⟨a, rfl, fun j r hj => (hr2 j r hj).2.2⟩, .inr ⟨_, _, hx.1, by rw [List.length_map]; exact hlen⟩⟩
    intro r hr
    obtain ⟨i, hi, rfl⟩ := List.getElem_of_mem hr
    have := hr2 i rows[i] (List.getElem?_eq_getElem hi)
    exact ⟨this.1, this.2.1⟩
theorem C_recs {α : Type} {k : Kd α} {W : World} {A : Option Addr} {len n : Nat} {rows : List (List Int)} (mk : List Int → α) (hs : k.sz = n) (hK : ∀ r : List Int, r.length = n → k.K W (mk r) (r.map (.int .i64)))
    (hl : rows.length = len) (hm : len ≤ 9223372036854775807) (hr : ∀ r ∈ rows, r.length = n) (hc : 0 < len → ∃ a, A = some a ∧ ∀ j r, rows[j]? = some r → ∀ i z, r[i]? = some z → W.cell? (a.add (j * n + i)) = some (.int .i64 z)) : Kd.C k W A len (rows.map mk) := by
  refine ⟨by rw [List.length_map]; exact hl, hm, fun h0 => ?_⟩
  obtain ⟨a, ha, hcell⟩ := hc h0
  refine ⟨a, ha, fun j p hj => ?_⟩
  rw [List.getElem?_map] at hj
  obtain ⟨r, hr1, rfl⟩ := Option.map_eq_some_iff.1 hj
  have hrn := hr r (List.mem_of_getElem? hr1)
  refine ⟨r.map (.int .i64), by rw [List.length_map, hs]; exact hrn, hK r hrn, fun i u hu => ?_⟩
  rw [List.getElem?_map] at hu
  obtain ⟨z, hz, rfl⟩ := Option.map_eq_some_iff.1 hu
  rw [hs]
  exact hcell j r hr1 i z hz
theorem wf_range {z : Int} (h : (Lit.int .i64 z).wf = true) : -9223372036854775808 ≤ z ∧ z ≤ 9223372036854775807 := by
  have : (decide (-9223372036854775808 ≤ z) && decide (z ≤ 9223372036854775807)) = true := h
  simpa using this
def fieldsB (t : TypeId) (fs : Array Field) : Bool := (List.range fs.size).all fun i => (fs[i]?).any fun f => f.type == t && f.offset == i
theorem fields_of {P : Program} {t : TypeId} {fs : Array Field} (ht : P.underlying t = some (.int .i64)) (hc : P.cellsOf t = 1) (hB : fieldsB t fs = true) : ∀ (i : Nat) (f : Field), fs[i]? = some f → P.underlying f.type = some (.int .i64) ∧ f.offset = i ∧ P.cellsOf f.type = 1 := by
  intro i f hi
  have h1 := List.all_eq_true.1 hB i (List.mem_range.2 (Array.getElem?_eq_some_iff.1 hi).1)
  rw [hi] at h1
  simp only [Option.any_some, Bool.and_eq_true, beq_iff_eq] at h1
  rw [h1.1]
  exact ⟨ht, h1.2, hc⟩
theorem len2 {r : List Int} (h : r.length = 2) : ∃ a b, r = [a, b] := by
  match r, h with
  | [a, b], _ => exact ⟨a, b, rfl⟩
theorem len5 {r : List Int} (h : r.length = 5) : ∃ a b c d e, r = [a, b, c, d, e] := by
  match r, h with
  | [a, b, c, d, e], _ => exact ⟨a, b, c, d, e, rfl⟩
theorem len10 {r : List Int} (h : r.length = 10) : ∃ a b c d e f g i j k, r = [a, b, c, d, e, f, g, i, j, k] := by
  match r, h with
  | [a, b, c, d, e, f, g, i, j, k], _ => exact ⟨a, b, c, d, e, f, g, i, j, k, rfl⟩
theorem wf_get {r : List Int} {n : Nat} (h1 : r.length = n) (h2 : ∀ z ∈ r, (Lit.int .i64 z).wf = true) (j : Nat) (hj : j < n) : (Lit.int .i64 (r.getD j 0)).wf = true := by
  have h3 : j < r.length := by omega
  rw [List.getD_eq_getElem?_getD, List.getElem?_eq_getElem h3]
  exact h2 _ (List.getElem_mem h3)
theorem open_cfg {H : Type} {enc : TypeId × Value → H} {P : Program} {W : World} {base : Nat} {spare : Nat → Bool} {held : Bool} {r : Reach} {b0 : Nat} {t : TypeId} {fs : Array Field} {v : Value} {d : DataW H} {p : List MemPlace}
    (hs : P.underlying t = some (.struct fs)) (hC : P.cellsOf t = 10) (hfs : fs.size = 10) (hf : ∀ (i : Nat) (f : Field), fs[i]? = some f → P.underlying f.type = some (.int .i64) ∧ f.offset = i ∧ P.cellsOf f.type = 1)
    (hv : Value.okWide P W r b0 t v) (h : DataW.Trod enc P W base spare held t v d p) :
    ∃ c0 c1 c2 c3 c4 c5 c6 c7 c8 c9, v = .agg #[.int .i64 c0, .int .i64 c1, .int .i64 c2, .int .i64 c3, .int .i64 c4, .int .i64 c5, .int .i64 c6, .int .i64 c7, .int .i64 c8, .int .i64 c9] ∧ ∀ z ∈ [c0, c1, c2, c3, c4, c5, c6, c7, c8, c9], (Lit.int .i64 z).wf = true := by
  obtain ⟨cs, rfl, hsz⟩ := okWide_struct hs hv
  obtain ⟨fuel, hh⟩ := h
  obtain ⟨h1, h2, h3, _, _⟩ := open_ints_struct hs hC hfs hf hh
  have h4 : (cs.toList.map zOf).length = 10 := by rw [List.length_map]; exact h1
  obtain ⟨c0, c1, c2, c3, c4, c5, c6, c7, c8, c9, e⟩ := len10 h4
  refine ⟨c0, c1, c2, c3, c4, c5, c6, c7, c8, c9, ?_, fun z hz => h3 z ?_⟩
  · congr 1
    apply Array.ext'
    have h5 : cs.toList = (cs.toList.map zOf).map (.int .i64) := h2
    rw [h5, e]
    rfl
  · show z ∈ cs.toList.map zOf
    rw [e]
    exact hz
theorem open_five {H : Type} {enc : TypeId × Value → H} {P : Program} {W : World} {base : Nat} {spare : Nat → Bool} {held : Bool} {r : Reach} {b0 : Nat} {t : TypeId} {fs : Array Field} {v : Value} {d : DataW H} {p : List MemPlace}
    (hs : P.underlying t = some (.struct fs)) (hC : P.cellsOf t = 5) (hfs : fs.size = 5) (hf : ∀ (i : Nat) (f : Field), fs[i]? = some f → P.underlying f.type = some (.int .i64) ∧ f.offset = i ∧ P.cellsOf f.type = 1)
    (hv : Value.okWide P W r b0 t v) (h : DataW.Trod enc P W base spare held t v d p) :
    ∃ c0 c1 c2 c3 c4, v = .agg #[.int .i64 c0, .int .i64 c1, .int .i64 c2, .int .i64 c3, .int .i64 c4] ∧ ∀ z ∈ [c0, c1, c2, c3, c4], (Lit.int .i64 z).wf = true := by
  obtain ⟨cs, rfl, hsz⟩ := okWide_struct hs hv
  obtain ⟨fuel, hh⟩ := h
  obtain ⟨h1, h2, h3, _, _⟩ := open_ints_struct hs hC hfs hf hh
  have h4 : (cs.toList.map zOf).length = 5 := by rw [List.length_map]; exact h1
  obtain ⟨c0, c1, c2, c3, c4, e⟩ := len5 h4
  refine ⟨c0, c1, c2, c3, c4, ?_, fun z hz => h3 z ?_⟩
  · congr 1
    apply Array.ext'
    have h5 : cs.toList = (cs.toList.map zOf).map (.int .i64) := h2
    rw [h5, e]
    rfl
  · show z ∈ cs.toList.map zOf
    rw [e]
    exact hz
theorem one_slice {H : Type} {enc : TypeId × Value → H} {P : Program} {W : World} {base : Nat} {spare : Nat → Bool} {held : Bool} {t e : TypeId} {c : Value} {n : Nat} {x : DataW H × List MemPlace} (ht : P.underlying t = some (.slice e)) (h : DataW.trod enc P W base spare held n t [c] = some x) :
    ∃ A len cap, c = .slice A len cap ∧ DataW.Trod enc P W base spare held t (.slice A len cap) x.1 x.2 := by
  rcases DataW.trod_slice ht h with ⟨hcs, _⟩ | ⟨a, l, cp, elems, rest, k, _, hcs, _⟩
  · have : c = .slice none 0 0 := by simpa using hcs
    subst this
    exact ⟨_, _, _, rfl, n, h⟩
  · have : c = .slice (some a) l cp := by simpa using hcs
    subst this
    exact ⟨_, _, _, rfl, n, h⟩
theorem open_file {H : Type} {enc : TypeId × Value → H} {P : Program} {W : World} {base : Nat} {spare : Nat → Bool} {held : Bool} {r : Reach} {b0 : Nat} {t tC tT tO eT eO : TypeId} {f0 f1 f2 : Field} {fs : Array Field} {v : Value} {d : DataW H} {p : List MemPlace}
    (hs : P.underlying t = some (.struct #[f0, f1, f2])) (h0 : f0.type = tC ∧ f0.offset = 0) (h1 : f1.type = tT ∧ f1.offset = 10) (h2 : f2.type = tO ∧ f2.offset = 11) (ct : P.cellsOf t = 12)
    (hC : P.underlying tC = some (.struct fs)) (cC : P.cellsOf tC = 10) (hfs : fs.size = 10) (hf : ∀ (i : Nat) (f : Field), fs[i]? = some f → P.underlying f.type = some (.int .i64) ∧ f.offset = i ∧ P.cellsOf f.type = 1)
    (hT : P.underlying tT = some (.slice eT)) (hO : P.underlying tO = some (.slice eO)) (cT : P.cellsOf tT = 1) (cO : P.cellsOf tO = 1)
    (hv : Value.okWide P W r b0 t v) (h : DataW.Trod enc P W base spare held t v d p) :
    ∃ c0 c1 c2 c3 c4 c5 c6 c7 c8 c9 AT nT kT AO nO kO dT pT dO pO, v = .agg #[.int .i64 c0, .int .i64 c1, .int .i64 c2, .int .i64 c3, .int .i64 c4, .int .i64 c5, .int .i64 c6, .int .i64 c7, .int .i64 c8, .int .i64 c9, .slice AT nT kT, .slice AO nO kO] ∧
      (∀ z ∈ [c0, c1, c2, c3, c4, c5, c6, c7, c8, c9], (Lit.int .i64 z).wf = true) ∧ DataW.Trod enc P W base spare held tT (.slice AT nT kT) dT pT ∧ DataW.Trod enc P W base spare held tO (.slice AO nO kO) dO pO := by
  obtain ⟨cs, rfl, hsz⟩ := okWide_struct hs hv
  obtain ⟨fuel, hh⟩ := h
  obtain ⟨xs, n, _, _, hl, hlen, hg⟩ := DataW.trod_struct hs hh
  have hl12 : cs.toList.length = 12 := by
    rw [ct] at hl
    exact hl
  have hx3 : xs.length = 3 := hlen
  have g0 := hg 0 f0 rfl
  have g1 := hg 1 f1 rfl
  have g2 := hg 2 f2 rfl
  rw [h0.1, h0.2, cC, List.getElem?_eq_getElem (by omega)] at g0
  rw [h1.1, h1.2, cT, List.getElem?_eq_getElem (by omega)] at g1
  rw [h2.1, h2.2, cO, List.getElem?_eq_getElem (by omega)] at g2
  obtain ⟨l, rfl⟩ : ∃ l : List Value, cs = l.toArray := ⟨cs.toList, by simp⟩
  have hll : l.length = 12 := by simpa using hl12
  match l, hll with
  | [a0, a1, a2, a3, a4, a5, a6, a7, a8, a9, a10, a11], _ =>
    obtain ⟨i1, i2, i3, _, _⟩ := open_ints_struct hC cC hfs hf g0
    obtain ⟨AT, nT, kT, eT1, tT1⟩ := one_slice hT g1
    obtain ⟨AO, nO, kO, eO1, tO1⟩ := one_slice hO g2
    subst eT1 eO1
    have i2' : [a0, a1, a2, a3, a4, a5, a6, a7, a8, a9] = [.int .i64 (zOf a0), .int .i64 (zOf a1), .int .i64 (zOf a2), .int .i64 (zOf a3), .int .i64 (zOf a4), .int .i64 (zOf a5), .int .i64 (zOf a6), .int .i64 (zOf a7), .int .i64 (zOf a8), .int .i64 (zOf a9)] := i2
    simp only [List.cons.injEq, and_true] at i2'
    obtain ⟨e0, e1, e2, e3, e4, e5, e6, e7, e8, e9⟩ := i2'
    refine ⟨zOf a0, zOf a1, zOf a2, zOf a3, zOf a4, zOf a5, zOf a6, zOf a7, zOf a8, zOf a9, AT, nT, kT, AO, nO, kO, _, _, _, _, ?_, i3, tT1, tO1⟩
    rw [← e0, ← e1, ← e2, ← e3, ← e4, ← e5, ← e6, ← e7, ← e8, ← e9]
theorem open_row {W : World} {a : Option Addr} {len cap : Nat} {zs : List Int} (h : (a = none ∧ len = 0 ∧ cap = 0 ∧ zs = []) ∨ ∃ x, a = some x ∧ len ≤ cap ∧ cap ≤ maxLen ∧ zs.length = cap ∧ (∀ i, i < zs.length → W.cell? (x.add i) = some (.int .u8 (zs.getD i 0))) ∧ ∀ n ∈ zs, (Lit.int .u8 n).wf = true) :
    ∃ l : List Int, l.length = len ∧ (Kd.int .u8).C W a l.length l ∧ l.length ≤ cap ∧ ∀ x ∈ l, (Lit.int .u8 x).wf = true := by
  rcases h with ⟨rfl, rfl, rfl, rfl⟩ | ⟨x, rfl, h1, h2, h3, h4, h5⟩
  · exact ⟨[], rfl, Kd.C_nil _ _, Nat.le_refl _, fun _ hx => by cases hx⟩
  · have hl : (zs.take len).length = len := by rw [List.length_take]; omega
    refine ⟨zs.take len, hl, ?_, by omega, fun y hy => h5 y (List.mem_of_mem_take hy)⟩
    refine Kd.C_of_reads (d := (0 : Int)) (h1 := fun _ => rfl) ⟨rfl, by have : cap ≤ 9223372036854775807 := h2; omega, fun _ => ⟨x, rfl, fun j hj => ?_⟩⟩
    have hj' : j < zs.length := by omega
    rw [h4 j hj']
    have hjl : j < (zs.take len).length := hj
    simp [List.getD_eq_getElem?_getD, List.getElem?_eq_getElem hj', show j < len by omega]
end Go.Proofs.YtegbfimfpkendaaDoor.PbO
