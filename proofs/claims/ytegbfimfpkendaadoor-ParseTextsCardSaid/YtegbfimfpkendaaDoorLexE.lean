/- What the call of Lex leaves, for whatever kind its tokens are read as. No condition. -/
import Derived.Test.YtegbfimfpkendaaDoorLexD
namespace Go.Proofs.YtegbfimfpkendaaDoor.LexE
open Go.RowKit Go.Proofs.YtegbfimfpkendaaDoorW.PrintWords LexS LexB LexD
theorem R_map {α β : Type} {d : Kd α} {d' : Kd β} (g : α → β) (hs : d.sz = d'.sz) (hM : ∀ w base ok x cs, d.M w base ok x cs → d'.M w base ok (g x) cs) {e : Nat} {w : World} {base : Nat} {ok : Nat → Prop} {v : Value} {xs : List α} (h : d.R e w base ok v xs) : d'.R e w base ok v (xs.map g) := by
  obtain ⟨h0, inner, ho, hr, hr2⟩ := h
  refine ⟨h0, inner, ?_, ?_, ?_⟩
  · rw [List.length_map, ← hs]; exact ho
  · rw [List.length_map, ← hs]; exact hr
  · intro j p hj
    rw [List.getElem?_map] at hj
    obtain ⟨x, hx, rfl⟩ := Option.map_eq_some_iff.1 hj
    rw [← hs]
    exact hM _ _ _ _ _ (hr2 j x hx)
theorem take_len {α : Type} {l : List α} {x : Int} (_h0 : 0 ≤ x) (h1 : x ≤ (l.length : Int)) : (l.take x.toNat).length = x.toNat := by rw [List.length_take]; omega
theorem lex_out {α : Type} {d' : Kd α} (g : Tok → α) (hs : kTok.sz = d'.sz) (hM : ∀ w base ok x cs, kTok.M w base ok x cs → d'.M w base ok (g x) cs) {w w' : World} {e : Ending} {bs : List Int} (h : LexPost w bs e w') :
    ∃ v : Value, e = .returned (.tuple #[v, .int .i64 (lexF bs).2.1, .int .i64 (lexF bs).2.2]) ∧ d'.R 95 w' w.heap.size (fun _ => True) v ((lexF bs).1.map g) ∧ Below w.heap.size w w' := by
  obtain ⟨v, he, ho, hB⟩ := h
  exact ⟨v, he, R_map g hs hM ho, hB⟩
end Go.Proofs.YtegbfimfpkendaaDoor.LexE
