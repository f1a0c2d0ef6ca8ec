/- Stores into a box of three cells that a call has made. No condition. -/
import Derived.Test.YtegbfimfpkendaaDoorBa
namespace Go.Proofs.YtegbfimfpkendaaDoor.LexBox
open Go.RowKit Go.Proofs.YtegbfimfpkendaaDoorW.PrintWords
theorem set3 {w0 w : World} {g : Nat} {t : TypeId} {a b c : Value} (u v x : Value) (h : w.heap[g]? = some (.cells #[a, b, c] t (0, 0))) (hB : Below w0.heap.size w0 w) (hg : w0.heap.size ≤ g) :
    ∃ W, W = ((w.setCell ⟨g, 0, none⟩ u).setCell ⟨g, 1, none⟩ v).setCell ⟨g, 2, none⟩ x ∧ W.heap[g]? = some (.cells #[u, v, x] t (0, 0)) ∧ Below w0.heap.size w0 W :=
  ⟨_, rfl, blk_put (blk_put (blk_put h 0 u (cs' := #[u, b, c]) rfl) 1 v (cs' := #[u, v, c]) rfl) 2 x (cs' := #[u, v, x]) rfl, below_set (below_set (below_set hB hg) hg) hg⟩
theorem set2 {w0 w : World} {g : Nat} {t : TypeId} {a b c : Value} (x : Value) (h : w.heap[g]? = some (.cells #[a, b, c] t (0, 0))) (hB : Below w0.heap.size w0 w) (hg : w0.heap.size ≤ g) :
    ∃ W, W = w.setCell ⟨g, 2, none⟩ x ∧ W.heap[g]? = some (.cells #[a, b, x] t (0, 0)) ∧ Below w0.heap.size w0 W :=
  ⟨_, rfl, blk_put h 2 x (cs' := #[a, b, x]) rfl, below_set hB hg⟩
theorem cells3 {w : World} {g : Nat} {t : TypeId} {a b c : Value} (h : w.heap[g]? = some (.cells #[a, b, c] t (0, 0))) :
    w.cell? ⟨g, 0, none⟩ = some a ∧ w.cell? ⟨g, 1, none⟩ = some b ∧ w.cell? ⟨g, 2, none⟩ = some c ∧ w.frozen? ⟨g, 0, none⟩ = false ∧ w.frozen? ⟨g, 1, none⟩ = false ∧ w.frozen? ⟨g, 2, none⟩ = false :=
  ⟨(blk_cell h 0).trans rfl, (blk_cell h 1).trans rfl, (blk_cell h 2).trans rfl, blk_frozen h 0, blk_frozen h 1, blk_frozen h 2⟩
end Go.Proofs.YtegbfimfpkendaaDoor.LexBox
