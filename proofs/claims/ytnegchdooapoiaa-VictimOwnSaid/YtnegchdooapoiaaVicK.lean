/- The builtin clear on the tail of a row of the call's own, whatever the element's cells. No condition. -/
import Derived.Test.YtnegchdooapoiaaVicW
import Derived.Lib.SliceRun
namespace Go.Proofs.Ytnegchdooapoiaa.VicK
open Go.RowKit Go.Proofs.YtnegchdooapoiaaW.PrintWords Go.Proofs.YtnegchdooapoiaaW.PrintLast Go.Proofs.YtnegchdooapoiaaW.PrintMore
variable {P : Program}
theorem zc_len (zc : Array Value) (n : Nat) : (Builtin.zeroCells zc n).toList.length = n * zc.size := by simp [Builtin.zeroCells]
theorem zc_mem {zc : Array Value} {n : Nat} {v : Value} (h : v ∈ (Builtin.zeroCells zc n).toList) : v ∈ zc.toList := by
  simp only [Builtin.zeroCells, Array.toList_map, List.mem_map, Array.mem_toList_iff, Array.mem_range] at h
  obtain ⟨i, hi, rfl⟩ := h
  have hp : 0 < zc.size := by
    rcases Nat.eq_zero_or_pos zc.size with h0 | h0
    · rw [h0] at hi; omega
    · exact h0
  have hl : i % zc.size < zc.size := Nat.mod_lt _ hp
  rw [getElem!_pos zc (i % zc.size) hl]
  simp
theorem clear_run {W : World} {t e : TypeId} {v : Value} (ht : P.underlying t = some (.slice e)) (hz : ∀ w, (zeroValue e).run P w = .ok v w) (h1 : ∀ q ∈ v.cells.toList, q.oneCell' = true) {g o n c : Nat} (hn : 0 < n) {cur : Array Value}
    (hg : W.heap[g]? = some (.cells cur e (0, 0))) (hfit : o + n * v.cells.size ≤ cur.size) (ty : TypeId) :
    (Builtin.clear_ #[t] ty #[.slice (some ⟨g, o, none⟩) n c]).run P W = .ok (.tuple #[]) (W.setCells g o (Builtin.zeroCells v.cells n).toList) := by
  have hl := zc_len v.cells n
  have hst := run_storeCells_cells (P := P) g o (Builtin.zeroCells v.cells n).toList 0 W
    (fun j hj => by
      rw [blk_cell hg, Array.getElem?_eq_getElem (by omega)]
      rfl)
    (fun j hj => blk_frozen hg _)
    (fun q hq => h1 q (zc_mem hq))
  simp only [Nat.add_zero] at hst
  obtain ⟨m, rfl⟩ : ∃ m, n = m + 1 := ⟨n - 1, by omega⟩
  simp [Builtin.clear_, run_underlying ht, hz, hst]
theorem clear_none {W : World} {t : TypeId} {e : TypeId} (ht : P.underlying t = some (.slice e)) (A : Option Addr) (c : Nat) (ty : TypeId) :
    (Builtin.clear_ #[t] ty #[.slice A 0 c]).run P W = .ok (.tuple #[]) W := by
  cases A <;> simp [Builtin.clear_, run_underlying ht]
theorem clear_tail {α : Type} {d : Kd α} {t e : TypeId} {v : Value} (ht : P.underlying t = some (.slice e)) (hz : ∀ w, (zeroValue e).run P w = .ok v w) (h1 : ∀ q ∈ v.cells.toList, q.oneCell' = true) {sz : Nat} (hs : v.cells.size = sz) (hd : d.sz = sz)
    {w0 W : World} {ok : Nat → Prop} {A A' : Option Addr} {n c c' m k : Nat} {xs : List α} (HB : Below w0.heap.size w0 W) (HO : d.R e W w0.heap.size ok (.slice A n c) xs) (hm : m ≤ xs.length) (hk : k = xs.length - m)
    (hA : A' = (if c = m then A else A.map (·.add (m * sz)))) :
    ∃ W2, (∀ ty : TypeId, (Builtin.clear_ #[t] ty #[.slice A' k c']).run P W = .ok (.tuple #[]) W2) ∧ d.R e W2 w0.heap.size ok (.slice A m c) (xs.take m) ∧ Below w0.heap.size w0 W2 ∧ ∀ (w : World) (S : Nat → Prop), Kept w W S → (∀ i, (Value.slice A n c).ownBlock = some i → S i ∨ w.heap.size ≤ i) → Kept w W2 S := by
  rcases Nat.eq_zero_or_pos k with h0 | h0
  · rw [h0]
    exact ⟨W, fun ty => clear_none ht _ _ ty, Kd.R_take HO hm, HB, fun w S h _ => h⟩
  · have hn : n = xs.length := (Kd.R_reads' HO).1
    have hx : 0 < xs.length := by omega
    obtain ⟨h00, inner, ho, hr⟩ := HO
    rcases ho.2 with ⟨he, _⟩ | ⟨g, cap, cur, he, hb, hh, hc1, hc2, hc3, hc4⟩
    · injection he with e1 e2 e3
      omega
    · injection he with e1 e2 e3
      subst e1
      subst e3
      have hcm : c ≠ m := by omega
      rw [if_neg hcm] at hA
      have hA2 : A' = some ⟨g, m * sz, none⟩ := by rw [hA]; simp [Addr.add]; omega
      subst hA2
      have hfit : m * sz + k * sz ≤ cur.size := by
        rw [hc3, hd, ← Nat.add_mul]
        exact Nat.mul_le_mul_right _ (by omega)
      have hlen : (Builtin.zeroCells v.cells k).toList.length = k * sz := by rw [zc_len, hs]
      have hfit2 : m * sz + (Builtin.zeroCells v.cells k).toList.length ≤ cur.size := by omega
      obtain ⟨cur', h3, h4, h5⟩ := setCells_row (Builtin.zeroCells v.cells k).toList (m * sz) W cur hh hfit2
      obtain ⟨s1, s2, s3, s4⟩ := setCells_same g (Builtin.zeroCells v.cells k).toList (m * sz) W
      have hfar : ∀ q, q ≠ g → (W.setCells g (m * sz) (Builtin.zeroCells v.cells k).toList).heap[q]? = W.heap[q]? := fun q hq => setCells_far _ _ q hq
      have hown : (Value.slice (some ⟨g, 0, none⟩) n c).ownBlock = some g := rfl
      have hmx : m * sz ≤ cur.toList.length := by rw [Array.length_toList]; omega
      refine ⟨W.setCells g (m * sz) (Builtin.zeroCells v.cells k).toList, fun ty => clear_run ht hz h1 h0 hh (by rw [hs]; exact hfit) ty, ?_, ?_, fun w S h hS => ?_⟩
      · have HR : d.R e W w0.heap.size ok (.slice (some ⟨g, 0, none⟩) m c) (xs.take m) := Kd.R_take ⟨h00, inner, ho, hr⟩ hm
        obtain ⟨k00, inn, ho2, hr2⟩ := HR
        refine ⟨k00, inn, ⟨ho2.1, ?_⟩, hr2.imp_ (fun _ _ hM => d.M_move (fun q hq => hfar q (fun hqg => hq.2 (by rw [hqg]; rfl))) hM)⟩
        rcases ho2.2 with ⟨he2, _⟩ | ⟨g2, cap2, cur2, he2, hb2, hh2, q1, q2, q3, q4⟩
        · cases he2
        · injection he2 with f1 f2 f3
          injection f1 with f1
          injection f1 with f1 _ _
          subst f1
          subst f3
          rw [hh] at hh2
          injection hh2 with hh2
          injection hh2 with hh2 _ _
          subst hh2
          refine Or.inr ⟨g, c, cur', congrArg (fun z => Value.slice (some ⟨g, 0, none⟩) z c) f2, hb, h3, q1, q2, by rw [h4]; exact hc3, ?_⟩
          have hlx : (List.take m xs).length = m := f2.symm
          rw [hlx] at q4
          rw [hlx, h5, List.append_assoc, List.take_append_of_le_length (by rw [List.length_take, Nat.min_eq_left hmx, hd]; exact Nat.le_refl _), List.take_take, ← q4, hd, Nat.min_self]
      · exact HB.trans ⟨s1, s2, s3, by rw [s4]; exact Nat.le_refl _, fun q hq => hfar q (by omega)⟩
      · exact Kept.of_grown (row := some g) ⟨s1, s2, s3, by rw [s4]; exact Nat.le_refl _, fun q _ hq => hfar q (fun he => hq (by rw [he]))⟩ h (fun i hi => hS i (by rw [hown]; exact hi))
end Go.Proofs.Ytnegchdooapoiaa.VicK
