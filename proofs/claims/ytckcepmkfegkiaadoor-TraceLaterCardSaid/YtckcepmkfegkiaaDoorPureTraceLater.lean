/- The plain law of TraceLater: what the code computes answers true at every input. No condition. -/
import Derived.Test.YtckcepmkfegkiaaDoorPTraceLaterx1
import Derived.Test.YtckcepmkfegkiaaDoorTrU2
import Derived.Test.YtckcepmkfegkiaaDoorBits
namespace Go.Proofs.YtckcepmkfegkiaaDoor.Pure
open Go.RowKit Go.Proofs.YtckcepmkfegkiaaDoor.PTraceLater Go.Proofs.YtckcepmkfegkiaaDoorW.PrintWords Go.Proofs.YtckcepmkfegkiaaDoorW.PrintLast Go.Proofs.YtckcepmkfegkiaaDoorW.PrintMore
set_option linter.unusedVariables false
set_option linter.unusedSimpArgs false
theorem mn_in (n : Nat) (m : Int) (hm : 0 ≤ m) : 0 ≤ mn (n : Int) m ∧ mn (n : Int) m ≤ n ∧ mn (n : Int) m ≤ m := by unfold mn; split <;> omega
theorem take_in {α : Type} (l : List α) (m : Int) (hm : 0 ≤ m) : ((l.take (mn (l.length : Int) m).toNat).length : Int) = mn (l.length : Int) m := by
  have := mn_in l.length m hm
  rw [List.length_take]
  omega
theorem mask40 (n : Int) : 0 ≤ bits .and .i64 n 1099511627775 ∧ bits .and .i64 n 1099511627775 < 1099511627776 := by
  have h := Bits.i64_mask 40 (by decide) n
  have e : (2 : Int) ^ 40 - 1 = 1099511627775 := by decide
  rw [e] at h
  rw [h]
  have e2 : (2 : Int) ^ 40 = 1099511627776 := by decide
  rw [e2]
  omega
def shS (b : Int) (x : S42) : S42 := ⟨x.f0, x.f1, x.f2, x.f3, x.f4 + b⟩
theorem loopL (c0 c1 c2 c3 c4 c5 c6 c7 c8 c9 : Int) (T : List S50) (hT : T.length ≤ 4398046511104) (b : Int) (hb : 0 ≤ b) (hb2 : b < 4294967296) :
    ∀ (r i : Nat) (xs ys : List S42), i + r = xs.length → xs.length ≤ 120 → ys = (xs.take i).map (shS b) → (∀ x ∈ xs.take i, 0 ≤ x.f4 ∧ x.f4 < 1099511627776) →
      millwrightlaw19_TraceLater.l0 (r + 1) T b true xs ys i c0 c1 c2 c3 c4 c5 c6 c7 c8 c9 = some true
  | 0, i, xs, ys, hr, hn, hy, hx => by
    have hi : i = xs.length := by omega
    subst hi
    rw [List.take_length] at hy hx
    subst hy
    rw [millwrightlaw19_TraceLater.l0, if_neg (by omega), trace_Audit.f, if_pos ⟨hT, by omega⟩, Option.bind_some, trace_Audit.f, if_pos ⟨hT, by rw [List.length_map]; omega⟩, Option.bind_some]
    have e : (xs.map (shS b)).map trace_Audit.g2 = (xs.map trace_Audit.g2).map (TrU.shE b) := by rw [List.map_map, List.map_map]; rfl
    rw [e, TrU.later _ _ _ b hb hb2 (fun e he => by obtain ⟨x, hx', rfl⟩ := List.mem_map.1 he; exact hx x hx'), if_pos rfl, if_pos rfl, beq_self_eq_true]
  | r + 1, i, xs, ys, hr, hn, hy, hx => by
    have hw : wrap64 ((i : Int) + 1) = ((i + 1 : Nat) : Int) := by rw [Bits.wrap64_in (by omega) (by omega)]; omega
    have hi : i < xs.length := by omega
    have hyl : ys.length = i := by rw [hy, List.length_map, List.length_take]; omega
    generalize hv : (⟨(rd_T42 xs (i : Int)).f0, (rd_T42 xs (i : Int)).f1, (rd_T42 xs (i : Int)).f2, (rd_T42 xs (i : Int)).f3, bits .and .i64 (rd_T42 xs (i : Int)).f4 1099511627775⟩ : S42) = v
    have hv4 : 0 ≤ v.f4 ∧ v.f4 < 1099511627776 := by rw [← hv]; exact mask40 _
    have htk : (xs.set i v).take (i + 1) = xs.take i ++ [v] := by
      rw [List.take_add_one, List.take_set_of_le (Nat.le_refl _), List.getElem?_set_self hi]
      rfl
    have hrd : rd_T42 (xs.set i v) (i : Int) = v := by
      unfold rd_T42
      rw [Int.toNat_natCast, List.getD_eq_getElem?_getD, List.getElem?_set_self hi]
      rfl
    have hwb : wrap64 b = b := Bits.wrap64_in (by omega) (by omega)
    have hwv : wrap64 (v.f4 + b) = v.f4 + b := Bits.wrap64_in (by omega) (by omega)
    have ih := loopL c0 c1 c2 c3 c4 c5 c6 c7 c8 c9 T hT b hb hb2 r (i + 1) (xs.set i v) (ys ++ [shS b v]) (by rw [List.length_set]; omega) (by rw [List.length_set]; exact hn) (by rw [htk, List.map_append, ← hy]; rfl) (fun x hx' => by
      rw [htk] at hx'
      rcases List.mem_append.1 hx' with h | h
      · exact hx x h
      · rw [List.mem_singleton.1 h]; exact hv4)
    rw [millwrightlaw19_TraceLater.l0, if_pos (by omega), if_pos (by omega), hw, Int.toNat_natCast, hv, Option.bind_some, if_pos (by omega), hrd, hwb, hwv]
    exact ih
theorem TraceLater (c0 c1 c2 c3 c4 c5 c6 c7 c8 c9 : Int) (l1 : List S50) (l2 : List S42) (a3 : Int) (hc : ∀ z ∈ [c0, c1, c2, c3, c4, c5, c6, c7, c8, c9], (Lit.int .i64 z).wf = true)
    (b1 : l1.length ≤ 9223372036854775807) (w1 : ∀ x ∈ l1, (Lit.int .i64 x.f0).wf = true ∧ (Lit.int .i64 x.f1).wf = true) (b2 : l2.length ≤ 9223372036854775807)
    (w2 : ∀ x ∈ l2, (Lit.int .i64 x.f0).wf = true ∧ (Lit.int .i64 x.f1).wf = true ∧ (Lit.int .i64 x.f2).wf = true ∧ (Lit.int .i64 x.f3).wf = true ∧ (Lit.int .i64 x.f4).wf = true) (w3 : (Lit.int .u32 a3).wf = true) :
    ∃ k, millwrightlaw19_TraceLater.f k c0 c1 c2 c3 c4 c5 c6 c7 c8 c9 l1 l2 a3 = some true := by
  have i1 := mn_in l1.length 70 (by decide)
  have i2 := mn_in l2.length 120 (by decide)
  have t1 := take_in l1 70 (by decide)
  have t2 := take_in l2 120 (by decide)
  have h3 : 0 ≤ a3 ∧ a3 < 4294967296 := by
    have : (decide (0 ≤ a3) && decide (a3 ≤ 4294967295)) = true := w3
    simp at this
    omega
  simp only [millwrightlaw19_TraceLater.f, millwrightlaw19_shown.f, Option.bind_some, if_pos i1.1, if_pos i1.2.1, if_pos i2.1, if_pos i2.2.1]
  generalize l1.take (mn (l1.length : Int) 70).toNat = A at t1
  generalize l2.take (mn (l2.length : Int) 120).toNat = B at t2
  have hA : A.length ≤ 70 := by omega
  have hB : B.length ≤ 120 := by omega
  refine ⟨B.length + 1, ?_⟩
  rw [List.length_nil, if_pos (by omega), List.nil_append]
  exact loopL c0 c1 c2 c3 c4 c5 c6 c7 c8 c9 A (by omega) a3 h3.1 h3.2 B.length 0 B [] (by omega) hB rfl (fun x hx => by simp at hx)
end Go.Proofs.YtckcepmkfegkiaaDoor.Pure
