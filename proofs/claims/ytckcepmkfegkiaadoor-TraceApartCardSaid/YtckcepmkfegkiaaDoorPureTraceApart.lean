/- The plain law of TraceApart: what the code computes answers true at every input. No condition. -/
import Derived.Test.YtckcepmkfegkiaaDoorPTraceApartx2
import Derived.Test.YtckcepmkfegkiaaDoorTrU2
import Derived.Test.YtckcepmkfegkiaaDoorBits
namespace Go.Proofs.YtckcepmkfegkiaaDoor.Pure
open Go.RowKit Go.Proofs.YtckcepmkfegkiaaDoor.PTraceApart Go.Proofs.YtckcepmkfegkiaaDoorW.PrintWords Go.Proofs.YtckcepmkfegkiaaDoorW.PrintLast Go.Proofs.YtckcepmkfegkiaaDoorW.PrintMore
set_option linter.unusedVariables false
set_option linter.unusedSimpArgs false
theorem mn_in (n : Nat) (m : Int) (hm : 0 ≤ m) : 0 ≤ mn (n : Int) m ∧ mn (n : Int) m ≤ n ∧ mn (n : Int) m ≤ m := by unfold mn; split <;> omega
theorem take_in {α : Type} (l : List α) (m : Int) (hm : 0 ≤ m) : ((l.take (mn (l.length : Int) m).toNat).length : Int) = mn (l.length : Int) m := by
  have := mn_in l.length m hm
  rw [List.length_take]
  omega
theorem loopA (c0 c1 c2 c3 c4 c5 c6 c7 c8 c9 : Int) (l : List S42) (T : List TrS.Tsk) (hl : l.length ≤ 4398046511104) (p q : Int) (hT : TrS.audit ⟨c0, c1, c2, c3, c4, c5, c6, c7, c8, c9⟩ T (l.map trace_Audit.g2) = (p, q)) :
    ∀ (r i : Nat) (xs : List S50), i + r = xs.length → xs.length ≤ 4398046511104 → xs.map (fun x => x.f0) = T.map (fun x => x.mem) →
      millwrightlaw19_TraceApart.l0 (r + 1) l true p q xs i c0 c1 c2 c3 c4 c5 c6 c7 c8 c9 = some true
  | 0, i, xs, hr, hn, hm => by
    rw [millwrightlaw19_TraceApart.l0, if_neg (by omega), trace_Audit.f, if_pos ⟨hn, hl⟩, Option.bind_some]
    have hlen : (xs.map trace_Audit.g1).length = T.length := by
      have := congrArg List.length hm
      rw [List.length_map, List.length_map] at this
      rw [List.length_map, this]
    have := TrU.cost ⟨c0, c1, c2, c3, c4, c5, c6, c7, c8, c9⟩ (xs.map trace_Audit.g1) T hlen (fun j => by
      have h : ∀ (ks : List TrS.Tsk), (TrS.getK ks j).mem = (ks.map (fun x => x.mem)).getD j.toNat 0 := fun ks => by
        unfold TrS.getK
        rw [List.getD_eq_getElem?_getD, List.getD_eq_getElem?_getD, List.getElem?_map]
        cases ks[j.toNat]? <;> rfl
      rw [h, h, ← hm, List.map_map]
      rfl) (l.map trace_Audit.g2)
    rw [this, hT, if_pos rfl, if_pos rfl, beq_self_eq_true]
  | r + 1, i, xs, hr, hn, hm => by
    have hw : wrap64 ((i : Int) + 1) = ((i + 1 : Nat) : Int) := by rw [Bits.wrap64_in (by omega) (by omega)]; omega
    rw [millwrightlaw19_TraceApart.l0, if_pos (by omega), if_pos (by omega), hw, Int.toNat_natCast]
    refine loopA c0 c1 c2 c3 c4 c5 c6 c7 c8 c9 l T hl p q hT r (i + 1) _ (by rw [List.length_set]; omega) (by rw [List.length_set]; exact hn) ?_
    rw [List.map_set, ← hm]
    have hi : i < (xs.map (fun x => x.f0)).length := by rw [List.length_map]; omega
    have e : (rd_T50 xs (i : Int)).f0 = (xs.map (fun x => x.f0))[i] := by
      unfold rd_T50
      rw [Int.toNat_natCast, List.getD_eq_getElem?_getD, List.getElem?_eq_getElem (by omega), List.getElem_map]
      rfl
    show (xs.map (fun x => x.f0)).set i (rd_T50 xs (i : Int)).f0 = _
    rw [e, List.set_getElem_self]
theorem TraceApart (c0 c1 c2 c3 c4 c5 c6 c7 c8 c9 : Int) (l1 : List S50) (l2 : List S42) (l3 : List S50) (hc : ∀ z ∈ [c0, c1, c2, c3, c4, c5, c6, c7, c8, c9], (Lit.int .i64 z).wf = true)
    (b1 : l1.length ≤ 9223372036854775807) (w1 : ∀ x ∈ l1, (Lit.int .i64 x.f0).wf = true ∧ (Lit.int .i64 x.f1).wf = true) (b2 : l2.length ≤ 9223372036854775807)
    (w2 : ∀ x ∈ l2, (Lit.int .i64 x.f0).wf = true ∧ (Lit.int .i64 x.f1).wf = true ∧ (Lit.int .i64 x.f2).wf = true ∧ (Lit.int .i64 x.f3).wf = true ∧ (Lit.int .i64 x.f4).wf = true)
    (b3 : l3.length ≤ 9223372036854775807) (w3 : ∀ x ∈ l3, (Lit.int .i64 x.f0).wf = true ∧ (Lit.int .i64 x.f1).wf = true) :
    ∃ k, millwrightlaw19_TraceApart.f k c0 c1 c2 c3 c4 c5 c6 c7 c8 c9 l1 l2 l3 = some true := by
  have i1 := mn_in l1.length 60 (by decide)
  have i2 := mn_in l2.length 120 (by decide)
  have i3 := mn_in l3.length 10 (by decide)
  have t1 := take_in l1 60 (by decide)
  have t2 := take_in l2 120 (by decide)
  have t3 := take_in l3 10 (by decide)
  simp only [millwrightlaw19_TraceApart.f, millwrightlaw19_shown.f, Option.bind_some, if_pos i1.1, if_pos i1.2.1, if_pos i2.1, if_pos i2.2.1, if_pos i3.1, if_pos i3.2.1]
  generalize l1.take (mn (l1.length : Int) 60).toNat = A at t1
  generalize l2.take (mn (l2.length : Int) 120).toNat = B at t2
  generalize l3.take (mn (l3.length : Int) 10).toNat = C at t3
  have hA : A.length ≤ 60 := by omega
  have hB : B.length ≤ 120 := by omega
  have hC : C.length ≤ 10 := by omega
  have e1 : trace_Audit.f c0 c1 c2 c3 c4 c5 c6 c7 c8 c9 A B = some (TrS.audit ⟨c0, c1, c2, c3, c4, c5, c6, c7, c8, c9⟩ (A.map trace_Audit.g1) (B.map trace_Audit.g2)) := if_pos ⟨by omega, by omega⟩
  have e2 : trace_Audit.f c0 c1 c2 c3 c4 c5 c6 c7 c8 c9 (A ++ C) B = some (TrS.audit ⟨c0, c1, c2, c3, c4, c5, c6, c7, c8, c9⟩ (A.map trace_Audit.g1 ++ C.map trace_Audit.g1) (B.map trace_Audit.g2)) := by
    rw [← List.map_append]
    exact if_pos ⟨by rw [List.length_append]; omega, by omega⟩
  refine ⟨A.length + 2, ?_⟩
  rw [e1, Option.bind_some, if_pos (by rw [List.length_nil]; omega), List.nil_append, if_pos (by omega), e2, Option.bind_some]
  have hap := TrU.apart ⟨c0, c1, c2, c3, c4, c5, c6, c7, c8, c9⟩ (A.map trace_Audit.g1) (C.map trace_Audit.g1) (B.map trace_Audit.g2)
  generalize hr : TrS.audit ⟨c0, c1, c2, c3, c4, c5, c6, c7, c8, c9⟩ (A.map trace_Audit.g1) (B.map trace_Audit.g2) = r at hap
  generalize TrS.audit ⟨c0, c1, c2, c3, c4, c5, c6, c7, c8, c9⟩ (A.map trace_Audit.g1 ++ C.map trace_Audit.g1) (B.map trace_Audit.g2) = s at hap
  have hj : millwrightlaw19_TraceApart.j0 (A.length + 2) A B true r.1 r.2 false c0 c1 c2 c3 c4 c5 c6 c7 c8 c9 = some true := by
    rw [millwrightlaw19_TraceApart.j0, if_neg (by simp), Option.bind_some, List.nil_append, if_pos (by rw [List.length_nil]; omega)]
    exact loopA c0 c1 c2 c3 c4 c5 c6 c7 c8 c9 B (A.map trace_Audit.g1) (by omega) r.1 r.2 hr A.length 0 A (by omega) (by omega) (by rw [List.map_map]; rfl)
  by_cases h0 : r.2 = 0
  · have hs : s = r := by
      rcases hap with h | h
      · rw [h0] at h; cases h
      · exact h
    rw [if_pos h0, hs, if_pos rfl, if_pos h0]
    exact hj
  · rw [if_neg h0]
    by_cases h1 : r.2 = 1
    · rw [if_pos h1]
      exact hj
    · rw [if_neg h1]
      have hs : s = r := by
        rcases hap with h | h
        · exact absurd h h1
        · exact h
      rw [hs, if_pos rfl, bne_self_eq_false]
      exact hj
end Go.Proofs.YtckcepmkfegkiaaDoor.Pure
