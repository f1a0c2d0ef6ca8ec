/- The plain law of TracePrefix: what the code computes answers true at every input. No condition. -/
import Derived.Test.YtckcepmkfegkiaaDoorPTracePrefixx2
import Derived.Test.YtckcepmkfegkiaaDoorTrU2
import Derived.Test.YtckcepmkfegkiaaDoorBits
namespace Go.Proofs.YtckcepmkfegkiaaDoor.Pure
open Go.RowKit Go.Proofs.YtckcepmkfegkiaaDoor.PTracePrefix Go.Proofs.YtckcepmkfegkiaaDoorW.PrintWords Go.Proofs.YtckcepmkfegkiaaDoorW.PrintLast Go.Proofs.YtckcepmkfegkiaaDoorW.PrintMore
set_option linter.unusedVariables false
set_option linter.unusedSimpArgs false
theorem mn_in (n : Nat) (m : Int) (hm : 0 ≤ m) : 0 ≤ mn (n : Int) m ∧ mn (n : Int) m ≤ n ∧ mn (n : Int) m ≤ m := by unfold mn; split <;> omega
theorem take_in {α : Type} (l : List α) (m : Int) (hm : 0 ≤ m) : ((l.take (mn (l.length : Int) m).toNat).length : Int) = mn (l.length : Int) m := by
  have := mn_in l.length m hm
  rw [List.length_take]
  omega
theorem TracePrefix (c0 c1 c2 c3 c4 c5 c6 c7 c8 c9 : Int) (l1 : List S50) (l2 : List S42) (a3 : Int) (hc : ∀ z ∈ [c0, c1, c2, c3, c4, c5, c6, c7, c8, c9], (Lit.int .i64 z).wf = true)
    (b1 : l1.length ≤ 9223372036854775807) (w1 : ∀ x ∈ l1, (Lit.int .i64 x.f0).wf = true ∧ (Lit.int .i64 x.f1).wf = true) (b2 : l2.length ≤ 9223372036854775807)
    (w2 : ∀ x ∈ l2, (Lit.int .i64 x.f0).wf = true ∧ (Lit.int .i64 x.f1).wf = true ∧ (Lit.int .i64 x.f2).wf = true ∧ (Lit.int .i64 x.f3).wf = true ∧ (Lit.int .i64 x.f4).wf = true) (w3 : (Lit.int .i64 a3).wf = true) :
    millwrightlaw19_TracePrefix.f c0 c1 c2 c3 c4 c5 c6 c7 c8 c9 l1 l2 a3 = some true := by
  have i1 := mn_in l1.length 70 (by decide)
  have i2 := mn_in l2.length 120 (by decide)
  have t1 := take_in l1 70 (by decide)
  have t2 := take_in l2 120 (by decide)
  rw [millwrightlaw19_TracePrefix.f, millwrightlaw19_shown.f, Option.bind_some, if_pos i1.1, if_pos i1.2.1, Option.bind_some, if_pos i2.1, if_pos i2.2.1, Option.bind_some]
  generalize l1.take (mn (l1.length : Int) 70).toNat = A at t1
  generalize l2.take (mn (l2.length : Int) 120).toNat = B at t2
  have hA : A.length ≤ 70 := by omega
  have hB : B.length ≤ 120 := by omega
  have hw : wrap64 ((B.length : Int) + 1) = (B.length : Int) + 1 := Bits.wrap64_in (by omega) (by omega)
  rw [trace_Audit.f, if_pos ⟨by omega, by omega⟩, Option.bind_some, hw, if_neg (by omega), Bits.and65535, Bits.tmod_pos _ _ (by omega)]
  have hat : 0 ≤ a3 % 65536 % ((B.length : Int) + 1) ∧ a3 % 65536 % ((B.length : Int) + 1) < (B.length : Int) + 1 := ⟨Int.emod_nonneg _ (by omega), Int.emod_lt_of_pos _ (by omega)⟩
  generalize a3 % 65536 % ((B.length : Int) + 1) = at_ at hat
  rw [if_pos hat.1, if_pos (by omega), trace_Audit.f, if_pos ⟨by omega, by rw [List.length_take]; omega⟩, Option.bind_some, List.map_take]
  have hp := TrU.prefix_ ⟨c0, c1, c2, c3, c4, c5, c6, c7, c8, c9⟩ (A.map trace_Audit.g1) (B.map trace_Audit.g2) (List.replicate (A.map trace_Audit.g1).length TrS.tk0) 0 0 at_.toNat
  have h0 : (0 : Int) + (at_.toNat : Int) = at_ := by omega
  rw [h0] at hp
  unfold TrS.audit
  rw [hp]
  generalize TrS.auditL ⟨c0, c1, c2, c3, c4, c5, c6, c7, c8, c9⟩ (A.map trace_Audit.g1) (B.map trace_Audit.g2) (List.replicate (A.map trace_Audit.g1).length TrS.tk0) 0 0 = r
  by_cases e1 : r.2 = 0
  · have e : (if r.2 = 0 ∨ r.1 ≥ at_ then ((-1 : Int), (0 : Int)) else r) = (-1, 0) := if_pos (.inl e1)
    rw [if_pos e1, e]
    rfl
  · rw [if_neg e1]
    by_cases e2 : r.1 ≥ at_
    · have e : (if r.2 = 0 ∨ r.1 ≥ at_ then ((-1 : Int), (0 : Int)) else r) = (-1, 0) := if_pos (.inr e2)
      rw [if_pos e2, e]
      rfl
    · have e : (if r.2 = 0 ∨ r.1 ≥ at_ then ((-1 : Int), (0 : Int)) else r) = r := if_neg (fun h => h.elim e1 e2)
      rw [if_neg e2, e, if_pos rfl, if_pos rfl, beq_self_eq_true]
end Go.Proofs.YtckcepmkfegkiaaDoor.Pure
