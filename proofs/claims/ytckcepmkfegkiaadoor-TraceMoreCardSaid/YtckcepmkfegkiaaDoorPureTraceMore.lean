/- The plain law of TraceMore: what the code computes answers true at every input. No condition. -/
import Derived.Test.YtckcepmkfegkiaaDoorPTraceMorex1
import Derived.Test.YtckcepmkfegkiaaDoorTrU2
import Derived.Test.YtckcepmkfegkiaaDoorBits
namespace Go.Proofs.YtckcepmkfegkiaaDoor.Pure
open Go.RowKit Go.Proofs.YtckcepmkfegkiaaDoor.PTraceMore Go.Proofs.YtckcepmkfegkiaaDoorW.PrintWords Go.Proofs.YtckcepmkfegkiaaDoorW.PrintLast Go.Proofs.YtckcepmkfegkiaaDoorW.PrintMore
set_option linter.unusedVariables false
set_option linter.unusedSimpArgs false
theorem mn_in (n : Nat) (m : Int) (hm : 0 ≤ m) : 0 ≤ mn (n : Int) m ∧ mn (n : Int) m ≤ n ∧ mn (n : Int) m ≤ m := by unfold mn; split <;> omega
theorem take_in {α : Type} (l : List α) (m : Int) (hm : 0 ≤ m) : ((l.take (mn (l.length : Int) m).toNat).length : Int) = mn (l.length : Int) m := by
  have := mn_in l.length m hm
  rw [List.length_take]
  omega
theorem TraceMore (c0 c1 c2 c3 c4 c5 c6 c7 c8 c9 : Int) (l1 : List S50) (l2 : List S42) (a3 : Int) (hc : ∀ z ∈ [c0, c1, c2, c3, c4, c5, c6, c7, c8, c9], (Lit.int .i64 z).wf = true)
    (b1 : l1.length ≤ 9223372036854775807) (w1 : ∀ x ∈ l1, (Lit.int .i64 x.f0).wf = true ∧ (Lit.int .i64 x.f1).wf = true) (b2 : l2.length ≤ 9223372036854775807)
    (w2 : ∀ x ∈ l2, (Lit.int .i64 x.f0).wf = true ∧ (Lit.int .i64 x.f1).wf = true ∧ (Lit.int .i64 x.f2).wf = true ∧ (Lit.int .i64 x.f3).wf = true ∧ (Lit.int .i64 x.f4).wf = true) (w3 : (Lit.int .u8 a3).wf = true) :
    millwrightlaw19_TraceMore.f c0 c1 c2 c3 c4 c5 c6 c7 c8 c9 l1 l2 a3 = some true := by
  have i1 := mn_in l1.length 70 (by decide)
  have i2 := mn_in l2.length 120 (by decide)
  have t1 := take_in l1 70 (by decide)
  have t2 := take_in l2 120 (by decide)
  rw [millwrightlaw19_TraceMore.f, millwrightlaw19_shown.f, Option.bind_some, if_pos i1.1, if_pos i1.2.1, Option.bind_some, if_pos i2.1, if_pos i2.2.1, Option.bind_some]
  generalize l1.take (mn (l1.length : Int) 70).toNat = A at t1
  generalize l2.take (mn (l2.length : Int) 120).toNat = B at t2
  have hA : A.length ≤ 70 := by omega
  have hB : B.length ≤ 120 := by omega
  have hmx : ∀ a b : Int, a ≤ mx a b := fun a b => by unfold mx; split <;> omega
  have hmn : ∀ a b : Int, mn a b ≤ a := fun a b => by unfold mn; split <;> omega
  rw [trace_Audit.f, if_pos ⟨by omega, by omega⟩, Option.bind_some, trace_Audit.f, if_pos ⟨by omega, by omega⟩, Option.bind_some]
  have hp := TrU.more ⟨c0, c1, c2, c3, c4, c5, c6, c7, c8, c9⟩ ⟨mx c0 (wrap64 (c0 + wrap64 a3)), mx c1 (wrap64 (c1 + wrap64 a3)), c2, c3, mx c4 (wrap64 (c4 + wrap64 a3)), mx c5 (wrap64 (c5 + wrap64 a3)), mn c6 (wrap64 (c6 - wrap64 a3)), c7, c8, c9⟩ (A.map trace_Audit.g1) (B.map trace_Audit.g2)
    (hmx _ _) (hmx _ _) (hmx _ _) (hmx _ _) (hmn _ _)
  generalize TrS.audit ⟨c0, c1, c2, c3, c4, c5, c6, c7, c8, c9⟩ (A.map trace_Audit.g1) (B.map trace_Audit.g2) = r at hp
  generalize TrS.audit ⟨mx c0 (wrap64 (c0 + wrap64 a3)), mx c1 (wrap64 (c1 + wrap64 a3)), c2, c3, mx c4 (wrap64 (c4 + wrap64 a3)), mx c5 (wrap64 (c5 + wrap64 a3)), mn c6 (wrap64 (c6 - wrap64 a3)), c7, c8, c9⟩ (A.map trace_Audit.g1) (B.map trace_Audit.g2) = s at hp
  obtain ⟨p1, p2⟩ := hp
  by_cases e1 : r.2 = 0
  · obtain ⟨q1, q2⟩ := p1 e1
    rw [if_pos e1, if_pos rfl, if_pos q1, q2]
    rfl
  · rw [if_neg e1, if_pos rfl]
    rcases p2 with p2 | ⟨p2, p3⟩
    · rw [p2]
      rfl
    · rw [if_neg p2, decide_eq_true p3]
end Go.Proofs.YtckcepmkfegkiaaDoor.Pure
