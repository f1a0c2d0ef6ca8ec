/- The plain law of TraceMemory: what the code computes answers true at every input. No condition. -/
import Derived.Test.YtckcepmkfegkiaaDoorPTraceMemoryx1
import Derived.Test.YtckcepmkfegkiaaDoorTrM
import Derived.Test.YtckcepmkfegkiaaDoorBits
namespace Go.Proofs.YtckcepmkfegkiaaDoor.Pure
open Go.RowKit Go.Proofs.YtckcepmkfegkiaaDoor.PTraceMemory Go.Proofs.YtckcepmkfegkiaaDoorW.PrintWords Go.Proofs.YtckcepmkfegkiaaDoorW.PrintLast TrM
set_option linter.unusedVariables false
set_option linter.unusedSimpArgs false
def tk7 (m : Int) : S50 := ⟨m, 1⟩
def ev8 (i : Nat) : S42 := ⟨1, i, i, 0, 3⟩
theorem mask20 (n : Int) : 0 ≤ bits .and .i64 n 1048575 ∧ bits .and .i64 n 1048575 ≤ 1048576 := by
  have h := Bits.i64_mask 20 (by decide) n
  have e : (2 : Int) ^ 20 - 1 = 1048575 := by decide
  rw [e] at h
  rw [h]
  have e2 : (2 : Int) ^ 20 = 1048576 := by decide
  rw [e2]
  omega
theorem sum_in : ∀ (P : List Int), (∀ m ∈ P, 0 ≤ m ∧ m ≤ 1048576) → 0 ≤ P.sum ∧ P.sum ≤ 1048576 * P.length
  | [], _ => by simp
  | m :: P, h => by
    have h1 := h m (.head _)
    have h2 := sum_in P fun x hx => h x (.tail _ hx)
    rw [List.sum_cons, List.length_cons]
    omega
theorem loop (b : Int) (hb : 0 ≤ b) (l1 : List Int) : ∀ (r : Nat) (P : List Int), P.length + r = min l1.length 16 → (∀ m ∈ P, 0 ≤ m ∧ m ≤ 1048576) →
    millwrightlaw19_TraceMemory.l0 (2 * r + 2) l1 true (P.map tk7) ((List.range P.length).map ev8) P.sum (atF b P 0 0 (-1)) P.length b 16 0 0 1 0 0 0 0 0 = some true
  | 0, P, hr, hP => by
    have hfin : ∀ bb, bb = false → millwrightlaw19_TraceMemory.j1 1 l1 true (P.map tk7) ((List.range P.length).map ev8) P.sum (atF b P 0 0 (-1)) P.length bb b 16 0 0 1 0 0 0 0 0 = some true := by
      intro bb hbb
      subst hbb
      rw [millwrightlaw19_TraceMemory.j1, if_neg (by simp), trace_Audit.f, if_pos ⟨by rw [List.length_map]; omega, by rw [List.length_map, List.length_range]; omega⟩]
      have h1 : (P.map tk7).map trace_Audit.g1 = P.map tkM := by rw [List.map_map]; rfl
      have h2 : ((List.range P.length).map ev8).map trace_Audit.g2 = evs 0 P.length := by
        unfold evs
        rw [List.map_map, ← List.range_eq_range']
        rfl
      rw [h1, h2, audit_mem b hb P (by omega) hP, atF_firstM b P 0 0 (Int.le_refl _), Option.bind_some]
      by_cases ha : atF b P 0 0 (-1) ≥ 0
      · simp [ha]
      · simp [ha]
    rw [millwrightlaw19_TraceMemory.l0]
    by_cases h : (P.length : Int) < (l1.length : Int)
    · rw [if_pos h]
      exact hfin _ (decide_eq_false (by omega))
    · rw [if_neg h]
      exact hfin _ rfl
  | r + 1, P, hr, hP => by
    have h1 : (P.length : Int) < (l1.length : Int) := by omega
    have h2 : (P.length : Int) < 16 := by omega
    have hm := mask20 (rd l1 P.length)
    have hs := sum_in P hP
    have hw : wrap64 (P.sum + bits .and .i64 (rd l1 P.length) 1048575) = P.sum + bits .and .i64 (rd l1 P.length) 1048575 := Bits.wrap64_in (by omega) (by omega)
    have hw2 : wrap64 ((P.length : Int) + 1) = ((P.length + 1 : Nat) : Int) := by rw [Bits.wrap64_in (by omega) (by omega)]; omega
    have ih := loop b hb l1 r (P ++ [bits .and .i64 (rd l1 P.length) 1048575]) (by rw [List.length_append, List.length_singleton]; omega) (fun x hx => by
      rcases List.mem_append.1 hx with hx | hx
      · exact hP x hx
      · rw [List.mem_singleton.1 hx]; exact hm)
    rw [List.length_append, List.length_singleton, List.map_append, List.map_singleton, List.range_succ, List.map_append, List.map_singleton, List.sum_append, atF_app, List.sum_singleton] at ih
    rw [show 2 * (r + 1) + 2 = (2 * r + 2) + 1 + 1 by omega, millwrightlaw19_TraceMemory.l0, if_pos h1, millwrightlaw19_TraceMemory.j1, if_pos (decide_eq_true h2), if_pos (by omega), if_pos h1, if_pos (by rw [List.length_map]; omega), Option.bind_some, if_pos (by rw [List.length_map, List.length_range]; omega), Option.bind_some, hw, hw2]
    simp only [atF, Int.zero_add] at ih
    by_cases ha : atF b P 0 0 (-1) < 0
    · rw [if_pos ha]
      by_cases hc : P.sum + bits .and .i64 (rd l1 P.length) 1048575 > b
      · rw [if_pos hc]
        rw [if_pos ⟨ha, hc⟩] at ih
        exact ih
      · rw [if_neg hc]
        rw [if_neg (fun x => hc x.2)] at ih
        exact ih
    · rw [if_neg ha]
      rw [if_neg (fun x => ha x.1)] at ih
      exact ih
theorem TraceMemory : millwrightlaw19_TraceMemory.Pure := by
  intro a0 l1 _ _ _ _
  refine ⟨2 * (min l1.length 16) + 2, ?_⟩
  rw [millwrightlaw19_TraceMemory.f, millwrightlaw19_shown.f, Option.bind_some]
  exact loop _ (mask20 a0).1 l1 (min l1.length 16) [] (by simp) (fun _ h => by cases h)
end Go.Proofs.YtckcepmkfegkiaaDoor.Pure
