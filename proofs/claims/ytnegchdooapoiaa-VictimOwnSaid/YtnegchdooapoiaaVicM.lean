/- Lemmas for the walks. No condition. -/
import Derived.Test.YtnegchdooapoiaaVicMA
import Derived.Test.YtnegchdooapoiaaVicMB
import Derived.Test.YtnegchdooapoiaaVicMC
namespace Go.Proofs.Ytnegchdooapoiaa.PVic
open Go.RowKit Go.Proofs.YtnegchdooapoiaaW.PrintWords Go.Proofs.YtnegchdooapoiaaW.PrintLast Go.Proofs.YtnegchdooapoiaaW.PrintMore
attribute [local go_sem] max2_int min2_int max_two min_two max_three min_three max_four min_four   -- for this text's walks alone
set_option linter.unusedVariables false
set_option linter.unusedSimpArgs false
set_option maxHeartbeats 8000000 in
set_option maxRecDepth 100000 in
theorem victim_Run_27.calls (k : Nat) : ∀ (P0_ : Nat → Prop) (u9000_ : Value) (l0 : List (S27)) (a1 : Int) (a2 : Int) (a3 : Int) (a4 : Bool) (r : List (S27)) (w0 w : World) (hB : Below w0.heap.size w0 w) (ho0 : Kd.R k27 27 w w0.heap.size P0_ u9000_ l0) (h : victim_Run_27.f k l0 a1 a2 a3 a4 = some r),
    Calls Try.prog 27 #[u9000_, .int .i64 a1, .int .i64 a2, .int .i64 a3, .func (.func 18) #[] #[]] w fun e w' => e = .returned (.tuple #[]) ∧ Kd.R k27 27 w' w0.heap.size (fun k_ => (P0_ k_ ∨ w.heap.size ≤ k_)) u9000_ r ∧ Below w0.heap.size w0 w' ∧ Kept w w' (fun k_ => P0_ k_) := by
  induction k using Nat.strongRecOn with
  | _ k ih =>
  intro P0_ u9000_ l0 a1 a2 a3 a4 r w0 w hB ho0 h
  cases k with
  | zero => exact absurd h (by simp [victim_Run_27.f])
  | succ k =>
  simp only [victim_Run_27.f] at h
  have H : (if (wrap64 (a2 - a1)) = 1 then (victim_Run_27.l0 k l0 a1 a2 a3) else (if (wrap64 (a3 - a2)) = 1 then (victim_Run_27.l2 k l0 a2 a1 a2) else (if a2 > (wrap64 ((IntKind.u64.wrap (wrap64 (a1 + a3))) / 2)) then (victim_Run_27.j4 k l0 a1 a2 a3 a4 (wrap64 ((IntKind.u64.wrap (wrap64 (a1 + a3))) / 2)) (wrap64 ((wrap64 ((IntKind.u64.wrap (wrap64 (a1 + a3))) / 2)) + a2)) (wrap64 ((wrap64 ((wrap64 ((IntKind.u64.wrap (wrap64 (a1 + a3))) / 2)) + a2)) - a3)) (wrap64 ((IntKind.u64.wrap (wrap64 (a1 + a3))) / 2))) else (victim_Run_27.j4 k l0 a1 a2 a3 a4 (wrap64 ((IntKind.u64.wrap (wrap64 (a1 + a3))) / 2)) (wrap64 ((wrap64 ((IntKind.u64.wrap (wrap64 (a1 + a3))) / 2)) + a2)) a1 a2)))) = some r := h
  by_cases c6 : (wrap64 (a2 - a1)) = 1
  · rw [if_pos c6] at H
    exact victim_Run_27.calls_A k ih P0_ u9000_ l0 a1 a2 a3 a4 r w0 w hB ho0 c6 H
  · rw [if_neg c6] at H
    by_cases c33 : (wrap64 (a3 - a2)) = 1
    · rw [if_pos c33] at H
      exact victim_Run_27.calls_B k ih P0_ u9000_ l0 a1 a2 a3 a4 r w0 w hB ho0 c6 c33 H
    · rw [if_neg c33] at H
      exact victim_Run_27.calls_C k ih P0_ u9000_ l0 a1 a2 a3 a4 r w0 w hB ho0 c6 c33 H
end Go.Proofs.Ytnegchdooapoiaa.PVic
