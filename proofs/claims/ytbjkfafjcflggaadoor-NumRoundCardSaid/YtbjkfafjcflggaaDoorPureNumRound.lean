/- The plain law of NumRound: what the code computes answers true at every input. No condition. -/
--  of NumRound: what the code computes answers true at every input. No condition. -/
import Derived.Test.YtbjkfafjcflggaaDoorPNumRoundx1
namespace Go.Proofs.YtbjkfafjcflggaaDoor.Pure
open Go.RowKit Go.Proofs.YtbjkfafjcflggaaDoor.PNumRound Go.Proofs.YtbjkfafjcflggaaDoorW.PrintWords Go.Proofs.YtbjkfafjcflggaaDoorW.PrintLast
set_option linter.unusedVariables false
set_option linter.unusedSimpArgs false
theorem wf_range {a : Int} (h : (Lit.int .i64 a).wf = true) : -9223372036854775808 ≤ a ∧ a ≤ 9223372036854775807 := by
  simp only [Lit.wf, IntKind.min, IntKind.max, IntKind.signed, IntKind.bits, Bool.and_eq_true, decide_eq_true_eq, if_true] at h
  omega
def fitF (x : Int) : Int × Bool := if -9223372036854775808 ≤ x ∧ x ≤ 9223372036854775807 then (x, true) else (0, false)
theorem wrap_in {x : Int} (h : -9223372036854775808 ≤ x ∧ x ≤ 9223372036854775807) : wrap64 x = x := by unfold wrap64; omega
theorem add_eq {a b : Int} (ha : -9223372036854775808 ≤ a ∧ a ≤ 9223372036854775807) (hb : -9223372036854775808 ≤ b ∧ b ≤ 9223372036854775807) : num_Add.f a b = some (fitF (a + b)) := by
  simp only [num_Add.f, num_told.f, fitF]
  by_cases h : -9223372036854775808 ≤ a + b ∧ a + b ≤ 9223372036854775807
  · rw [wrap_in h, if_pos h]
    have e : (decide (a + b < a) == decide (b < 0)) = true := by rw [beq_iff_eq]; exact decide_eq_decide.mpr (by omega)
    rw [if_pos e]; rfl
  · have e : (decide (wrap64 (a + b) < a) == decide (b < 0)) = false := by
      rw [beq_eq_false_iff_ne]; intro e; have e2 := decide_eq_decide.mp e; unfold wrap64 at e2; omega
    rw [if_neg h, if_neg (by rw [e]; decide)]; rfl
theorem sub_eq {a b : Int} (ha : -9223372036854775808 ≤ a ∧ a ≤ 9223372036854775807) (hb : -9223372036854775808 ≤ b ∧ b ≤ 9223372036854775807) : num_Sub.f a b = some (fitF (a - b)) := by
  simp only [num_Sub.f, num_told.f, fitF]
  by_cases h : -9223372036854775808 ≤ a - b ∧ a - b ≤ 9223372036854775807
  · rw [wrap_in h, if_pos h]
    have e : (decide (a - b > a) == decide (b < 0)) = true := by rw [beq_iff_eq]; exact decide_eq_decide.mpr (by omega)
    rw [if_pos e]; rfl
  · have e : (decide (wrap64 (a - b) > a) == decide (b < 0)) = false := by
      rw [beq_eq_false_iff_ne]; intro e; have e2 := decide_eq_decide.mp e; unfold wrap64 at e2; omega
    rw [if_neg h, if_neg (by rw [e]; decide)]; rfl
theorem size_eq {a : Int} (ha : -9223372036854775808 ≤ a ∧ a ≤ 9223372036854775807) : num_size.f a = some (if a < 0 then -a else a) := by
  simp only [num_size.f, IntKind.wrap_u64]
  by_cases h : a < 0
  · rw [if_pos h, if_pos h]; congr 1; omega
  · rw [if_neg h, if_neg h]; congr 1; omega
theorem mul_eq {a b : Int} (ha : -9223372036854775808 ≤ a ∧ a ≤ 9223372036854775807) (hb : -9223372036854775808 ≤ b ∧ b ≤ 9223372036854775807) : num_Mul.f a b = some (fitF (a * b)) := by
  simp only [num_Mul.f, size_eq ha, size_eq hb, Option.bind_some, bits_Mul64.f]
  have hx : ∃ x : Int, x = (if a < 0 then -a else a) ∧ 0 ≤ x ∧ x ≤ 9223372036854775808 := ⟨_, rfl, by split <;> omega, by split <;> omega⟩
  have hy : ∃ y : Int, y = (if b < 0 then -b else b) ∧ 0 ≤ y ∧ y ≤ 9223372036854775808 := ⟨_, rfl, by split <;> omega, by split <;> omega⟩
  obtain ⟨x, ex, x0, x1⟩ := hx
  obtain ⟨y, ey, y0, y1⟩ := hy
  rw [← ex, ← ey, if_pos (by omega)]
  simp only [Option.bind_some]
  have hP0 : 0 ≤ x * y := Int.mul_nonneg x0 y0
  have key : (if (decide (a < 0) != decide (b < 0)) = true then a * b = -(x * y) else a * b = x * y) := by
    by_cases h1 : a < 0 <;> by_cases h2 : b < 0 <;> simp only [h1, h2, decide_true, decide_false, if_true, if_false, bne_self_eq_false, Bool.false_eq_true] at ex ey ⊢
    · rw [ex, ey, Int.neg_mul_neg]
    · rw [ex, ey]; show a * b = -(-a * b); rw [Int.neg_mul, Int.neg_neg]
    · rw [ex, ey]; show a * b = -(a * -b); rw [Int.mul_neg, Int.neg_neg]
    · rw [ex, ey]
  generalize x * y = P at *
  by_cases hd : (decide (a < 0) != decide (b < 0)) = true
  · rw [if_pos hd] at key ⊢
    rw [key]
    by_cases h0 : P / 18446744073709551616 = 0
    · rw [if_pos h0]
      by_cases h : P % 18446744073709551616 ≤ 9223372036854775807 + 1
      · rw [wrap_in (by omega), decide_eq_true h]
        unfold fitF; rw [if_pos (by omega)]; rfl
      · rw [decide_eq_false h]
        unfold fitF; rw [if_neg (by omega)]; rfl
    · rw [if_neg h0]
      unfold fitF; rw [if_neg (by omega)]; rfl
  · rw [if_neg hd] at key ⊢
    rw [key]
    by_cases h0 : P / 18446744073709551616 = 0
    · rw [if_pos h0]
      by_cases h : P % 18446744073709551616 ≤ 9223372036854775807
      · rw [wrap_in (by omega), decide_eq_true h]
        unfold fitF; rw [if_pos (by omega)]; rfl
      · rw [decide_eq_false h]
        unfold fitF; rw [if_neg (by omega)]; rfl
    · rw [if_neg h0]
      unfold fitF; rw [if_neg (by omega)]; rfl
theorem shown_eq : millwrightlaw01_shown.f 8 = some true := by decide +kernel
theorem j0_eq {a : Int} (ha : -9223372036854775808 ≤ a ∧ a ≤ 9223372036854775807) (k : Nat) : millwrightlaw01_NumRound.j0 (k + 1) a true = some true := by
  simp only [millwrightlaw01_NumRound.j0, mul_eq ha (show (-9223372036854775808 : Int) ≤ 1 ∧ (1 : Int) ≤ 9223372036854775807 by decide), mul_eq ha (show (-9223372036854775808 : Int) ≤ 0 ∧ (0 : Int) ≤ 9223372036854775807 by decide),
    mul_eq ha (show (-9223372036854775808 : Int) ≤ -1 ∧ (-1 : Int) ≤ 9223372036854775807 by decide), sub_eq (show (-9223372036854775808 : Int) ≤ 0 ∧ (0 : Int) ≤ 9223372036854775807 by decide) ha, Option.bind_some, Int.mul_one, Int.mul_zero]
  rw [show a * -1 = 0 - a by omega]
  have e1 : fitF a = (a, true) := by unfold fitF; rw [if_pos ha]
  have e2 : fitF 0 = (0, true) := by decide
  simp only [e1, e2, if_true, beq_self_eq_true]
theorem NumRound : millwrightlaw01_NumRound.Pure := by
  intro a b ha hb
  replace ha := wf_range ha
  replace hb := wf_range hb
  refine ⟨8, ?_⟩
  simp only [millwrightlaw01_NumRound.f, shown_eq, add_eq ha hb, Option.bind_some]
  by_cases h1 : -9223372036854775808 ≤ a + b ∧ a + b ≤ 9223372036854775807
  · have e : fitF (a + b) = (a + b, true) := by unfold fitF; rw [if_pos h1]
    rw [e]
    simp only [sub_eq h1 hb, sub_eq h1 ha, Option.bind_some, if_true]
    rw [show a + b - b = a by omega, show a + b - a = b by omega]
    have e1 : fitF a = (a, true) := by unfold fitF; rw [if_pos ha]
    have e2 : fitF b = (b, true) := by unfold fitF; rw [if_pos hb]
    simp only [e1, e2, if_true]
    exact j0_eq ha 7
  · have e : fitF (a + b) = (0, false) := by unfold fitF; rw [if_neg h1]
    rw [e]
    simp only [Bool.false_eq_true, if_false]
    exact j0_eq ha 7
end Go.Proofs.YtbjkfafjcflggaaDoor.Pure
