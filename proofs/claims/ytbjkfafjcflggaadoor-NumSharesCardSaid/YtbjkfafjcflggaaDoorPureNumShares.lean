/- The plain law of NumShares: what the code computes answers true at every input. No condition. -/
--  of NumShares: what the code computes answers true at every input. No condition. -/
import Derived.Test.YtbjkfafjcflggaaDoorPNumSharesx1
namespace Go.Proofs.YtbjkfafjcflggaaDoor.Pure
open Go.RowKit Go.Proofs.YtbjkfafjcflggaaDoor.PNumShares Go.Proofs.YtbjkfafjcflggaaDoorW.PrintWords Go.Proofs.YtbjkfafjcflggaaDoorW.PrintLast
set_option linter.unusedVariables false
set_option linter.unusedSimpArgs false
theorem wf_range {a : Int} (h : (Lit.int .i64 a).wf = true) : -9223372036854775808 ≤ a ∧ a ≤ 9223372036854775807 := by
  simp only [Lit.wf, IntKind.min, IntKind.max, IntKind.signed, IntKind.bits, Bool.and_eq_true, decide_eq_true_eq, if_true] at h
  omega
def fitF (x : Int) : Int × Bool := if -9223372036854775808 ≤ x ∧ x ≤ 9223372036854775807 then (x, true) else (0, false)
theorem wrap_in {x : Int} (h : -9223372036854775808 ≤ x ∧ x ≤ 9223372036854775807) : wrap64 x = x := by unfold wrap64; omega
theorem add_eq {a b : Int} (ha : -9223372036854775808 ≤ a ∧ a ≤ 9223372036854775807) (hb : -9223372036854775808 ≤ b ∧ b ≤ 9223372036854775807) : num_Add.f a b = some (fitF (a + b)) := by
  simp only [num_Add.f, num_told.f, fitF]
  by_cases h : -9223372036854775808 ≤ a + b ∧ a + b ≤ 9223372036854775807
  · rw [wrap_in h, if_pos h]
    have e : (decide (a + b < a) == decide (b < 0)) = true := by rw [beq_iff_eq]; exact decide_eq_decide.mpr (by omega)
    rw [if_pos e]; rfl
  · have e : (decide (wrap64 (a + b) < a) == decide (b < 0)) = false := by
      rw [beq_eq_false_iff_ne]; intro e; have e2 := decide_eq_decide.mp e; unfold wrap64 at e2; omega
    rw [if_neg h, if_neg (by rw [e]; decide)]; rfl
theorem size_eq {a : Int} (ha : -9223372036854775808 ≤ a ∧ a ≤ 9223372036854775807) : num_size.f a = some (if a < 0 then -a else a) := by
  simp only [num_size.f, IntKind.wrap_u64]
  by_cases h : a < 0
  · rw [if_pos h, if_pos h]; congr 1; omega
  · rw [if_neg h, if_neg h]; congr 1; omega
theorem mul_eq {a b : Int} (ha : -9223372036854775808 ≤ a ∧ a ≤ 9223372036854775807) (hb : -9223372036854775808 ≤ b ∧ b ≤ 9223372036854775807) : num_Mul.f a b = some (fitF (a * b)) := by
  simp only [num_Mul.f, size_eq ha, size_eq hb, Option.bind_some, bits_Mul64.f]
  have hx : ∃ x : Int, x = (if a < 0 then -a else a) ∧ 0 ≤ x ∧ x ≤ 9223372036854775808 := ⟨_, rfl, by split <;> omega, by split <;> omega⟩
  have hy : ∃ y : Int, y = (if b < 0 then -b else b) ∧ 0 ≤ y ∧ y ≤ 9223372036854775808 := ⟨_, rfl, by split <;> omega, by split <;> omega⟩
  obtain ⟨x, ex, x0, x1⟩ := hx
  obtain ⟨y, ey, y0, y1⟩ := hy
  rw [← ex, ← ey, if_pos (by omega)]
  simp only [Option.bind_some]
  have hP0 : 0 ≤ x * y := Int.mul_nonneg x0 y0
  have key : (if (decide (a < 0) != decide (b < 0)) = true then a * b = -(x * y) else a * b = x * y) := by
    by_cases h1 : a < 0 <;> by_cases h2 : b < 0 <;> simp only [h1, h2, decide_true, decide_false, if_true, if_false, bne_self_eq_false, Bool.false_eq_true] at ex ey ⊢
    · rw [ex, ey, Int.neg_mul_neg]
    · rw [ex, ey]; show a * b = -(-a * b); rw [Int.neg_mul, Int.neg_neg]
    · rw [ex, ey]; show a * b = -(a * -b); rw [Int.mul_neg, Int.neg_neg]
    · rw [ex, ey]
  generalize x * y = P at *
  by_cases hd : (decide (a < 0) != decide (b < 0)) = true
  · rw [if_pos hd] at key ⊢
    rw [key]
    by_cases h0 : P / 18446744073709551616 = 0
    · rw [if_pos h0]
      by_cases h : P % 18446744073709551616 ≤ 9223372036854775807 + 1
      · rw [wrap_in (by omega), decide_eq_true h]
        unfold fitF; rw [if_pos (by omega)]; rfl
      · rw [decide_eq_false h]
        unfold fitF; rw [if_neg (by omega)]; rfl
    · rw [if_neg h0]
      unfold fitF; rw [if_neg (by omega)]; rfl
  · rw [if_neg hd] at key ⊢
    rw [key]
    by_cases h0 : P / 18446744073709551616 = 0
    · rw [if_pos h0]
      by_cases h : P % 18446744073709551616 ≤ 9223372036854775807
      · rw [wrap_in (by omega), decide_eq_true h]
        unfold fitF; rw [if_pos (by omega)]; rfl
      · rw [decide_eq_false h]
        unfold fitF; rw [if_neg (by omega)]; rfl
    · rw [if_neg h0]
      unfold fitF; rw [if_neg (by omega)]; rfl
theorem shown_eq : millwrightlaw01_shown.f 8 = some true := by decide +kernel
-- WITHOUT SUB
theorem small (a : Int) : -1073741824 < Int.tmod a 1073741824 ∧ Int.tmod a 1073741824 < 1073741824 := by
  rw [Int.tmod_eq_emod]
  split <;> omega
theorem mul_small {x y : Int} (hx : x.natAbs ≤ 2147483648) (hy : y.natAbs ≤ 1073741824) : -9223372036854775808 / 4 ≤ x * y ∧ x * y ≤ 9223372036854775807 / 2 := by
  have h := Nat.mul_le_mul hx hy
  rw [← Int.natAbs_mul] at h
  omega
theorem NumShares : millwrightlaw01_NumShares.Pure := by
  intro a b c _ _ _
  refine ⟨8, ?_⟩
  have ha := small a
  have hb := small b
  have hc := small c
  unfold millwrightlaw01_NumShares.f
  generalize Int.tmod a 1073741824 = x at *
  generalize Int.tmod b 1073741824 = y at *
  generalize Int.tmod c 1073741824 = z at *
  have hx : -9223372036854775808 ≤ x ∧ x ≤ 9223372036854775807 := by omega
  have hy : -9223372036854775808 ≤ y ∧ y ≤ 9223372036854775807 := by omega
  have hz : -9223372036854775808 ≤ z ∧ z ≤ 9223372036854775807 := by omega
  have hxy : -9223372036854775808 ≤ x + y ∧ x + y ≤ 9223372036854775807 := by omega
  have m1 := mul_small (x := x) (y := z) (by omega) (by omega)
  have m2 := mul_small (x := y) (y := z) (by omega) (by omega)
  have m3 := mul_small (x := x + y) (y := z) (by omega) (by omega)
  have e1 : fitF (x + y) = (x + y, true) := by unfold fitF; rw [if_pos hxy]
  have e2 : fitF (x * z) = (x * z, true) := by unfold fitF; rw [if_pos (by omega)]
  have e3 : fitF (y * z) = (y * z, true) := by unfold fitF; rw [if_pos (by omega)]
  have e4 : fitF ((x + y) * z) = ((x + y) * z, true) := by unfold fitF; rw [if_pos (by omega)]
  have hd : (x + y) * z = x * z + y * z := Int.add_mul x y z
  have e5 : fitF (x * z + y * z) = (x * z + y * z, true) := by unfold fitF; rw [if_pos (by omega)]
  simp only [shown_eq, add_eq hx hy, e1, mul_eq hxy hz, e4, mul_eq hx hz, e2, mul_eq hy hz, e3, Option.bind_some]
  rw [add_eq (by omega) (by omega), e5]
  simp only [Option.bind_some, if_true, hd, beq_self_eq_true]
end Go.Proofs.YtbjkfafjcflggaaDoor.Pure
