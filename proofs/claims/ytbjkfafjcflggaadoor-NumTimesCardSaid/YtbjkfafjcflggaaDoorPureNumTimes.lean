/- The plain law of NumTimes: what the code computes answers true at every input. No condition. -/
import Derived.Test.YtbjkfafjcflggaaDoorPNumTimesx2
namespace Go.Proofs.YtbjkfafjcflggaaDoor.Pure
open Go.RowKit Go.Proofs.YtbjkfafjcflggaaDoor.PNumTimes Go.Proofs.YtbjkfafjcflggaaDoorW.PrintWords Go.Proofs.YtbjkfafjcflggaaDoorW.PrintLast
set_option linter.unusedVariables false
set_option linter.unusedSimpArgs false
theorem wf_range {a : Int} (h : (Lit.int .i64 a).wf = true) : -9223372036854775808 ≤ a ∧ a ≤ 9223372036854775807 := by
  simp only [Lit.wf, IntKind.min, IntKind.max, IntKind.signed, IntKind.bits, Bool.and_eq_true, decide_eq_true_eq, if_true] at h
  omega
def fitF (x : Int) : Int × Bool := if -9223372036854775808 ≤ x ∧ x ≤ 9223372036854775807 then (x, true) else (0, false)
theorem wrap_in {x : Int} (h : -9223372036854775808 ≤ x ∧ x ≤ 9223372036854775807) : wrap64 x = x := by unfold wrap64; omega
theorem size_eq {a : Int} (ha : -9223372036854775808 ≤ a ∧ a ≤ 9223372036854775807) : num_size.f a = some (if a < 0 then -a else a) := by
  simp only [num_size.f, IntKind.wrap_u64]
  by_cases h : a < 0
  · rw [if_pos h, if_pos h]; congr 1; omega
  · rw [if_neg h, if_neg h]; congr 1; omega
theorem mul_eq {a b : Int} (ha : -9223372036854775808 ≤ a ∧ a ≤ 9223372036854775807) (hb : -9223372036854775808 ≤ b ∧ b ≤ 9223372036854775807) : num_Mul.f a b = some (fitF (a * b)) := by
  simp only [num_Mul.f, size_eq ha, size_eq hb, Option.bind_some, bits_Mul64.f]
  have hx : ∃ x : Int, x = (if a < 0 then -a else a) ∧ 0 ≤ x ∧ x ≤ 9223372036854775808 := ⟨_, rfl, by split <;> omega, by split <;> omega⟩
  have hy : ∃ y : Int, y = (if b < 0 then -b else b) ∧ 0 ≤ y ∧ y ≤ 9223372036854775808 := ⟨_, rfl, by split <;> omega, by split <;> omega⟩
  obtain ⟨x, ex, x0, x1⟩ := hx
  obtain ⟨y, ey, y0, y1⟩ := hy
  rw [← ex, ← ey, if_pos (by omega)]
  simp only [Option.bind_some]
  have hP0 : 0 ≤ x * y := Int.mul_nonneg x0 y0
  have key : (if (decide (a < 0) != decide (b < 0)) = true then a * b = -(x * y) else a * b = x * y) := by
    by_cases h1 : a < 0 <;> by_cases h2 : b < 0 <;> simp only [h1, h2, decide_true, decide_false, if_true, if_false, bne_self_eq_false, Bool.false_eq_true] at ex ey ⊢
    · rw [ex, ey, Int.neg_mul_neg]
    · rw [ex, ey]; show a * b = -(-a * b); rw [Int.neg_mul, Int.neg_neg]
    · rw [ex, ey]; show a * b = -(a * -b); rw [Int.mul_neg, Int.neg_neg]
    · rw [ex, ey]
  generalize x * y = P at *
  by_cases hd : (decide (a < 0) != decide (b < 0)) = true
  · rw [if_pos hd] at key ⊢
    rw [key]
    by_cases h0 : P / 18446744073709551616 = 0
    · rw [if_pos h0]
      by_cases h : P % 18446744073709551616 ≤ 9223372036854775807 + 1
      · rw [wrap_in (by omega), decide_eq_true h]
        unfold fitF; rw [if_pos (by omega)]; rfl
      · rw [decide_eq_false h]
        unfold fitF; rw [if_neg (by omega)]; rfl
    · rw [if_neg h0]
      unfold fitF; rw [if_neg (by omega)]; rfl
  · rw [if_neg hd] at key ⊢
    rw [key]
    by_cases h0 : P / 18446744073709551616 = 0
    · rw [if_pos h0]
      by_cases h : P % 18446744073709551616 ≤ 9223372036854775807
      · rw [wrap_in (by omega), decide_eq_true h]
        unfold fitF; rw [if_pos (by omega)]; rfl
      · rw [decide_eq_false h]
        unfold fitF; rw [if_neg (by omega)]; rfl
    · rw [if_neg h0]
      unfold fitF; rw [if_neg (by omega)]; rfl
theorem shown_eq : millwrightlaw01_shown.f 8 = some true := by decide +kernel
-- WITHOUT SUB ADD
theorem div_lt {n a b : Int} (hb : 0 < b) : n / b < a ↔ n < a * b := Int.ediv_lt_iff_lt_mul hb
theorem div_bd {n b : Int} (hb : 0 < b) (hn : 0 ≤ n) (hm : n ≤ 9223372036854775808) : 0 ≤ n / b ∧ n / b ≤ 9223372036854775808 := by
  have h1 := Int.ediv_nonneg hn (Int.le_of_lt hb)
  have h2 := Int.ediv_le_self b hn
  omega
theorem div_bd2 {n b : Int} (hb : 0 < b) (hn : 0 ≤ n) : 0 ≤ n / b ∧ n / b ≤ n := ⟨Int.ediv_nonneg hn (Int.le_of_lt hb), Int.ediv_le_self b hn⟩
theorem most_div {b : Int} (hb : 0 < b) : wrap64 (Int.tdiv 9223372036854775807 b) = 9223372036854775807 / b := by
  rw [Int.tdiv_eq_ediv_of_nonneg (by decide)]
  have := div_bd2 hb (show (0 : Int) ≤ 9223372036854775807 by decide)
  unfold wrap64; omega
theorem least_div {b : Int} (hb : 0 < b) : wrap64 (Int.tdiv (-9223372036854775808) b) = -(9223372036854775808 / b) := by
  rw [Int.neg_tdiv, Int.tdiv_eq_ediv_of_nonneg (by decide)]
  have := div_bd hb (show (0 : Int) ≤ 9223372036854775808 by decide) (by decide)
  unfold wrap64; omega
theorem rmul_eq {a b : Int} (ha : -9223372036854775808 ≤ a ∧ a ≤ 9223372036854775807) (hb : -9223372036854775808 ≤ b ∧ b ≤ 9223372036854775807) : millwrightref01_Mul.f 8 a b = some (fitF (a * b)) := by
  by_cases za : a = 0
  · subst za
    rw [Int.zero_mul]; rfl
  by_cases zb : b = 0
  · subst zb
    rw [Int.mul_zero]
    unfold millwrightref01_Mul.f
    rw [if_neg za]; rfl
  unfold millwrightref01_Mul.f
  rw [if_neg za, beq_eq_false_iff_ne.mpr zb]
  rcases Int.lt_or_gt_of_ne za with la | la
  · rcases Int.lt_or_gt_of_ne zb with lb | lb
    · -- both below 0
      have e0 : millwrightref01_Mul.j0 8 a b false = millwrightref01_Mul.j1 7 a b false := by
        rw [millwrightref01_Mul.j0, if_neg (by decide), if_neg (by omega), if_pos la, if_neg (by omega)]
      rw [e0, millwrightref01_Mul.j1, if_neg (by decide), if_pos la, if_pos lb]
      simp only [millwrightref01_Least.f, millwrightref01_Most.f, Option.bind_some]
      have hp : a * b = -a * -b := (Int.neg_mul_neg a b).symm
      by_cases m1 : a = -9223372036854775808
      · rw [if_pos m1]
        have := Int.mul_le_mul_of_nonneg_left (show (1 : Int) ≤ -b by omega) (show 0 ≤ -a by omega)
        unfold fitF; rw [if_neg (by omega)]
      · rw [if_neg m1]
        by_cases m2 : b = -9223372036854775808
        · rw [if_pos m2]
          have := Int.mul_le_mul_of_nonneg_right (show (1 : Int) ≤ -a by omega) (show 0 ≤ -b by omega)
          unfold fitF; rw [if_neg (by omega)]
        · rw [if_neg m2]
          have w1 : wrap64 (-b) = -b := by unfold wrap64; omega
          have w2 : wrap64 (-a) = -a := by unfold wrap64; omega
          rw [w1, w2, most_div (by omega), if_neg (by omega)]
          have hd := div_lt (n := 9223372036854775807) (a := -a) (b := -b) (by omega)
          have h0 := Int.mul_pos (show 0 < -a by omega) (show 0 < -b by omega)
          rw [hp]
          generalize -a * -b = P at *
          by_cases m3 : -a > 9223372036854775807 / -b
          · rw [if_pos m3]
            have := hd.1 m3
            unfold fitF; rw [if_neg (by omega)]
          · rw [if_neg m3]
            have : ¬ 9223372036854775807 < P := fun h => m3 (hd.2 h)
            rw [wrap_in (by omega)]
            unfold fitF; rw [if_pos (by omega)]
    · -- a below, b above
      have e0 : millwrightref01_Mul.j0 8 a b false = millwrightref01_Mul.j1 7 a b (decide (a < wrap64 (Int.tdiv (-9223372036854775808) b))) := by
        rw [millwrightref01_Mul.j0, if_neg (by decide), if_neg (by omega), if_pos la, if_pos lb]
        simp only [millwrightref01_Least.f, Option.bind_some]
        rw [if_neg zb]
      rw [e0, least_div lb, millwrightref01_Mul.j1]
      have hd := div_lt (n := 9223372036854775808) (a := -a) (b := b) lb
      have hp : a * b = -(-a * b) := by rw [Int.neg_mul, Int.neg_neg]
      have h0 := Int.mul_pos (show 0 < -a by omega) lb
      rw [hp]
      generalize -a * b = P at *
      by_cases m3 : a < -(9223372036854775808 / b)
      · rw [if_pos (decide_eq_true m3)]
        have := hd.1 (by omega)
        unfold fitF; rw [if_neg (by omega)]
      · rw [if_neg (by rw [decide_eq_false m3]; decide), if_pos la, if_neg (by omega)]
        have : ¬ 9223372036854775808 < P := fun h => m3 (by have := hd.2 h; omega)
        rw [wrap_in (by omega)]
        unfold fitF; rw [if_pos (by omega)]
  · rcases Int.lt_or_gt_of_ne zb with lb | lb
    · -- a above, b below
      have hd := div_lt (n := 9223372036854775808) (a := -b) (b := a) la
      have hp : a * b = -(-b * a) := by rw [Int.neg_mul, Int.neg_neg, Int.mul_comm]
      have h0 := Int.mul_pos (show 0 < -b by omega) la
      have e0 : millwrightref01_Mul.j0 8 a b false = millwrightref01_Mul.j1 7 a b (decide (b < -(9223372036854775808 / a))) := by
        rw [millwrightref01_Mul.j0, if_neg (by decide), if_pos la, if_neg (by omega), if_pos lb]
        simp only [millwrightref01_Least.f, Option.bind_some]
        rw [if_neg za, least_div la]
        by_cases m : b < -(9223372036854775808 / a)
        · rw [if_pos m, decide_eq_true m]
        · rw [if_neg m, decide_eq_false m, if_neg (by omega)]
      rw [e0, millwrightref01_Mul.j1, hp]
      generalize -b * a = P at *
      by_cases m3 : b < -(9223372036854775808 / a)
      · rw [if_pos (decide_eq_true m3)]
        have := hd.1 (by omega)
        unfold fitF; rw [if_neg (by omega)]
      · rw [if_neg (by rw [decide_eq_false m3]; decide), if_neg (by omega)]
        have : ¬ 9223372036854775808 < P := fun h => m3 (by have := hd.2 h; omega)
        rw [wrap_in (by omega)]
        unfold fitF; rw [if_pos (by omega)]
    · -- both above
      have hd := div_lt (n := 9223372036854775807) (a := a) (b := b) lb
      have h0 := Int.mul_pos la lb
      have e0 : millwrightref01_Mul.j0 8 a b false = millwrightref01_Mul.j1 7 a b (decide (9223372036854775807 / b < a)) := by
        rw [millwrightref01_Mul.j0, if_neg (by decide), if_pos la, if_pos lb]
        simp only [millwrightref01_Most.f, Option.bind_some]
        rw [if_neg zb, most_div lb]
        by_cases m : a > 9223372036854775807 / b
        · rw [if_pos m, decide_eq_true (show 9223372036854775807 / b < a from m)]
        · rw [if_neg m, if_neg (by omega), if_neg (by omega), decide_eq_false (show ¬ 9223372036854775807 / b < a from m)]
      rw [e0, millwrightref01_Mul.j1]
      generalize a * b = P at *
      by_cases m3 : 9223372036854775807 / b < a
      · rw [if_pos (decide_eq_true m3)]
        have := hd.1 m3
        unfold fitF; rw [if_neg (by omega)]
      · rw [if_neg (by rw [decide_eq_false m3]; decide), if_neg (by omega)]
        have : ¬ 9223372036854775807 < P := fun h => m3 (hd.2 h)
        rw [wrap_in (by omega)]
        unfold fitF; rw [if_pos (by omega)]
theorem NumTimes : millwrightlaw01_NumTimes.Pure := by
  intro a b ha hb
  replace ha := wf_range ha
  replace hb := wf_range hb
  refine ⟨8, ?_⟩
  simp only [millwrightlaw01_NumTimes.f, shown_eq, mul_eq ha hb, mul_eq hb ha, rmul_eq ha hb, Int.mul_comm b a, Option.bind_some, if_true, beq_self_eq_true]
end Go.Proofs.YtbjkfafjcflggaaDoor.Pure
