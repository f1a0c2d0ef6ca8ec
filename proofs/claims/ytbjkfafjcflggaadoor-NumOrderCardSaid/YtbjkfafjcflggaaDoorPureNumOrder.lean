/- The plain law of NumOrder: what the code computes answers true at every input. No condition. -/
import Derived.Test.YtbjkfafjcflggaaDoorPNumOrderx1
namespace Go.Proofs.YtbjkfafjcflggaaDoor.Pure
open Go.RowKit Go.Proofs.YtbjkfafjcflggaaDoor.PNumOrder Go.Proofs.YtbjkfafjcflggaaDoorW.PrintWords Go.Proofs.YtbjkfafjcflggaaDoorW.PrintLast
set_option linter.unusedVariables false
set_option linter.unusedSimpArgs false
theorem wf_range {a : Int} (h : (Lit.int .i64 a).wf = true) : -9223372036854775808 ≤ a ∧ a ≤ 9223372036854775807 := by
  simp only [Lit.wf, IntKind.min, IntKind.max, IntKind.signed, IntKind.bits, Bool.and_eq_true, decide_eq_true_eq, if_true] at h
  omega
def fitF (x : Int) : Int × Bool := if -9223372036854775808 ≤ x ∧ x ≤ 9223372036854775807 then (x, true) else (0, false)
theorem wrap_in {x : Int} (h : -9223372036854775808 ≤ x ∧ x ≤ 9223372036854775807) : wrap64 x = x := by unfold wrap64; omega
theorem add_eq {a b : Int} (ha : -9223372036854775808 ≤ a ∧ a ≤ 9223372036854775807) (hb : -9223372036854775808 ≤ b ∧ b ≤ 9223372036854775807) : num_Add.f a b = some (fitF (a + b)) := by
  simp only [num_Add.f, num_told.f, fitF]
  by_cases h : -9223372036854775808 ≤ a + b ∧ a + b ≤ 9223372036854775807
  · rw [wrap_in h, if_pos h]
    have e : (decide (a + b < a) == decide (b < 0)) = true := by rw [beq_iff_eq]; exact decide_eq_decide.mpr (by omega)
    rw [if_pos e]; rfl
  · have e : (decide (wrap64 (a + b) < a) == decide (b < 0)) = false := by
      rw [beq_eq_false_iff_ne]; intro e; have e2 := decide_eq_decide.mp e; unfold wrap64 at e2; omega
    rw [if_neg h, if_neg (by rw [e]; decide)]; rfl
theorem sub_eq {a b : Int} (ha : -9223372036854775808 ≤ a ∧ a ≤ 9223372036854775807) (hb : -9223372036854775808 ≤ b ∧ b ≤ 9223372036854775807) : num_Sub.f a b = some (fitF (a - b)) := by
  simp only [num_Sub.f, num_told.f, fitF]
  by_cases h : -9223372036854775808 ≤ a - b ∧ a - b ≤ 9223372036854775807
  · rw [wrap_in h, if_pos h]
    have e : (decide (a - b > a) == decide (b < 0)) = true := by rw [beq_iff_eq]; exact decide_eq_decide.mpr (by omega)
    rw [if_pos e]; rfl
  · have e : (decide (wrap64 (a - b) > a) == decide (b < 0)) = false := by
      rw [beq_eq_false_iff_ne]; intro e; have e2 := decide_eq_decide.mp e; unfold wrap64 at e2; omega
    rw [if_neg h, if_neg (by rw [e]; decide)]; rfl
theorem shown_eq : millwrightlaw01_shown.f 8 = some true := by decide +kernel
-- WITHOUT MUL
theorem j1_eq {a b c : Int} (ha : -9223372036854775808 ≤ a ∧ a ≤ 9223372036854775807) (hb : -9223372036854775808 ≤ b ∧ b ≤ 9223372036854775807) (hc : -9223372036854775808 ≤ c ∧ c ≤ 9223372036854775807) (k : Nat) :
    millwrightlaw01_NumOrder.j1 (k + 1) a b c true false = some true := by
  simp only [millwrightlaw01_NumOrder.j1, Bool.false_eq_true, if_false, sub_eq hc ha, sub_eq hc hb, Option.bind_some, if_true, fitF]
  by_cases h1 : -9223372036854775808 ≤ c - a ∧ c - a ≤ 9223372036854775807
  · rw [if_pos h1]
    by_cases h2 : -9223372036854775808 ≤ c - b ∧ c - b ≤ 9223372036854775807
    · rw [if_pos h2]
      show some (decide (a < b) == decide (c - a > c - b)) = some true
      rw [show (decide (a < b) == decide (c - a > c - b)) = true from by rw [beq_iff_eq]; exact decide_eq_decide.mpr (by omega)]
    · rw [if_neg h2]; rfl
  · rw [if_neg h1]; rfl
theorem j0_eq {a b c : Int} (ha : -9223372036854775808 ≤ a ∧ a ≤ 9223372036854775807) (hb : -9223372036854775808 ≤ b ∧ b ≤ 9223372036854775807) (hc : -9223372036854775808 ≤ c ∧ c ≤ 9223372036854775807) (k : Nat) :
    millwrightlaw01_NumOrder.j0 (k + 2) a b c true false = some true := by
  simp only [millwrightlaw01_NumOrder.j0, Bool.false_eq_true, if_false, sub_eq ha hc, sub_eq hb hc, Option.bind_some, fitF]
  by_cases h1 : -9223372036854775808 ≤ a - c ∧ a - c ≤ 9223372036854775807
  · rw [if_pos h1]
    by_cases h2 : -9223372036854775808 ≤ b - c ∧ b - c ≤ 9223372036854775807
    · rw [if_pos h2]
      show millwrightlaw01_NumOrder.j1 (k + 1) a b c true (decide (a < b) != decide (a - c < b - c)) = some true
      rw [show (decide (a < b) != decide (a - c < b - c)) = false from by rw [bne_eq_false_iff_eq]; exact decide_eq_decide.mpr (by omega)]
      exact j1_eq ha hb hc k
    · rw [if_neg h2]; exact j1_eq ha hb hc k
  · rw [if_neg h1]; exact j1_eq ha hb hc k
theorem NumOrder : millwrightlaw01_NumOrder.Pure := by
  intro a b c ha hb hc
  replace ha := wf_range ha
  replace hb := wf_range hb
  replace hc := wf_range hc
  refine ⟨8, ?_⟩
  simp only [millwrightlaw01_NumOrder.f, shown_eq, add_eq ha hc, add_eq hb hc, Option.bind_some, fitF]
  by_cases h1 : -9223372036854775808 ≤ a + c ∧ a + c ≤ 9223372036854775807
  · rw [if_pos h1]
    by_cases h2 : -9223372036854775808 ≤ b + c ∧ b + c ≤ 9223372036854775807
    · rw [if_pos h2]
      show millwrightlaw01_NumOrder.j0 8 a b c true (decide (a < b) != decide (a + c < b + c)) = some true
      rw [show (decide (a < b) != decide (a + c < b + c)) = false from by rw [bne_eq_false_iff_eq]; exact decide_eq_decide.mpr (by omega)]
      exact j0_eq ha hb hc 6
    · rw [if_neg h2]; exact j0_eq ha hb hc 6
  · rw [if_neg h1]; exact j0_eq ha hb hc 6
end Go.Proofs.YtbjkfafjcflggaaDoor.Pure
