/- The plain law of NumSteps: what the code computes answers true at every input. No condition. -/
import Derived.Test.YtbjkfafjcflggaaDoorBits
--  of NumSteps: what the code computes answers true at every input. No condition. -/
import Derived.Test.YtbjkfafjcflggaaDoorBits
--  of NumSteps: what the code computes answers true at every input. No condition. -/
import Derived.Test.YtbjkfafjcflggaaDoorBits
--  of NumSteps: what the code computes answers true at every input. No condition. -/
import Derived.Test.YtbjkfafjcflggaaDoorBits
import Derived.Test.YtbjkfafjcflggaaDoorPNumStepsx1
namespace Go.Proofs.YtbjkfafjcflggaaDoor.Pure
open Go.RowKit Go.Proofs.YtbjkfafjcflggaaDoor.PNumSteps Go.Proofs.YtbjkfafjcflggaaDoorW.PrintWords Go.Proofs.YtbjkfafjcflggaaDoorW.PrintLast
set_option linter.unusedVariables false
set_option linter.unusedSimpArgs false
theorem wf_range {a : Int} (h : (Lit.int .i64 a).wf = true) : -9223372036854775808 ≤ a ∧ a ≤ 9223372036854775807 := by
  simp only [Lit.wf, IntKind.min, IntKind.max, IntKind.signed, IntKind.bits, Bool.and_eq_true, decide_eq_true_eq, if_true] at h
  omega
def fitF (x : Int) : Int × Bool := if -9223372036854775808 ≤ x ∧ x ≤ 9223372036854775807 then (x, true) else (0, false)
theorem wrap_in {x : Int} (h : -9223372036854775808 ≤ x ∧ x ≤ 9223372036854775807) : wrap64 x = x := by unfold wrap64; omega
-- WITHOUT SUB MUL ADD SHOWN
-- IMPORTS Derived.Test.YtbjkfafjcflggaaDoorBits
def D : Nat → Int → Int → Int
  | 0, x, e => mn x e
  | j + 1, x, e => if 0 < x ∧ x < e then D j (mn (2 * x) e) e else mn x e
theorem D_stop {x e : Int} (h : ¬ (0 < x ∧ x < e)) : ∀ j, D j x e = mn x e
  | 0 => rfl
  | j + 1 => by rw [D, if_neg h]
theorem D_range {e : Int} (he : 0 ≤ e) : ∀ (j : Nat) (x : Int), 0 ≤ x → 0 ≤ D j x e ∧ D j x e ≤ e
  | 0, x, hx => by unfold D mn; split <;> omega
  | j + 1, x, hx => by
    rw [D]
    split
    · exact D_range he j _ (by unfold mn; split <;> omega)
    · unfold mn; split <;> omega
theorem num_D (f : Nat) : ∀ (x n e : Int), 0 ≤ x → x ≤ 9223372036854775807 → 0 ≤ e → e ≤ 9223372036854775807 → -9223372036854775808 ≤ n → n ≤ 9223372036854775807 → (x = 0 ∨ e ≤ x * 2 ^ f) → num_Double.l0 (f + 1) x n e = some (D n.toNat x e) := by
  induction f with
  | zero =>
    intro x n e h0 h1 h2 h3 h4 h5 h6
    rw [D_stop (by omega)]
    simp only [num_Double.l0]
    by_cases c1 : n > 0
    · rw [if_pos c1]
      by_cases c2 : x > 0
      · rw [if_pos c2, if_neg (by omega)]
      · rw [if_neg c2]
    · rw [if_neg c1]
  | succ f ih =>
    intro x n e h0 h1 h2 h3 h4 h5 h6
    rw [num_Double.l0]
    by_cases c1 : n > 0
    · rw [if_pos c1]
      obtain ⟨j, hj⟩ : ∃ j : Nat, n.toNat = j + 1 := ⟨n.toNat - 1, by omega⟩
      rw [hj, D]
      by_cases c2 : x > 0
      · rw [if_pos c2]
        by_cases c3 : x < e
        · rw [if_pos c3, if_pos ⟨c2, c3⟩]
          have e1 : wrap64 (x + mn x (wrap64 (e - x))) = mn (2 * x) e := by
            have : wrap64 (e - x) = e - x := by unfold wrap64; omega
            rw [this]; unfold mn
            split <;> split <;> (unfold wrap64; omega)
          have e2 : wrap64 (n - 1) = n - 1 := by unfold wrap64; omega
          rw [e1, e2, show j = (n - 1).toNat by omega]
          have hm : (e < 2 * x ∧ mn (2 * x) e = e) ∨ (2 * x ≤ e ∧ mn (2 * x) e = 2 * x) := by unfold mn; split <;> omega
          have hp : (1 : Int) ≤ 2 ^ f := by have := Nat.two_pow_pos f; exact_mod_cast this
          apply ih _ _ _ (by omega) (by omega) h2 h3 (by omega) (by omega)
          right
          rcases hm with ⟨_, hm⟩ | ⟨_, hm⟩
          · rw [hm]
            have := Int.mul_le_mul_of_nonneg_left hp h2
            omega
          · rw [hm]
            rcases h6 with h6 | h6
            · omega
            · have e3 : x * 2 ^ (f + 1) = 2 * x * 2 ^ f := by rw [Int.pow_succ, ← Int.mul_assoc, Int.mul_comm (x * 2 ^ f) 2, ← Int.mul_assoc]
              omega
        · rw [if_neg c3, if_neg (by omega)]
      · rw [if_neg c2, if_neg (by omega)]
    · rw [if_neg c1, show n.toNat = 0 by omega]; rfl
theorem double_eq {a n m : Int} (ha : -9223372036854775808 ≤ a ∧ a ≤ 9223372036854775807) (hn : -9223372036854775808 ≤ n ∧ n ≤ 9223372036854775807) (hm : -9223372036854775808 ≤ m ∧ m ≤ 9223372036854775807) :
    num_Double.f 64 a n m = some (D n.toNat (mx a 0) (mx m 0)) := by
  have h1 : 0 ≤ mx a 0 ∧ mx a 0 ≤ 9223372036854775807 := by unfold mx; split <;> omega
  have h2 : 0 ≤ mx m 0 ∧ mx m 0 ≤ 9223372036854775807 := by unfold mx; split <;> omega
  refine num_D 63 _ _ _ h1.1 h1.2 h2.1 h2.2 hn.1 hn.2 ?_
  by_cases h : mx a 0 = 0
  · exact Or.inl h
  · right
    have := Int.mul_le_mul_of_nonneg_right (show (1 : Int) ≤ mx a 0 by omega) (show (0 : Int) ≤ 2 ^ 63 by decide)
    have e : (2 : Int) ^ 63 = 9223372036854775808 := by decide
    rw [e] at this ⊢
    omega
theorem shown_64 : millwrightlaw01_shown.f 64 = some true := by decide +kernel
theorem mn_eq (a b : Int) : mn a b = min a b := by unfold mn; split <;> omega
theorem mx_eq (a b : Int) : mx a b = max a b := by unfold mx; split <;> omega
theorem D_more {e : Int} (he : 0 ≤ e) : ∀ (j : Nat) (x : Int), 0 ≤ x → D (j + 1) x e = D 1 (D j x e) e
  | 0, x, hx => by
    by_cases h : 0 < x ∧ x < e
    · have : D 0 x e = x := by unfold D mn; rw [if_neg (by omega)]
      rw [this]
    · have h2 : mn x e ≤ x := by unfold mn; split <;> omega
      rw [D_stop h, show D 0 x e = mn x e from rfl]
      have : ¬ (0 < mn x e ∧ mn x e < e) := by unfold mn; split <;> omega
      rw [D_stop this]
      simp only [mn_eq]; omega
  | j + 1, x, hx => by
    by_cases h : 0 < x ∧ x < e
    · rw [D, if_pos h, D_more he j _ (by unfold mn; split <;> omega)]
      conv => rhs; rw [show D (j + 1) x e = D j (mn (2 * x) e) e from by rw [D, if_pos h]]
    · rw [D_stop h, D_stop h]
      have : ¬ (0 < mn x e ∧ mn x e < e) := by unfold mn; split <;> omega
      rw [D_stop this]
      simp only [mn_eq]; omega
theorem D_mono {e e' : Int} (he : 0 ≤ e) (hee : e ≤ e') : ∀ (j : Nat) (x x' : Int), 0 ≤ x → x ≤ x' → D j x e ≤ D j x' e'
  | 0, x, x', hx, hxx => by unfold D mn; split <;> split <;> omega
  | j + 1, x, x', hx, hxx => by
    by_cases h : 0 < x ∧ x < e
    · by_cases h' : 0 < x' ∧ x' < e'
      · rw [D, if_pos h, D, if_pos h']
        exact D_mono he hee j _ _ (by unfold mn; split <;> omega) (by unfold mn; split <;> split <;> omega)
      · have r := (D_range he (j + 1) x hx).2
        rw [D_stop h']
        have : mn x' e' = e' := by unfold mn; split <;> omega
        omega
    · rw [D_stop h]
      by_cases h' : 0 < x' ∧ x' < e'
      · have hgo := fun x0 h0 => D_ge (show 0 ≤ e' by omega) (j + 1) x0 h0
        have := hgo x' (by omega)
        unfold mn at *
        split at this <;> split <;> omega
      · rw [D_stop h']
        unfold mn; split <;> split <;> omega
where D_ge {e : Int} (he : 0 ≤ e) : ∀ (j : Nat) (x : Int), 0 ≤ x → mn x e ≤ D j x e
  | 0, x, _ => Int.le_refl _
  | j + 1, x, hx => by
    by_cases h : 0 < x ∧ x < e
    · rw [D, if_pos h]
      have := D_ge he j (mn (2 * x) e) (by unfold mn; split <;> omega)
      simp only [mn_eq] at *
      omega
    · rw [D_stop h]; exact Int.le_refl _
theorem NumSteps : millwrightlaw01_NumSteps.Pure := by
  intro a n m o ha hn hm ho
  replace ha := wf_range ha
  replace hm := wf_range hm
  have ho' : 0 ≤ o ∧ o ≤ 255 := by
    simp only [Lit.wf, IntKind.min, IntKind.max, IntKind.signed, IntKind.bits, Bool.and_eq_true, decide_eq_true_eq] at ho
    simpa using ho
  have eb : Go.bits .and .i64 n 255 = n % 256 := Bits.i64_mask 8 (by decide) n
  refine ⟨64, ?_⟩
  unfold millwrightlaw01_NumSteps.f
  rw [eb]
  have hb : 0 ≤ n % 256 ∧ n % 256 ≤ 255 := by omega
  generalize n % 256 = c at hb
  have e1 : wrap64 (c + 1) = c + 1 := by unfold wrap64; omega
  have e2 : wrap64 o = o := by unfold wrap64; omega
  rw [e1, e2]
  have hM : -9223372036854775808 ≤ mx m (wrap64 (m + o)) ∧ mx m (wrap64 (m + o)) ≤ 9223372036854775807 ∧ m ≤ mx m (wrap64 (m + o)) := by unfold mx wrap64; split <;> omega
  generalize mx m (wrap64 (m + o)) = m' at hM
  have h2 : 0 ≤ mx m 0 ∧ mx m 0 ≤ 9223372036854775807 := by unfold mx; split <;> omega
  have h1 : 0 ≤ mx a 0 := by unfold mx; split <;> omega
  have h3 : mx m 0 ≤ mx m' 0 := by unfold mx; split <;> split <;> omega
  have hc : -9223372036854775808 ≤ c ∧ c ≤ 9223372036854775807 := by omega
  have hc1 : -9223372036854775808 ≤ c + 1 ∧ c + 1 ≤ 9223372036854775807 := by omega
  have r := D_range h2.1 c.toNat (mx a 0) h1
  have hr : -9223372036854775808 ≤ D c.toNat (mx a 0) (mx m 0) ∧ D c.toNat (mx a 0) (mx m 0) ≤ 9223372036854775807 := by omega
  simp only [shown_64, double_eq ha hc hm, double_eq ha hc1 hm, double_eq ha hc ⟨hM.1, hM.2.1⟩, Option.bind_some, double_eq hr (show (-9223372036854775808 : Int) ≤ 1 ∧ (1 : Int) ≤ 9223372036854775807 by decide) hm,
    double_eq ha (show (-9223372036854775808 : Int) ≤ -1 ∧ (-1 : Int) ≤ 9223372036854775807 by decide) hm, double_eq ha (show (-9223372036854775808 : Int) ≤ 0 ∧ (0 : Int) ≤ 9223372036854775807 by decide) hm, if_true]
  have m1 := D_mono h2.1 h3 c.toNat (mx a 0) (mx a 0) h1 (Int.le_refl _)
  have e5 : mx (D c.toNat (mx a 0) (mx m 0)) 0 = D c.toNat (mx a 0) (mx m 0) := by rw [mx_eq]; omega
  have e4 : D (c + 1).toNat (mx a 0) (mx m 0) = D (1 : Int).toNat (D c.toNat (mx a 0) (mx m 0)) (mx m 0) := by
    rw [show (c + 1).toNat = c.toNat + 1 by omega, D_more h2.1 _ _ h1]; rfl
  rw [e5, e4]
  generalize D c.toNat (mx a 0) (mx m 0) = v at *
  have e6 : D (1 : Int).toNat v (mx m 0) = if 0 < v ∧ v < mx m 0 then mn (mn (2 * v) (mx m 0)) (mx m 0) else mn v (mx m 0) := rfl
  rw [e6]
  generalize mx m 0 = e at *
  have e7 : (if 0 < v ∧ v < e then mn (mn (2 * v) e) e else mn v e) = (if v = 0 ∨ v = e then v else if 2 * v < e then 2 * v else e) := by
    unfold mn; split <;> (repeat' split) <;> omega
  rw [e7]
  have e8 : (D (Int.toNat (-1)) (mx a 0) e == D (Int.toNat 0) (mx a 0) e) = true := beq_iff_eq.mpr rfl
  rw [e8]
  by_cases c1 : v = 0 ∨ v = e
  · rw [if_pos c1, if_pos rfl, if_pos (Int.le_refl _), if_pos m1]
    by_cases c2 : v = e
    · rw [if_pos c2]
    · rw [if_neg c2, if_neg c2, if_pos (by unfold wrap64; omega)]
  · rw [if_neg c1, if_pos rfl]
    by_cases c3 : 2 * v < e
    · rw [if_pos c3, if_pos (by omega), if_pos m1, if_neg (by omega), if_neg (by omega), if_pos (by unfold wrap64; omega)]
    · rw [if_neg c3, if_pos (by omega), if_pos m1, if_neg (by omega), if_pos rfl]
end Go.Proofs.YtbjkfafjcflggaaDoor.Pure
