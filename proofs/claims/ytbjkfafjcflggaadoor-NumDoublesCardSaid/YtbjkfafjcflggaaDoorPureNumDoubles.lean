/- The plain law of NumDoubles: what the code computes answers true at every input. No condition. -/
--  of NumDoubles: what the code computes answers true at every input. No condition. -/
import Derived.Test.YtbjkfafjcflggaaDoorPNumDoublesx1
namespace Go.Proofs.YtbjkfafjcflggaaDoor.Pure
open Go.RowKit Go.Proofs.YtbjkfafjcflggaaDoor.PNumDoubles Go.Proofs.YtbjkfafjcflggaaDoorW.PrintWords Go.Proofs.YtbjkfafjcflggaaDoorW.PrintLast
set_option linter.unusedVariables false
set_option linter.unusedSimpArgs false
theorem wf_range {a : Int} (h : (Lit.int .i64 a).wf = true) : -9223372036854775808 ≤ a ∧ a ≤ 9223372036854775807 := by
  simp only [Lit.wf, IntKind.min, IntKind.max, IntKind.signed, IntKind.bits, Bool.and_eq_true, decide_eq_true_eq, if_true] at h
  omega
def fitF (x : Int) : Int × Bool := if -9223372036854775808 ≤ x ∧ x ≤ 9223372036854775807 then (x, true) else (0, false)
theorem wrap_in {x : Int} (h : -9223372036854775808 ≤ x ∧ x ≤ 9223372036854775807) : wrap64 x = x := by unfold wrap64; omega
-- WITHOUT SUB MUL ADD SHOWN
def D : Nat → Int → Int → Int
  | 0, x, e => mn x e
  | j + 1, x, e => if 0 < x ∧ x < e then D j (mn (2 * x) e) e else mn x e
theorem D_stop {x e : Int} (h : ¬ (0 < x ∧ x < e)) : ∀ j, D j x e = mn x e
  | 0 => rfl
  | j + 1 => by rw [D, if_neg h]
theorem D_range {e : Int} (he : 0 ≤ e) : ∀ (j : Nat) (x : Int), 0 ≤ x → 0 ≤ D j x e ∧ D j x e ≤ e
  | 0, x, hx => by unfold D mn; split <;> omega
  | j + 1, x, hx => by
    rw [D]
    split
    · exact D_range he j _ (by unfold mn; split <;> omega)
    · unfold mn; split <;> omega
theorem num_D (f : Nat) : ∀ (x n e : Int), 0 ≤ x → x ≤ 9223372036854775807 → 0 ≤ e → e ≤ 9223372036854775807 → -9223372036854775808 ≤ n → n ≤ 9223372036854775807 → (x = 0 ∨ e ≤ x * 2 ^ f) → num_Double.l0 (f + 1) x n e = some (D n.toNat x e) := by
  induction f with
  | zero =>
    intro x n e h0 h1 h2 h3 h4 h5 h6
    rw [D_stop (by omega)]
    simp only [num_Double.l0]
    by_cases c1 : n > 0
    · rw [if_pos c1]
      by_cases c2 : x > 0
      · rw [if_pos c2, if_neg (by omega)]
      · rw [if_neg c2]
    · rw [if_neg c1]
  | succ f ih =>
    intro x n e h0 h1 h2 h3 h4 h5 h6
    rw [num_Double.l0]
    by_cases c1 : n > 0
    · rw [if_pos c1]
      obtain ⟨j, hj⟩ : ∃ j : Nat, n.toNat = j + 1 := ⟨n.toNat - 1, by omega⟩
      rw [hj, D]
      by_cases c2 : x > 0
      · rw [if_pos c2]
        by_cases c3 : x < e
        · rw [if_pos c3, if_pos ⟨c2, c3⟩]
          have e1 : wrap64 (x + mn x (wrap64 (e - x))) = mn (2 * x) e := by
            have : wrap64 (e - x) = e - x := by unfold wrap64; omega
            rw [this]; unfold mn
            split <;> split <;> (unfold wrap64; omega)
          have e2 : wrap64 (n - 1) = n - 1 := by unfold wrap64; omega
          rw [e1, e2, show j = (n - 1).toNat by omega]
          have hm : (e < 2 * x ∧ mn (2 * x) e = e) ∨ (2 * x ≤ e ∧ mn (2 * x) e = 2 * x) := by unfold mn; split <;> omega
          have hp : (1 : Int) ≤ 2 ^ f := by have := Nat.two_pow_pos f; exact_mod_cast this
          apply ih _ _ _ (by omega) (by omega) h2 h3 (by omega) (by omega)
          right
          rcases hm with ⟨_, hm⟩ | ⟨_, hm⟩
          · rw [hm]
            have := Int.mul_le_mul_of_nonneg_left hp h2
            omega
          · rw [hm]
            rcases h6 with h6 | h6
            · omega
            · have e3 : x * 2 ^ (f + 1) = 2 * x * 2 ^ f := by rw [Int.pow_succ, ← Int.mul_assoc, Int.mul_comm (x * 2 ^ f) 2, ← Int.mul_assoc]
              omega
        · rw [if_neg c3, if_neg (by omega)]
      · rw [if_neg c2, if_neg (by omega)]
    · rw [if_neg c1, show n.toNat = 0 by omega]; rfl
theorem double_eq {a n m : Int} (ha : -9223372036854775808 ≤ a ∧ a ≤ 9223372036854775807) (hn : -9223372036854775808 ≤ n ∧ n ≤ 9223372036854775807) (hm : -9223372036854775808 ≤ m ∧ m ≤ 9223372036854775807) :
    num_Double.f 64 a n m = some (D n.toNat (mx a 0) (mx m 0)) := by
  have h1 : 0 ≤ mx a 0 ∧ mx a 0 ≤ 9223372036854775807 := by unfold mx; split <;> omega
  have h2 : 0 ≤ mx m 0 ∧ mx m 0 ≤ 9223372036854775807 := by unfold mx; split <;> omega
  refine num_D 63 _ _ _ h1.1 h1.2 h2.1 h2.2 hn.1 hn.2 ?_
  by_cases h : mx a 0 = 0
  · exact Or.inl h
  · right
    have := Int.mul_le_mul_of_nonneg_right (show (1 : Int) ≤ mx a 0 by omega) (show (0 : Int) ≤ 2 ^ 63 by decide)
    have e : (2 : Int) ^ 63 = 9223372036854775808 := by decide
    rw [e] at this ⊢
    omega
theorem shown_64 : millwrightlaw01_shown.f 64 = some true := by decide +kernel
theorem ref_D (f : Nat) : ∀ (x n e i : Int), 0 < x → x ≤ 9223372036854775807 → 0 ≤ e → e ≤ 9223372036854775807 → 0 ≤ i → n ≤ 9223372036854775807 → e ≤ x * 2 ^ f → millwrightref01_Double.l0 (2 * f + 2) n x e i = some (D (n - i).toNat x e) := by
  induction f with
  | zero =>
    intro x n e i h0 h1 h2 h3 h4 h5 h6
    rw [D_stop (by omega)]
    show millwrightref01_Double.l0 (0 + 1 + 1) n x e i = _
    rw [millwrightref01_Double.l0]
    by_cases c1 : i < n
    · rw [if_pos c1, millwrightref01_Double.j1, if_neg (by rw [decide_eq_false (by omega)]; decide)]
    · rw [if_neg c1, millwrightref01_Double.j1, if_neg (by decide)]
  | succ f ih =>
    intro x n e i h0 h1 h2 h3 h4 h5 h6
    show millwrightref01_Double.l0 (2 * f + 2 + 1 + 1) n x e i = _
    rw [millwrightref01_Double.l0]
    by_cases c1 : i < n
    · rw [if_pos c1, millwrightref01_Double.j1]
      obtain ⟨j, hj⟩ : ∃ j : Nat, (n - i).toNat = j + 1 := ⟨(n - i).toNat - 1, by omega⟩
      rw [hj, D]
      by_cases c3 : x < e
      · rw [if_pos (decide_eq_true c3), if_pos (show 0 < x ∧ x < e from ⟨h0, c3⟩)]
        have e0 : wrap64 (Int.tdiv e 2) = e / 2 := by rw [Int.tdiv_eq_ediv_of_nonneg h2]; unfold wrap64; omega
        rw [e0]
        by_cases c4 : x > e / 2
        · rw [if_pos c4]
          have : mn (2 * x) e = e := by unfold mn; split <;> omega
          rw [this, D_stop (by omega)]
          unfold mn; rw [if_neg (by omega)]
        · rw [if_neg c4]
          have hm : mn (2 * x) e = 2 * x := by unfold mn; split <;> omega
          have e1 : wrap64 (x * 2) = 2 * x := by unfold wrap64; omega
          have e2 : wrap64 (i + 1) = i + 1 := by unfold wrap64; omega
          rw [hm, e1, e2, show j = (n - (i + 1)).toNat by omega]
          apply ih _ _ _ _ (by omega) (by omega) h2 h3 (by omega) h5
          have e3 : x * 2 ^ (f + 1) = 2 * x * 2 ^ f := by rw [Int.pow_succ, ← Int.mul_assoc, Int.mul_comm (x * 2 ^ f) 2, ← Int.mul_assoc]
          omega
      · rw [if_neg (by rw [decide_eq_false c3]; decide), if_neg (by omega)]
    · rw [if_neg c1, millwrightref01_Double.j1, if_neg (by decide), show (n - i).toNat = 0 by omega]; rfl
theorem rdouble_eq {a n m : Int} (ha : -9223372036854775808 ≤ a ∧ a ≤ 9223372036854775807) (hn : -9223372036854775808 ≤ n ∧ n ≤ 9223372036854775807) (hm : -9223372036854775808 ≤ m ∧ m ≤ 9223372036854775807) :
    millwrightref01_Double.f 128 a n m = some (D n.toNat (mx a 0) (mx m 0)) := by
  have h1 : 0 ≤ mx a 0 ∧ mx a 0 ≤ 9223372036854775807 := by unfold mx; split <;> omega
  have h2 : 0 ≤ mx m 0 ∧ mx m 0 ≤ 9223372036854775807 := by unfold mx; split <;> omega
  unfold millwrightref01_Double.f
  by_cases h : mx a 0 = 0
  · rw [if_pos h, D_stop (by omega), h]; unfold mn; rw [if_neg (by omega)]
  · rw [if_neg h]
    have := ref_D 63 (mx a 0) n (mx m 0) 0 (by omega) h1.2 h2.1 h2.2 (by omega) hn.2 (by
      have := Int.mul_le_mul_of_nonneg_right (show (1 : Int) ≤ mx a 0 by omega) (show (0 : Int) ≤ 2 ^ 63 by decide)
      have e : (2 : Int) ^ 63 = 9223372036854775808 := by decide
      rw [e] at this ⊢
      omega)
    rw [Int.sub_zero] at this
    exact this
theorem NumDoubles : millwrightlaw01_NumDoubles.Pure := by
  intro a n m ha hn hm
  replace ha := wf_range ha
  replace hn := wf_range hn
  replace hm := wf_range hm
  refine ⟨128, ?_⟩
  have h2 : 0 ≤ mx m 0 ∧ mx m 0 ≤ 9223372036854775807 := by unfold mx; split <;> omega
  have h1 : 0 ≤ mx a 0 := by unfold mx; split <;> omega
  have e1 : millwrightlaw01_shown.f 128 = some true := by decide +kernel
  have e2 := at_rounds (fun k => num_Double.mono a n m k) (show 64 ≤ 128 by decide) (double_eq ha hn hm)
  have r := D_range h2.1 n.toNat (mx a 0) h1
  simp only [millwrightlaw01_NumDoubles.f, e1, e2, rdouble_eq ha hn hm, Option.bind_some, if_true]
  rw [if_pos (by omega), decide_eq_true (by omega)]
end Go.Proofs.YtbjkfafjcflggaaDoor.Pure
