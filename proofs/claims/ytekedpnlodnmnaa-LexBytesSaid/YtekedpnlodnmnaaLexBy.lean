/- What the tokens of one byte, and of one byte between two, are: by the byte's class. No condition. -/
import Derived.Test.YtekedpnlodnmnaaLexSh
namespace Go.Proofs.Ytekedpnlodnmnaa.LexBy
open LexS
def letter (c : Int) : Bool := (97 ≤ c && c ≤ 122) || (65 ≤ c && c ≤ 90)
def digit (c : Int) : Bool := 48 ≤ c && c ≤ 57
def blank (c : Int) : Bool := c = 32 || c = 9 || c = 13 || c = 10 || c = 35
def one (c : Int) : List Tok × Int × Int :=
  if letter c then ([⟨1, [c], 1⟩, ⟨3, [], 1⟩], 0, 0) else if digit c then ([⟨2, [c], 1⟩, ⟨3, [], 1⟩], 0, 0) else if blank c then ([], 0, 0) else ([], 1, 2)
theorem one_all : ∀ n : Fin 256, lexF [(n.val : Int)] = one n.val := by decide +kernel
theorem one_eq (c : Int) (h : 0 ≤ c ∧ c ≤ 255) : lexF [c] = one c := by
  have := one_all ⟨c.toNat, by omega⟩
  rw [show ((⟨c.toNat, by omega⟩ : Fin 256).val : Int) = c by simp; omega] at this
  exact this
theorem a_all : ∀ n : Fin 256, (lexF [97, (n.val : Int), 98]).2.2 = (if letter n.val || blank n.val then 0 else 2) ∧ (letter n.val = true → (lexF [97, (n.val : Int), 98]).1 = [⟨1, [97, n.val, 98], 1⟩, ⟨3, [], 1⟩]) := by decide +kernel
theorem d_all : ∀ n : Fin 256, (lexF [49, (n.val : Int), 50]).2.2 = (if digit n.val || blank n.val then 0 else 2) ∧ (digit n.val = true → (lexF [49, (n.val : Int), 50]).1 = [⟨2, [49, n.val, 50], 1⟩, ⟨3, [], 1⟩]) := by decide +kernel
theorem let_f {c : Int} (h : ¬ (97 ≤ c ∧ c ≤ 122) ∧ ¬ (65 ≤ c ∧ c ≤ 90)) : letter c = false := by
  unfold letter; simp only [Bool.or_eq_false_iff, Bool.and_eq_false_iff, decide_eq_false_iff_not]; omega
theorem let_t {c : Int} (h : (97 ≤ c ∧ c ≤ 122) ∨ (65 ≤ c ∧ c ≤ 90)) : letter c = true := by
  unfold letter; simp only [Bool.or_eq_true, Bool.and_eq_true, decide_eq_true_eq]; omega
theorem dig_f {c : Int} (h : ¬ (48 ≤ c ∧ c ≤ 57)) : digit c = false := by
  unfold digit; simp only [Bool.and_eq_false_iff, decide_eq_false_iff_not]; omega
theorem dig_t {c : Int} (h : 48 ≤ c ∧ c ≤ 57) : digit c = true := by
  unfold digit; simp only [Bool.and_eq_true, decide_eq_true_eq]; omega
theorem bla_f {c : Int} (h : c ≠ 32 ∧ c ≠ 9 ∧ c ≠ 13 ∧ c ≠ 10 ∧ c ≠ 35) : blank c = false := by
  unfold blank; simp only [Bool.or_eq_false_iff, decide_eq_false_iff_not]; omega
theorem a_eq (c : Int) (h : 0 ≤ c ∧ c ≤ 255) : (lexF [97, c, 98]).2.2 = (if letter c || blank c then 0 else 2) ∧ (letter c = true → (lexF [97, c, 98]).1 = [⟨1, [97, c, 98], 1⟩, ⟨3, [], 1⟩]) := by
  have := a_all ⟨c.toNat, by omega⟩
  rw [show ((⟨c.toNat, by omega⟩ : Fin 256).val : Int) = c by simp; omega] at this
  exact this
theorem d_eq (c : Int) (h : 0 ≤ c ∧ c ≤ 255) : (lexF [49, c, 50]).2.2 = (if digit c || blank c then 0 else 2) ∧ (digit c = true → (lexF [49, c, 50]).1 = [⟨2, [49, c, 50], 1⟩, ⟨3, [], 1⟩]) := by
  have := d_all ⟨c.toNat, by omega⟩
  rw [show ((⟨c.toNat, by omega⟩ : Fin 256).val : Int) = c by simp; omega] at this
  exact this
end Go.Proofs.Ytekedpnlodnmnaa.LexBy
