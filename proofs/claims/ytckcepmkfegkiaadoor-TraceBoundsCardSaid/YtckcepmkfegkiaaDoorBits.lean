/- Plain lemmas: masks of numbers of 64 bits, remainders. No condition. -/
import Derived.Laws.BitsLemmas
import Derived.WalkKit
namespace Go.Proofs.YtckcepmkfegkiaaDoor.Bits
open Go Go.RowKit
theorem i64_mask (i : Nat) (hi : i ≤ 62) (n : Int) : bits .and .i64 n (2 ^ i - 1) = n % 2 ^ i := by
  have hp : (2 : Nat) ^ i ≤ 2 ^ 62 := Nat.pow_le_pow_right (by decide) hi
  have hpos : 0 < (2 : Nat) ^ i := Nat.two_pow_pos i
  have hc : ((2 : Int) ^ i - 1) = ((2 ^ i - 1 : Nat) : Int) := by
    rw [Int.natCast_sub hpos]; simp
  have hm : (BitVec.ofInt 64 ((2 : Int) ^ i - 1)).toNat = 2 ^ i - 1 := by
    rw [hc, BitVec.toNat_ofInt]
    omega
  have key : (BitVec.ofInt 64 n &&& BitVec.ofInt 64 ((2 : Int) ^ i - 1)).toNat = (n % ((2 ^ 64 : Nat) : Int)).toNat % 2 ^ i := by
    rw [BitVec.toNat_and, hm, Nat.and_two_pow_sub_one_eq_mod, BitVec.toNat_ofInt]
  show IntKind.i64.wrap ((BitVec.ofInt 64 n &&& BitVec.ofInt 64 ((2 : Int) ^ i - 1)).toNat : Nat) = n % 2 ^ i
  rw [key, IntKind.wrap_i64]
  have hd : (2 : Int) ^ i ∣ ((2 ^ 64 : Nat) : Int) := by
    refine ⟨(2 : Int) ^ (64 - i), ?_⟩
    rw [← Int.pow_add, show i + (64 - i) = 64 from by omega]
    rfl
  have e1 : (((n % ((2 ^ 64 : Nat) : Int)).toNat % 2 ^ i : Nat) : Int) = n % (2 : Int) ^ i := by
    have h0 : 0 ≤ n % ((2 ^ 64 : Nat) : Int) := Int.emod_nonneg _ (by decide)
    rw [Int.natCast_emod, Int.toNat_of_nonneg h0]
    have : ((2 ^ i : Nat) : Int) = (2 : Int) ^ i := by simp
    rw [this]
    exact Int.emod_emod_of_dvd n hd
  rw [e1]
  have h1 : 0 ≤ n % (2 : Int) ^ i := Int.emod_nonneg _ (Int.ne_of_gt (by exact_mod_cast hpos))
  have h2 : n % (2 : Int) ^ i < (2 : Int) ^ i := Int.emod_lt_of_pos _ (by exact_mod_cast hpos)
  have h3 : (2 : Int) ^ i ≤ 4611686018427387904 := by
    have h4 : ((2 ^ i : Nat) : Int) ≤ ((4611686018427387904 : Nat) : Int) := Int.ofNat_le.2 hp
    have h5 : ((2 ^ i : Nat) : Int) = (2 : Int) ^ i := Int.natCast_pow 2 i
    omega
  omega
theorem and65535 (n : Int) : bits .and .i64 n 65535 = n % 65536 := i64_mask 16 (by decide) n
theorem tmod_pos (a b : Int) (h0 : 0 ≤ a) : Int.tmod a b = a % b := Int.tmod_eq_emod_of_nonneg h0
theorem wrap64_in {n : Int} (h0 : -9223372036854775808 ≤ n) (h1 : n ≤ 9223372036854775807) : wrap64 n = n := by unfold wrap64; omega
end Go.Proofs.YtckcepmkfegkiaaDoor.Bits
