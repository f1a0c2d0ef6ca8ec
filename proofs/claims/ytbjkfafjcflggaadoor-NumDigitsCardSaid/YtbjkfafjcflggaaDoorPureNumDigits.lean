/- The plain law of NumDigits: what the code computes answers true at every input. No condition. -/
import Derived.Test.YtbjkfafjcflggaaDoorNumT
import Derived.Test.YtbjkfafjcflggaaDoorBits
--  of NumDigits: what the code computes answers true at every input. No condition. -/
import Derived.Test.YtbjkfafjcflggaaDoorNumT
import Derived.Test.YtbjkfafjcflggaaDoorBits
--  of NumDigits: what the code computes answers true at every input. No condition. -/
import Derived.Test.YtbjkfafjcflggaaDoorNumT
import Derived.Test.YtbjkfafjcflggaaDoorBits
import Derived.Test.YtbjkfafjcflggaaDoorPNumDigitsx2
namespace Go.Proofs.YtbjkfafjcflggaaDoor.Pure
open Go.RowKit Go.Proofs.YtbjkfafjcflggaaDoor.PNumDigits Go.Proofs.YtbjkfafjcflggaaDoorW.PrintWords Go.Proofs.YtbjkfafjcflggaaDoorW.PrintLast
set_option linter.unusedVariables false
set_option linter.unusedSimpArgs false
theorem wf_range {a : Int} (h : (Lit.int .i64 a).wf = true) : -9223372036854775808 ≤ a ∧ a ≤ 9223372036854775807 := by
  simp only [Lit.wf, IntKind.min, IntKind.max, IntKind.signed, IntKind.bits, Bool.and_eq_true, decide_eq_true_eq, if_true] at h
  omega
def fitF (x : Int) : Int × Bool := if -9223372036854775808 ≤ x ∧ x ≤ 9223372036854775807 then (x, true) else (0, false)
theorem wrap_in {x : Int} (h : -9223372036854775808 ≤ x ∧ x ≤ 9223372036854775807) : wrap64 x = x := by unfold wrap64; omega
theorem shown_eq : millwrightlaw01_shown.f 8 = some true := by decide +kernel
-- WITHOUT SUB MUL ADD
-- IMPORTS Derived.Test.YtbjkfafjcflggaaDoorNumT Derived.Test.YtbjkfafjcflggaaDoorBits
open Go.Proofs.YtbjkfafjcflggaaDoor.NumT Go.Proofs.YtbjkfafjcflggaaDoor.NumS
theorem size_list (l : List UInt8) : (⟨l.toArray⟩ : ByteArray).size = l.length := by simp [ByteArray.size]
theorem one_byte (d : Nat) (x : Int) (hx : x = (d : Int)) : strOfNums [x] = ⟨[UInt8.ofNat d].toArray⟩ := by
  subst hx
  show (⟨([UInt8.ofNat (d : Int).toNat]).toArray⟩ : ByteArray) = _
  rw [Int.toNat_natCast]
theorem app_list (a b : List UInt8) : (⟨a.toArray⟩ : ByteArray) ++ ⟨b.toArray⟩ = ⟨(a ++ b).toArray⟩ := by
  apply ByteArray.ext
  apply Array.ext'
  simp
theorem len_dec (f : Nat) : ∀ u : Nat, u < 10 ^ (f + 1) → (Lib.decDigits u).length ≤ f + 1 := by
  induction f with
  | zero => intro u h; rw [digits_small u (by omega)]; exact Nat.le_refl _
  | succ f ih =>
    intro u h
    by_cases h10 : u < 10
    · rw [digits_small u h10]; simp
    · rw [digits_step u h10, List.length_append]
      have := ih (u / 10) (by rw [Nat.pow_succ] at h; omega)
      simp; omega
theorem wr {x : Int} (h : 0 ≤ x ∧ x ≤ 20000000) : wrap64 x = x := by unfold wrap64; omega
theorem parse_ok (l : List UInt8) (h : l.length ≤ 100) : num_Parse.f ⟨l.toArray⟩ = some (parseF ⟨l.toArray⟩) := by
  unfold num_Parse.f; rw [if_pos (by rw [size_list]; omega)]
theorem j0_eq (k : Nat) (c : Int) (h0 : 0 ≤ c ∧ c ≤ 255) (l : List UInt8) (hl : l.length ≤ 20) : millwrightlaw01_NumDigits.j0 (k + 2) c true ⟨l.toArray⟩ = some true := by
  have hj : ∀ b : Bool, (b = false → c < 48 ∨ 57 < c) → millwrightlaw01_NumDigits.j1 (k + 1) c true ⟨l.toArray⟩ b = some true := by
    intro b hb
    rw [millwrightlaw01_NumDigits.j1]
    cases b with
    | true => rfl
    | false =>
      have hc := hb rfl
      obtain ⟨d, rfl⟩ := Int.eq_ofNat_of_zero_le h0.1
      have hd : (UInt8.ofNat d).toNat = d := by rw [UInt8.toNat_ofNat']; omega
      have hnd : ¬ Dig (UInt8.ofNat d) := by unfold Dig; rw [hd]; omega
      have c1 : (⟨l.toArray⟩ : ByteArray).size + (strOfNums [(d : Int)]).size ≤ 9223372036854775807 := by rw [size_list, one_byte d d rfl, size_list]; simp; omega
      have c2 : (strOfNums [(d : Int)]).size + (⟨l.toArray⟩ : ByteArray).size ≤ 9223372036854775807 := by rw [Nat.add_comm]; exact c1
      have p1 : num_Parse.f ((⟨l.toArray⟩ : ByteArray) ++ strOfNums [(d : Int)]) = some (0, 2) := by
        rw [one_byte d d rfl, app_list, parse_ok _ (by simp; omega), parse_bad ⟨(l ++ [UInt8.ofNat d]).toArray⟩ (UInt8.ofNat d) (by simp) hnd]
      have p2 : num_Parse.f (strOfNums [(d : Int)] ++ (⟨l.toArray⟩ : ByteArray)) = some (0, 2) := by
        rw [one_byte d d rfl, app_list, parse_ok _ (by simp; omega), parse_bad ⟨([UInt8.ofNat d] ++ l).toArray⟩ (UInt8.ofNat d) (by simp) hnd]
      rw [if_neg (by decide)]
      simp only [Option.bind_some, c1, c2, p1, p2, if_true]
      rfl
  rw [millwrightlaw01_NumDigits.j0]
  by_cases h : c ≥ 48
  · rw [if_pos h]; exact hj _ (fun e => by have := of_decide_eq_false e; omega)
  · rw [if_neg h]; exact hj _ (fun _ => by omega)
theorem NumDigits : millwrightlaw01_NumDigits.Pure := by
  intro a b c ha hb hc
  have u8 : ∀ {x : Int}, (Lit.int .u8 x).wf = true → 0 ≤ x ∧ x ≤ 255 := fun h => by
    simpa [Lit.wf, IntKind.min, IntKind.max, IntKind.signed, IntKind.bits] using h
  replace hb := u8 hb
  replace hc := u8 hc
  refine ⟨64, ?_⟩
  have e1 : millwrightlaw01_shown.f 64 = some true := by decide +kernel
  unfold millwrightlaw01_NumDigits.f
  have eb : Go.bits .and .i64 a 268435455 = a % 268435456 := Bits.i64_mask 28 (by decide) a
  rw [eb, Int.tmod_eq_emod_of_nonneg (by omega), Int.tmod_eq_emod_of_nonneg hb.1]
  obtain ⟨u, hu⟩ := Int.eq_ofNat_of_zero_le (show 0 ≤ a % 268435456 % 1048577 by omega)
  obtain ⟨d, hd⟩ := Int.eq_ofNat_of_zero_le (show 0 ≤ b % 10 by omega)
  have hu1 : u ≤ 1048576 := by omega
  have hd1 : d < 10 := by omega
  rw [hu, hd, e1]
  clear hu hd eb ha
  have et : num_Text.f (u : Int) = some ⟨(Lib.decDigits u).toArray⟩ := by
    unfold num_Text.f; rw [if_pos (by omega)]
    have ei : Lib.itoa (u : Int) = Lib.decDigits u := by unfold Lib.itoa; rw [if_neg (by omega)]; rfl
    rw [ei]
  have hl := len_dec 6 u (by omega)
  rw [et]
  simp only [Option.bind_some]
  rw [one_byte (48 + d) _ (by omega), size_list, size_list, if_pos (by simp; omega), app_list, parse_ok _ (by simp; omega)]
  simp only [Option.bind_some]
  have hw : wrap64 (wrap64 (10 * (u : Int)) + wrap64 (d : Int)) = 10 * (u : Int) + (d : Int) := by rw [wr (show 0 ≤ 10 * (u : Int) ∧ 10 * (u : Int) ≤ 20000000 by omega), wr (show 0 ≤ (d : Int) ∧ (d : Int) ≤ 20000000 by omega), wr (by omega)]
  rw [hw]
  by_cases h0 : (u : Int) = 0
  · have : u = 0 := by omega
    subst this
    have hp : parseF ⟨(Lib.decDigits 0 ++ [UInt8.ofNat (48 + d)]).toArray⟩ = (0, 2) := by
      rw [digits_small 0 (by decide)]
      unfold parseF
      rw [if_pos (Or.inr ⟨rfl, by simp⟩)]
    rw [hp, if_pos h0, if_pos rfl, if_pos rfl]
    exact j0_eq 62 c hc _ (by omega)
  · have hp : parseF ⟨(Lib.decDigits u ++ [UInt8.ofNat (48 + d)]).toArray⟩ = if (10 * (u : Int) + (d : Int)) > 1048576 then (0, 3) else (10 * (u : Int) + (d : Int), 0) := by
      have e : Lib.decDigits u ++ [UInt8.ofNat (48 + d)] = Lib.decDigits (10 * u + d) := by
        rw [digits_step (10 * u + d) (by omega), show (10 * u + d) / 10 = u by omega, show (10 * u + d) % 10 = d by omega]
      rw [e, parse_dec]
      rw [show ((10 * u + d : Nat) : Int) = 10 * (u : Int) + (d : Int) by omega]
    rw [hp, if_neg h0]
    by_cases hb2 : 10 * (u : Int) + (d : Int) > 1048576
    · rw [if_pos hb2, if_neg (by rw [decide_eq_false (by omega)]; exact (by decide : ¬ (((3 : Int) == 0) != false) = true)), if_neg (by decide), if_pos rfl]
      exact j0_eq 62 c hc _ (by omega)
    · rw [if_neg hb2, if_neg (by rw [decide_eq_true (by omega)]; exact (by decide : ¬ (((0 : Int) == 0) != true) = true)), if_pos rfl, if_pos rfl]
      exact j0_eq 62 c hc _ (by omega)
end Go.Proofs.YtbjkfafjcflggaaDoor.Pure
