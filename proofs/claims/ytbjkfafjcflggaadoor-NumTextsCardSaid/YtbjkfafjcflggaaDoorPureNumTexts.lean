/- The plain law of NumTexts: what the code computes answers true at every input. No condition. -/
import Derived.Test.YtbjkfafjcflggaaDoorNumT
--  of NumTexts: what the code computes answers true at every input. No condition. -/
import Derived.Test.YtbjkfafjcflggaaDoorNumT
--  of NumTexts: what the code computes answers true at every input. No condition. -/
import Derived.Test.YtbjkfafjcflggaaDoorNumT
import Derived.Test.YtbjkfafjcflggaaDoorPNumTextsx2
namespace Go.Proofs.YtbjkfafjcflggaaDoor.Pure
open Go.RowKit Go.Proofs.YtbjkfafjcflggaaDoor.PNumTexts Go.Proofs.YtbjkfafjcflggaaDoorW.PrintWords Go.Proofs.YtbjkfafjcflggaaDoorW.PrintLast
set_option linter.unusedVariables false
set_option linter.unusedSimpArgs false
theorem wf_range {a : Int} (h : (Lit.int .i64 a).wf = true) : -9223372036854775808 ≤ a ∧ a ≤ 9223372036854775807 := by
  simp only [Lit.wf, IntKind.min, IntKind.max, IntKind.signed, IntKind.bits, Bool.and_eq_true, decide_eq_true_eq, if_true] at h
  omega
def fitF (x : Int) : Int × Bool := if -9223372036854775808 ≤ x ∧ x ≤ 9223372036854775807 then (x, true) else (0, false)
theorem wrap_in {x : Int} (h : -9223372036854775808 ≤ x ∧ x ≤ 9223372036854775807) : wrap64 x = x := by unfold wrap64; omega
theorem shown_eq : millwrightlaw01_shown.f 8 = some true := by decide +kernel
-- WITHOUT SUB MUL ADD
-- IMPORTS Derived.Test.YtbjkfafjcflggaaDoorNumT
open Go.Proofs.YtbjkfafjcflggaaDoor.NumT Go.Proofs.YtbjkfafjcflggaaDoor.NumS
def dec (u : Nat) : ByteArray := ⟨(Lib.decDigits u).toArray⟩
theorem size_list (l : List UInt8) : (⟨l.toArray⟩ : ByteArray).size = l.length := by simp [ByteArray.size]
theorem one_byte (d : Nat) (h : d < 10) (x : Int) (hx : x = 48 + (d : Int)) : strOfNums [x] = ⟨[UInt8.ofNat (48 + d)].toArray⟩ := by
  subst hx
  show (⟨([UInt8.ofNat (48 + (d : Int)).toNat]).toArray⟩ : ByteArray) = _
  rw [show (48 + (d : Int)).toNat = 48 + d by omega]
theorem app_list (a b : List UInt8) : (⟨a.toArray⟩ : ByteArray) ++ ⟨b.toArray⟩ = ⟨(a ++ b).toArray⟩ := by
  apply ByteArray.ext
  apply Array.ext'
  simp
theorem len_dec (f : Nat) : ∀ u : Nat, u < 10 ^ (f + 1) → (Lib.decDigits u).length ≤ f + 1 := by
  induction f with
  | zero => intro u h; rw [digits_small u (by omega)]; exact Nat.le_refl _
  | succ f ih =>
    intro u h
    by_cases h10 : u < 10
    · rw [digits_small u h10]; simp
    · rw [digits_step u h10, List.length_append]
      have := ih (u / 10) (by rw [Nat.pow_succ] at h; omega)
      simp; omega
theorem ref_loop (f : Nat) : ∀ (u : Nat) (l : List UInt8), u < 10 ^ (f + 1) → u ≤ 9223372036854775807 → l.length + f ≤ 100 → millwrightref01_Text.l0 (f + 1) (u : Int) ⟨l.toArray⟩ = some ⟨(Lib.decDigits u ++ l).toArray⟩ := by
  induction f with
  | zero =>
    intro u l h hu hl
    rw [millwrightref01_Text.l0, if_neg (by omega), digits_small u (by omega)]
    rw [Option.bind_some, one_byte u (by omega) _ (by unfold wrap64; omega), size_list, size_list, if_pos (by simp; omega), app_list]
  | succ f ih =>
    intro u l h hu hl
    rw [millwrightref01_Text.l0]
    by_cases h10 : u < 10
    · rw [if_neg (by omega), digits_small u h10]
      rw [Option.bind_some, one_byte u h10 _ (by unfold wrap64; omega), size_list, size_list, if_pos (by simp; omega), app_list]
    · have e1 : Int.tmod (u : Int) 10 = ((u % 10 : Nat) : Int) := by rw [Int.tmod_eq_emod_of_nonneg (by omega)]; omega
      have e2 : wrap64 (Int.tdiv (u : Int) 10) = ((u / 10 : Nat) : Int) := by rw [Int.tdiv_eq_ediv_of_nonneg (by omega)]; unfold wrap64; omega
      rw [if_pos (by omega), e1, e2]
      rw [Option.bind_some, one_byte (u % 10) (by omega) _ (by unfold wrap64; omega), size_list, size_list, if_pos (by simp; omega), app_list]
      rw [ih (u / 10) _ (by rw [Nat.pow_succ] at h; omega) (by omega) (by simp; omega), digits_step u h10, List.append_assoc]
theorem ref_text (u : Nat) (hu : u ≤ 9223372036854775807) : millwrightref01_Text.f 62 (u : Int) = some ⟨(Lib.decDigits u).toArray⟩ := by
  unfold millwrightref01_Text.f
  rw [show (⟨#[]⟩ : ByteArray) = ⟨([] : List UInt8).toArray⟩ from rfl]
  have h := ref_loop 61 u [] (Nat.lt_of_le_of_lt hu (by decide)) hu (by simp)
  rw [List.append_nil] at h
  exact h
theorem text_eq {n : Int} (h : -9223372036854775808 ≤ n ∧ n ≤ 9223372036854775807) : num_Text.f n = some ⟨(Lib.itoa n).toArray⟩ := by
  unfold num_Text.f; rw [if_pos h]
theorem j2_eq (k : Nat) (s : ByteArray) (hs : s.size ≤ 140737488351232) : millwrightlaw01_NumTexts.j2 (k + 1) s true false = some true := by
  have hmn : mn (s.size : Int) 50 = ((min s.size 50 : Nat) : Int) := by unfold mn; split <;> omega
  rw [millwrightlaw01_NumTexts.j2, if_neg (by decide), hmn, if_pos (by omega), if_pos (by omega)]
  have hs : (s.extract 0 ((min s.size 50 : Nat) : Int).toNat).size ≤ 50 := by rw [ByteArray.size_extract]; omega
  generalize s.extract 0 ((min s.size 50 : Nat) : Int).toNat = t at hs
  have e2 : num_Parse.f t = some (parseF t) := by unfold num_Parse.f; rw [if_pos (by omega)]
  rw [e2, Option.bind_some, if_pos rfl]
  by_cases h : (parseF t).2 = 0
  · obtain ⟨h1, h2, h3⟩ := parse_back t h
    rw [if_pos h, text_eq (by omega), Option.bind_some]
    have e : Lib.itoa (parseF t).1 = t.data.toList := by unfold Lib.itoa; rw [if_neg (by omega)]; exact h3
    rw [e, ByteArray.toList_eq]
    congr 1
    exact beq_iff_eq.mpr rfl
  · rw [if_neg h]
theorem NumTexts : millwrightlaw01_NumTexts.Pure := by
  intro n s hn hs
  replace hn := wf_range hn
  refine ⟨64, ?_⟩
  have e1 : millwrightlaw01_shown.f 64 = some true := by decide +kernel
  unfold millwrightlaw01_NumTexts.f
  rw [e1, text_eq hn]
  simp only [Option.bind_some]
  by_cases h : n < 0
  · have ei : Lib.itoa n = 45 :: Lib.decDigits n.natAbs := by unfold Lib.itoa; rw [if_pos h]
    rw [ei]
    have hl := len_dec 62 n.natAbs (Nat.lt_of_le_of_lt (show n.natAbs ≤ 9223372036854775808 by omega) (by decide))
    have hsz : (⟨(45 :: Lib.decDigits n.natAbs).toArray⟩ : ByteArray).size = (Lib.decDigits n.natAbs).length + 1 := size_list _
    have hb : bt ⟨(45 :: Lib.decDigits n.natAbs).toArray⟩ 0 = 45 := by
      unfold bt
      rw [dif_pos (by rw [hsz]; exact Nat.succ_pos _)]
      rfl
    have hp := parse_bad ⟨(45 :: Lib.decDigits n.natAbs).toArray⟩ 45 List.mem_cons_self (by unfold Dig; decide)
    generalize (⟨(45 :: Lib.decDigits n.natAbs).toArray⟩ : ByteArray) = t at *
    have e2 : num_Parse.f t = some (0, 2) := by unfold num_Parse.f; rw [if_pos (by omega), hp]
    rw [e2, Option.bind_some, if_neg (by omega), millwrightlaw01_NumTexts.j0, if_pos h, millwrightlaw01_NumTexts.j1]
    rw [if_pos rfl, if_neg (by decide), if_pos rfl, if_neg (by omega), if_pos h, if_pos (by omega), hb]
    exact j2_eq 61 s hs
  · obtain ⟨u, rfl⟩ := Int.eq_ofNat_of_zero_le (show 0 ≤ n by omega)
    have ei : Lib.itoa (u : Int) = Lib.decDigits u := by unfold Lib.itoa; rw [if_neg h]; rfl
    rw [ei]
    have hl := len_dec 62 u (Nat.lt_of_le_of_lt (show u ≤ 9223372036854775807 by omega) (by decide))
    have e2 : num_Parse.f ⟨(Lib.decDigits u).toArray⟩ = some (if (u : Int) > 1048576 then (0, 3) else ((u : Int), 0)) := by
      unfold num_Parse.f; rw [if_pos (by rw [size_list]; omega), parse_dec]
    rw [e2, Option.bind_some]
    by_cases hb : (u : Int) > 1048576
    · rw [if_pos hb, if_pos hb, millwrightlaw01_NumTexts.j0, if_neg h, millwrightlaw01_NumTexts.j1]
      rw [if_pos rfl, if_neg (by decide), if_pos rfl, if_pos (by omega), ref_text u (by omega), Option.bind_some, if_pos rfl, if_neg h]
      exact j2_eq 61 s hs
    · rw [if_neg hb, if_neg hb, millwrightlaw01_NumTexts.j0, if_neg h, millwrightlaw01_NumTexts.j1]
      rw [if_pos rfl, if_pos rfl, if_pos rfl, if_pos (by omega), ref_text u (by omega), Option.bind_some, if_pos rfl, if_neg h]
      exact j2_eq 61 s hs
end Go.Proofs.YtbjkfafjcflggaaDoor.Pure
