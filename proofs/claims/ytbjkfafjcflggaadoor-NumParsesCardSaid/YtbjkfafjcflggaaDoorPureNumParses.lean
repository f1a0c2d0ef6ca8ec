/- The plain law of NumParses: what the code computes answers true at every input. No condition. -/
import Derived.Test.YtbjkfafjcflggaaDoorNumT
--  of NumParses: what the code computes answers true at every input. No condition. -/
import Derived.Test.YtbjkfafjcflggaaDoorNumT
--  of NumParses: what the code computes answers true at every input. No condition. -/
import Derived.Test.YtbjkfafjcflggaaDoorNumT
import Derived.Test.YtbjkfafjcflggaaDoorPNumParsesx2
namespace Go.Proofs.YtbjkfafjcflggaaDoor.Pure
open Go.RowKit Go.Proofs.YtbjkfafjcflggaaDoor.PNumParses Go.Proofs.YtbjkfafjcflggaaDoorW.PrintWords Go.Proofs.YtbjkfafjcflggaaDoorW.PrintLast
set_option linter.unusedVariables false
set_option linter.unusedSimpArgs false
theorem wf_range {a : Int} (h : (Lit.int .i64 a).wf = true) : -9223372036854775808 ≤ a ∧ a ≤ 9223372036854775807 := by
  simp only [Lit.wf, IntKind.min, IntKind.max, IntKind.signed, IntKind.bits, Bool.and_eq_true, decide_eq_true_eq, if_true] at h
  omega
def fitF (x : Int) : Int × Bool := if -9223372036854775808 ≤ x ∧ x ≤ 9223372036854775807 then (x, true) else (0, false)
theorem wrap_in {x : Int} (h : -9223372036854775808 ≤ x ∧ x ≤ 9223372036854775807) : wrap64 x = x := by unfold wrap64; omega
theorem shown_eq : millwrightlaw01_shown.f 8 = some true := by decide +kernel
-- WITHOUT SUB MUL ADD
-- IMPORTS Derived.Test.YtbjkfafjcflggaaDoorNumT
open Go.Proofs.YtbjkfafjcflggaaDoor.NumT Go.Proofs.YtbjkfafjcflggaaDoor.NumS
theorem bt_get (s : ByteArray) (i : Nat) (h : i < s.size) : bt s (i : Int) = ((s[i]'h).toNat : Int) := (bt_at s (i : Int) h).symm
/-- The document's answer, from byte i on. -/
def tail (s : ByteArray) (r : Int × Int) : Int × Int := if r.2 = 2 then (0, 2) else if s.data.toList.head? = some 48 ∧ 1 < s.size then (0, 2) else r
theorem ref_loop (s : ByteArray) (hs : 0 < s.size) (hm : s.size ≤ 50) : ∀ (g i : Nat) (n : Int) (big : Bool) (q : Int), i + g = s.size → 0 ≤ n → (big = false → n ≤ 1048576 ∧ q = n) → (big = true → q = 1048577) →
    millwrightref01_Parse.l0 (2 * g + 2) s n big i = some (tail s (parseL (s.data.toList.drop i) q)) := by
  intro g
  induction g with
  | zero =>
    intro i n big q hi hn hb1 hb2
    obtain rfl : i = s.size := by omega
    show millwrightref01_Parse.l0 (0 + 1 + 1) s n big s.size = _
    rw [drop_all, millwrightref01_Parse.l0, if_neg (Int.lt_irrefl _), if_pos (by omega)]
    have h0 : bt s 0 = ((s[0]'hs).toNat : Int) := bt_get s 0 hs
    have hd := drop_cons s 0 hs
    rw [List.drop_zero] at hd
    have hh : s.data.toList.head? = some (s[0]'hs) := by rw [hd]; rfl
    have hf : ∀ b : Bool, millwrightref01_Parse.j2 1 n big b = some (if b = true then (0, 2) else if big = true then (0, 3) else (n, 0)) := by
      intro b
      rw [millwrightref01_Parse.j2]
      cases b <;> cases big <;> rfl
    have hp : parseL [] q = if big = true then (0, 3) else (n, 0) := by
      rw [parseL]
      cases big with
      | false => rw [if_neg (by have := hb1 rfl; omega), (hb1 rfl).2]; rfl
      | true => rw [if_pos (by have := hb2 rfl; omega)]; rfl
    have hp2 : ¬ (parseL [] q).2 = 2 := by rw [hp]; cases big; exact (by decide : ¬ (0 : Int) = 2); exact (by decide : ¬ (3 : Int) = 2)
    unfold tail
    rw [if_neg hp2, hp]
    by_cases hz : bt s 0 = 48
    · have hz1 : s.data.toList.head? = some 48 := by rw [hh]; congr 1; apply UInt8.toNat_inj.mp; rw [h0] at hz; exact Int.ofNat_inj.mp hz
      rw [if_pos hz, hf]
      by_cases h1 : 1 < s.size
      · rw [if_pos (show s.data.toList.head? = some 48 ∧ 1 < s.size from ⟨hz1, h1⟩), if_pos (decide_eq_true (by omega))]
      · rw [if_neg (show ¬ (s.data.toList.head? = some 48 ∧ 1 < s.size) from fun h => h1 h.2), if_neg (by rw [decide_eq_false (by omega)]; decide)]
    · have hz1 : ¬ s.data.toList.head? = some 48 := by rw [hh]; intro e; apply hz; rw [h0, Option.some.inj e]; rfl
      rw [if_neg hz, hf, if_neg (show ¬ (s.data.toList.head? = some 48 ∧ 1 < s.size) from fun h => hz1 h.1), if_neg (by decide)]
  | succ g ih =>
    intro i n big q hi hn hb1 hb2
    have hlt : i < s.size := by omega
    show millwrightref01_Parse.l0 (2 * g + 2 + 1 + 1) s n big i = _
    obtain ⟨c, hc⟩ : ∃ c : Nat, (s[i]'hlt).toNat = c := ⟨_, rfl⟩
    have hbt : bt s i = (c : Int) := by rw [bt_get s i hlt, hc]
    have hc255 : c ≤ 255 := by have := UInt8.toNat_lt (s[i]'hlt); omega
    rw [millwrightref01_Parse.l0, if_pos (by omega), if_pos (by omega), hbt, drop_cons s i hlt, parseL, hc]
    have hw : wrap64 ((i : Int) + 1) = ((i + 1 : Nat) : Int) := by unfold wrap64; omega
    have hj : ∀ b : Bool, (b = true ↔ (c < 48 ∨ 57 < c)) → millwrightref01_Parse.j1 (2 * g + 2 + 1) s n big i b = some (tail s (if c < 48 ∨ 57 < c then (0, 2) else parseL (s.data.toList.drop (i + 1)) (min (10 * q + ((c : Int) - 48)) 1048577))) := by
      intro b hb
      rw [millwrightref01_Parse.j1]
      by_cases h : c < 48 ∨ 57 < c
      · rw [if_pos h, if_pos (hb.2 h)]; rfl
      · rw [if_neg h, if_neg (fun e => h (hb.1 e))]
        cases big with
        | true =>
          have hq := hb2 rfl
          rw [if_pos rfl, hw]
          exact ih (i + 1) n true _ (by omega) hn (fun e => by cases e) (fun _ => by omega)
        | false =>
          have hq := hb1 rfl
          rw [if_neg (by decide), if_pos (by omega), if_pos (by omega), hw, hbt]
          have e : wrap64 (wrap64 (wrap64 (n * 10) + wrap64 (c : Int)) - 48) = 10 * n + ((c : Int) - 48) := by unfold wrap64; omega
          rw [e]
          refine ih (i + 1) _ _ _ (by omega) (by omega) (fun h2 => ?_) (fun h2 => ?_)
          · have := of_decide_eq_false h2; omega
          · have := of_decide_eq_true h2; omega
    by_cases h1 : (c : Int) < 48
    · rw [if_pos h1]; exact hj true (by simp; omega)
    · rw [if_neg h1]; exact hj _ (by simp; omega)
theorem ref_eq (s : ByteArray) (hm : s.size ≤ 50) : millwrightref01_Parse.f 128 s = some (parseF s) := by
  unfold millwrightref01_Parse.f parseF
  rw [ByteArray.toList_eq]
  by_cases h0 : s.data.toList = []
  · rw [if_pos h0, if_pos (Or.inl h0)]
  · rw [if_neg h0]
    have hs : 0 < s.size := by
      rcases Nat.eq_zero_or_pos s.size with h | h
      · exact absurd (List.length_eq_zero_iff.mp h) h0
      · exact h
    have hl := ref_loop s hs hm s.size 0 0 false 0 (by omega) (by decide) (fun _ => by decide) (fun e => by cases e)
    rw [List.drop_zero] at hl
    have ht : tail s (parseL s.data.toList 0) = if s.data.toList = [] ∨ (s.data.toList.head? = some 48 ∧ s.data.toList ≠ [48]) then (0, 2) else parseL s.data.toList 0 := by
      have hz : (s.data.toList.head? = some 48 ∧ s.data.toList ≠ [48]) ↔ (s.data.toList.head? = some 48 ∧ 1 < s.size) := by
        have hlen : s.data.toList.length = s.size := rfl
        constructor
        · rintro ⟨a, b⟩
          refine ⟨a, ?_⟩
          cases hq : s.data.toList with
          | nil => exact absurd hq h0
          | cons x l =>
            rw [hq] at a b hlen
            cases l with
            | nil => exact absurd (congrArg (fun y => [y]) (Option.some.inj a)) b
            | cons y l => simp at hlen; omega
        · rintro ⟨a, b⟩
          refine ⟨a, fun e => ?_⟩
          rw [e] at hlen
          simp at hlen
          omega
      unfold tail
      by_cases c1 : (parseL s.data.toList 0).2 = 2
      · rw [if_pos c1]
        split
        · rfl
        · exact (parse_two _ _ c1).symm
      · rw [if_neg c1]
        by_cases c2 : s.data.toList.head? = some 48 ∧ 1 < s.size
        · rw [if_pos c2, if_pos (Or.inr (hz.2 c2))]
        · rw [if_neg c2, if_neg (fun h => h.elim h0 (fun h => c2 (hz.1 h)))]
    rw [← ht]
    have hmono := more_rounds (g := fun k => millwrightref01_Parse.l0 k s 0 false 0) (fun k => (millwrightref01_Parse.mono_l k).1 s 0 false 0) (2 * s.size + 2) (128 - (2 * s.size + 2))
    rw [show 2 * s.size + 2 + (128 - (2 * s.size + 2)) = 128 by omega] at hmono
    exact hmono _ hl
where parse_two : ∀ (l : List UInt8) (n : Int), (parseL l n).2 = 2 → parseL l n = (0, 2)
  | [], n, h => by
    rw [parseL] at h
    split at h
    · exact absurd h (by decide)
    · exact absurd h (by decide : ¬ (0 : Int) = 2)
  | c :: l, n, h => by
    rw [parseL] at h ⊢
    split at h
    · rename_i hc; rw [if_pos hc]
    · rename_i hc; rw [if_neg hc]; exact parse_two l _ h
theorem NumParses : millwrightlaw01_NumParses.Pure := by
  intro a ha
  refine ⟨128, ?_⟩
  have e1 : millwrightlaw01_shown.f 128 = some true := by decide +kernel
  have hmn : mn (a.size : Int) 50 = ((min a.size 50 : Nat) : Int) := by unfold mn; split <;> omega
  unfold millwrightlaw01_NumParses.f
  rw [e1, hmn]
  simp only [Option.bind_some]
  rw [if_pos (by omega), if_pos (by omega)]
  have hs : (a.extract 0 ((min a.size 50 : Nat) : Int).toNat).size ≤ 50 := by rw [ByteArray.size_extract]; omega
  generalize a.extract 0 ((min a.size 50 : Nat) : Int).toNat = s at hs
  have e2 : num_Parse.f s = some (parseF s) := by unfold num_Parse.f; rw [if_pos (by omega)]
  simp only [e2, ref_eq s hs, Option.bind_some, if_true, beq_self_eq_true]
end Go.Proofs.YtbjkfafjcflggaaDoor.Pure
