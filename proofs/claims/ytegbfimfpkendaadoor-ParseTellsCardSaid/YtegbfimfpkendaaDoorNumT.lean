/- Plain lemmas: decimal digits and what is read of them (no program in sight). No condition. -/
import Derived.Test.YtegbfimfpkendaaDoorMg7
import Derived.Lib.ItoaNum
namespace Go.Proofs.YtegbfimfpkendaaDoor.NumT
open Go NumS
def Dig (c : UInt8) : Prop := 48 ≤ c.toNat ∧ c.toNat ≤ 57
def step (n : Int) (c : UInt8) : Int := min (10 * n + ((c.toNat : Int) - 48)) 1048577
def fin (n : Int) : Int × Int := if n > 1048576 then (0, 3) else (n, 0)
theorem parse_digits : ∀ (l : List UInt8) (n : Int), (∀ c ∈ l, Dig c) → parseL l n = fin (l.foldl step n)
  | [], n, _ => rfl
  | c :: l, n, h => by
    have hc := h c List.mem_cons_self
    unfold Dig at hc
    rw [parseL, if_neg (by omega), parse_digits l _ (fun x hx => h x (List.mem_cons_of_mem _ hx))]
    rfl
theorem parse_other : ∀ (l : List UInt8) (n : Int) (c : UInt8), c ∈ l → ¬ Dig c → parseL l n = (0, 2)
  | [], n, c, h, _ => by cases h
  | a :: l, n, c, h, hc => by
    rw [parseL]
    by_cases ha : a.toNat < 48 ∨ 57 < a.toNat
    · rw [if_pos ha]
    · rw [if_neg ha]
      rcases List.mem_cons.mp h with rfl | h
      · exact absurd ⟨by omega, by omega⟩ hc
      · exact parse_other l _ c h hc
theorem digits_step (u : Nat) (h : ¬ u < 10) : Lib.decDigits u = Lib.decDigits (u / 10) ++ [UInt8.ofNat (48 + u % 10)] := by
  rw [Lib.decDigits, dif_neg h]
theorem digits_small (u : Nat) (h : u < 10) : Lib.decDigits u = [UInt8.ofNat (48 + u)] := by
  rw [Lib.decDigits, dif_pos h]
theorem dig_of (d : Nat) (h : d < 10) : (UInt8.ofNat (48 + d)).toNat = 48 + d := by
  rw [UInt8.toNat_ofNat']; omega
theorem digits_dig (u : Nat) : ∀ c ∈ Lib.decDigits u, Dig c := by
  induction u using Nat.strongRecOn with
  | _ u ih =>
    by_cases h : u < 10
    · rw [digits_small u h]
      intro c hc
      rw [List.mem_singleton] at hc
      subst hc
      unfold Dig
      rw [dig_of u h]; omega
    · rw [digits_step u h]
      intro c hc
      rcases List.mem_append.mp hc with hc | hc
      · exact ih (u / 10) (by omega) c hc
      · rw [List.mem_singleton] at hc
        subst hc
        unfold Dig
        rw [dig_of _ (by omega)]; omega
theorem digits_fold (u : Nat) : (Lib.decDigits u).foldl step 0 = min (u : Int) 1048577 := by
  induction u using Nat.strongRecOn with
  | _ u ih =>
    by_cases h : u < 10
    · rw [digits_small u h]
      show step 0 _ = _
      unfold step
      rw [dig_of u h]; omega
    · rw [digits_step u h, List.foldl_append, ih (u / 10) (by omega)]
      show step _ _ = _
      unfold step
      rw [dig_of _ (by omega)]; omega
theorem digits_ne (u : Nat) : Lib.decDigits u ≠ [] := by
  by_cases h : u < 10
  · rw [digits_small u h]; exact List.cons_ne_nil _ _
  · rw [digits_step u h]; simp
theorem digits_head (u : Nat) (hu : u ≠ 0) : (Lib.decDigits u).head? ≠ some 48 := by
  induction u using Nat.strongRecOn with
  | _ u ih =>
    by_cases h : u < 10
    · rw [digits_small u h]
      intro e
      have e2 := Option.some.inj e
      have := dig_of u h
      rw [e2] at this
      have h48 : (48 : UInt8).toNat = 48 := rfl
      omega
    · rw [digits_step u h, List.head?_append]
      have := ih (u / 10) (by omega) (by omega)
      cases hh : (Lib.decDigits (u / 10)).head? with
      | none => exact absurd (List.head?_eq_none_iff.mp hh) (digits_ne _)
      | some c => rw [hh] at this; simpa using this
theorem digits_of : ∀ (n : Nat) (l : List UInt8), l.length = n → l ≠ [] → (∀ c ∈ l, Dig c) → (l.head? ≠ some 48 ∨ l = [48]) → l.foldl step 0 ≤ 1048576 → 0 ≤ l.foldl step 0 ∧ Lib.decDigits (l.foldl step 0).toNat = l
  | 0, l, hl, h0, _, _, _ => absurd (List.length_eq_zero_iff.mp hl) h0
  | n + 1, l, hl, h0, hd, hz, hv => by
    obtain ⟨l', c, rfl⟩ : ∃ l' c, l = l' ++ [c] := ⟨l.dropLast, l.getLast h0, (List.dropLast_concat_getLast h0).symm⟩
    have hc : Dig c := hd c (by simp)
    unfold Dig at hc
    have hcc : UInt8.ofNat (48 + (c.toNat - 48)) = c := by
      apply UInt8.toNat_inj.mp
      rw [dig_of _ (by omega)]; omega
    rw [List.foldl_append] at hv ⊢
    change step (l'.foldl step 0) c ≤ 1048576 at hv
    change 0 ≤ step (l'.foldl step 0) c ∧ Lib.decDigits (step (l'.foldl step 0) c).toNat = _
    by_cases hn : l' = []
    · subst hn
      simp only [List.foldl_nil, step, List.nil_append] at hv ⊢
      refine ⟨by omega, ?_⟩
      rw [digits_small _ (by omega)]
      rw [show (min (10 * 0 + ((c.toNat : Int) - 48)) 1048577).toNat = c.toNat - 48 by omega, hcc]
    · have hz' : l'.head? ≠ some 48 := by
        rcases hz with hz | hz
        · rw [List.head?_append] at hz
          cases hh : l'.head? with
          | none => exact absurd (List.head?_eq_none_iff.mp hh) hn
          | some x => rw [hh] at hz; simpa using hz
        · have := congrArg List.length hz
          have hp : 0 < l'.length := List.length_pos_iff.mpr hn
          rw [List.length_append] at this
          change l'.length + 1 = 1 at this
          omega
      have hv' : l'.foldl step 0 ≤ 1048576 := by
        generalize l'.foldl step 0 = q at hv
        unfold step at hv
        omega
      obtain ⟨k0, k⟩ := digits_of n l' (by simpa using hl) hn (fun x hx => hd x (List.mem_append_left _ hx)) (Or.inl hz') hv'
      generalize hq : l'.foldl step 0 = q at *
      have hq1 : q ≠ 0 := by
        intro e
        subst e
        rw [show (0 : Int).toNat = 0 from rfl, digits_small 0 (by decide)] at k
        rw [← k] at hz'
        exact hz' rfl
      unfold step at hv ⊢
      refine ⟨by omega, ?_⟩
      rw [show (min (10 * q + ((c.toNat : Int) - 48)) 1048577).toNat = 10 * q.toNat + (c.toNat - 48) by omega]
      rw [digits_step _ (by omega), show (10 * q.toNat + (c.toNat - 48)) / 10 = q.toNat by omega, show (10 * q.toNat + (c.toNat - 48)) % 10 = c.toNat - 48 by omega, k, hcc]
theorem parse_dec (u : Nat) : parseF ⟨(Lib.decDigits u).toArray⟩ = if (u : Int) > 1048576 then (0, 3) else ((u : Int), 0) := by
  unfold parseF
  rw [if_neg, parse_digits _ _ (digits_dig u), digits_fold u]
  · unfold fin
    by_cases h : (u : Int) > 1048576
    · rw [if_pos h, if_pos (by omega)]
    · rw [if_neg h, if_neg (by omega)]
      congr 1; omega
  · rintro (h | ⟨h1, h2⟩)
    · exact digits_ne u h
    · by_cases hu : u = 0
      · subst hu; exact h2 (by rw [digits_small 0 (by decide)]; rfl)
      · exact digits_head u hu h1
theorem parse_back (s : ByteArray) (h : (parseF s).2 = 0) : 0 ≤ (parseF s).1 ∧ (parseF s).1 ≤ 1048576 ∧ Lib.decDigits (parseF s).1.toNat = s.data.toList := by
  unfold parseF at *
  by_cases c : s.data.toList = [] ∨ (s.data.toList.head? = some 48 ∧ s.data.toList ≠ [48])
  · rw [if_pos c] at h; exact absurd h (by decide)
  · rw [if_neg c] at h ⊢
    have hd : ∀ x ∈ s.data.toList, Dig x := fun x hx => Classical.byContradiction fun hn => by
      rw [parse_other _ _ x hx hn] at h; exact absurd h (by decide)
    rw [parse_digits _ _ hd] at h ⊢
    unfold fin at *
    by_cases c2 : s.data.toList.foldl step 0 > 1048576
    · rw [if_pos c2] at h; exact absurd h (by decide)
    · rw [if_neg c2]
      have := digits_of _ s.data.toList rfl (fun e => c (Or.inl e)) hd (by
        by_cases e : s.data.toList.head? = some 48
        · exact Or.inr (Classical.byContradiction fun e2 => c (Or.inr ⟨e, e2⟩))
        · exact Or.inl e) (by omega)
      exact ⟨this.1, by omega, this.2⟩
end Go.Proofs.YtegbfimfpkendaaDoor.NumT
