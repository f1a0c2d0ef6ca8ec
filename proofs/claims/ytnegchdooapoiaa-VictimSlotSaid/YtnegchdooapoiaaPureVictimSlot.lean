/- The plain law of VictimSlot: what the code computes answers true at every input. No condition. -/
import Derived.Test.YtnegchdooapoiaaVicL
import Derived.Test.YtnegchdooapoiaaPVictimSlotx
namespace Go.Proofs.Ytnegchdooapoiaa.Pure
open Go.RowKit Go.Proofs.Ytnegchdooapoiaa.PVic Go.Proofs.Ytnegchdooapoiaa.VicP Go.Proofs.Ytnegchdooapoiaa.VicS Go.Proofs.Ytnegchdooapoiaa.VicT Go.Proofs.Ytnegchdooapoiaa.VicL Go.Proofs.YtnegchdooapoiaaW.PrintWords Go.Proofs.YtnegchdooapoiaaW.PrintMore
/-- The first of a sorted row, one more inserted. -/
theorem head_snoc (E : List S27) (x : S27) : (isort ltR (E ++ [x])).head? = some (match (isort ltR E).head? with | none => x | some h => if ltR x h = true then x else h) := by
  rw [isort_snoc]
  cases isort ltR E with
  | nil => rfl
  | cons h t =>
    rw [ins_cons]
    simp only [List.head?_cons]
    split <;> rfl
theorem chs_one (h : S27) (T : List S27) (free : Int) (h0 : 0 ≤ free) : chs 0 (h :: T) [] free 0 = ([h.f0], true) := by
  have h1 : ¬ has 0 free 0 = true := by unfold has; simp
  have hm := memF_in h.f2
  have h2 : has 0 (free + memF h.f2) (0 + 1) = true := by
    unfold has
    simp only [Bool.and_eq_true, decide_eq_true_eq]
    omega
  rw [chs, if_neg h1]
  cases T with
  | nil => rw [chs, if_pos h2]; rfl
  | cons x R => rw [chs, if_pos h2]; rfl
theorem slot_one (L : List S27) (p f q : Int) : chooseS L p 0 f 1 q = ([], true) := by
  have hm := memF_in f
  have hh : has (memF 0) (memF f) (mn (mx 1 0) 1) = true := by
    have e1 : mn (mx 1 0) 1 = 1 := by decide
    have e2 : memF 0 = 0 := by decide
    rw [e1, e2]
    unfold has
    simp only [Bool.and_eq_true, decide_eq_true_eq]
    omega
  unfold chooseS
  cases isort ltR (L.filter (fun x => !sp ⟨p, memF 0, q⟩ x)) with
  | nil => rw [chs, if_pos hh]
  | cons x R => rw [chs, if_pos hh]
theorem slot_two (L : List S27) (p f q : Int) : chooseS L p 0 f 0 q = match (isort ltR (may L p 0 q)).head? with | none => ([], false) | some h => ([h.f0], true) := by
  have hm := memF_in f
  have e1 : mn (mx 0 0) 1 = 0 := by decide
  have e2 : memF 0 = 0 := by decide
  unfold chooseS
  rw [e1, e2]
  show chs 0 (isort ltR (may L p 0 q)) [] (memF f) 0 = _
  cases isort ltR (may L p 0 q) with
  | nil => rw [chs, if_neg (by unfold has; simp)]; rfl
  | cons h T => exact chs_one h T _ hm.1
theorem sSlot (k : Nat) (D : List S27) (x1 x2 x3 : Int) (x9 x10 : Bool) (x12 b0 b1 b2 b3 b4 : Int) : millwrightlaw12_VictimSlot.l0 (k + 1) D x1 x2 x3 x9 x10 x12 b0 b1 b2 b3 b4 = if x12 < (D.length : Int) then (if 0 ≤ x12 then (if (rd_T27 D x12).f1 ≥ x1 then (millwrightlaw12_VictimSlot.j1 k D x1 x2 x3 x9 x10 x12 true b0 b1 b2 b3 b4 (rd_T27 D x12).f0 (rd_T27 D x12).f1 (rd_T27 D x12).f2 (rd_T27 D x12).f3 (rd_T27 D x12).f4) else (millwrightlaw12_VictimSlot.j1 k D x1 x2 x3 x9 x10 x12 (decide ((rd_T27 D x12).f3 ≥ x3)) b0 b1 b2 b3 b4 (rd_T27 D x12).f0 (rd_T27 D x12).f1 (rd_T27 D x12).f2 (rd_T27 D x12).f3 (rd_T27 D x12).f4)) else none) else ((victim_Choose.f k D x1 0 x2 1 x3).bind fun u => ((victim_Choose.f k D x1 0 x2 0 x3).bind fun v => (if u.2 = true then (if (u.1.length : Int) = 0 then (if (v.2 != x10) = true then (some false) else (if x9 = true then (if x10 = true then ((millwrightlaw12_same.f k v.1 [b0]).bind fun t => (if t = true then (some true) else (some false))) else (some ((v.1.length : Int) == 0))) else (some false))) else (some false)) else (some false)))) := by simp only [millwrightlaw12_VictimSlot.l0]
theorem sSlot1 (k : Nat) (D : List S27) (x1 x2 x3 : Int) (x9 x10 : Bool) (x12 : Int) (c : Bool) (b x : S27) : millwrightlaw12_VictimSlot.j1 (k + 1) D x1 x2 x3 x9 x10 x12 c b.f0 b.f1 b.f2 b.f3 b.f4 x.f0 x.f1 x.f2 x.f3 x.f4 = if c = true then millwrightlaw12_VictimSlot.l0 k D x1 x2 x3 x9 x10 (wrap64 (x12 + 1)) b.f0 b.f1 b.f2 b.f3 b.f4 else (if x10 = true ∧ ¬ ltR x b = true then millwrightlaw12_VictimSlot.l0 k D x1 x2 x3 x9 true (wrap64 (x12 + 1)) b.f0 b.f1 b.f2 b.f3 b.f4 else millwrightlaw12_VictimSlot.l0 k D x1 x2 x3 x9 true (wrap64 (x12 + 1)) x.f0 x.f1 x.f2 x.f3 x.f4) := by
  have hlt : ltR x b = true ↔ (x.f1 < b.f1 ∨ (x.f1 = b.f1 ∧ (b.f4 < x.f4 ∨ (b.f4 = x.f4 ∧ b.f0 < x.f0)))) := by
    unfold ltR
    simp only [Bool.or_eq_true, Bool.and_eq_true, decide_eq_true_eq]
  simp only [millwrightlaw12_VictimSlot.j1]
  by_cases hc : c = true
  · rw [if_pos hc, if_pos hc]
  · rw [if_neg hc, if_neg hc]
    by_cases h10 : x10 = true
    · rw [if_pos h10]
      by_cases h1 : x.f1 < b.f1
      · rw [if_pos h1, if_neg (fun h => h.2 (hlt.2 (Or.inl h1)))]
      · rw [if_neg h1]
        by_cases h2 : x.f1 = b.f1
        · rw [if_pos h2]
          by_cases h3 : x.f4 > b.f4
          · rw [if_pos h3, if_neg (fun h => h.2 (hlt.2 (Or.inr ⟨h2, Or.inl h3⟩)))]
          · rw [if_neg h3]
            by_cases h4 : x.f4 = b.f4
            · rw [if_pos h4]
              by_cases h5 : x.f0 > b.f0
              · rw [if_pos h5, if_neg (fun h => h.2 (hlt.2 (Or.inr ⟨h2, Or.inr ⟨h4.symm, h5⟩⟩)))]
              · rw [if_neg h5, if_pos ⟨h10, fun h => by have := hlt.1 h; omega⟩]
            · rw [if_neg h4, if_pos ⟨h10, fun h => by have := hlt.1 h; omega⟩]
        · rw [if_neg h2, if_pos ⟨h10, fun h => by have := hlt.1 h; omega⟩]
    · rw [if_neg h10, if_neg (fun h => h10 h.1)]
theorem slot_l (x1 x2 x3 : Int) : ∀ (R A : List S27) (x10 : Bool) (i : Int) (b : S27), i = A.length → (A ++ R).length ≤ 1073741824 → (match (isort ltR (may A x1 0 x3)).head? with | none => x10 = false | some h => x10 = true ∧ b = h) →
    Ev (fun k => millwrightlaw12_VictimSlot.l0 k (A ++ R) x1 x2 x3 true x10 i b.f0 b.f1 b.f2 b.f3 b.f4) true
  | [], A, x10, i, b, ei, hb, hm => by
    rw [List.append_nil] at hb ⊢
    have h := Ev.bind (choose_ev A x1 0 x2 1 x3 hb) (f := fun k u => ((victim_Choose.f k A x1 0 x2 0 x3).bind fun v => (if u.2 = true then (if (u.1.length : Int) = 0 then (if (v.2 != x10) = true then (some false) else (if true = true then (if x10 = true then ((millwrightlaw12_same.f k v.1 [b.f0]).bind fun t => (if t = true then (some true) else (some false))) else (some ((v.1.length : Int) == 0))) else (some false))) else (some false)) else (some false)))) (r := true) (by
        refine Ev.bind (choose_ev A x1 0 x2 0 x3 hb) ?_
        rw [slot_one, slot_two]
        revert hm
        cases (isort ltR (may A x1 0 x3)).head? with
        | none =>
          intro hm
          simp only at hm
          subst hm
          exact ⟨0, fun _ _ => rfl⟩
        | some h =>
          intro hm
          simp only at hm
          obtain ⟨rfl, rfl⟩ := hm
          have := Ev.bind (same_ev [b.f0] [b.f0] (by simp [BIG])) (f := fun _ t => if t = true then some true else some false) (r := true) ⟨0, fun _ _ => by simp⟩
          refine Ev.congr (fun k => ?_) this
          simp)
    refine Ev.step (fun k => ?_) h
    rw [sSlot, if_neg (by omega)]
  | x :: R, A, x10, i, b, ei, hb, hm => by
    have hb' := hb
    simp only [List.length_append, List.length_cons] at hb'
    have r1 : rd_T27 (A ++ x :: R) i = x := rdA _ _ _ ei
    have hl : (A ++ x :: R).length = A.length + R.length + 1 := by simp; omega
    have wi : wrap64 (i + 1) = i + 1 := w64 (by omega) (by omega)
    have hgo : ∀ (x10' : Bool) (b' : S27), (match (isort ltR (may (A ++ [x]) x1 0 x3)).head? with | none => x10' = false | some h => x10' = true ∧ b' = h) → Ev (fun k => millwrightlaw12_VictimSlot.l0 k (A ++ x :: R) x1 x2 x3 true x10' (wrap64 (i + 1)) b'.f0 b'.f1 b'.f2 b'.f3 b'.f4) true := by
      intro x10' b' hm'
      have := slot_l x1 x2 x3 R (A ++ [x]) x10' (i + 1) b' (by simp; omega) (by simpa using hb) hm'
      rw [wi]
      simpa using this
    have hmay : may (A ++ [x]) x1 0 x3 = may A x1 0 x3 ++ (if sp ⟨x1, 0, x3⟩ x = true then [] else [x]) := by
      unfold may
      rw [List.filter_append, List.filter_cons]
      rcases h : sp ⟨x1, 0, x3⟩ x with _ | _ <;> simp
    have hsp : sp ⟨x1, 0, x3⟩ x = (decide (x.f1 ≥ x1) || decide (x.f3 ≥ x3)) := rfl
    -- the round, told by whether x may be stopped
    have step : Ev (fun k => millwrightlaw12_VictimSlot.j1 k (A ++ x :: R) x1 x2 x3 true x10 i (sp ⟨x1, 0, x3⟩ x) b.f0 b.f1 b.f2 b.f3 b.f4 x.f0 x.f1 x.f2 x.f3 x.f4) true := by
      rcases hs : sp ⟨x1, 0, x3⟩ x with _ | _
      · rw [hs] at hmay
        simp only [Bool.false_eq_true, if_false] at hmay
        have hd := head_snoc (may A x1 0 x3) x
        rw [← hmay] at hd
        by_cases hk : x10 = true ∧ ¬ ltR x b = true
        · have := hgo true b (by
            rw [hd]
            revert hm
            cases (isort ltR (may A x1 0 x3)).head? with
            | none => intro hm; rw [hm] at hk; exact absurd hk.1 (by decide)
            | some h =>
              intro hm
              simp only at hm ⊢
              rw [← hm.2, if_neg hk.2]
              first | exact ⟨rfl, rfl⟩ | exact ⟨trivial, rfl⟩)
          refine Ev.step (fun k => ?_) this
          rw [sSlot1, if_neg (by decide), if_pos hk]
        · have := hgo true x (by
            rw [hd]
            revert hm
            cases (isort ltR (may A x1 0 x3)).head? with
            | none => intro hm; exact ⟨rfl, rfl⟩
            | some h =>
              intro hm
              simp only at hm ⊢
              have hlt : ltR x h = true := by
                rw [← hm.2]
                rcases hc : ltR x b with _ | _
                · exact absurd ⟨hm.1, by rw [hc]; decide⟩ hk
                · rfl
              rw [if_pos hlt]
              first | exact ⟨rfl, rfl⟩ | exact ⟨trivial, rfl⟩)
          refine Ev.step (fun k => ?_) this
          rw [sSlot1, if_neg (by decide), if_neg hk]
      · rw [hs] at hmay
        simp only [if_true, List.append_nil] at hmay
        have := hgo x10 b (by rw [hmay]; exact hm)
        refine Ev.step (fun k => ?_) this
        rw [sSlot1, if_pos rfl]
    refine Ev.step (fun k => ?_) step
    rw [sSlot, hl, if_pos (by omega), if_pos (by omega), r1, hsp]
    by_cases h1 : x.f1 ≥ x1
    · rw [if_pos h1, decide_eq_true h1, Bool.true_or]
    · rw [if_neg h1, decide_eq_false h1, Bool.false_or]
theorem VictimSlot (l0 : List S27) (a1 a2 a3 : Int) : ∃ k, millwrightlaw12_VictimSlot.f k l0 a1 a2 a3 = some true := by
  refine Ev.rounds ?_
  unfold millwrightlaw12_VictimSlot.f
  refine Ev.bind shown_ev ?_
  simp only [few_f, Option.bind_some]
  have hl := few_len l0
  have := slot_l a1 a2 a3 (l0.take 30) [] false 0 z27 rfl (by simp only [List.nil_append]; omega) rfl
  exact this
end Go.Proofs.Ytnegchdooapoiaa.Pure
