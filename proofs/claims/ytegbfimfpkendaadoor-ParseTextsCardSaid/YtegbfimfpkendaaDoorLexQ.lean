/- Plain lemmas: how many blanks part tokens does not matter; comments; lines one behind the other. No condition. -/
import Derived.Test.YtegbfimfpkendaaDoorLexR
namespace Go.Proofs.YtegbfimfpkendaaDoor.LexQ
open LexS LexR
def isBlank (c : Int) : Prop := c = 32 ∨ c = 9 ∨ c = 13
instance (c : Int) : Decidable (isBlank c) := by unfold isBlank; infer_instance
inductive Bl : List Int → List Int → Prop
  | nil : Bl [] []
  | other (c : Int) (b o : List Int) : ¬ isBlank c → Bl b o → Bl (c :: b) (c :: o)
  | more (c : Int) (ws b o : List Int) : isBlank c → (∀ x ∈ ws, isBlank x) → Bl b o → Bl (c :: b) (c :: (ws ++ o))
theorem Bl.append {b o b' o' : List Int} (h : Bl b o) (h' : Bl b' o') : Bl (b ++ b') (o ++ o') := by
  induction h with
  | nil => exact h'
  | other c b o hc _ ih => exact .other c _ _ hc ih
  | more c ws b o hc hw _ ih =>
    have := Bl.more c ws (b ++ b') (o ++ o') hc hw ih
    simpa using this
theorem Bl.refl : ∀ l : List Int, Bl l l
  | [] => .nil
  | c :: l => by
    by_cases h : isBlank c
    · exact .more c [] l l h (by simp) (Bl.refl l)
    · exact .other c l l h (Bl.refl l)
theorem blank_k {c : Int} (h : isBlank c) : kR c = 3 ∧ c ≠ 35 ∧ c ≠ 10 := by
  rcases h with rfl | rfl | rfl <;> decide
theorem stepR_blank {line : Int} {toks : List Tok} {was c : Int} (h : isBlank c) : stepR line toks was c = some (toks, 3) := by
  unfold stepR
  rw [(blank_k h).1]
  simp
theorem runR_blanks (line : Int) (rest : List Int) : ∀ (ws : List Int) (toks : List Tok), (∀ x ∈ ws, isBlank x) → runR line (ws ++ rest) toks 3 = runR line rest toks 3
  | [], _, _ => rfl
  | c :: ws, toks, h => by
    rw [List.cons_append, runR, stepR_blank (h c (by simp)), Option.bind_some]
    exact runR_blanks line rest ws toks fun x hx => h x (by simp [hx])
theorem cutR_cons {c : Int} (h : c ≠ 35) (l : List Int) : cutR (c :: l) = c :: cutR l := by
  unfold cutR
  rw [List.takeWhile_cons_of_pos ((notMark_iff c).2 h)]
theorem cutR_mark (l : List Int) : cutR (35 :: l) = [] := rfl
theorem cutR_app : ∀ (ws l : List Int), (∀ x ∈ ws, x ≠ 35) → cutR (ws ++ l) = ws ++ cutR l
  | [], _, _ => rfl
  | c :: ws, l, h => by
    rw [List.cons_append, cutR_cons (h c (by simp)), cutR_app ws l fun x hx => h x (by simp [hx])]
    rfl
theorem runR_Bl {b o : List Int} (h : Bl b o) (line : Int) : ∀ (toks : List Tok) (was : Int), runR line (cutR o) toks was = runR line (cutR b) toks was := by
  induction h with
  | nil => intro _ _; rfl
  | other c b o hc _ ih =>
    intro toks was
    by_cases hm : c = 35
    · subst hm
      rfl
    · rw [cutR_cons hm, cutR_cons hm, runR, runR]
      cases stepR line toks was c with
      | none => rfl
      | some p => exact ih p.1 p.2
  | more c ws b o hc hw _ ih =>
    intro toks was
    have hm := (blank_k hc).2.1
    rw [cutR_cons hm, cutR_cons hm, cutR_app ws o fun x hx => (blank_k (hw x hx)).2.1, runR, runR, stepR_blank hc, Option.bind_some, Option.bind_some, runR_blanks line _ ws toks hw]
    exact ih toks 3
theorem rowR_Bl {b o : List Int} (h : Bl b o) (line : Int) : rowR line o = rowR line b := by
  unfold rowR
  rw [runR_Bl h]
theorem refG_Bl {b o : List Int} (h : Bl b o) : ∀ (cur cur' : List Int) (line : Int) (out : List Tok), Bl cur cur' → refG o cur' line out = refG b cur line out := by
  induction h with
  | nil =>
    intro cur cur' line out hc
    rw [refG, refG, rowR_Bl hc]
  | other c b o hc _ ih =>
    intro cur cur' line out hcur
    rw [refG, refG, rowR_Bl hcur]
    by_cases h10 : c = 10
    · rw [if_pos h10, if_pos h10]
      cases rowR line cur with
      | none => rfl
      | some l => exact ih [] [] (line + 1) (out ++ l) .nil
    · rw [if_neg h10, if_neg h10]
      exact ih _ _ line out (hcur.append (Bl.refl [c]))
  | more c ws b o hc hw _ ih =>
    intro cur cur' line out hcur
    have h10 := (blank_k hc).2.2
    rw [refG, refG, if_neg h10, if_neg h10, refG_seg o line out ws (cur' ++ [c]) fun x hx => (blank_k (hw x hx)).2.2]
    refine ih _ _ line out ?_
    have := hcur.append (Bl.more c ws [] [] hc hw .nil)
    simpa using this
theorem lexF_Bl {b o : List Int} (h : Bl b o) (hb : b.length ≤ 65536) (ho : o.length ≤ 65536) : lexF o = lexF b := by
  rw [lexF_eq, lexF_eq, if_neg (by omega), if_neg (by omega), refG_Bl h [] [] 1 [] .nil]
end Go.Proofs.YtegbfimfpkendaaDoor.LexQ
