/- Plain lemmas: how many blanks part tokens does not matter; comments; lines one behind the other. No condition. -/
import Derived.Test.YtckcepmkfegkiaaDoorLexR
namespace Go.Proofs.YtckcepmkfegkiaaDoor.LexQ
open LexS LexR
def isBlank (c : Int) : Prop := c = 32 ∨ c = 9 ∨ c = 13
instance (c : Int) : Decidable (isBlank c) := by unfold isBlank; infer_instance
inductive Bl : List Int → List Int → Prop
  | nil : Bl [] []
  | other (c : Int) (b o : List Int) : ¬ isBlank c → Bl b o → Bl (c :: b) (c :: o)
  | more (c : Int) (ws b o : List Int) : isBlank c → (∀ x ∈ ws, isBlank x) → Bl b o → Bl (c :: b) (c :: (ws ++ o))
theorem Bl.append {b o b' o' : List Int} (h : Bl b o) (h' : Bl b' o') : Bl (b ++ b') (o ++ o') := by
  induction h with
  | nil => exact h'
  | other c b o hc _ ih => exact .other c _ _ hc ih
  | more c ws b o hc hw _ ih =>
    have := Bl.more c ws (b ++ b') (o ++ o') hc hw ih
    simpa using this
theorem Bl.refl : ∀ l : List Int, Bl l l
  | [] => .nil
  | c :: l => by
    by_cases h : isBlank c
    · exact .more c [] l l h (by simp) (Bl.refl l)
    · exact .other c l l h (Bl.refl l)
end Go.Proofs.YtckcepmkfegkiaaDoor.LexQ
