/- Rows of structs of whole numbers, and a struct of whole numbers, as a statement's arguments: opened into what the walks ask for. No condition. -/
import Derived.Test.YtckcepmkfegkiaaDoorTrL
import Derived.WalkKit
import Derived.ProofKit
import Derived.OpenShut
import Derived.ChangeOld
import Derived.SizedLaws
namespace Go.Proofs.YtckcepmkfegkiaaDoor.TrO
open Go.ChangeShapes Go.WideShapes Go.ChangeAt Go.RowKit Go.Proofs.YtckcepmkfegkiaaDoorW.PrintWords
set_option linter.unusedVariables false
theorem len2 {r : List Int} (h : r.length = 2) : ∃ a b, r = [a, b] := by
  match r, h with
  | [a, b], _ => exact ⟨a, b, rfl⟩
end Go.Proofs.YtckcepmkfegkiaaDoor.TrO
