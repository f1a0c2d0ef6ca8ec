/- parse.numbers: the places of a config's numbers. No condition. -/
import Derived.Test.YtegbfimfpkendaaDoorPaA
import Derived.BigQuiet
import Derived.Deep.QuietTactic
import Derived.StillTailTactics
namespace Go.Proofs.YtegbfimfpkendaaDoor.PaB
open Go.RowKit Go.Proofs.YtegbfimfpkendaaDoorW.PrintWords Go.Proofs.YtegbfimfpkendaaDoorW.PrintLast Go.Proofs.YtegbfimfpkendaaDoorW.PrintMore
set_option linter.unusedVariables false
def placesV (g : Nat) : Value := .agg #[.pointer (some ⟨g, 0, none⟩), .pointer (some ⟨g, 1, none⟩), .pointer (some ⟨g, 2, none⟩), .pointer (some ⟨g, 3, none⟩), .pointer (some ⟨g, 4, none⟩), .pointer (some ⟨g, 5, none⟩), .pointer (some ⟨g, 6, none⟩), .pointer (some ⟨g, 7, none⟩), .pointer (some ⟨g, 8, none⟩), .pointer (some ⟨g, 9, none⟩)]
set_option maxHeartbeats 4000000 in
set_option maxRecDepth 100000 in
theorem numbers_calls (g : Nat) (w : World) : Calls Tryd.prog 25 #[.pointer (some ⟨g, 0, none⟩)] w fun x w' => x = .returned (placesV g) ∧ Below w.heap.size w w' := by
  unfold placesV
  go_enter Tryd.func25, Tryd.ntmps25
  go_wp2
  go_still_tail 31, (by kernel_rfl)
  change wpList _ _ _ _ _ (World.drew _)
  go_wp2
  refine bodyPost_ret (v := placesV g) ?_ rfl ⟨rfl, ?_⟩
  · unfold placesV
    simp [results, Tryd.results25, go_sem]
  · exact ((Below.refl _ _).alloc (Nat.le_refl _) _).drew
end Go.Proofs.YtegbfimfpkendaaDoor.PaB
