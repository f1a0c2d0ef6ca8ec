/- The walks of the lexer's small functions: kind and next. No condition. -/
import Derived.Test.YtegbfimfpkendaaDoorProg
import Derived.WalkKit
import Derived.Deep.QuietTactic
import Derived.BigQuiet
import Derived.Deep.LoopGhost
import Derived.Deep.DeepCutAuto
import Derived.Deep.RegionHeld3
import Derived.Deep.Draws
import Derived.KernelRfl
import Derived.Test.YtegbfimfpkendaaDoorBa
import Derived.Test.YtegbfimfpkendaaDoorBb
import Derived.Test.YtegbfimfpkendaaDoorLexSpec
namespace Go.Proofs.YtegbfimfpkendaaDoor.LexA
open Go.RowKit Go.Proofs.YtegbfimfpkendaaDoorW.PrintWords Go.Proofs.YtegbfimfpkendaaDoorW.PrintLast LexS
set_option linter.unusedVariables false
set_option linter.unusedSimpArgs false
set_option maxHeartbeats 2000000 in
theorem kind_calls (c : Int) (w : World) :
    Calls Tryd.prog 48 #[.int .u8 c] w fun e w' => e = .returned (.int .i64 (kindI c)) ∧ w = w' := by
  rcases (show (97 ≤ c ∧ c ≤ 122) ∨ (65 ≤ c ∧ c ≤ 90) ∨ (48 ≤ c ∧ c ≤ 57) ∨ c = 32 ∨ c = 9 ∨ c = 13 ∨ c = 35 ∨ c = 10 ∨ (c ≤ 8 ∧ c ≤ 8) ∨ (11 ≤ c ∧ c ≤ 12) ∨ (14 ≤ c ∧ c ≤ 31) ∨ (33 ≤ c ∧ c ≤ 34) ∨ (36 ≤ c ∧ c ≤ 47) ∨ (58 ≤ c ∧ c ≤ 64) ∨ (91 ≤ c ∧ c ≤ 96) ∨ (123 ≤ c ∧ 123 ≤ c) from by omega) with h | h | h | rfl | rfl | rfl | rfl | rfl | h | h | h | h | h | h | h | h
  all_goals
    first
    | (go_enter Tryd.func48, Tryd.ntmps48
       go_wp2
       go_ret
       exact ⟨rfl, rfl⟩)
    | (obtain ⟨ha, hb⟩ := h
       have e1 : (c == 32) = false := beq_eq_false_iff_ne.2 (by omega)
       have e2 : (c == 9) = false := beq_eq_false_iff_ne.2 (by omega)
       have e3 : (c == 13) = false := beq_eq_false_iff_ne.2 (by omega)
       have e4 : (c == 35) = false := beq_eq_false_iff_ne.2 (by omega)
       have e5 : (c == 10) = false := beq_eq_false_iff_ne.2 (by omega)
       go_enter Tryd.func48, Tryd.ntmps48
       go_wp2
       go_ret
       exact ⟨congrArg (fun z => Ending.returned (.int .i64 z)) (by unfold kindI; (repeat' split) <;> omega), rfl⟩)
end Go.Proofs.YtegbfimfpkendaaDoor.LexA
