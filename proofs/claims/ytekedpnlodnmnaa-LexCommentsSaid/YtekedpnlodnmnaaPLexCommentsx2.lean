-- Printed for this claim by a program of this project's own, over the kit's printer; some functions are told by hand.
import Derived.Test.YtekedpnlodnmnaaPLexCommentsx0
namespace Go.Proofs.Ytekedpnlodnmnaa.PLexComments
open Go.RowKit Go.Proofs.YtekedpnlodnmnaaW.PrintWords Go.Proofs.YtekedpnlodnmnaaW.PrintLast Go.Proofs.YtekedpnlodnmnaaW.PrintMore
attribute [local go_sem] max2_int min2_int max_two min_two max_three min_three max_four min_four   -- for this text's walks alone
set_option linter.unusedVariables false
set_option linter.unusedSimpArgs false

-- NOT PRINTED: function 20 (lex_kind)

-- NOT PRINTED: function 15 (lex_scan_next)

-- NOT PRINTED: function 16 (lex_scan_take)

-- NOT PRINTED: function 17 (lex_scan_end)


/-! ### lex_Lex: function 11 -/
def lex_Lex.f (l0 : List Int) : Option ((List (S35)) × Int × Int) := some ((LexS.lexF l0).1.map (fun t : LexS.Tok => (⟨t.kind, strOfNums t.text, t.line⟩ : S35)), (LexS.lexF l0).2.1, (LexS.lexF l0).2.2)
theorem lex_Lex.calls (A0 : Option Addr) (c0 : Nat) (l0 : List Int) (r1 : List (S35)) (r2 : Int) (r3 : Int) (w : World) (hr0 : Kd.C (Kd.int .u8) w A0 l0.length l0) (hc0 : l0.length ≤ c0) (h : lex_Lex.f l0 = some (r1, r2, r3)) {n : Nat} (hn : l0.length = n := by first | rfl | exact LexE.take_len (of_decide_eq_true (by assumption)) (of_decide_eq_true (by assumption))) :
    Calls Try.prog 11 #[.slice A0 n c0] w fun e w' => ∃ v0_ : Value, e = .returned (.tuple #[v0_, .int .i64 r2, .int .i64 r3]) ∧ Kd.R k35 35 w' w.heap.size (fun _ => True) v0_ r1 ∧ Below w.heap.size w w' := by
  simp only [lex_Lex.f, Option.some.injEq, Prod.mk.injEq] at h
  obtain ⟨rfl, rfl, rfl⟩ := h
  subst hn
  refine (LexD.lex_calls A0 c0 l0 w hr0 hc0).mono fun e w' hp => ?_
  exact LexE.lex_out (d' := k35) (fun t : LexS.Tok => (⟨t.kind, strOfNums t.text, t.line⟩ : S35)) rfl (fun _ _ _ _ _ h => h) hp



/-! ### millwrightlaw02_shown: function 10 -/
def millwrightlaw02_shown.f : Option Bool := some true
theorem millwrightlaw02_shown.calls (r : Bool) (w : World) (h : millwrightlaw02_shown.f = some r) :
    Calls Try.prog 10 #[] w fun e w' => e = .returned (.bool r) ∧ Below w.heap.size w w' := by
  simp only [millwrightlaw02_shown.f, Option.some.injEq] at h
  subst h
  exact LexSh.shown_calls w


end Go.Proofs.Ytekedpnlodnmnaa.PLexComments
