/- LexBytes: at every byte the Go function returns true. No condition. -/
import Derived.Test.YtekedpnlodnmnaaRows
import Derived.Test.YtekedpnlodnmnaaLexBv
import Derived.Test.YtekedpnlodnmnaaLexBw
import Derived.WalkKit
import Derived.ProofKit
import Derived.OpenShut
import Derived.ShutString
import Derived.ChangeOld
import Derived.Below
import Derived.SizedLaws
namespace Go.Proofs.Ytekedpnlodnmnaa.lexBytes
open Go.ChangeShapes Go.WideShapes Go.ChangeAt Go.RowKit
set_option linter.unusedVariables false
theorem all (c : Int) (h0 : 0 ≤ c) (h1 : c ≤ 255) (w : World) : Calls Try.prog 9 #[.int .u8 c] w fun e w' => e = .returned (.bool true) ∧ Below w.heap.size w w' := by
  by_cases hlt9 : c ≤ 8
  · exact LexBv.at_lt9 c ⟨h0, h1⟩ hlt9 w
  by_cases hp9 : c = 9
  · subst hp9; exact LexBv.at_p9 w
  by_cases hp10 : c = 10
  · subst hp10; exact LexBv.at_p10 w
  by_cases hi11 : 11 ≤ c ∧ c ≤ 12
  · exact LexBv.at_i11 c ⟨h0, h1⟩ hi11 w
  by_cases hp13 : c = 13
  · subst hp13; exact LexBv.at_p13 w
  by_cases hi14 : 14 ≤ c ∧ c ≤ 31
  · exact LexBv.at_i14 c ⟨h0, h1⟩ hi14 w
  by_cases hp32 : c = 32
  · subst hp32; exact LexBv.at_p32 w
  by_cases hi33 : 33 ≤ c ∧ c ≤ 34
  · exact LexBv.at_i33 c ⟨h0, h1⟩ hi33 w
  by_cases hp35 : c = 35
  · subst hp35; exact LexBv.at_p35 w
  by_cases hi36 : 36 ≤ c ∧ c ≤ 47
  · exact LexBv.at_i36 c ⟨h0, h1⟩ hi36 w
  by_cases hdig : 48 ≤ c ∧ c ≤ 57
  · exact LexBw.at_dig c ⟨h0, h1⟩ hdig w
  by_cases hi58 : 58 ≤ c ∧ c ≤ 64
  · exact LexBv.at_i58 c ⟨h0, h1⟩ hi58 w
  by_cases hupp : 65 ≤ c ∧ c ≤ 90
  · exact LexBw.at_upp c ⟨h0, h1⟩ hupp w
  by_cases hi91 : 91 ≤ c ∧ c ≤ 96
  · exact LexBv.at_i91 c ⟨h0, h1⟩ hi91 w
  by_cases hlow : 97 ≤ c ∧ c ≤ 122
  · exact LexBw.at_low c ⟨h0, h1⟩ hlow w
  by_cases hgt : 123 ≤ c
  · exact LexBv.at_gt c ⟨h0, h1⟩ hgt w
  omega
theorem own : ownKnob Try.prog.godebug = none := by kernel_rfl
set_option maxRecDepth 100000 in
theorem lifted (os : Os) (started : os.Started) (H : Type) (enc : TypeId × Value → H) :
    ReturnsInHanded {} Try.checked os 9 .any (Rows.lexBytesSpec.pre6 enc Try.prog Try.f9 Rows.lexBytesRow.domain false) (Rows.lexBytesSpec.post enc Try.prog Try.f9 false true false false) := by
  refine returnsInHanded_of_change_sized (C := Try.checked) own started (by kernel_rfl) Try.func9
    (ChangeSpec.witness6 (enc := enc) (C := Try.checked) false ⟨#[], #[.int .u8 0], []⟩ 8 (by kernel_rfl) (by kernel_rfl) (by kernel_rfl) (by kernel_rfl)) ?_
  intro W base args ds gs before hval0 hW hcnd hsz0 _
  have hval : ∀ (j : Nat) t v, Try.f9.params[j]? = some t → args[j]? = some v → Value.okWide Try.prog W .any base t v := hval0
  have hW' := hW
  obtain ⟨p, q, hA0, hV, rfl, hfz, hnd⟩ := hW
  have hA : DataW.TrodAll enc Try.prog W 0 (fun _ => true) true Try.f9.params.toList args.toList ds p := hA0
  rw [Try.params9] at hA hval
  obtain ⟨v0, vs0, d0, ds0, p0, q0, hargs, rfl, rfl, h0, r0⟩ := trodAll_cons hA
  obtain ⟨rfl, rfl, rfl⟩ := trodAll_nil r0
  obtain rfl : args = #[v0] := by cases args; simp_all
  obtain ⟨rfl, rfl⟩ := trodVars_none hV
  obtain ⟨a0, rfl, rfl, rfl, w0⟩ := open_int Try.underlying5 (hval 0 5 v0 rfl rfl) h0
  clear hA0 hval0 hsz0
  have hw := w0
  simp only [Lit.wf, Bool.and_eq_true, decide_eq_true_eq] at hw
  have hlo : (0 : Int) ≤ a0 := hw.1
  have hhi : a0 ≤ 255 := hw.2
  refine (all a0 hlo hhi W).mono fun e W' ⟨he, bel⟩ => ?_
  subst he
  exact ⟨_, rfl, _, _, _, [], _, [], hW', trodAll_mk1 (shut_bool Try.underlying4 _), (trodAll_cons_mk (shut_int Try.underlying5 w0) trodAll_mk0), rfl, bel.frame _, fun h => by cases h⟩
theorem over : Rows.lexBytesRow.holds Try.pinned (OpenSpec.ofChange Rows.lexBytesSpec) :=
  OpenClaim.holds_of_wide 9 Try.f9 rfl rfl rfl rfl rfl rfl rfl ⟨rfl, rfl, rfl, rfl, rfl⟩ rfl rfl rfl rfl rfl (by kernel_rfl) Try.func9 (by kernel_rfl)
    (of_decide_eq_true (by kernel_rfl)) (by unfold Func.isWrapper; first | (rw [if_pos (by decide +kernel)]; kernel_rfl) | (rw [if_neg (by decide +kernel)]; exact ⟨rfl, rfl⟩))
    (fun os started H enc _ => lifted os started H enc)
theorem proved : Rows.LexBytesSaid := over
#print axioms proved
end Go.Proofs.Ytekedpnlodnmnaa.lexBytes
namespace Go.Proofs.Ytekedpnlodnmnaa
/-- The row, under a short name, for the claim. -/
theorem lexBytes_holds : Rows.LexBytesSaid := lexBytes.proved
end Go.Proofs.Ytekedpnlodnmnaa
