/-
  No cell of these rows narrows 'for every input' (looked for: loops, veiled, ifaces, maps, wideKeys, modest, calm, conditions, laid).
  DERIVED. THE GIVEN ROWS OF THIS SEAT. 7 by the template 'for every input the law returns true; each argument reads behind the call as it read before'; 0 by the template 'total and deterministic' (their statements: YtekedpnlodnmnaaTotals.lean).
  GIVEN WITH THE SEED: the statements are not yours to turn. If you find one false, say at which input.
  Laid BY PROGRAM, IN A SANDBOX (cutbox-rows.mjs): the forced cells as the released guide's own fill.sh prints them over the translation f3c8680264748f58… (all of the seat's roots in one cut). By AI agents, Wed Nov 11 2026. No macro, syntax, notation, axiom, sorry.
-/
import Derived.Test.YtekedpnlodnmnaaChecked
import GoSem.Claim
import GoSem.ClaimJoined
import GoSem.ClaimMapViews
import Derived.JoinedTies
import Derived.KernelRfl
namespace Go.Proofs.Ytekedpnlodnmnaa
/- THE CELL 'sum', in the pinned program and in every row, IS THE sha256 OF THE DUMP (.gsa) THAT YtekedpnlodnmnaaProg.lean LOADS. Nothing in Lean hashes anything: it is a label: what it is worth is what the hold of that sum in a sandbox is worth. -/
noncomputable def Try.pinned : Pinned := { name := "ytekedpnlodnmnaa", sum := "f3c8680264748f581d9598acb0ff3c40e5985d1cfb68d07e8f582adf512d0dfc", checked := Try.checked }
namespace Rows
def none {H : Type} : Left H := { results := [], args := [] }

/-- 'millwrightlaw02.LexTells': WHATEVER THE INPUT: true; the input reads as it did. -/
def lexTellsSpec : ChangeSpec := { name := "lexTells", fn := fun _ => fun
  | [d] => { results := [.lit (.bool true)], args := [d] }
  | _ => none }
def lexTellsRow : OpenClaim := { program := "ytekedpnlodnmnaa", sum := "f3c8680264748f581d9598acb0ff3c40e5985d1cfb68d07e8f582adf512d0dfc", func := "millwright/millwrightlaw02.LexTells", spec := "lexTells", apart := false }
def LexTellsSaid : Prop := lexTellsRow.holds Try.pinned (OpenSpec.ofChange lexTellsSpec)

/-- ITS FALSE NEIGHBOUR: 'it returns false'. Refute it at one input. -/
def lexTellsWrong : ChangeSpec := { name := "lexTells", fn := fun _ => fun
  | [d] => { results := [.lit (.bool false)], args := [d] }
  | _ => none }
def LexTellsWrongFalsely : Prop := lexTellsRow.holds Try.pinned (OpenSpec.ofChange lexTellsWrong)

/-- 'millwrightlaw02.LexAgain': WHATEVER THE INPUT: true; the input reads as it did. -/
def lexAgainSpec : ChangeSpec := { name := "lexAgain", fn := fun _ => fun
  | [d] => { results := [.lit (.bool true)], args := [d] }
  | _ => none }
def lexAgainRow : OpenClaim := { program := "ytekedpnlodnmnaa", sum := "f3c8680264748f581d9598acb0ff3c40e5985d1cfb68d07e8f582adf512d0dfc", func := "millwright/millwrightlaw02.LexAgain", spec := "lexAgain", apart := false }
def LexAgainSaid : Prop := lexAgainRow.holds Try.pinned (OpenSpec.ofChange lexAgainSpec)

/-- ITS FALSE NEIGHBOUR: 'it returns false'. Refute it at one input. -/
def lexAgainWrong : ChangeSpec := { name := "lexAgain", fn := fun _ => fun
  | [d] => { results := [.lit (.bool false)], args := [d] }
  | _ => none }
def LexAgainWrongFalsely : Prop := lexAgainRow.holds Try.pinned (OpenSpec.ofChange lexAgainWrong)

/-- 'millwrightlaw02.LexLines': WHATEVER THE INPUT: true; the input reads as it did. -/
def lexLinesSpec : ChangeSpec := { name := "lexLines", fn := fun _ => fun
  | [d1, d2] => { results := [.lit (.bool true)], args := [d1, d2] }
  | _ => none }
def lexLinesRow : OpenClaim := { program := "ytekedpnlodnmnaa", sum := "f3c8680264748f581d9598acb0ff3c40e5985d1cfb68d07e8f582adf512d0dfc", func := "millwright/millwrightlaw02.LexLines", spec := "lexLines", apart := false }
def LexLinesSaid : Prop := lexLinesRow.holds Try.pinned (OpenSpec.ofChange lexLinesSpec)

/-- ITS FALSE NEIGHBOUR: 'it returns false'. Refute it at one input. -/
def lexLinesWrong : ChangeSpec := { name := "lexLines", fn := fun _ => fun
  | [d1, d2] => { results := [.lit (.bool false)], args := [d1, d2] }
  | _ => none }
def LexLinesWrongFalsely : Prop := lexLinesRow.holds Try.pinned (OpenSpec.ofChange lexLinesWrong)

/-- 'millwrightlaw02.LexBounds': WHATEVER THE INPUT: true; the input reads as it did. -/
def lexBoundsSpec : ChangeSpec := { name := "lexBounds", fn := fun _ => fun
  | [d1, d2] => { results := [.lit (.bool true)], args := [d1, d2] }
  | _ => none }
def lexBoundsRow : OpenClaim := { program := "ytekedpnlodnmnaa", sum := "f3c8680264748f581d9598acb0ff3c40e5985d1cfb68d07e8f582adf512d0dfc", func := "millwright/millwrightlaw02.LexBounds", spec := "lexBounds", apart := false }
def LexBoundsSaid : Prop := lexBoundsRow.holds Try.pinned (OpenSpec.ofChange lexBoundsSpec)

/-- ITS FALSE NEIGHBOUR: 'it returns false'. Refute it at one input. -/
def lexBoundsWrong : ChangeSpec := { name := "lexBounds", fn := fun _ => fun
  | [d1, d2] => { results := [.lit (.bool false)], args := [d1, d2] }
  | _ => none }
def LexBoundsWrongFalsely : Prop := lexBoundsRow.holds Try.pinned (OpenSpec.ofChange lexBoundsWrong)

/-- 'millwrightlaw02.LexComments': WHATEVER THE INPUT: true; the input reads as it did. -/
def lexCommentsSpec : ChangeSpec := { name := "lexComments", fn := fun _ => fun
  | [d1, d2, d3] => { results := [.lit (.bool true)], args := [d1, d2, d3] }
  | _ => none }
def lexCommentsRow : OpenClaim := { program := "ytekedpnlodnmnaa", sum := "f3c8680264748f581d9598acb0ff3c40e5985d1cfb68d07e8f582adf512d0dfc", func := "millwright/millwrightlaw02.LexComments", spec := "lexComments", apart := false }
def LexCommentsSaid : Prop := lexCommentsRow.holds Try.pinned (OpenSpec.ofChange lexCommentsSpec)

/-- ITS FALSE NEIGHBOUR: 'it returns false'. Refute it at one input. -/
def lexCommentsWrong : ChangeSpec := { name := "lexComments", fn := fun _ => fun
  | [d1, d2, d3] => { results := [.lit (.bool false)], args := [d1, d2, d3] }
  | _ => none }
def LexCommentsWrongFalsely : Prop := lexCommentsRow.holds Try.pinned (OpenSpec.ofChange lexCommentsWrong)

/-- 'millwrightlaw02.LexBlanks': WHATEVER THE INPUT: true; the input reads as it did. -/
def lexBlanksSpec : ChangeSpec := { name := "lexBlanks", fn := fun _ => fun
  | [d1, d2] => { results := [.lit (.bool true)], args := [d1, d2] }
  | _ => none }
def lexBlanksRow : OpenClaim := { program := "ytekedpnlodnmnaa", sum := "f3c8680264748f581d9598acb0ff3c40e5985d1cfb68d07e8f582adf512d0dfc", func := "millwright/millwrightlaw02.LexBlanks", spec := "lexBlanks", apart := false }
def LexBlanksSaid : Prop := lexBlanksRow.holds Try.pinned (OpenSpec.ofChange lexBlanksSpec)

/-- ITS FALSE NEIGHBOUR: 'it returns false'. Refute it at one input. -/
def lexBlanksWrong : ChangeSpec := { name := "lexBlanks", fn := fun _ => fun
  | [d1, d2] => { results := [.lit (.bool false)], args := [d1, d2] }
  | _ => none }
def LexBlanksWrongFalsely : Prop := lexBlanksRow.holds Try.pinned (OpenSpec.ofChange lexBlanksWrong)

/-- 'millwrightlaw02.LexBytes': WHATEVER THE INPUT: true; the input reads as it did. -/
def lexBytesSpec : ChangeSpec := { name := "lexBytes", fn := fun _ => fun
  | [d] => { results := [.lit (.bool true)], args := [d] }
  | _ => none }
def lexBytesRow : OpenClaim := { program := "ytekedpnlodnmnaa", sum := "f3c8680264748f581d9598acb0ff3c40e5985d1cfb68d07e8f582adf512d0dfc", func := "millwright/millwrightlaw02.LexBytes", spec := "lexBytes", apart := false }
def LexBytesSaid : Prop := lexBytesRow.holds Try.pinned (OpenSpec.ofChange lexBytesSpec)

/-- ITS FALSE NEIGHBOUR: 'it returns false'. Refute it at one input. -/
def lexBytesWrong : ChangeSpec := { name := "lexBytes", fn := fun _ => fun
  | [d] => { results := [.lit (.bool false)], args := [d] }
  | _ => none }
def LexBytesWrongFalsely : Prop := lexBytesRow.holds Try.pinned (OpenSpec.ofChange lexBytesWrong)

/- THE SECOND FORM. 'bulk': how many values and letters a reading holds, each counted each time it is reached (what is shared counts as often as it is met; a slice's spare places count too). A statement '..UptoSaid' is the law's where the arguments, and the package variables that the reading takes, are together of bulk at most 1048576: NARROWER than '..Said'. Prove '..Said' where nothing that the law and all that it calls make is longer than what came in: it says more and counts as full. Else prove '..UptoSaid'. A law counts once. -/
mutual
def uptoBulk {H : Type} : DataW H → Nat
  | .lit (.string bytes) => bytes.length + 1
  | .lit _ => 1
  | .nil => 1
  | .ptr d => uptoBulk d + 1
  | .slice elems spare => uptoBulkAll elems + uptoBulkAll spare + 1
  | .agg parts => uptoBulkAll parts + 1
  | .iface _ d => uptoBulk d + 1
  | .map entries => uptoBulkEntries entries + 1
  | .held _ => 1
def uptoBulkAll {H : Type} : List (DataW H) → Nat
  | [] => 0
  | d :: r => uptoBulk d + uptoBulkAll r
def uptoBulkEntries {H : Type} : List (Lit × DataW H) → Nat
  | [] => 0
  | x :: r => uptoBulkEntry x + uptoBulkEntries r
def uptoBulkEntry {H : Type} : Lit × DataW H → Nat
  | (.string bytes, d) => bytes.length + uptoBulk d + 1
  | (_, d) => uptoBulk d + 1
 end
def uptoSmall : (H : Type) → List (DataW H) → Bool := fun _ ds => decide (uptoBulkAll ds ≤ 1048576)
def OpenSpec.upto (s : _root_.Go.ChangeSpec) : _root_.Go.OpenSpec := { _root_.Go.OpenSpec.ofChange s with cond := some uptoSmall }

/-- 'millwrightlaw02.LexTells', WHERE WHAT IT READS IS OF BULK AT MOST 1048576: true; the input reads as it did. -/
def lexTellsUptoRow : OpenClaim := { program := "ytekedpnlodnmnaa", sum := "f3c8680264748f581d9598acb0ff3c40e5985d1cfb68d07e8f582adf512d0dfc", func := "millwright/millwrightlaw02.LexTells", spec := "lexTells", apart := false, narrowed := true }
def LexTellsUptoSaid : Prop := lexTellsUptoRow.holds Try.pinned (OpenSpec.upto lexTellsSpec)

/-- 'millwrightlaw02.LexAgain', WHERE WHAT IT READS IS OF BULK AT MOST 1048576: true; the input reads as it did. -/
def lexAgainUptoRow : OpenClaim := { program := "ytekedpnlodnmnaa", sum := "f3c8680264748f581d9598acb0ff3c40e5985d1cfb68d07e8f582adf512d0dfc", func := "millwright/millwrightlaw02.LexAgain", spec := "lexAgain", apart := false, narrowed := true }
def LexAgainUptoSaid : Prop := lexAgainUptoRow.holds Try.pinned (OpenSpec.upto lexAgainSpec)

/-- 'millwrightlaw02.LexLines', WHERE WHAT IT READS IS OF BULK AT MOST 1048576: true; the input reads as it did. -/
def lexLinesUptoRow : OpenClaim := { program := "ytekedpnlodnmnaa", sum := "f3c8680264748f581d9598acb0ff3c40e5985d1cfb68d07e8f582adf512d0dfc", func := "millwright/millwrightlaw02.LexLines", spec := "lexLines", apart := false, narrowed := true }
def LexLinesUptoSaid : Prop := lexLinesUptoRow.holds Try.pinned (OpenSpec.upto lexLinesSpec)

/-- 'millwrightlaw02.LexBounds', WHERE WHAT IT READS IS OF BULK AT MOST 1048576: true; the input reads as it did. -/
def lexBoundsUptoRow : OpenClaim := { program := "ytekedpnlodnmnaa", sum := "f3c8680264748f581d9598acb0ff3c40e5985d1cfb68d07e8f582adf512d0dfc", func := "millwright/millwrightlaw02.LexBounds", spec := "lexBounds", apart := false, narrowed := true }
def LexBoundsUptoSaid : Prop := lexBoundsUptoRow.holds Try.pinned (OpenSpec.upto lexBoundsSpec)

/-- 'millwrightlaw02.LexComments', WHERE WHAT IT READS IS OF BULK AT MOST 1048576: true; the input reads as it did. -/
def lexCommentsUptoRow : OpenClaim := { program := "ytekedpnlodnmnaa", sum := "f3c8680264748f581d9598acb0ff3c40e5985d1cfb68d07e8f582adf512d0dfc", func := "millwright/millwrightlaw02.LexComments", spec := "lexComments", apart := false, narrowed := true }
def LexCommentsUptoSaid : Prop := lexCommentsUptoRow.holds Try.pinned (OpenSpec.upto lexCommentsSpec)

/-- 'millwrightlaw02.LexBlanks', WHERE WHAT IT READS IS OF BULK AT MOST 1048576: true; the input reads as it did. -/
def lexBlanksUptoRow : OpenClaim := { program := "ytekedpnlodnmnaa", sum := "f3c8680264748f581d9598acb0ff3c40e5985d1cfb68d07e8f582adf512d0dfc", func := "millwright/millwrightlaw02.LexBlanks", spec := "lexBlanks", apart := false, narrowed := true }
def LexBlanksUptoSaid : Prop := lexBlanksUptoRow.holds Try.pinned (OpenSpec.upto lexBlanksSpec)

/-- 'millwrightlaw02.LexBytes', WHERE WHAT IT READS IS OF BULK AT MOST 1048576: true; the input reads as it did. -/
def lexBytesUptoRow : OpenClaim := { program := "ytekedpnlodnmnaa", sum := "f3c8680264748f581d9598acb0ff3c40e5985d1cfb68d07e8f582adf512d0dfc", func := "millwright/millwrightlaw02.LexBytes", spec := "lexBytes", apart := false, narrowed := true }
def LexBytesUptoSaid : Prop := lexBytesUptoRow.holds Try.pinned (OpenSpec.upto lexBytesSpec)

end Rows
end Go.Proofs.Ytekedpnlodnmnaa
