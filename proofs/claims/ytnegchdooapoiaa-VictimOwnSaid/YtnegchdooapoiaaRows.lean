/-
  No cell of these rows narrows 'for every input' (looked for: loops, veiled, ifaces, maps, wideKeys, modest, calm, conditions, laid).
  DERIVED. THE GIVEN ROWS OF THIS SEAT. 5 by the template 'for every input the law returns true; each argument reads behind the call as it read before'; 0 by the template 'total and deterministic' (their statements: YtnegchdooapoiaaTotals.lean).
  GIVEN WITH THE SEED: the statements are not yours to turn. If you find one false, say at which input.
  Laid BY PROGRAM, IN A SANDBOX (cutbox-rows.mjs): the forced cells as the released guide's own fill.sh prints them over the translation 2dc8a4479a87022b… (all of the seat's roots in one cut). By AI agents, Wed Nov 11 2026. No macro, syntax, notation, axiom, sorry.
-/
import Derived.Test.YtnegchdooapoiaaChecked
import GoSem.Claim
import GoSem.ClaimJoined
import GoSem.ClaimMapViews
import Derived.JoinedTies
import Derived.KernelRfl
namespace Go.Proofs.Ytnegchdooapoiaa
/- THE CELL 'sum', in the pinned program and in every row, IS THE sha256 OF THE DUMP (.gsa) THAT YtnegchdooapoiaaProg.lean LOADS. Nothing in Lean hashes anything: it is a label: what it is worth is what the hold of that sum in a sandbox is worth. -/
noncomputable def Try.pinned : Pinned := { name := "ytnegchdooapoiaa", sum := "2dc8a4479a87022b0acbc9ed65e501362f4af67c65095acd867a8fe7009a7273", checked := Try.checked }
namespace Rows
def none {H : Type} : Left H := { results := [], args := [] }

/-- 'millwrightlaw12.VictimTells': WHATEVER THE INPUT: true; the input reads as it did. -/
def victimTellsSpec : ChangeSpec := { name := "victimTells", fn := fun _ => fun
  | [d1, d2, d3, d4, d5, d6] => { results := [.lit (.bool true)], args := [d1, d2, d3, d4, d5, d6] }
  | _ => none }
def victimTellsRow : OpenClaim := { program := "ytnegchdooapoiaa", sum := "2dc8a4479a87022b0acbc9ed65e501362f4af67c65095acd867a8fe7009a7273", func := "millwright/millwrightlaw12.VictimTells", spec := "victimTells", unfollowed := true, recurses := true, apart := false }
def VictimTellsSaid : Prop := victimTellsRow.holds Try.pinned (OpenSpec.ofChange victimTellsSpec)

/-- ITS FALSE NEIGHBOUR: 'it returns false'. Refute it at one input. -/
def victimTellsWrong : ChangeSpec := { name := "victimTells", fn := fun _ => fun
  | [d1, d2, d3, d4, d5, d6] => { results := [.lit (.bool false)], args := [d1, d2, d3, d4, d5, d6] }
  | _ => none }
def VictimTellsWrongFalsely : Prop := victimTellsRow.holds Try.pinned (OpenSpec.ofChange victimTellsWrong)

/-- 'millwrightlaw12.VictimMore': WHATEVER THE INPUT: true; the input reads as it did. -/
def victimMoreSpec : ChangeSpec := { name := "victimMore", fn := fun _ => fun
  | [d1, d2, d3, d4, d5, d6, d7] => { results := [.lit (.bool true)], args := [d1, d2, d3, d4, d5, d6, d7] }
  | _ => none }
def victimMoreRow : OpenClaim := { program := "ytnegchdooapoiaa", sum := "2dc8a4479a87022b0acbc9ed65e501362f4af67c65095acd867a8fe7009a7273", func := "millwright/millwrightlaw12.VictimMore", spec := "victimMore", unfollowed := true, recurses := true, apart := false }
def VictimMoreSaid : Prop := victimMoreRow.holds Try.pinned (OpenSpec.ofChange victimMoreSpec)

/-- ITS FALSE NEIGHBOUR: 'it returns false'. Refute it at one input. -/
def victimMoreWrong : ChangeSpec := { name := "victimMore", fn := fun _ => fun
  | [d1, d2, d3, d4, d5, d6, d7] => { results := [.lit (.bool false)], args := [d1, d2, d3, d4, d5, d6, d7] }
  | _ => none }
def VictimMoreWrongFalsely : Prop := victimMoreRow.holds Try.pinned (OpenSpec.ofChange victimMoreWrong)

/-- 'millwrightlaw12.VictimOrder': WHATEVER THE INPUT: true; the input reads as it did. -/
def victimOrderSpec : ChangeSpec := { name := "victimOrder", fn := fun _ => fun
  | [d1, d2, d3, d4, d5, d6] => { results := [.lit (.bool true)], args := [d1, d2, d3, d4, d5, d6] }
  | _ => none }
def victimOrderRow : OpenClaim := { program := "ytnegchdooapoiaa", sum := "2dc8a4479a87022b0acbc9ed65e501362f4af67c65095acd867a8fe7009a7273", func := "millwright/millwrightlaw12.VictimOrder", spec := "victimOrder", unfollowed := true, recurses := true, apart := false }
def VictimOrderSaid : Prop := victimOrderRow.holds Try.pinned (OpenSpec.ofChange victimOrderSpec)

/-- ITS FALSE NEIGHBOUR: 'it returns false'. Refute it at one input. -/
def victimOrderWrong : ChangeSpec := { name := "victimOrder", fn := fun _ => fun
  | [d1, d2, d3, d4, d5, d6] => { results := [.lit (.bool false)], args := [d1, d2, d3, d4, d5, d6] }
  | _ => none }
def VictimOrderWrongFalsely : Prop := victimOrderRow.holds Try.pinned (OpenSpec.ofChange victimOrderWrong)

/-- 'millwrightlaw12.VictimOwn': WHATEVER THE INPUT: true; the input reads as it did. -/
def victimOwnSpec : ChangeSpec := { name := "victimOwn", fn := fun _ => fun
  | [d1, d2, d3, d4, d5, d6, d7] => { results := [.lit (.bool true)], args := [d1, d2, d3, d4, d5, d6, d7] }
  | _ => none }
def victimOwnRow : OpenClaim := { program := "ytnegchdooapoiaa", sum := "2dc8a4479a87022b0acbc9ed65e501362f4af67c65095acd867a8fe7009a7273", func := "millwright/millwrightlaw12.VictimOwn", spec := "victimOwn", unfollowed := true, recurses := true, apart := false }
def VictimOwnSaid : Prop := victimOwnRow.holds Try.pinned (OpenSpec.ofChange victimOwnSpec)

/-- ITS FALSE NEIGHBOUR: 'it returns false'. Refute it at one input. -/
def victimOwnWrong : ChangeSpec := { name := "victimOwn", fn := fun _ => fun
  | [d1, d2, d3, d4, d5, d6, d7] => { results := [.lit (.bool false)], args := [d1, d2, d3, d4, d5, d6, d7] }
  | _ => none }
def VictimOwnWrongFalsely : Prop := victimOwnRow.holds Try.pinned (OpenSpec.ofChange victimOwnWrong)

/-- 'millwrightlaw12.VictimSlot': WHATEVER THE INPUT: true; the input reads as it did. -/
def victimSlotSpec : ChangeSpec := { name := "victimSlot", fn := fun _ => fun
  | [d1, d2, d3, d4] => { results := [.lit (.bool true)], args := [d1, d2, d3, d4] }
  | _ => none }
def victimSlotRow : OpenClaim := { program := "ytnegchdooapoiaa", sum := "2dc8a4479a87022b0acbc9ed65e501362f4af67c65095acd867a8fe7009a7273", func := "millwright/millwrightlaw12.VictimSlot", spec := "victimSlot", unfollowed := true, recurses := true, apart := false }
def VictimSlotSaid : Prop := victimSlotRow.holds Try.pinned (OpenSpec.ofChange victimSlotSpec)

/-- ITS FALSE NEIGHBOUR: 'it returns false'. Refute it at one input. -/
def victimSlotWrong : ChangeSpec := { name := "victimSlot", fn := fun _ => fun
  | [d1, d2, d3, d4] => { results := [.lit (.bool false)], args := [d1, d2, d3, d4] }
  | _ => none }
def VictimSlotWrongFalsely : Prop := victimSlotRow.holds Try.pinned (OpenSpec.ofChange victimSlotWrong)

/- THE SECOND FORM. 'bulk': how many values and letters a reading holds, each counted each time it is reached (what is shared counts as often as it is met; a slice's spare places count too). A statement '..UptoSaid' is the law's where the arguments, and the package variables that the reading takes, are together of bulk at most 1048576: NARROWER than '..Said'. Prove '..Said' where nothing that the law and all that it calls make is longer than what came in: it says more and counts as full. Else prove '..UptoSaid'. A law counts once. -/
mutual
def uptoBulk {H : Type} : DataW H → Nat
  | .lit (.string bytes) => bytes.length + 1
  | .lit _ => 1
  | .nil => 1
  | .ptr d => uptoBulk d + 1
  | .slice elems spare => uptoBulkAll elems + uptoBulkAll spare + 1
  | .agg parts => uptoBulkAll parts + 1
  | .iface _ d => uptoBulk d + 1
  | .map entries => uptoBulkEntries entries + 1
  | .held _ => 1
def uptoBulkAll {H : Type} : List (DataW H) → Nat
  | [] => 0
  | d :: r => uptoBulk d + uptoBulkAll r
def uptoBulkEntries {H : Type} : List (Lit × DataW H) → Nat
  | [] => 0
  | x :: r => uptoBulkEntry x + uptoBulkEntries r
def uptoBulkEntry {H : Type} : Lit × DataW H → Nat
  | (.string bytes, d) => bytes.length + uptoBulk d + 1
  | (_, d) => uptoBulk d + 1
 end
def uptoSmall : (H : Type) → List (DataW H) → Bool := fun _ ds => decide (uptoBulkAll ds ≤ 1048576)
def OpenSpec.upto (s : _root_.Go.ChangeSpec) : _root_.Go.OpenSpec := { _root_.Go.OpenSpec.ofChange s with cond := some uptoSmall }

/-- 'millwrightlaw12.VictimTells', WHERE WHAT IT READS IS OF BULK AT MOST 1048576: true; the input reads as it did. -/
def victimTellsUptoRow : OpenClaim := { program := "ytnegchdooapoiaa", sum := "2dc8a4479a87022b0acbc9ed65e501362f4af67c65095acd867a8fe7009a7273", func := "millwright/millwrightlaw12.VictimTells", spec := "victimTells", unfollowed := true, recurses := true, apart := false, narrowed := true }
def VictimTellsUptoSaid : Prop := victimTellsUptoRow.holds Try.pinned (OpenSpec.upto victimTellsSpec)

/-- 'millwrightlaw12.VictimMore', WHERE WHAT IT READS IS OF BULK AT MOST 1048576: true; the input reads as it did. -/
def victimMoreUptoRow : OpenClaim := { program := "ytnegchdooapoiaa", sum := "2dc8a4479a87022b0acbc9ed65e501362f4af67c65095acd867a8fe7009a7273", func := "millwright/millwrightlaw12.VictimMore", spec := "victimMore", unfollowed := true, recurses := true, apart := false, narrowed := true }
def VictimMoreUptoSaid : Prop := victimMoreUptoRow.holds Try.pinned (OpenSpec.upto victimMoreSpec)

/-- 'millwrightlaw12.VictimOrder', WHERE WHAT IT READS IS OF BULK AT MOST 1048576: true; the input reads as it did. -/
def victimOrderUptoRow : OpenClaim := { program := "ytnegchdooapoiaa", sum := "2dc8a4479a87022b0acbc9ed65e501362f4af67c65095acd867a8fe7009a7273", func := "millwright/millwrightlaw12.VictimOrder", spec := "victimOrder", unfollowed := true, recurses := true, apart := false, narrowed := true }
def VictimOrderUptoSaid : Prop := victimOrderUptoRow.holds Try.pinned (OpenSpec.upto victimOrderSpec)

/-- 'millwrightlaw12.VictimOwn', WHERE WHAT IT READS IS OF BULK AT MOST 1048576: true; the input reads as it did. -/
def victimOwnUptoRow : OpenClaim := { program := "ytnegchdooapoiaa", sum := "2dc8a4479a87022b0acbc9ed65e501362f4af67c65095acd867a8fe7009a7273", func := "millwright/millwrightlaw12.VictimOwn", spec := "victimOwn", unfollowed := true, recurses := true, apart := false, narrowed := true }
def VictimOwnUptoSaid : Prop := victimOwnUptoRow.holds Try.pinned (OpenSpec.upto victimOwnSpec)

/-- 'millwrightlaw12.VictimSlot', WHERE WHAT IT READS IS OF BULK AT MOST 1048576: true; the input reads as it did. -/
def victimSlotUptoRow : OpenClaim := { program := "ytnegchdooapoiaa", sum := "2dc8a4479a87022b0acbc9ed65e501362f4af67c65095acd867a8fe7009a7273", func := "millwright/millwrightlaw12.VictimSlot", spec := "victimSlot", unfollowed := true, recurses := true, apart := false, narrowed := true }
def VictimSlotUptoSaid : Prop := victimSlotUptoRow.holds Try.pinned (OpenSpec.upto victimSlotSpec)

end Rows
end Go.Proofs.Ytnegchdooapoiaa
