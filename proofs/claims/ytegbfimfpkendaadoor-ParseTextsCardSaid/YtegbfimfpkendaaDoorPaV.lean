/- What the statements' first part reads and writes: computed. No condition. -/
import Derived.Test.YtegbfimfpkendaaDoorPaU
namespace Go.Proofs.YtegbfimfpkendaaDoor.PaV
open Go.RowKit Go.Proofs.YtegbfimfpkendaaDoorW.PrintWords Go.Proofs.YtegbfimfpkendaaDoorW.PrintLast Go.Proofs.YtegbfimfpkendaaDoorW.PrintMore LexS LexB PaA LexBox PaC PaD PaB PaE PaF PaG PaH PaL PaM PaN PaQ PaS PaT
set_option linter.unusedVariables false
set_option linter.unusedSimpArgs false
def headB : List UInt8 := [99, 111, 110, 102, 105, 103, 32, 98, 117, 100, 103, 101, 116, 32, 49, 48, 32, 115, 108, 111, 116, 115, 32, 50, 32, 97, 99, 116, 105, 118, 101, 32, 51, 32, 113, 117, 101, 117, 101, 32, 52, 32, 116, 114, 105, 101, 115, 32, 50, 32, 112, 114, 101, 101, 109, 112, 116, 115, 32, 49, 32, 116, 105, 109, 101, 111, 117, 116, 32, 53, 32, 98, 97, 99, 107, 111, 102, 102, 32, 50, 32, 109, 111, 115, 116, 32, 56, 32, 113, 117, 97, 110, 116, 117, 109, 32, 55, 10]
def doc1 : List UInt8 := [116, 97, 115, 107, 32, 49, 32, 50, 10, 115, 117, 98, 109, 105, 116, 32, 48, 32, 49, 32, 51, 10, 97, 110, 115, 119, 101, 114, 32, 48, 32, 49, 32, 110, 101, 101, 100, 32, 52, 10]
def doc2 : List UInt8 := [10, 99, 97, 110, 99, 101, 108, 32, 48, 32, 48]
def file1 : FileS := ⟨[10, 2, 3, 4, 2, 1, 5, 2, 8, 7], [⟨1, 2⟩], [⟨1, 0, 1, 3, 0⟩, ⟨5, 0, 1, 3, 4⟩]⟩
set_option maxRecDepth 100000 in
theorem p1 : parseP (bytesOf ⟨(headB ++ doc1).toArray⟩) = (file1, 0, 0) := by kernel_rfl
set_option maxRecDepth 100000 in
theorem p2 : parseP (bytesOf ⟨(headB ++ doc2).toArray⟩) = (zeroF, 3, 2) := by kernel_rfl
theorem p3 : parseP [] = (zeroF, 0, 2) := by kernel_rfl
set_option maxRecDepth 100000 in
theorem t1 : textP file1 = (headB ++ doc1, 0) := by kernel_rfl
end Go.Proofs.YtegbfimfpkendaaDoor.PaV
