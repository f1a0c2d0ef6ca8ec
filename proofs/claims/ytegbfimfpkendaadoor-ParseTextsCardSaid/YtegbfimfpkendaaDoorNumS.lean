/- What num.Parse answers, in plain words (no program in sight). No condition. -/
import Derived.Lib.Strings
import Derived.Lib.IndexBytes
import Derived.Laws.RangeAny
namespace Go.Proofs.YtegbfimfpkendaaDoor.NumS
def parseL : List UInt8 → Int → Int × Int
  | [], n => if n > 1048576 then (0, 3) else (n, 0)
  | c :: l, n => if c.toNat < 48 ∨ 57 < c.toNat then (0, 2) else parseL l (min (10 * n + ((c.toNat : Int) - 48)) 1048577)
def parseF (s : ByteArray) : Int × Int :=
  if s.data.toList = [] ∨ (s.data.toList.head? = some 48 ∧ s.data.toList ≠ [48]) then (0, 2) else parseL s.data.toList 0
theorem drop_cons (s : ByteArray) (i : Nat) (hi : i < s.size) : s.data.toList.drop i = (s[i]'hi) :: s.data.toList.drop (i + 1) := by
  have h := Lib.data_getElem? s i hi
  have hl : i < s.data.toList.length := (List.getElem?_eq_some_iff.mp h).1
  rw [List.drop_eq_getElem_cons hl]
  congr 1
theorem drop_all (s : ByteArray) : s.data.toList.drop s.size = [] := by
  apply List.drop_eq_nil_of_le
  exact Nat.le_refl _
end Go.Proofs.YtegbfimfpkendaaDoor.NumS
