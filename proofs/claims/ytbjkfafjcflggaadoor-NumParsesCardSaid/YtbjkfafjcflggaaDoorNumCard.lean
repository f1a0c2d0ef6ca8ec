/- What the rows' list of variables gives: the table of the powers of ten is laid; and a world in which the three listed tables are laid. No condition. -/
import Derived.Test.YtbjkfafjcflggaaDoorCards
import Derived.Test.YtbjkfafjcflggaaDoorTie
import Derived.Test.YtbjkfafjcflggaaDoorNumA
import Derived.WalkKit
import Derived.ProofKit
import Derived.OpenShut
import Derived.Deep.DeepHandedRow
import Derived.Lib.LaidTab
import Derived.LaidLaws
namespace Go.Proofs.YtbjkfafjcflggaaDoor.NumCard
open Go.ChangeShapes Go.WideShapes Go.ChangeAt Go.RowKit
abbrev laid3 : List (String × DataW Unit) := [("math/bits.deBruijn32tab", Rows.laid_math_bits_deBruijn32tab), ("math/bits.deBruijn64tab", Rows.laid_math_bits_deBruijn64tab), ("internal/strconv.uint64pow10", Rows.laid_internal_strconv_uint64pow10)]
theorem tab_third {P : Program} {W : World} {name n1 n2 : String} {d1 d2 : DataW Unit} {k : IntKind} {zs : List Int} {rest : List (String × DataW Unit)} {g : Nat} {t e : TypeId} {n : Nat}
    (hg : P.globalNamed name = some g) (hty : (P.globals[g]?).map (·.type) = some t) (ht : P.underlying t = some (.array n e)) (he : P.underlying e = some (.int k)) (hce : P.cellsOf e = 1) (hct : P.cellsOf t = n)
    (h : laidMet P ((n1, d1) :: (n2, d2) :: (name, Lib.tabData k zs) :: rest) W) : Lib.TabIs P W name k zs := by
  obtain ⟨ps, ⟨g1, t1, c1, f1, p1, q1, _, _, _, _, ⟨g2, t2, c2, f2, p2, q2, _, _, _, _, ⟨g', t', cs, fuel, p, q, hg', ht', hvar, hd, _, _⟩, _⟩, _⟩, _⟩ := h
  obtain rfl := Option.some.inj (hg.symm.trans hg')
  obtain rfl := Option.some.inj (hty.symm.trans ht')
  unfold Lib.TabIs
  rw [hvar, ← Lib.cells_of_tab ht he hce hct hd]
theorem table {W : World} (h : laidMetH Tryd.prog laid3 W) : NumA.Tab W :=
  ⟨tab_third (rest := []) (g := 0) (t := 52) (e := 37) (n := 20) (by kernel_rfl) (by kernel_rfl) Tryd.underlying52 Tryd.underlying37 (by kernel_rfl) (by kernel_rfl) (show laidMet Tryd.prog laid3 W from h)⟩
def cellsOf : DataW Unit → Array Value
  | .agg l => (l.map fun | .lit (.int k z) => Value.int k z | _ => .bool false).toArray
  | _ => #[]
def put (h : Array Obj) (g : Nat) (d : DataW Unit) : Array Obj := h.modify g fun
  | .cells _ t frozen => .cells (cellsOf d) t frozen
  | o => o
/-- A world for the witness: the settled one, the three tables holding what their initialisers lay. -/
noncomputable def laidWorld (os : Os) : World :=
  { World.holding Tryd.prog os ⟨#[], #[], []⟩ with heap := put (put (put (World.holding Tryd.prog os ⟨#[], #[], []⟩).heap 0 Rows.laid_internal_strconv_uint64pow10) 1 Rows.laid_math_bits_deBruijn32tab) 2 Rows.laid_math_bits_deBruijn64tab }
theorem own : ownKnob Tryd.prog.godebug = none := by kernel_rfl
theorem g0 : Tryd.prog.globalNamed "internal/strconv.uint64pow10" = some 0 := by kernel_rfl
theorem g1 : Tryd.prog.globalNamed "math/bits.deBruijn32tab" = some 1 := by kernel_rfl
theorem g2 : Tryd.prog.globalNamed "math/bits.deBruijn64tab" = some 2 := by kernel_rfl
theorem laid_met (os : Os) : laidMet Tryd.prog laid3 ((laidWorld os).forCall (fun _ _ => 0) ⟨#[], #[.int .i64 0, .int .i64 0], []⟩).memory :=
  laidMet_of_run' 8 (by kernel_rfl) (by kernel_rfl)
end Go.Proofs.YtbjkfafjcflggaaDoor.NumCard
