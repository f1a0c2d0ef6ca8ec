/- What the statements' walks share: head, a text handed to parse.Parse; their first part, shown. Conditions: the tables are laid. -/
import Derived.Test.YtegbfimfpkendaaDoorPaV
namespace Go.Proofs.YtegbfimfpkendaaDoor.PaW
open Go.RowKit Go.Proofs.YtegbfimfpkendaaDoorW.PrintWords Go.Proofs.YtegbfimfpkendaaDoorW.PrintLast Go.Proofs.YtegbfimfpkendaaDoorW.PrintMore LexS LexB PaA LexBox PaC PaD PaB PaE PaF PaG PaH PaL PaM PaN PaQ PaS PaT PaV
set_option linter.unusedVariables false
set_option linter.unusedSimpArgs false
structure Laid (w : World) : Prop where
  names : NamesIs w
  forms : FormsIs w
  answers : AnswersIs w
  blocks : Blocks w
  tab : NumA.Tab w
theorem Laid.below {w W : World} (h : Laid w) (hb : Below w.heap.size w W) : Laid W := ⟨h.names.below hb, h.forms.below hb, h.answers.below hb, h.blocks.below hb, h.tab.below hb⟩
theorem parse_l (A0 : Option Addr) (cA n : Nat) (bs : List Int) (w : World) (c0 c1 c2 c3 c4 c5 c6 c7 c8 c9 line err : Int) (tasks : List Tk) (ops : List Opn) (hp : parseP bs = (⟨[c0, c1, c2, c3, c4, c5, c6, c7, c8, c9], tasks, ops⟩, line, err)) (hn : bs.length = n) (hr : (Kd.int .u8).C w A0 bs.length bs) (hc : bs.length ≤ cA) (h : Laid w) :
    Calls Tryd.prog 10 #[.slice A0 n cA] w fun e w' => ∃ vT vO, e = .returned (.tuple #[.agg #[.int .i64 c0, .int .i64 c1, .int .i64 c2, .int .i64 c3, .int .i64 c4, .int .i64 c5, .int .i64 c6, .int .i64 c7, .int .i64 c8, .int .i64 c9, vT, vO], .int .i64 line, .int .i64 err]) ∧
      kTk.R 51 w' w.heap.size (fun _ => True) vT tasks ∧ kOp.R 46 w' w.heap.size (fun _ => True) vO ops ∧ Below w.heap.size w w' := by
  subst hn
  refine (PaN.parse_calls A0 cA bs w hr hc h.names h.forms h.answers).mono fun e w' hh => ?_
  obtain ⟨vT, vO, rfl, hT, hO, hB, hl⟩ := hh
  rw [hp] at hT hO ⊢
  exact ⟨vT, vO, rfl, hT, hO, hB⟩
theorem text_l (v0 v1 v2 v3 v4 v5 v6 v7 v8 v9 : Int) (tasks : List Tk) (ops : List Opn) (AT AO : Option Addr) (nT nO cT cO : Nat) (w : World) (s : List UInt8) (err : Int) (hp : textP ⟨[v0, v1, v2, v3, v4, v5, v6, v7, v8, v9], tasks, ops⟩ = (s, err)) (hnT : tasks.length = nT) (hnO : ops.length = nO) (hT : kTk.C w AT tasks.length tasks) (hTc : tasks.length ≤ cT) (hO : kOp.C w AO ops.length ops) (hOc : ops.length ≤ cO) (h : Laid w) (hI : FIn ⟨[v0, v1, v2, v3, v4, v5, v6, v7, v8, v9], tasks, ops⟩) (ht : tasks.length ≤ 4398046511104) (ho : ops.length ≤ 4398046511104) :
    Calls Tryd.prog 14 #[.agg #[.int .i64 v0, .int .i64 v1, .int .i64 v2, .int .i64 v3, .int .i64 v4, .int .i64 v5, .int .i64 v6, .int .i64 v7, .int .i64 v8, .int .i64 v9, .slice AT nT cT, .slice AO nO cO]] w fun e w' => e = .returned (.tuple #[.string ⟨s.toArray⟩, .int .i64 err]) ∧ Below w.heap.size w w' := by
  subst hnT hnO
  refine (text_t v0 v1 v2 v3 v4 v5 v6 v7 v8 v9 tasks ops AT AO cT cO w hT hTc hO hOc h.tab h.names h.blocks hI ht ho).mono fun e w' hh => ?_
  rw [hp] at hh
  exact hh
def headS : ByteArray := ⟨headB.toArray⟩
set_option maxRecDepth 100000 in
theorem head_calls (w : World) : Calls Tryd.prog 16 #[] w fun e w' => e = .returned (.string headS) ∧ w = w' := by
  go_enter Tryd.func16, Tryd.ntmps16
  go_wp2
  first | go_ret | go_ret2
  exact ⟨rfl, rfl⟩
theorem add_lit (a b : List UInt8) (h : a.length + b.length ≤ 9223372036854775807) (W : World) : (Op.stringOp .add (⟨a.toArray⟩ : ByteArray) ⟨b.toArray⟩).run Tryd.prog W = .ok (.string ⟨(a ++ b).toArray⟩) W := by
  rw [run_string_add_sum W _ _ (by simpa [ByteArray.size] using h)]
  congr 2
theorem len_arr (l : List UInt8) : (bytesOf ⟨l.toArray⟩).length = (⟨l.toArray⟩ : ByteArray).size := bytesOf_length _
theorem put12 {w0 w : World} {o base : Nat} {t : TypeId} {a0 a1 a2 a3 a4 a5 a6 a7 a8 a9 a10 a11 : Value} (u0 u1 u2 u3 u4 u5 u6 u7 u8 u9 u10 u11 : Value) (h : w.heap[o]? = some (.cells #[a0, a1, a2, a3, a4, a5, a6, a7, a8, a9, a10, a11] t (0, 0))) (hB : Below base w0 w) (ho : base ≤ o) :
    ∃ W, W = ((((((((((((w.setCell ⟨o, 0, none⟩ u0).setCell ⟨o, 1, none⟩ u1).setCell ⟨o, 2, none⟩ u2).setCell ⟨o, 3, none⟩ u3).setCell ⟨o, 4, none⟩ u4).setCell ⟨o, 5, none⟩ u5).setCell ⟨o, 6, none⟩ u6).setCell ⟨o, 7, none⟩ u7).setCell ⟨o, 8, none⟩ u8).setCell ⟨o, 9, none⟩ u9).setCell ⟨o, 10, none⟩ u10).setCell ⟨o, 11, none⟩ u11) ∧ W.heap[o]? = some (.cells #[u0, u1, u2, u3, u4, u5, u6, u7, u8, u9, u10, u11] t (0, 0)) ∧ Below base w0 W :=
  ⟨_, rfl, set12 u0 u1 u2 u3 u4 u5 u6 u7 u8 u9 u10 u11 h, ((((((((((((hB.setCell ho u0).setCell ho u1).setCell ho u2).setCell ho u3).setCell ho u4).setCell ho u5).setCell ho u6).setCell ho u7).setCell ho u8).setCell ho u9).setCell ho u10).setCell ho u11)⟩
end Go.Proofs.YtegbfimfpkendaaDoor.PaW
