/- A row of bytes that a conversion of a string has made: read alone. No condition. The statements' own small functions: head, few. No condition. What the statements' first part reads and writes: computed. No condition. What the statements' walks share: head, a text handed to parse.Parse; their first part, shown. Conditions: the tables are laid. -/
import Derived.Test.YtegbfimfpkendaaDoorBa
import Derived.Test.YtegbfimfpkendaaDoorBb
import Derived.Test.YtegbfimfpkendaaDoorProg
import Derived.Test.YtegbfimfpkendaaDoorPaT
namespace Go.Proofs.YtegbfimfpkendaaDoor.LexK
open Go.RowKit Go.Proofs.YtegbfimfpkendaaDoorW.PrintWords
set_option linter.unusedVariables false
def CO (w : World) (base : Nat) (ok : Nat → Prop) (v : Value) (xs : List Int) : Prop :=
  ∃ b c, v = .slice (some ⟨b, 0, none⟩) xs.length c ∧ xs.length ≤ c ∧ ok b ∧ base ≤ b ∧ (Kd.int .u8).C w (some ⟨b, 0, none⟩) xs.length xs
section
variable {w w1 W : World} {base : Nat} {ok ok' : Nat → Prop} {v u : Value} {xs : List Int}
end
section
variable {P : Program} {ops : Array Oper} {rest : List Oper} {o : Oper} {a : Act} {Q : Exit → Act → World → Prop}
theorem CO_conv {w0 W : World} (base : Nat) (hgd : o.guard = none) {N : Tmp} (_hd : o.dst = some N) (src dst e : TypeId) {us : TypeDesc} (x : Operand) (ho : o.op = .convert src dst x)
    (hs : P.underlying src = some us) (hd : P.underlying dst = some (.slice e)) (he : P.underlying e = some (.int .u8)) (s : ByteArray) (hx : a.eval x = .string s)
    (ok : Nat → Prop) (hfresh : ok W.heap.size) (HB : Below base w0 W) (hbase : base ≤ W.heap.size) (hm : s.size ≤ 9223372036854775807)
    (h : ∀ v1 w1, CO w1 base ok v1 (bytesOf s) → Below base w0 w1 → W.grownBy w1 none → (∃ b, v1.ownBlock = some b ∧ W.heap.size ≤ b) → wpList P ops Q rest (a.put o.dst v1) w1) : wpList P ops Q (o :: rest) a W := by
  have hr := print_bytes (P := P) src dst e hs hd he s W
  have hrun : (execOp a.eval o).run P W = .ok (.value (.slice (some ⟨W.heap.size, 0, none⟩) s.size (grownCap W s.size 0 e))) (Lib.bytesWorld W e s) := by
    unfold execOp
    simp only [ho, hx, Sem.run_bind, hr, Result.andThen_ok, Sem.run_pure]
  have hl : (bytesOf s).length = s.size := bytesOf_length s
  have hb0 : Below W.heap.size W (Lib.bytesWorld W e s) := bytes_below (Below.refl _ _) (Nat.le_refl _) e s
  refine Kd.event_run hgd hrun (h _ _ ⟨W.heap.size, _, by rw [hl], ?_, hfresh, hbase, ?_⟩ (HB.trans ⟨hb0.os, hb0.tape, hb0.output, hb0.size, fun i hi => hb0.block i (Nat.lt_of_lt_of_le hi hbase)⟩) ⟨hb0.os, hb0.tape, hb0.output, hb0.size, fun k hk _ => hb0.block k hk⟩ ⟨W.heap.size, by simp [Value.ownBlock], Nat.le_refl _⟩)
  · rw [hl]
    have := grownCap_ge W s.size 0 e
    exact this
  · rw [hl]
    exact Kd.C_of_reads (d := (0 : Int)) (h1 := fun _ => rfl) (bytes_reads W e s hm)
end
end Go.Proofs.YtegbfimfpkendaaDoor.LexK
namespace Go.Proofs.YtegbfimfpkendaaDoor.PaU
open Go.RowKit Go.Proofs.YtegbfimfpkendaaDoorW.PrintWords Go.Proofs.YtegbfimfpkendaaDoorW.PrintLast Go.Proofs.YtegbfimfpkendaaDoorW.PrintMore LexS LexB PaA LexBox PaC PaD PaB PaE PaF PaG PaH PaM PaN PaQ PaS PaT
set_option linter.unusedVariables false
set_option linter.unusedSimpArgs false
theorem cut_run {P : Program} {t e : TypeId} (ht : P.underlying t = some (.slice e)) {i : TypeInfo} (hi : P.info? e = some i) (A : Option Addr) (n c m : Nat) (hm : m ≤ c) (W : World) :
    (Instr.slice t (.slice A n c) none (some (.int .i64 (m : Int))) none).run P W = .ok (.slice A m c) W := by
  have hel : P.elem t = e := by simp [Program.elem, ht]
  have hu : P.underlying t = some (.slice (P.elem t)) := by rw [hel]; exact ht
  have ha : (A.map fun x => x.add 0) = A := by cases A <;> simp [Addr.add]
  rw [run_slice_h W t A n c hu .i64 (m : Int) (Int.natCast_nonneg _) (by omega), hel]
  simp [sizeOf, typeInfo, hi, sliced, Result.andThen, ha]
attribute [local go_sem] max2_int min2_int max_two min_two
end Go.Proofs.YtegbfimfpkendaaDoor.PaU
namespace Go.Proofs.YtegbfimfpkendaaDoor.PaV
open Go.RowKit Go.Proofs.YtegbfimfpkendaaDoorW.PrintWords Go.Proofs.YtegbfimfpkendaaDoorW.PrintLast Go.Proofs.YtegbfimfpkendaaDoorW.PrintMore LexS LexB PaA LexBox PaC PaD PaB PaE PaF PaG PaH PaL PaM PaN PaQ PaS PaT
set_option linter.unusedVariables false
set_option linter.unusedSimpArgs false
def headB : List UInt8 := [99, 111, 110, 102, 105, 103, 32, 98, 117, 100, 103, 101, 116, 32, 49, 48, 32, 115, 108, 111, 116, 115, 32, 50, 32, 97, 99, 116, 105, 118, 101, 32, 51, 32, 113, 117, 101, 117, 101, 32, 52, 32, 116, 114, 105, 101, 115, 32, 50, 32, 112, 114, 101, 101, 109, 112, 116, 115, 32, 49, 32, 116, 105, 109, 101, 111, 117, 116, 32, 53, 32, 98, 97, 99, 107, 111, 102, 102, 32, 50, 32, 109, 111, 115, 116, 32, 56, 32, 113, 117, 97, 110, 116, 117, 109, 32, 55, 10]
def doc1 : List UInt8 := [116, 97, 115, 107, 32, 49, 32, 50, 10, 115, 117, 98, 109, 105, 116, 32, 48, 32, 49, 32, 51, 10, 97, 110, 115, 119, 101, 114, 32, 48, 32, 49, 32, 110, 101, 101, 100, 32, 52, 10]
def doc2 : List UInt8 := [10, 99, 97, 110, 99, 101, 108, 32, 48, 32, 48]
def file1 : FileS := ⟨[10, 2, 3, 4, 2, 1, 5, 2, 8, 7], [⟨1, 2⟩], [⟨1, 0, 1, 3, 0⟩, ⟨5, 0, 1, 3, 4⟩]⟩
set_option maxRecDepth 100000 in
theorem p1 : parseP (bytesOf ⟨(headB ++ doc1).toArray⟩) = (file1, 0, 0) := by kernel_rfl
set_option maxRecDepth 100000 in
theorem p2 : parseP (bytesOf ⟨(headB ++ doc2).toArray⟩) = (zeroF, 3, 2) := by kernel_rfl
theorem p3 : parseP [] = (zeroF, 0, 2) := by kernel_rfl
set_option maxRecDepth 100000 in
theorem t1 : textP file1 = (headB ++ doc1, 0) := by kernel_rfl
end Go.Proofs.YtegbfimfpkendaaDoor.PaV
namespace Go.Proofs.YtegbfimfpkendaaDoor.PaW
open Go.RowKit Go.Proofs.YtegbfimfpkendaaDoorW.PrintWords Go.Proofs.YtegbfimfpkendaaDoorW.PrintLast Go.Proofs.YtegbfimfpkendaaDoorW.PrintMore LexS LexB PaA LexBox PaC PaD PaB PaE PaF PaG PaH PaL PaM PaN PaQ PaS PaT PaV
set_option linter.unusedVariables false
set_option linter.unusedSimpArgs false
structure Laid (w : World) : Prop where
  names : NamesIs w
  forms : FormsIs w
  answers : AnswersIs w
  blocks : Blocks w
  tab : NumA.Tab w
theorem Laid.below {w W : World} (h : Laid w) (hb : Below w.heap.size w W) : Laid W := ⟨h.names.below hb, h.forms.below hb, h.answers.below hb, h.blocks.below hb, h.tab.below hb⟩
theorem parse_l (A0 : Option Addr) (cA n : Nat) (bs : List Int) (w : World) (c0 c1 c2 c3 c4 c5 c6 c7 c8 c9 line err : Int) (tasks : List Tk) (ops : List Opn) (hp : parseP bs = (⟨[c0, c1, c2, c3, c4, c5, c6, c7, c8, c9], tasks, ops⟩, line, err)) (hn : bs.length = n) (hr : (Kd.int .u8).C w A0 bs.length bs) (hc : bs.length ≤ cA) (h : Laid w) :
    Calls Tryd.prog 10 #[.slice A0 n cA] w fun e w' => ∃ vT vO, e = .returned (.tuple #[.agg #[.int .i64 c0, .int .i64 c1, .int .i64 c2, .int .i64 c3, .int .i64 c4, .int .i64 c5, .int .i64 c6, .int .i64 c7, .int .i64 c8, .int .i64 c9, vT, vO], .int .i64 line, .int .i64 err]) ∧
      kTk.R 51 w' w.heap.size (fun _ => True) vT tasks ∧ kOp.R 46 w' w.heap.size (fun _ => True) vO ops ∧ Below w.heap.size w w' := by
  subst hn
  refine (PaN.parse_calls A0 cA bs w hr hc h.names h.forms h.answers).mono fun e w' hh => ?_
  obtain ⟨vT, vO, rfl, hT, hO, hB, hl⟩ := hh
  rw [hp] at hT hO ⊢
  exact ⟨vT, vO, rfl, hT, hO, hB⟩
theorem text_l (v0 v1 v2 v3 v4 v5 v6 v7 v8 v9 : Int) (tasks : List Tk) (ops : List Opn) (AT AO : Option Addr) (nT nO cT cO : Nat) (w : World) (s : List UInt8) (err : Int) (hp : textP ⟨[v0, v1, v2, v3, v4, v5, v6, v7, v8, v9], tasks, ops⟩ = (s, err)) (hnT : tasks.length = nT) (hnO : ops.length = nO) (hT : kTk.C w AT tasks.length tasks) (hTc : tasks.length ≤ cT) (hO : kOp.C w AO ops.length ops) (hOc : ops.length ≤ cO) (h : Laid w) (hI : FIn ⟨[v0, v1, v2, v3, v4, v5, v6, v7, v8, v9], tasks, ops⟩) (ht : tasks.length ≤ 4398046511104) (ho : ops.length ≤ 4398046511104) :
    Calls Tryd.prog 14 #[.agg #[.int .i64 v0, .int .i64 v1, .int .i64 v2, .int .i64 v3, .int .i64 v4, .int .i64 v5, .int .i64 v6, .int .i64 v7, .int .i64 v8, .int .i64 v9, .slice AT nT cT, .slice AO nO cO]] w fun e w' => e = .returned (.tuple #[.string ⟨s.toArray⟩, .int .i64 err]) ∧ Below w.heap.size w w' := by
  subst hnT hnO
  refine (text_t v0 v1 v2 v3 v4 v5 v6 v7 v8 v9 tasks ops AT AO cT cO w hT hTc hO hOc h.tab h.names h.blocks hI ht ho).mono fun e w' hh => ?_
  rw [hp] at hh
  exact hh
def headS : ByteArray := ⟨headB.toArray⟩
set_option maxRecDepth 100000 in
theorem head_calls (w : World) : Calls Tryd.prog 16 #[] w fun e w' => e = .returned (.string headS) ∧ w = w' := by
  go_enter Tryd.func16, Tryd.ntmps16
  go_wp2
  first | go_ret | go_ret2
  exact ⟨rfl, rfl⟩
theorem add_lit (a b : List UInt8) (h : a.length + b.length ≤ 9223372036854775807) (W : World) : (Op.stringOp .add (⟨a.toArray⟩ : ByteArray) ⟨b.toArray⟩).run Tryd.prog W = .ok (.string ⟨(a ++ b).toArray⟩) W := by
  rw [run_string_add_sum W _ _ (by simpa [ByteArray.size] using h)]
  congr 2
theorem put12 {w0 w : World} {o base : Nat} {t : TypeId} {a0 a1 a2 a3 a4 a5 a6 a7 a8 a9 a10 a11 : Value} (u0 u1 u2 u3 u4 u5 u6 u7 u8 u9 u10 u11 : Value) (h : w.heap[o]? = some (.cells #[a0, a1, a2, a3, a4, a5, a6, a7, a8, a9, a10, a11] t (0, 0))) (hB : Below base w0 w) (ho : base ≤ o) :
    ∃ W, W = ((((((((((((w.setCell ⟨o, 0, none⟩ u0).setCell ⟨o, 1, none⟩ u1).setCell ⟨o, 2, none⟩ u2).setCell ⟨o, 3, none⟩ u3).setCell ⟨o, 4, none⟩ u4).setCell ⟨o, 5, none⟩ u5).setCell ⟨o, 6, none⟩ u6).setCell ⟨o, 7, none⟩ u7).setCell ⟨o, 8, none⟩ u8).setCell ⟨o, 9, none⟩ u9).setCell ⟨o, 10, none⟩ u10).setCell ⟨o, 11, none⟩ u11) ∧ W.heap[o]? = some (.cells #[u0, u1, u2, u3, u4, u5, u6, u7, u8, u9, u10, u11] t (0, 0)) ∧ Below base w0 W :=
  ⟨_, rfl, set12 u0 u1 u2 u3 u4 u5 u6 u7 u8 u9 u10 u11 h, ((((((((((((hB.setCell ho u0).setCell ho u1).setCell ho u2).setCell ho u3).setCell ho u4).setCell ho u5).setCell ho u6).setCell ho u7).setCell ho u8).setCell ho u9).setCell ho u10).setCell ho u11)⟩
end Go.Proofs.YtegbfimfpkendaaDoor.PaW
