/- The statements' own small functions: head, few. No condition. -/
import Derived.Test.YtegbfimfpkendaaDoorPaT
import Derived.Test.YtegbfimfpkendaaDoorLexK
namespace Go.Proofs.YtegbfimfpkendaaDoor.PaU
open Go.RowKit Go.Proofs.YtegbfimfpkendaaDoorW.PrintWords Go.Proofs.YtegbfimfpkendaaDoorW.PrintLast Go.Proofs.YtegbfimfpkendaaDoorW.PrintMore LexS LexB PaA LexBox PaC PaD PaB PaE PaF PaG PaH PaM PaN PaQ PaS PaT
set_option linter.unusedVariables false
set_option linter.unusedSimpArgs false
theorem cut_run {P : Program} {t e : TypeId} (ht : P.underlying t = some (.slice e)) {i : TypeInfo} (hi : P.info? e = some i) (A : Option Addr) (n c m : Nat) (hm : m ≤ c) (W : World) :
    (Instr.slice t (.slice A n c) none (some (.int .i64 (m : Int))) none).run P W = .ok (.slice A m c) W := by
  have hel : P.elem t = e := by simp [Program.elem, ht]
  have hu : P.underlying t = some (.slice (P.elem t)) := by rw [hel]; exact ht
  have ha : (A.map fun x => x.add 0) = A := by cases A <;> simp [Addr.add]
  rw [run_slice_h W t A n c hu .i64 (m : Int) (Int.natCast_nonneg _) (by omega), hel]
  simp [sizeOf, typeInfo, hi, sliced, Result.andThen, ha]
attribute [local go_sem] max2_int min2_int max_two min_two
set_option maxHeartbeats 400000 in
set_option maxRecDepth 100000 in
theorem few_calls (v0 v1 v2 v3 v4 v5 v6 v7 v8 v9 : Int) (AT AO : Option Addr) (nT nO cT cO : Nat) (w : World) (hT : nT ≤ cT) (hO : nO ≤ cO) :
    Calls Tryd.prog 13 #[.agg #[.int .i64 v0, .int .i64 v1, .int .i64 v2, .int .i64 v3, .int .i64 v4, .int .i64 v5, .int .i64 v6, .int .i64 v7, .int .i64 v8, .int .i64 v9, .slice AT nT cT, .slice AO nO cO]] w fun e w' =>
      e = .returned (.agg #[.int .i64 v0, .int .i64 v1, .int .i64 v2, .int .i64 v3, .int .i64 v4, .int .i64 v5, .int .i64 v6, .int .i64 v7, .int .i64 v8, .int .i64 v9, .slice AT (min nT 70) cT, .slice AO (min nO 200) cO]) ∧ Below w.heap.size w w' := by
  have jT : (if (70 : Int) < (nT : Int) then (70 : Int) else (nT : Int)) = ((min nT 70 : Nat) : Int) := by split <;> omega
  have jO : (if (200 : Int) < (nO : Int) then (200 : Int) else (nO : Int)) = ((min nO 200 : Nat) : Int) := by split <;> omega
  obtain ⟨mT, hmT⟩ : ∃ m, m = min nT 70 := ⟨_, rfl⟩
  obtain ⟨mO, hmO⟩ : ∃ m, m = min nO 200 := ⟨_, rfl⟩
  rw [← hmT, ← hmO]
  rw [← hmT] at jT
  rw [← hmO] at jO
  obtain ⟨i51, hi51, -, -, -⟩ := info_parts infoTk
  obtain ⟨i46, hi46, -, -, -⟩ := info_parts infoOp
  have sT := fun W => cut_run (P := Tryd.prog) Tryd.underlying26 hi51 AT nT cT mT (by omega) W
  have sO := fun W => cut_run (P := Tryd.prog) Tryd.underlying27 hi46 AO nO cO mO (by omega) W
  clear hmT hmO hT hO hi51 hi46
  go_enter Tryd.func13, Tryd.ntmps13
  go_upto_region 1 with (first
    | ((with_reducible refine gate_dst (N := 1) rfl ?_); (try (refine gate_guard (by rfl) ?_; dsimp only)); refine box_event ?hg (N := 1) ?hd (cs := #[.int .i64 v0, .int .i64 v1, .int .i64 v2, .int .i64 v3, .int .i64 v4, .int .i64 v5, .int .i64 v6, .int .i64 v7, .int .i64 v8, .int .i64 v9, .slice AT nT cT, .slice AO nO cO]) (t := 29) ?hr ?_; (case hd => rfl); (case hg => rfl); (case hr => first | (go_simp; done) | (go_simp; rfl)); intro F hg w1 hbox hb; have FX := Aside0.mk hbox; have FB := Aside0.mk hb; have FG := Aside0.mk (Nat.le_of_eq hg.symm); clear hbox hb hg)
    | ((with_reducible refine gate_dst (N := 2) rfl ?_); (try (refine gate_guard (by rfl) ?_; dsimp only)); refine box_event ?hg (N := 2) ?hd (cs := #[.int .i64 0, .int .i64 0, .int .i64 0, .int .i64 0, .int .i64 0, .int .i64 0, .int .i64 0, .int .i64 0, .int .i64 0, .int .i64 0, .slice none 0 0, .slice none 0 0]) (t := 29) ?hr ?_; (case hd => rfl); (case hg => rfl); (case hr => first | (go_simp; done) | (go_simp; rfl)); intro R hg w2 hbox hb; have RX := Aside0.mk hbox; have RB := Aside0.mk hb; have RG := Aside0.mk (Nat.le_of_eq hg.symm); clear hbox hb hg))
  have HB2 := Aside0.mk (below_step FB.out RB.out)
  have F2 := Aside0.mk (blk_below FX.out RB.out)
  have NE := Aside0.mk (show F ≠ R by have := blk_lt FX.out; have := RG.out; omega)
  have GF := Aside0.mk (show w.heap.size ≤ F ∧ w.heap.size ≤ R by have := FG.out; have := RG.out; have := FB.out.size; omega)
  obtain ⟨-, -, -, -, -, -, -, -, -, -, x10, x11, -, -, -, -, -, -, -, -, -, -, f10, f11⟩ := cells12 F2.out
  clear FX FB FG RG RB
  go_upto_region 2 with (fail)
  obtain ⟨w3, hw3, hF3, hR3, hB3⟩ : ∃ W, W = w2.setCell ⟨F, 10, none⟩ (.slice AT mT cT) ∧ W.heap[F]? = some (.cells #[.int .i64 v0, .int .i64 v1, .int .i64 v2, .int .i64 v3, .int .i64 v4, .int .i64 v5, .int .i64 v6, .int .i64 v7, .int .i64 v8, .int .i64 v9, .slice AT mT cT, .slice AO nO cO] 29 (0, 0)) ∧ W.heap[R]? = some (.cells #[.int .i64 0, .int .i64 0, .int .i64 0, .int .i64 0, .int .i64 0, .int .i64 0, .int .i64 0, .int .i64 0, .int .i64 0, .int .i64 0, .slice none 0 0, .slice none 0 0] 29 (0, 0)) ∧ Below w.heap.size w W :=
    ⟨_, rfl, blk_put F2.out 10 _ rfl, blk_far RX.out (Ne.symm NE.out) _, HB2.out.setCell GF.out.1 _⟩
  rw [← hw3]
  have F3 := Aside0.mk hF3
  have R3 := Aside0.mk hR3
  have B3 := Aside0.mk hB3
  clear hw3 hF3 hR3 hB3 x10 x11 f10 f11
  obtain ⟨-, -, -, -, -, -, -, -, -, -, x10, x11, -, -, -, -, -, -, -, -, -, -, f10, f11⟩ := cells12 F3.out
  go_upto_region 3 with (fail)
  obtain ⟨w4, hw4, hF4, hR4, hB4⟩ : ∃ W, W = w3.setCell ⟨F, 11, none⟩ (.slice AO mO cO) ∧ W.heap[F]? = some (.cells #[.int .i64 v0, .int .i64 v1, .int .i64 v2, .int .i64 v3, .int .i64 v4, .int .i64 v5, .int .i64 v6, .int .i64 v7, .int .i64 v8, .int .i64 v9, .slice AT mT cT, .slice AO mO cO] 29 (0, 0)) ∧ W.heap[R]? = some (.cells #[.int .i64 0, .int .i64 0, .int .i64 0, .int .i64 0, .int .i64 0, .int .i64 0, .int .i64 0, .int .i64 0, .int .i64 0, .int .i64 0, .slice none 0 0, .slice none 0 0] 29 (0, 0)) ∧ Below w.heap.size w W :=
    ⟨_, rfl, blk_put F3.out 11 _ rfl, blk_far R3.out (Ne.symm NE.out) _, B3.out.setCell GF.out.1 _⟩
  rw [← hw4]
  have F4 := Aside0.mk hF4
  have R4 := Aside0.mk hR4
  have B4 := Aside0.mk hB4
  clear hw4 hF4 hR4 hB4 x10 x11 f10 f11
  obtain ⟨c0, c1, c2, c3, c4, c5, c6, c7, c8, c9, c10, c11, -, -, -, -, -, -, -, -, -, -, -, -⟩ := cells12 F4.out
  obtain ⟨y0, y1, y2, y3, y4, y5, y6, y7, y8, y9, y10, y11, g0, g1, g2, g3, g4, g5, g6, g7, g8, g9, g10, g11⟩ := cells12 R4.out
  go_wp2
  obtain ⟨w5, hw5, hR5, hB5⟩ : ∃ W, W = ((((((((((((w4.setCell ⟨R, 0, none⟩ (.int .i64 v0)).setCell ⟨R, 1, none⟩ (.int .i64 v1)).setCell ⟨R, 2, none⟩ (.int .i64 v2)).setCell ⟨R, 3, none⟩ (.int .i64 v3)).setCell ⟨R, 4, none⟩ (.int .i64 v4)).setCell ⟨R, 5, none⟩ (.int .i64 v5)).setCell ⟨R, 6, none⟩ (.int .i64 v6)).setCell ⟨R, 7, none⟩ (.int .i64 v7)).setCell ⟨R, 8, none⟩ (.int .i64 v8)).setCell ⟨R, 9, none⟩ (.int .i64 v9)).setCell ⟨R, 10, none⟩ (.slice AT mT cT)).setCell ⟨R, 11, none⟩ (.slice AO mO cO)) ∧ W.heap[R]? = some (.cells #[.int .i64 v0, .int .i64 v1, .int .i64 v2, .int .i64 v3, .int .i64 v4, .int .i64 v5, .int .i64 v6, .int .i64 v7, .int .i64 v8, .int .i64 v9, .slice AT mT cT, .slice AO mO cO] 29 (0, 0)) ∧ Below w.heap.size w W :=
    ⟨_, rfl, set12 (.int .i64 v0) (.int .i64 v1) (.int .i64 v2) (.int .i64 v3) (.int .i64 v4) (.int .i64 v5) (.int .i64 v6) (.int .i64 v7) (.int .i64 v8) (.int .i64 v9) (.slice AT mT cT) (.slice AO mO cO) R4.out, ((((((((((((B4.out.setCell GF.out.2 (.int .i64 v0)).setCell GF.out.2 (.int .i64 v1)).setCell GF.out.2 (.int .i64 v2)).setCell GF.out.2 (.int .i64 v3)).setCell GF.out.2 (.int .i64 v4)).setCell GF.out.2 (.int .i64 v5)).setCell GF.out.2 (.int .i64 v6)).setCell GF.out.2 (.int .i64 v7)).setCell GF.out.2 (.int .i64 v8)).setCell GF.out.2 (.int .i64 v9)).setCell GF.out.2 (.slice AT mT cT)).setCell GF.out.2 (.slice AO mO cO))⟩
  rw [← hw5]
  clear hw5 c0 c1 c2 c3 c4 c5 c6 c7 c8 c9 c10 c11 g0 g1 g2 g3 g4 g5 g6 g7 g8 g9 g10 g11 y0 y1 y2 y3 y4 y5 y6 y7 y8 y9 y10 y11
  obtain ⟨c0, c1, c2, c3, c4, c5, c6, c7, c8, c9, c10, c11, -, -, -, -, -, -, -, -, -, -, -, -⟩ := cells12 hR5
  trace_state
  refine bodyPost_ret (v := .agg #[.int .i64 v0, .int .i64 v1, .int .i64 v2, .int .i64 v3, .int .i64 v4, .int .i64 v5, .int .i64 v6, .int .i64 v7, .int .i64 v8, .int .i64 v9, .slice AT mT cT, .slice AO mO cO]) ?_ rfl ⟨rfl, hB5⟩
  simp [results, Tryd.results13, go_sem, c0, c1, c2, c3, c4, c5, c6, c7, c8, c9, c10, c11]
end Go.Proofs.YtegbfimfpkendaaDoor.PaU
