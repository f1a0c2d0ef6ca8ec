/- The walk of the reference's take: PcH. No condition but lengths. The statements' first part, shown: it returns true. Condition: the tables are laid. -/
import Derived.Test.YtegbfimfpkendaaDoorPcHb
import Derived.Test.YtegbfimfpkendaaDoorPcHc
import Derived.Test.YtegbfimfpkendaaDoorPcHd
import Derived.Test.YtegbfimfpkendaaDoorMg27
namespace Go.Proofs.YtegbfimfpkendaaDoor.PcH
open Go.RowKit Go.Proofs.YtegbfimfpkendaaDoor.PParseTells Go.Proofs.YtegbfimfpkendaaDoorW.PrintWords Go.Proofs.YtegbfimfpkendaaDoorW.PrintLast Go.Proofs.YtegbfimfpkendaaDoorW.PrintMore LexS LexB PaA LexBox PaC PaD PaE PaF PaG PaL PcA PcB PcC PcD PcE PcF PcG PcHa PcHb PcHc PcHd
set_option linter.unusedVariables false
set_option linter.unusedSimpArgs false
theorem take_calls (F : Nat) (st : FileS) (ts : List Tok) (A : Option Addr) (m c : Nat) (ahead : Int) (a0 : Bool) (w0 w : World) (ha : (ahead == 0) = a0) (hm : ts.length = m) (hC : k68.C w A ts.length (ts.map f48)) (hc : ts.length ≤ c) (hne : ts ≠ []) (hl : ts.length ≤ 100000 ∧ ∀ t ∈ ts, t.text.length ≤ 100000) (hF : FilAt w0 w F st) (hol : st.ops.length ≤ 4398046511104) (htl : st.tasks.length ≤ 4398046511104) (r : Rt) (hr : takeR st a0 ts = r) :
    Calls Tryd.prog 23 #[.pointer (some ⟨F, 0, none⟩), .slice A m c, .int .i64 ahead] w (TPost w0 F st r) := by
  cases ts with
  | nil => exact absurd rfl hne
  | cons t0 rs =>
    by_cases h1 : (strOfNums t0.text).toList = configB
    · exact take_cfg F st _ A m c ahead a0 w0 w ha hm hC hc hne hl hF hol htl (fun x _ e => by cases e; exact h1) r hr
    by_cases h2 : (strOfNums t0.text).toList = taskB
    · exact take_task F st _ A m c ahead a0 w0 w ha hm hC hc hne hl hF hol htl (fun x _ e => by cases e; exact ⟨h1, h2⟩) r hr
    · exact take_op F st _ A m c ahead a0 w0 w ha hm hC hc hne hl hF hol htl (fun x _ e => by cases e; exact ⟨h1, h2⟩) r hr
end Go.Proofs.YtegbfimfpkendaaDoor.PcH
namespace Go.Proofs.YtegbfimfpkendaaDoor.PaX
open Go.RowKit Go.Proofs.YtegbfimfpkendaaDoorW.PrintWords Go.Proofs.YtegbfimfpkendaaDoorW.PrintLast Go.Proofs.YtegbfimfpkendaaDoorW.PrintMore LexS LexB PaA LexBox PaC PaD PaB PaE PaF PaG PaH PaL PaM PaN PaQ PaS PaT PaV PaW
set_option linter.unusedVariables false
set_option linter.unusedSimpArgs false
theorem tk_at {w : World} {b n : Nat} {xs : List Tk} (h : kTk.C w (some ⟨b, 0, none⟩) n xs) (i : Nat) (hi : i < n) :
    w.cell? ⟨b, i * 2, none⟩ = some (.int .i64 (xs.getD i ⟨0, 0⟩).mem) ∧ w.cell? ⟨b, i * 2 + 1, none⟩ = some (.int .i64 (xs.getD i ⟨0, 0⟩).cost) := by
  obtain ⟨ad, c, e, hl, hK, hc⟩ := Kd.C_get h ⟨0, 0⟩ (i : Int) (by omega) (by omega)
  cases e
  obtain ⟨_, _, rfl, rfl, rfl⟩ := hK
  rw [Int.toNat_natCast] at hc
  have hc0 := hc 0 _ rfl
  have hc1 := hc 1 _ rfl
  rw [add_plain] at hc0 hc1
  exact ⟨hc0, hc1⟩
theorem op_at {w : World} {b n : Nat} {xs : List Opn} (h : kOp.C w (some ⟨b, 0, none⟩) n xs) (i : Nat) (hi : i < n) :
    w.cell? ⟨b, i * 5, none⟩ = some (.int .i64 (xs.getD i ⟨0, 0, 0, 0, 0⟩).kind) ∧ w.cell? ⟨b, i * 5 + 1, none⟩ = some (.int .i64 (xs.getD i ⟨0, 0, 0, 0, 0⟩).a) ∧ w.cell? ⟨b, i * 5 + 2, none⟩ = some (.int .i64 (xs.getD i ⟨0, 0, 0, 0, 0⟩).b) ∧ w.cell? ⟨b, i * 5 + 3, none⟩ = some (.int .i64 (xs.getD i ⟨0, 0, 0, 0, 0⟩).c) ∧ w.cell? ⟨b, i * 5 + 4, none⟩ = some (.int .i64 (xs.getD i ⟨0, 0, 0, 0, 0⟩).d) := by
  obtain ⟨ad, c, e, hl, hK, hc⟩ := Kd.C_get h ⟨0, 0, 0, 0, 0⟩ (i : Int) (by omega) (by omega)
  cases e
  obtain ⟨_, _, rfl, rfl, ⟨_, _, rfl, rfl, ⟨_, _, rfl, rfl, ⟨_, _, rfl, rfl, rfl⟩⟩⟩⟩ := hK
  rw [Int.toNat_natCast] at hc
  have hc0 := hc 0 _ rfl
  have hc1 := hc 1 _ rfl
  have hc2 := hc 2 _ rfl
  have hc3 := hc 3 _ rfl
  have hc4 := hc 4 _ rfl
  rw [add_plain] at hc0 hc1 hc2 hc3 hc4
  exact ⟨hc0, hc1, hc2, hc3, hc4⟩
def tk1 : List Tk := [⟨1, 2⟩]
def op1 : List Opn := [⟨1, 0, 1, 3, 0⟩, ⟨5, 0, 1, 3, 4⟩]
theorem fin1 : FIn ⟨[10, 2, 3, 4, 2, 1, 5, 2, 8, 7], tk1, op1⟩ := by
  refine ⟨?_, ?_, ?_⟩ <;> simp [tk1, op1, PaP.inI]
set_option maxHeartbeats 1000000 in
set_option maxRecDepth 100000 in
theorem shown_calls (w : World) (h : Laid w) : Calls Tryd.prog 9 #[] w fun e w' => e = .returned (.bool true) ∧ Below w.heap.size w w' := by
  have HL := Aside0.mk h
  clear h
  have a1 := add_lit headB [116, 97, 115, 107, 32, 49, 32, 50, 10, 115, 117, 98, 109, 105, 116, 32, 48, 32, 49, 32, 51, 10, 97, 110, 115, 119, 101, 114, 32, 48, 32, 49, 32, 110, 101, 101, 100, 32, 52, 10] (by decide)
  have a2 := add_lit headB [10, 99, 97, 110, 99, 101, 108, 32, 48, 32, 48] (by decide)
  go_enter Tryd.func9, Tryd.ntmps9
  go_upto_region 2 with (first
    | (go_at_call 16; refine (head_calls _).mono ?_; rintro e' w' ⟨rfl, rfl⟩)
    | ((with_reducible refine gate_dst (N := 15) rfl ?_); refine LexK.CO_conv (w0 := w) w.heap.size ?hg (N := 15) ?hd 9 22 5 (.tmp 14) rfl Tryd.underlying9 Tryd.underlying22 Tryd.underlying5 (⟨(headB ++ doc1).toArray⟩) rfl (fun _ => True) trivial (Below.refl _ _) (Nat.le_refl _) (by decide +kernel) ?_; (case hd => rfl); (case hg => rfl); intro v1 x1a hco hb _ _; obtain ⟨bb, bc, rfl, hbc, -, -, hbC⟩ := hco; have CB := Aside0.mk hb; have CC := Aside0.mk hbC; have CL := Aside0.mk hbc; clear hb hbC hbc)
    | (go_at_call 10; refine (parse_l _ _ _ (bytesOf (⟨(headB ++ doc1).toArray⟩)) _ 10 2 3 4 2 1 5 2 8 7 0 0 tk1 op1 (p1) rfl CC.out CL.out (HL.out.below CB.out)).mono ?_; rintro e' x1b ⟨vT, vO, rfl, hT, hO, hb⟩; obtain ⟨AT1, cT1, rfl⟩ := Kd.R_slice hT; obtain ⟨AO1, cO1, rfl⟩ := Kd.R_slice hO; have RT1 := Aside0.mk hT; have RO1 := Aside0.mk hO; have PB1 := Aside0.mk (below_step CB.out hb); clear CC CL CB hT hO hb)
    | ((with_reducible refine gate_dst (N := 1) rfl ?_); (try (refine gate_guard (by rfl) ?_; dsimp only)); refine box_event ?hg (N := 1) ?hd (cs := #[.int .i64 0, .int .i64 0, .int .i64 0, .int .i64 0, .int .i64 0, .int .i64 0, .int .i64 0, .int .i64 0, .int .i64 0, .int .i64 0, .slice none 0 0, .slice none 0 0]) (t := 29) ?hr ?_; (case hd => rfl); (case hg => rfl); (case hr => first | (go_simp; done) | (go_simp; rfl)); intro o1 hg x1c hbox hb; have ZX1 := Aside0.mk hbox; have ZB1 := Aside0.mk hb; have ZG1 := Aside0.mk (Nat.le_of_eq hg.symm); obtain ⟨z0, z1, z2, z3, z4, z5, z6, z7, z8, z9, z10, z11, g0, g1, g2, g3, g4, g5, g6, g7, g8, g9, g10, g11⟩ := cells12 hbox; clear hbox hb hg))

  obtain ⟨x1, hw, hX, hBx⟩ := put12 (.int .i64 10) (.int .i64 2) (.int .i64 3) (.int .i64 4) (.int .i64 2) (.int .i64 1) (.int .i64 5) (.int .i64 2) (.int .i64 8) (.int .i64 7) (.slice AT1 tk1.length cT1) (.slice AO1 op1.length cO1) ZX1.out ZB1.out ZG1.out
  rw [← hw]
  have FX1 := Aside0.mk hX
  have RU1 := Aside0.mk (Kd.R_below RT1.out hBx)
  have RV1 := Aside0.mk (Kd.R_below RO1.out hBx)
  have BW1 := Aside0.mk (below_step PB1.out hBx)
  clear hw hX hBx ZX1 ZB1 ZG1 RT1 RO1 PB1 z0 z1 z2 z3 z4 z5 z6 z7 z8 z9 z10 z11 g0 g1 g2 g3 g4 g5 g6 g7 g8 g9 g10 g11

  go_upto_region 3 with (first
    | (go_at_call 16; refine (head_calls _).mono ?_; rintro e' w' ⟨rfl, rfl⟩)
    | ((with_reducible refine gate_dst (N := 23) rfl ?_); refine LexK.CO_conv (w0 := x1) x1.heap.size ?hg (N := 23) ?hd 9 22 5 (.tmp 22) rfl Tryd.underlying9 Tryd.underlying22 Tryd.underlying5 (⟨(headB ++ doc2).toArray⟩) rfl (fun _ => True) trivial (Below.refl _ _) (Nat.le_refl _) (by decide +kernel) ?_; (case hd => rfl); (case hg => rfl); intro v1 x2a hco hb _ _; obtain ⟨bb, bc, rfl, hbc, -, -, hbC⟩ := hco; have CB := Aside0.mk hb; have CC := Aside0.mk hbC; have CL := Aside0.mk hbc; clear hb hbC hbc)
    | (go_at_call 10; refine (parse_l _ _ _ (bytesOf (⟨(headB ++ doc2).toArray⟩)) _ 0 0 0 0 0 0 0 0 0 0 3 2 [] [] (p2) rfl CC.out CL.out (HL.out.below (below_step BW1.out CB.out))).mono ?_; rintro e' x2b ⟨vT, vO, rfl, hT, hO, hb⟩; obtain ⟨AT2, cT2, rfl⟩ := Kd.R_slice hT; obtain ⟨AO2, cO2, rfl⟩ := Kd.R_slice hO; have RT2 := Aside0.mk hT; have RO2 := Aside0.mk hO; have PB2 := Aside0.mk (below_step CB.out hb); clear CC CL CB hT hO hb)
    | ((with_reducible refine gate_dst (N := 4) rfl ?_); (try (refine gate_guard (by rfl) ?_; dsimp only)); refine box_event ?hg (N := 4) ?hd (cs := #[.int .i64 0, .int .i64 0, .int .i64 0, .int .i64 0, .int .i64 0, .int .i64 0, .int .i64 0, .int .i64 0, .int .i64 0, .int .i64 0, .slice none 0 0, .slice none 0 0]) (t := 29) ?hr ?_; (case hd => rfl); (case hg => rfl); (case hr => first | (go_simp; done) | (go_simp; rfl)); intro o2 hg x2c hbox hb; have ZX2 := Aside0.mk hbox; have ZB2 := Aside0.mk hb; have ZG2 := Aside0.mk (Nat.le_of_eq hg.symm); obtain ⟨z0, z1, z2, z3, z4, z5, z6, z7, z8, z9, z10, z11, g0, g1, g2, g3, g4, g5, g6, g7, g8, g9, g10, g11⟩ := cells12 hbox; clear hbox hb hg))

  obtain ⟨x2, hw, hX, hBx⟩ := put12 (.int .i64 0) (.int .i64 0) (.int .i64 0) (.int .i64 0) (.int .i64 0) (.int .i64 0) (.int .i64 0) (.int .i64 0) (.int .i64 0) (.int .i64 0) (.slice AT2 0 cT2) (.slice AO2 0 cO2) ZX2.out ZB2.out ZG2.out
  rw [← hw]
  have FX2 := Aside0.mk hX
  have RU2 := Aside0.mk (Kd.R_below RT2.out hBx)
  have RV2 := Aside0.mk (Kd.R_below RO2.out hBx)
  have BW2 := Aside0.mk (below_step PB2.out hBx)
  clear hw hX hBx ZX2 ZB2 ZG2 RT2 RO2 PB2 z0 z1 z2 z3 z4 z5 z6 z7 z8 z9 z10 z11 g0 g1 g2 g3 g4 g5 g6 g7 g8 g9 g10 g11

  go_upto_region 4 with (first
    | (go_at_call 10; refine (parse_l none 0 0 [] _ 0 0 0 0 0 0 0 0 0 0 0 2 [] [] p3 rfl (Kd.C_nil _ _) (Nat.le_refl _) (HL.out.below (below_step BW1.out BW2.out))).mono ?_; rintro e' x3b ⟨vT, vO, rfl, hT, hO, hb⟩; obtain ⟨AT3, cT3, rfl⟩ := Kd.R_slice hT; obtain ⟨AO3, cO3, rfl⟩ := Kd.R_slice hO; have RT3 := Aside0.mk hT; have RO3 := Aside0.mk hO; have PB3 := Aside0.mk hb; clear hT hO hb)
    | ((with_reducible refine gate_dst (N := 7) rfl ?_); (try (refine gate_guard (by rfl) ?_; dsimp only)); refine box_event ?hg (N := 7) ?hd (cs := #[.int .i64 0, .int .i64 0, .int .i64 0, .int .i64 0, .int .i64 0, .int .i64 0, .int .i64 0, .int .i64 0, .int .i64 0, .int .i64 0, .slice none 0 0, .slice none 0 0]) (t := 29) ?hr ?_; (case hd => rfl); (case hg => rfl); (case hr => first | (go_simp; done) | (go_simp; rfl)); intro o3 hg x3c hbox hb; have ZX3 := Aside0.mk hbox; have ZB3 := Aside0.mk hb; have ZG3 := Aside0.mk (Nat.le_of_eq hg.symm); obtain ⟨z0, z1, z2, z3, z4, z5, z6, z7, z8, z9, z10, z11, g0, g1, g2, g3, g4, g5, g6, g7, g8, g9, g10, g11⟩ := cells12 hbox; clear hbox hb hg))
  obtain ⟨x3, hw, hX, hBx⟩ := put12 (.int .i64 0) (.int .i64 0) (.int .i64 0) (.int .i64 0) (.int .i64 0) (.int .i64 0) (.int .i64 0) (.int .i64 0) (.int .i64 0) (.int .i64 0) (.slice AT3 0 cT3) (.slice AO3 0 cO3) ZX3.out ZB3.out ZG3.out
  rw [← hw]
  have FX3 := Aside0.mk hX
  have RU3 := Aside0.mk (Kd.R_below RT3.out hBx)
  have RV3 := Aside0.mk (Kd.R_below RO3.out hBx)
  have BW3 := Aside0.mk (below_step PB3.out hBx)
  clear hw hX hBx ZX3 ZB3 ZG3 RT3 RO3 PB3 z0 z1 z2 z3 z4 z5 z6 z7 z8 z9 z10 z11 g0 g1 g2 g3 g4 g5 g6 g7 g8 g9 g10 g11

  have F3 := Aside0.mk (blk_below (blk_below FX1.out BW2.out) BW3.out)
  have BA := Aside0.mk (below_step (below_step BW1.out BW2.out) BW3.out)
  obtain ⟨bT, capT, hvT, -, -, -⟩ := Kd.R_form RU1.out (by decide)
  obtain ⟨bO, capO, hvO, -, -, -⟩ := Kd.R_form RV1.out (by decide)
  cases hvT
  cases hvO
  have T3 := Aside0.mk (Kd.R_reads' (Kd.R_below (Kd.R_below RU1.out BW2.out) BW3.out))
  have O3 := Aside0.mk (Kd.R_reads' (Kd.R_below (Kd.R_below RV1.out BW2.out) BW3.out))
  clear FX1 FX2 FX3 RU1 RV1 RU2 RV2 RU3 RV3 BW1 BW2 BW3 a1 a2
  obtain ⟨z0, z1, z2, z3, z4, z5, z6, z7, z8, z9, z10, z11, -, -, -, -, -, -, -, -, -, -, -, -⟩ := cells12 F3.out
  go_upto_region 7 with (first
    | (go_at_call 14; refine (text_l 10 2 3 4 2 1 5 2 8 7 tk1 op1 _ _ _ _ _ _ _ _ _ t1 rfl rfl T3.out.2.2 T3.out.2.1 O3.out.2.2 O3.out.2.1 (HL.out.below BA.out) fin1 (by decide) (by decide)).mono ?_; rintro e' x4 ⟨rfl, hb⟩; have B4 := Aside0.mk hb; clear hb))
  clear z0 z1 z2 z3 z4 z5 z6 z7 z8 z9 z10 z11
  have F4 := Aside0.mk (blk_below F3.out B4.out)
  have BB := Aside0.mk (below_step BA.out B4.out)
  obtain ⟨-, -, -, -, -, -, -, -, -, z9, z10, z11, -, -, -, -, -, -, -, -, -, -, -, -⟩ := cells12 F4.out
  have hTk := Kd.C_below T3.out.2.2 B4.out
  have hOp := Kd.C_below O3.out.2.2 B4.out
  have q1 : x4.cell? ⟨bT, 1, none⟩ = some (.int .i64 2) := (tk_at hTk 0 (by decide)).2
  have q2 : x4.cell? ⟨bO, 0, none⟩ = some (.int .i64 1) := (op_at hOp 0 (by decide)).1
  have q3 : x4.cell? ⟨bO, 3, none⟩ = some (.int .i64 3) := (op_at hOp 0 (by decide)).2.2.2.1
  have q4 : x4.cell? ⟨bO, 8, none⟩ = some (.int .i64 3) := (op_at hOp 1 (by decide)).2.2.2.1
  have q5 : x4.cell? ⟨bO, 9, none⟩ = some (.int .i64 4) := (op_at hOp 1 (by decide)).2.2.2.2
  clear hTk hOp T3 O3 F3 BA
  have a1 := add_lit headB [116, 97, 115, 107, 32, 49, 32, 50, 10, 115, 117, 98, 109, 105, 116, 32, 48, 32, 49, 32, 51, 10, 97, 110, 115, 119, 101, 114, 32, 48, 32, 49, 32, 110, 101, 101, 100, 32, 52, 10] (by decide)
  go_wp2_with (first
    | (go_at_call 16; refine (head_calls _).mono ?_; rintro e' w' ⟨rfl, rfl⟩))
  first | go_ret | go_ret2
  have hq : (headB ++ doc1 == (headS ++ (⟨#[116, 97, 115, 107, 32, 49, 32, 50, 10, 115, 117, 98, 109, 105, 116, 32, 48, 32, 49, 32, 51, 10, 97, 110, 115, 119, 101, 114, 32, 48, 32, 49, 32, 110, 101, 101, 100, 32, 52, 10]⟩ : ByteArray)).toList) = true := by kernel_rfl
  exact ⟨congrArg (fun b => Ending.returned (.bool b)) hq, BB.out⟩
end Go.Proofs.YtegbfimfpkendaaDoor.PaX
