/- The walk of ParseTells: it returns true. Conditions: the tables are laid. -/
import Derived.Test.YtegbfimfpkendaaDoorPcI
import Derived.Test.YtegbfimfpkendaaDoorMg52
import Derived.Test.YtegbfimfpkendaaDoorPbE
namespace Go.Proofs.YtegbfimfpkendaaDoor.PcJ
open Go.RowKit Go.Proofs.YtegbfimfpkendaaDoorW.PrintWords Go.Proofs.YtegbfimfpkendaaDoorW.PrintLast Go.Proofs.YtegbfimfpkendaaDoorW.PrintMore LexS LexB PaA LexBox PaC PaD PaB PaE PaF PaG PaH PaL PaM PaN PaQ PaS PaT PaU PaV PaW PaX PaY PaZ PbA PbB PbC PbS PbD PbE PcI
set_option linter.unusedVariables false
set_option linter.unusedSimpArgs false
theorem shape (X : List Int) (hl : X.length ≤ 4000) : ∃ (e0 e1 e2 e3 e4 e5 e6 e7 e8 e9 : Int) (tx : List Tk) (ox : List Opn) (lx ex : Int), parseP X = (⟨[e0, e1, e2, e3, e4, e5, e6, e7, e8, e9], tx, ox⟩, lx, ex) ∧ tx.length ≤ 1000000 ∧ ox.length ≤ 1000000 := by
  obtain ⟨fx, lx, ex, hpx⟩ : ∃ f l e, parseP X = (f, l, e) := ⟨_, _, _, rfl⟩
  rcases parse_inv X (by omega) fx lx ex hpx with ⟨hf, h0, h1⟩ | ⟨hl0, he0, hg, h64, h4096, hlw⟩
  · exact ⟨0, 0, 0, 0, 0, 0, 0, 0, 0, 0, [], [], lx, ex, by rw [hpx, hf]; rfl, by simp, by simp⟩
  · obtain ⟨cx, tx, ox⟩ := fx
    obtain ⟨e0, e1, e2, e3, e4, e5, e6, e7, e8, e9, hcx⟩ := PaE.ten hg.len
    simp only at hcx
    subst hcx
    simp only at h64 h4096
    exact ⟨e0, e1, e2, e3, e4, e5, e6, e7, e8, e9, tx, ox, lx, ex, hpx, by omega, by omega⟩
theorem refParse_l (X : List Int) (S : ByteArray) (hS : strOfNums X = S) (hX : Str.Bytes X) (hl : X.length ≤ 65536) (w : World) (e0 e1 e2 e3 e4 e5 e6 e7 e8 e9 line err : Int) (tasks : List Tk) (ops : List Opn) (hp : parseP X = (⟨[e0, e1, e2, e3, e4, e5, e6, e7, e8, e9], tasks, ops⟩, line, err)) :
    Calls Tryd.prog 11 #[.string S] w fun e w' => ∃ vT vO, e = .returned (.tuple #[.agg #[.int .i64 e0, .int .i64 e1, .int .i64 e2, .int .i64 e3, .int .i64 e4, .int .i64 e5, .int .i64 e6, .int .i64 e7, .int .i64 e8, .int .i64 e9, vT, vO], .int .i64 line, .int .i64 err]) ∧
      kTk.R 51 w' w.heap.size (fun _ => True) vT tasks ∧ kOp.R 46 w' w.heap.size (fun _ => True) vO ops ∧ Below w.heap.size w w' := by
  subst hS
  refine (refParse_calls X hX hl w).mono fun e w' hh => ?_
  rw [hp] at hh
  obtain ⟨vT, vO, rfl, hT, hO, hB⟩ := hh
  exact ⟨vT, vO, rfl, hT, hO, hB⟩
theorem infoU8 : (Tryd.prog.info? 5).map (fun i => (i.zero, i.size, i.bytes)) = some (some (.int .u8 0), 1, 1) := by kernel_rfl
attribute [local go_sem] max2_int min2_int max_two min_two
set_option maxHeartbeats 4000000 in
set_option maxRecDepth 100000 in
theorem tells_calls (AB : Option Addr) (cB : Nat) (lb : List Int) (w : World) (h : Laid w) (hB : (Kd.int .u8).C w AB lb.length lb) (hBc : lb.length ≤ cB) (hBw : ∀ x ∈ lb, (Lit.int .u8 x).wf = true) :
    Calls Tryd.prog 3 #[.slice AB lb.length cB] w fun e w' => e = .returned (.bool true) ∧ Below w.heap.size w w' := by
  have HL := Aside0.mk h
  have HBB := Aside0.mk hB
  obtain ⟨lbt, hlbt⟩ : ∃ l, l = lb.take 4000 := ⟨_, rfl⟩
  have hll : lbt.length = min lb.length 4000 := by rw [hlbt, List.length_take, Nat.min_comm]
  have LBT := Aside0.mk hlbt
  have LBC := Aside0.mk (show lbt.length ≤ 4000 ∧ lbt.length ≤ cB by omega)
  have JB := Aside0.mk (show (if (4000 : Int) < (lb.length : Int) then (4000 : Int) else (lb.length : Int)) = (lbt.length : Int) by split <;> omega)
  have HBY := Aside0.mk (show Str.Bytes lbt from fun x hx => by
    rw [hlbt] at hx
    have := hBw x (List.mem_of_mem_take hx)
    have h2 : (decide (0 ≤ x) && decide (x ≤ 255)) = true := this
    simpa using h2)
  have HBT := Aside0.mk (show (Kd.int .u8).C w AB lbt.length lbt by rw [hlbt]; exact C_takes hB 4000)
  obtain ⟨i5, hi5, -, -, -⟩ := info_parts infoU8
  have HI5 := Aside0.mk hi5
  obtain ⟨e0, e1, e2, e3, e4, e5, e6, e7, e8, e9, tx, ox, lx, ex, hpx, htx, hox⟩ := shape lbt (by omega)
  have HPX := Aside0.mk hpx
  have TXL := Aside0.mk (show tx.length ≤ 1000000 ∧ ox.length ≤ 1000000 from ⟨htx, hox⟩)
  obtain ⟨S, hS⟩ : ∃ S, strOfNums lbt = S := ⟨_, rfl⟩
  have HS := Aside0.mk hS
  clear h hB hBc hBw hlbt hll hi5 hpx htx hox hS
  go_enter Tryd.func3, Tryd.ntmps3
  have jB := JB.out
  have sB := fun W => cut_run (P := Tryd.prog) Tryd.underlying22 HI5.out AB lb.length cB lbt.length LBC.out.2 W
  go_upto_region 3 with (first
    | (go_at_call 9; refine (shown_calls _ HL.out).mono ?_; rintro e' w1 ⟨rfl, hb⟩; have SB := Aside0.mk hb; clear hb)
    | ((with_reducible refine gate_dst (N := 12) rfl ?_); refine Kd.R_lit (Kd.int .u8) _ 5 ?hg (N := 12) ?hd (xs := ([] : List Int)) (inner := []) (ok := fun _ => True) (okp := fun _ => True) ?hr ?hp (fun _ hk => hk) trivial (Below.refl _ _) (Nat.le_refl _) (by simp) ?_; (case hd => rfl); (case hg => rfl); (case hr => first | (go_simp; done) | (go_simp; rfl)); (case hp => exact (Reps.none _ _)); intro v12 w2 ho hb hg_ hnew_; have O12 := Aside0.mk ho; have B2 := Aside0.mk hb; clear ho hb hg_ hnew_)
    | ((with_reducible refine gate_builtin (b := .append) (xs := #[.tmp 12, .tmp 17]) rfl ?_); at_builtin; refine Kd.R_append_rows (Kd.int .u8) (w0 := w1) w1.heap.size rfl (.tmp 12) (.tmp 17) 22 5 (.int .u8 0) 1 rfl Tryd.underlying22 infoU8 rfl (by decide) (by decide) v12 [] lbt AB lbt.length cB (fun _ => True) (fun _ => False) rfl rfl O12.out (Kd.C_below HBT.out (below_step SB.out B2.out)) (fun _ _ h => h) (fun _ h => h.elim) (fun _ _ => trivial) B2.out (below_size B2.out) (by have := LBC.out; simp only [List.length_nil]; omega) ?_; intro v18 w3 ho hb hg hat; rw [List.nil_append] at ho; have O18 := Aside0.mk ho; have B3 := Aside0.mk hb; clear ho hb hg hat))
  clear jB sB
  obtain ⟨A18, c18, hv18⟩ := Kd.R_slice O18.out
  obtain ⟨L18, hL18⟩ : ∃ n, n = lbt.length := ⟨_, rfl⟩
  rw [← hL18] at hv18
  have HL18 := Aside0.mk hL18
  clear hL18
  subst hv18
  have R18 := Aside0.mk (Kd.R_reads' O18.out)
  have C18 := Aside0.mk (show (Kd.int .u8).C w3 A18 lbt.length lbt from R18.out.2.2)
  have D18 := Aside0.mk (show lbt.length ≤ c18 by have := R18.out.2.1; rw [← HL18.out]; exact this)
  have BW3 := Aside0.mk (below_step SB.out B3.out)
  have cv3 : (convert 22 9 (.slice A18 L18 c18)).run Tryd.prog w3 = .ok (.string S) w3 := by rw [← HS.out]; exact Kd.C_string Tryd.underlying22 Tryd.underlying5 Tryd.underlying9 (by rw [HL18.out]; exact C18.out)
  go_upto_region 4 with (fail)
  clear cv3
  go_upto_region 5 with (first
    | (go_at_call 10; refine (parse_l A18 c18 L18 lbt _ e0 e1 e2 e3 e4 e5 e6 e7 e8 e9 lx ex tx ox HPX.out HL18.out.symm C18.out D18.out (HL.out.below BW3.out)).mono ?_; rintro e' w4 ⟨vT, vO, rfl, hT, hO, hb⟩; obtain ⟨AT2, cT2, rfl⟩ := Kd.R_slice hT; obtain ⟨AO2, cO2, rfl⟩ := Kd.R_slice hO; have RT2 := Aside0.mk hT; have RO2 := Aside0.mk hO; have PB2 := Aside0.mk hb; clear hT hO hb)
    | ((with_reducible refine gate_dst (N := 5) rfl ?_); (try (refine gate_guard (by rfl) ?_; dsimp only)); refine box_event ?hg (N := 5) ?hd (cs := #[.int .i64 0, .int .i64 0, .int .i64 0, .int .i64 0, .int .i64 0, .int .i64 0, .int .i64 0, .int .i64 0, .int .i64 0, .int .i64 0, .slice none 0 0, .slice none 0 0]) (t := 29) ?hr ?_; (case hd => rfl); (case hg => rfl); (case hr => first | (go_simp; done) | (go_simp; rfl)); intro o2 hg w5a hbox hb; have ZX2 := Aside0.mk hbox; have ZB2 := Aside0.mk hb; have ZG2 := Aside0.mk (Nat.le_of_eq hg.symm); obtain ⟨z0, z1, z2, z3, z4, z5, z6, z7, z8, z9, z10, z11, g0, g1, g2, g3, g4, g5, g6, g7, g8, g9, g10, g11⟩ := cells12 hbox; clear hbox hb hg))
  obtain ⟨w5, hw, hX, hBx⟩ := put12 (.int .i64 e0) (.int .i64 e1) (.int .i64 e2) (.int .i64 e3) (.int .i64 e4) (.int .i64 e5) (.int .i64 e6) (.int .i64 e7) (.int .i64 e8) (.int .i64 e9) (.slice AT2 tx.length cT2) (.slice AO2 ox.length cO2) ZX2.out ZB2.out ZG2.out
  rw [← hw]
  have FX2 := Aside0.mk hX
  have RU2 := Aside0.mk (Kd.R_below RT2.out hBx)
  have RV2 := Aside0.mk (Kd.R_below RO2.out hBx)
  have BW2 := Aside0.mk (below_step PB2.out hBx)
  clear hw hX hBx ZX2 ZB2 ZG2 RT2 RO2 PB2 z0 z1 z2 z3 z4 z5 z6 z7 z8 z9 z10 z11 g0 g1 g2 g3 g4 g5 g6 g7 g8 g9 g10 g11
  go_upto_region 6 with (first
    | (go_at_call 11; refine (refParse_l lbt S HS.out HBY.out (by have := LBC.out; omega) _ e0 e1 e2 e3 e4 e5 e6 e7 e8 e9 lx ex tx ox HPX.out).mono ?_; rintro e' w6 ⟨vT, vO, rfl, hT, hO, hb⟩; obtain ⟨AT3, cT3, rfl⟩ := Kd.R_slice hT; obtain ⟨AO3, cO3, rfl⟩ := Kd.R_slice hO; have RT3 := Aside0.mk hT; have RO3 := Aside0.mk hO; have PB3 := Aside0.mk hb; clear hT hO hb)
    | ((with_reducible refine gate_dst (N := 8) rfl ?_); (try (refine gate_guard (by rfl) ?_; dsimp only)); refine box_event ?hg (N := 8) ?hd (cs := #[.int .i64 0, .int .i64 0, .int .i64 0, .int .i64 0, .int .i64 0, .int .i64 0, .int .i64 0, .int .i64 0, .int .i64 0, .int .i64 0, .slice none 0 0, .slice none 0 0]) (t := 33) ?hr ?_; (case hd => rfl); (case hg => rfl); (case hr => first | (go_simp; done) | (go_simp; rfl)); intro o3 hg w7a hbox hb; have ZX3 := Aside0.mk hbox; have ZB3 := Aside0.mk hb; have ZG3 := Aside0.mk (Nat.le_of_eq hg.symm); obtain ⟨z0, z1, z2, z3, z4, z5, z6, z7, z8, z9, z10, z11, g0, g1, g2, g3, g4, g5, g6, g7, g8, g9, g10, g11⟩ := cells12 hbox; clear hbox hb hg))
  obtain ⟨w7, hw, hX, hBx⟩ := put12 (.int .i64 e0) (.int .i64 e1) (.int .i64 e2) (.int .i64 e3) (.int .i64 e4) (.int .i64 e5) (.int .i64 e6) (.int .i64 e7) (.int .i64 e8) (.int .i64 e9) (.slice AT3 tx.length cT3) (.slice AO3 ox.length cO3) ZX3.out ZB3.out ZG3.out
  rw [← hw]
  have FX3 := Aside0.mk hX
  have RU3 := Aside0.mk (Kd.R_below RT3.out hBx)
  have RV3 := Aside0.mk (Kd.R_below RO3.out hBx)
  have BW3 := Aside0.mk (below_step PB3.out hBx)
  clear hw hX hBx ZX3 ZB3 ZG3 RT3 RO3 PB3 z0 z1 z2 z3 z4 z5 z6 z7 z8 z9 z10 z11 g0 g1 g2 g3 g4 g5 g6 g7 g8 g9 g10 g11
  have BZ3 := Aside0.mk (below_step (below_step SB.out B3.out) BW2.out)
  have BZ4 := Aside0.mk (below_step BZ3.out BW3.out)
  have FZ := Aside0.mk (blk_below FX2.out BW3.out)
  obtain ⟨z0, z1, z2, z3, z4, z5, z6, z7, z8, z9, z10, z11, -, -, -, -, -, -, -, -, -, -, -, -⟩ := cells12 FZ.out
  obtain ⟨y0, y1, y2, y3, y4, y5, y6, y7, y8, y9, y10, y11, -, -, -, -, -, -, -, -, -, -, -, -⟩ := cells12 FX3.out
  have sS : (S.toList == S.toList) = true := by simp
  have sL : (lx == lx) = true := by simp
  have sE : (ex == ex) = true := by simp
  go_wp2_with (first
    | (go_at_call 12; refine (same_calls e0 e1 e2 e3 e4 e5 e6 e7 e8 e9 tx ox _ _ _ _ _ _ _ _ _ _ _ _ _ rfl rfl rfl rfl (Kd.C_below (Kd.R_reads' RU2.out).2.2 BW3.out) (Kd.R_reads' RU3.out).2.2 (Kd.C_below (Kd.R_reads' RV2.out).2.2 BW3.out) (Kd.R_reads' RV3.out).2.2 TXL.out).mono ?_; rintro e' w8 ⟨rfl, hb⟩; have SZ := Aside0.mk hb; clear hb; have cv8 : (convert 22 9 (.slice A18 L18 c18)).run Tryd.prog w8 = .ok (.string S) w8 := (by rw [← HS.out]; exact Kd.C_string Tryd.underlying22 Tryd.underlying5 Tryd.underlying9 (by rw [HL18.out]; exact Kd.C_below (Kd.C_below (Kd.C_below C18.out BW2.out) BW3.out) SZ.out))))
  first | go_ret | go_ret2
  exact ⟨rfl, below_step BZ4.out SZ.out⟩
end Go.Proofs.YtegbfimfpkendaaDoor.PcJ
