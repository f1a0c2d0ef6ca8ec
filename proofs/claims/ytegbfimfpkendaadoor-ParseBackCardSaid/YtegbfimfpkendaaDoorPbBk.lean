/- The walk of ParseBack: it returns true. Conditions: the tables are laid. -/
import Derived.Test.YtegbfimfpkendaaDoorPbS
import Derived.Test.YtegbfimfpkendaaDoorPbE
namespace Go.Proofs.YtegbfimfpkendaaDoor.PbBk
open Go.RowKit Go.Proofs.YtegbfimfpkendaaDoorW.PrintWords Go.Proofs.YtegbfimfpkendaaDoorW.PrintLast Go.Proofs.YtegbfimfpkendaaDoorW.PrintMore LexS LexB PaA LexBox PaC PaD PaB PaE PaF PaG PaH PaL PaM PaN PaQ PaS PaT PaU PaV PaW PaX PaY PaZ PbA PbB PbC PbS PbD PbE
set_option linter.unusedVariables false
set_option linter.unusedSimpArgs false
theorem okN_in {v : Int} (h : okN v = true) : PaP.inI v := by
  simp only [okN, Bool.and_eq_true, decide_eq_true_eq] at h
  exact ⟨by omega, by omega⟩
theorem okOp_in {o : Opn} (h : okOp o = true) : PaP.inI o.kind ∧ PaP.inI o.a ∧ PaP.inI o.b ∧ PaP.inI o.c ∧ PaP.inI o.d := by
  obtain ⟨k, a, b, c, d⟩ := o
  simp only [okOp] at h
  (repeat' split at h) <;> simp only [Bool.and_eq_true, decide_eq_true_eq, okN, Bool.false_eq_true] at h <;> simp only [PaP.inI] <;> omega
theorem good_in {f : FileS} (h : GoodF f) : FIn f := ⟨fun v hv => okN_in (h.cfg v hv), fun t ht => ⟨okN_in (h.tasks t ht).1, okN_in (h.tasks t ht).2⟩, fun o ho => okOp_in (h.ops o ho)⟩
/-- A good file has a text, which is read as it. -/
theorem text_read (f : FileS) (h : GoodF f) (ht : f.tasks.length ≤ 64) (ho : f.ops.length ≤ 4096) (hl : (docB (words f)).length ≤ 65536) : ∃ s, textP f = (s, 0) ∧ parseP (bytesOf ⟨s.toArray⟩) = (f, 0, 0) ∧ s.length ≤ 65536 := by
  have h1 := PbA.GoodF.ok h
  refine ⟨(textW f).1, ?_, ?_, ?_⟩
  · rw [textP_eq, if_neg]
    rw [h1]
    simp
    omega
  · rw [bytes_ints, textW_ok f h1]
    exact read_back f h ht ho hl
  · have := ints_len (textW f).1
    rw [textW_ok f h1] at this
    omega
theorem infoU8 : (Tryd.prog.info? 5).map (fun i => (i.zero, i.size, i.bytes)) = some (some (.int .u8 0), 1, 1) := by kernel_rfl
attribute [local go_sem] max2_int min2_int max_two min_two
set_option maxHeartbeats 2000000 in
set_option maxRecDepth 100000 in
theorem back_calls (v0 v1 v2 v3 v4 v5 v6 v7 v8 v9 : Int) (tasks : List Tk) (ops : List Opn) (AT AO : Option Addr) (cT cO : Nat) (AB : Option Addr) (cB : Nat) (lb : List Int) (w : World) (hT : kTk.C w AT tasks.length tasks) (hTc : tasks.length ≤ cT) (hO : kOp.C w AO ops.length ops) (hOc : ops.length ≤ cO) (h : Laid w) (hI : FIn ⟨[v0, v1, v2, v3, v4, v5, v6, v7, v8, v9], tasks, ops⟩) (hB : (Kd.int .u8).C w AB lb.length lb) (hBc : lb.length ≤ cB) (hBw : ∀ x ∈ lb, (Lit.int .u8 x).wf = true) :
    Calls Tryd.prog 5 #[.agg #[.int .i64 v0, .int .i64 v1, .int .i64 v2, .int .i64 v3, .int .i64 v4, .int .i64 v5, .int .i64 v6, .int .i64 v7, .int .i64 v8, .int .i64 v9, .slice AT tasks.length cT, .slice AO ops.length cO], .slice AB lb.length cB] w fun e w' => e = .returned (.bool true) ∧ Below w.heap.size w w' := by
  have HBB := Aside0.mk hB
  obtain ⟨lbt, hlbt⟩ : ∃ l, l = lb.take 4000 := ⟨_, rfl⟩
  have hll : lbt.length = min lb.length 4000 := by rw [hlbt, List.length_take, Nat.min_comm]
  have LBT := Aside0.mk hlbt
  have LBC := Aside0.mk (show lbt.length ≤ 4000 ∧ lbt.length ≤ cB by omega)
  have JB := Aside0.mk (show (if (4000 : Int) < (lb.length : Int) then (4000 : Int) else (lb.length : Int)) = (lbt.length : Int) by split <;> omega)
  obtain ⟨i5, hi5, -, -, -⟩ := info_parts infoU8
  have HI5 := Aside0.mk hi5
  obtain ⟨fx, lx, ex, hpx⟩ : ∃ f l e, parseP lbt = (f, l, e) := ⟨_, _, _, rfl⟩
  have HPX := Aside0.mk hpx
  clear hB hBc hBw hlbt hll hi5 hpx
  have HL := Aside0.mk h
  have HT := Aside0.mk hT
  have HO := Aside0.mk hO
  have HTC := Aside0.mk hTc
  have HOC := Aside0.mk hOc
  have HI := Aside0.mk hI
  clear h hT hO hTc hOc hI
  go_enter Tryd.func5, Tryd.ntmps5
  go_upto_region 1 with (first
    | ((with_reducible refine gate_dst (N := 2) rfl ?_); (try (refine gate_guard (by rfl) ?_; dsimp only)); refine box_event ?hg (N := 2) ?hd (cs := #[.int .i64 v0, .int .i64 v1, .int .i64 v2, .int .i64 v3, .int .i64 v4, .int .i64 v5, .int .i64 v6, .int .i64 v7, .int .i64 v8, .int .i64 v9, .slice AT tasks.length cT, .slice AO ops.length cO]) (t := 29) ?hr ?_; (case hd => rfl); (case hg => rfl); (case hr => first | (go_simp; done) | (go_simp; rfl)); intro F hg w1 hbox hb; have FX := Aside0.mk hbox; have FB := Aside0.mk hb; have FG := Aside0.mk (Nat.le_of_eq hg.symm); clear hbox hb hg))
  obtain ⟨q0, q1, q2, q3, q4, q5, q6, q7, q8, q9, q10, q11, -, -, -, -, -, -, -, -, -, -, -, -⟩ := cells12 FX.out
  go_upto_region 2 with (first
    | (go_at_call 9; refine (shown_calls _ (HL.out.below FB.out)).mono ?_; rintro e' w2 ⟨rfl, hb⟩; have SB := Aside0.mk hb; clear hb))
  clear q0 q1 q2 q3 q4 q5 q6 q7 q8 q9 q10 q11
  have FX2 := Aside0.mk (blk_below FX.out SB.out)
  obtain ⟨q0, q1, q2, q3, q4, q5, q6, q7, q8, q9, q10, q11, -, -, -, -, -, -, -, -, -, -, -, -⟩ := cells12 FX2.out
  go_upto_region 3 with (first
    | (go_at_call 13; refine (few_calls v0 v1 v2 v3 v4 v5 v6 v7 v8 v9 AT AO tasks.length ops.length cT cO _ HTC.out HOC.out).mono ?_; rintro e' w3 ⟨rfl, hb⟩; have FW := Aside0.mk hb; have F3 := Aside0.mk (blk_below (blk_below FX.out SB.out) hb); clear hb; obtain ⟨z0, z1, z2, z3, z4, z5, z6, z7, z8, z9, z10, z11, g0, g1, g2, g3, g4, g5, g6, g7, g8, g9, g10, g11⟩ := cells12 F3.out))
  obtain ⟨w4, hw, hX, hBx⟩ := put12 (.int .i64 v0) (.int .i64 v1) (.int .i64 v2) (.int .i64 v3) (.int .i64 v4) (.int .i64 v5) (.int .i64 v6) (.int .i64 v7) (.int .i64 v8) (.int .i64 v9) (.slice AT (min tasks.length 70) cT) (.slice AO (min ops.length 200) cO) F3.out (below_step (below_step FB.out SB.out) FW.out) FG.out
  rw [← hw]
  have F4 := Aside0.mk hX
  have B4 := Aside0.mk hBx
  clear hw hX hBx F3 FW FX FX2 SB FB z0 z1 z2 z3 z4 z5 z6 z7 z8 z9 z10 z11 g0 g1 g2 g3 g4 g5 g6 g7 g8 g9 g10 g11 q0 q1 q2 q3 q4 q5 q6 q7 q8 q9 q10 q11
  obtain ⟨tk, htk⟩ : ∃ t, t = tasks.take 70 := ⟨_, rfl⟩
  obtain ⟨ok, hok⟩ : ∃ t, t = ops.take 200 := ⟨_, rfl⟩
  have ltk : tk.length = min tasks.length 70 := by rw [htk, List.length_take, Nat.min_comm]
  have lok : ok.length = min ops.length 200 := by rw [hok, List.length_take, Nat.min_comm]
  have HT4 := Aside0.mk (show kTk.C w4 AT tk.length tk by rw [htk]; exact C_takes (Kd.C_below HT.out B4.out) 70)
  have HO4 := Aside0.mk (show kOp.C w4 AO ok.length ok by rw [hok]; exact C_takes (Kd.C_below HO.out B4.out) 200)
  have TC4 := Aside0.mk (show tk.length ≤ cT by have := HTC.out; omega)
  have OC4 := Aside0.mk (show ok.length ≤ cO by have := HOC.out; omega)
  have HI4 := Aside0.mk (show FIn ⟨[v0, v1, v2, v3, v4, v5, v6, v7, v8, v9], tk, ok⟩ by rw [htk, hok]; exact ⟨HI.out.cfg, fun t ht => HI.out.tasks t (List.mem_of_mem_take ht), fun t ht => HI.out.ops t (List.mem_of_mem_take ht)⟩)
  have TK70 := Aside0.mk (show tk.length ≤ 70 ∧ ok.length ≤ 200 by omega)
  have LTK := Aside0.mk ltk
  have LOK := Aside0.mk lok
  clear htk hok ltk lok HT HO HI
  rw [← LTK.out, ← LOK.out] at F4
  obtain ⟨s, er, htx⟩ : ∃ s er, textP ⟨[v0, v1, v2, v3, v4, v5, v6, v7, v8, v9], tk, ok⟩ = (s, er) := ⟨_, _, rfl⟩
  have HTX := Aside0.mk htx
  clear htx
  obtain ⟨q0, q1, q2, q3, q4, q5, q6, q7, q8, q9, q10, q11, -, -, -, -, -, -, -, -, -, -, -, -⟩ := cells12 F4.out
  go_upto_region 4 with (first
    | (go_at_call 14; refine (text_l v0 v1 v2 v3 v4 v5 v6 v7 v8 v9 tk ok AT AO _ _ cT cO _ s er HTX.out rfl rfl HT4.out TC4.out HO4.out OC4.out (HL.out.below B4.out) HI4.out (by have := TK70.out; omega) (by have := TK70.out; omega)).mono ?_; rintro e' w5 ⟨rfl, hb⟩; have B5 := Aside0.mk (below_step B4.out hb); have F5 := Aside0.mk (blk_below F4.out hb); have HT5 := Aside0.mk (Kd.C_below HT4.out hb); have HO5 := Aside0.mk (Kd.C_below HO4.out hb); clear hb))
  clear q0 q1 q2 q3 q4 q5 q6 q7 q8 q9 q10 q11 F4 B4 HT4 HO4
  by_cases he : ¬ er = 0
  · obtain ⟨rfl, rfl⟩ := text_bad HTX.out he
    clear he
    have BT := B5
    have jB := JB.out
    have sB := fun W => cut_run (P := Tryd.prog) Tryd.underlying22 HI5.out AB lb.length cB lbt.length LBC.out.2 W
    have HBT := Aside0.mk (show (Kd.int .u8).C w5 AB lbt.length lbt by rw [LBT.out]; exact C_takes (Kd.C_below HBB.out BT.out) 4000)
    rcases parse_inv lbt (by have := LBC.out; omega) fx lx ex HPX.out with ⟨hf, h0, h1⟩ | ⟨hl0, he0, hg, h64, h4096, hlw⟩
    · have PX : parseP lbt = (⟨[0, 0, 0, 0, 0, 0, 0, 0, 0, 0], [], []⟩, lx, ex) := by rw [HPX.out, hf]; rfl
      have h1b : (ex != 0) = true := by simp [h1]
      have H0 := Aside0.mk h0
      clear hf h0 h1
      go_upto_region 11 with (first
        | (go_at_call 10; refine (parse_l _ _ _ lbt _ 0 0 0 0 0 0 0 0 0 0 lx ex [] [] PX rfl HBT.out LBC.out.2 (HL.out.below BT.out)).mono ?_; rintro e' r1b ⟨vT, vO, rfl, hT, hO, hb⟩; obtain ⟨AT2, cT2, rfl⟩ := Kd.R_slice hT; obtain ⟨AO2, cO2, rfl⟩ := Kd.R_slice hO; have RT2 := Aside0.mk hT; have RO2 := Aside0.mk hO; have PB2 := Aside0.mk hb; clear hT hO hb)
        | ((with_reducible refine gate_dst (N := 11) rfl ?_); (try (refine gate_guard (by rfl) ?_; dsimp only)); refine box_event ?hg (N := 11) ?hd (cs := #[.int .i64 0, .int .i64 0, .int .i64 0, .int .i64 0, .int .i64 0, .int .i64 0, .int .i64 0, .int .i64 0, .int .i64 0, .int .i64 0, .slice none 0 0, .slice none 0 0]) (t := 29) ?hr ?_; (case hd => rfl); (case hg => rfl); (case hr => first | (go_simp; done) | (go_simp; rfl)); intro o2 hg r1c hbox hb; have ZX2 := Aside0.mk hbox; have ZB2 := Aside0.mk hb; have ZG2 := Aside0.mk (Nat.le_of_eq hg.symm); obtain ⟨z0, z1, z2, z3, z4, z5, z6, z7, z8, z9, z10, z11, g0, g1, g2, g3, g4, g5, g6, g7, g8, g9, g10, g11⟩ := cells12 hbox; clear hbox hb hg))
      obtain ⟨r1, hw, hX, hBx⟩ := put12 (.int .i64 0) (.int .i64 0) (.int .i64 0) (.int .i64 0) (.int .i64 0) (.int .i64 0) (.int .i64 0) (.int .i64 0) (.int .i64 0) (.int .i64 0) (.slice AT2 0 cT2) (.slice AO2 0 cO2) ZX2.out ZB2.out ZG2.out
      rw [← hw]
      have FX2 := Aside0.mk hX
      have RU2 := Aside0.mk (Kd.R_below RT2.out hBx)
      have RV2 := Aside0.mk (Kd.R_below RO2.out hBx)
      have BW2 := Aside0.mk (below_step PB2.out hBx)
      clear hw hX hBx ZX2 ZB2 ZG2 RT2 RO2 PB2 z0 z1 z2 z3 z4 z5 z6 z7 z8 z9 z10 z11 g0 g1 g2 g3 g4 g5 g6 g7 g8 g9 g10 g11
      clear jB sB PX
      have h0 := H0.out
      have h0b : decide (0 ≤ lx) = true := by simp [h0]
      have q25 := fun W => eqS25 9998 W 0 0 0 0 0 0 0 0 0 0
      obtain ⟨z0, z1, z2, z3, z4, z5, z6, z7, z8, z9, z10, z11, -, -, -, -, -, -, -, -, -, -, -, -⟩ := cells12 FX2.out
      go_wp2
      first | go_ret | go_ret2
      exact ⟨by first | rfl | simp, below_step BT.out BW2.out⟩
    · obtain ⟨cx, tx, ox⟩ := fx
      obtain ⟨e0, e1, e2, e3, e4, e5, e6, e7, e8, e9, hcx⟩ := PaE.ten hg.len
      simp only at hcx
      subst hcx hl0 he0
      obtain ⟨sx, hsx, hpx, hlx⟩ := text_read _ hg h64 h4096 (by have := LBC.out; omega)
      have PX : parseP lbt = (⟨[e0, e1, e2, e3, e4, e5, e6, e7, e8, e9], tx, ox⟩, 0, 0) := HPX.out
      have IX := Aside0.mk (good_in hg)
      have SX := Aside0.mk hsx
      have PY := Aside0.mk hpx
      have LX := Aside0.mk hlx
      have L64 := Aside0.mk (show tx.length ≤ 64 ∧ ox.length ≤ 4096 from ⟨h64, h4096⟩)
      clear hg h64 h4096 hlw hsx hpx hlx
      go_upto_region 11 with (first
        | (go_at_call 10; refine (parse_l _ _ _ lbt _ e0 e1 e2 e3 e4 e5 e6 e7 e8 e9 0 0 tx ox PX rfl HBT.out LBC.out.2 (HL.out.below BT.out)).mono ?_; rintro e' r1b ⟨vT, vO, rfl, hT, hO, hb⟩; obtain ⟨AT2, cT2, rfl⟩ := Kd.R_slice hT; obtain ⟨AO2, cO2, rfl⟩ := Kd.R_slice hO; have RT2 := Aside0.mk hT; have RO2 := Aside0.mk hO; have PB2 := Aside0.mk hb; clear hT hO hb)
        | ((with_reducible refine gate_dst (N := 11) rfl ?_); (try (refine gate_guard (by rfl) ?_; dsimp only)); refine box_event ?hg (N := 11) ?hd (cs := #[.int .i64 0, .int .i64 0, .int .i64 0, .int .i64 0, .int .i64 0, .int .i64 0, .int .i64 0, .int .i64 0, .int .i64 0, .int .i64 0, .slice none 0 0, .slice none 0 0]) (t := 29) ?hr ?_; (case hd => rfl); (case hg => rfl); (case hr => first | (go_simp; done) | (go_simp; rfl)); intro o2 hg r1c hbox hb; have ZX2 := Aside0.mk hbox; have ZB2 := Aside0.mk hb; have ZG2 := Aside0.mk (Nat.le_of_eq hg.symm); obtain ⟨z0, z1, z2, z3, z4, z5, z6, z7, z8, z9, z10, z11, g0, g1, g2, g3, g4, g5, g6, g7, g8, g9, g10, g11⟩ := cells12 hbox; clear hbox hb hg))
      obtain ⟨r1, hw, hX, hBx⟩ := put12 (.int .i64 e0) (.int .i64 e1) (.int .i64 e2) (.int .i64 e3) (.int .i64 e4) (.int .i64 e5) (.int .i64 e6) (.int .i64 e7) (.int .i64 e8) (.int .i64 e9) (.slice AT2 tx.length cT2) (.slice AO2 ox.length cO2) ZX2.out ZB2.out ZG2.out
      rw [← hw]
      have FX2 := Aside0.mk hX
      have RU2 := Aside0.mk (Kd.R_below RT2.out hBx)
      have RV2 := Aside0.mk (Kd.R_below RO2.out hBx)
      have BW2 := Aside0.mk (below_step PB2.out hBx)
      clear hw hX hBx ZX2 ZB2 ZG2 RT2 RO2 PB2 z0 z1 z2 z3 z4 z5 z6 z7 z8 z9 z10 z11 g0 g1 g2 g3 g4 g5 g6 g7 g8 g9 g10 g11
      clear jB sB PX
      obtain ⟨z0, z1, z2, z3, z4, z5, z6, z7, z8, z9, z10, z11, -, -, -, -, -, -, -, -, -, -, -, -⟩ := cells12 FX2.out
      go_upto_region 14 with (first
        | (go_at_call 14; refine (text_l e0 e1 e2 e3 e4 e5 e6 e7 e8 e9 tx ox _ _ _ _ _ _ _ sx 0 SX.out rfl rfl (Kd.R_reads' RU2.out).2.2 (Kd.R_reads' RU2.out).2.1 (Kd.R_reads' RV2.out).2.2 (Kd.R_reads' RV2.out).2.1 (HL.out.below (below_step BT.out BW2.out)) IX.out (by have := L64.out; omega) (by have := L64.out; omega)).mono ?_; rintro e' r2 ⟨rfl, hb⟩; have G2 := Aside0.mk hb; clear hb))
      clear z0 z1 z2 z3 z4 z5 z6 z7 z8 z9 z10 z11
      go_upto_region 15 with (first
        | ((with_reducible refine gate_dst (N := 106) rfl ?_); refine LexK.CO_conv (w0 := r2) r2.heap.size ?hg (N := 106) ?hd 9 22 5 (.tmp 105) rfl Tryd.underlying9 Tryd.underlying22 Tryd.underlying5 (⟨sx.toArray⟩) rfl (fun _ => True) trivial (Below.refl _ _) (Nat.le_refl _) (by have := LX.out; simp [ByteArray.size]; omega) ?_; (case hd => rfl); (case hg => rfl); intro v1 r3a hco hb _ _; obtain ⟨bb, bc, rfl, hbc, -, -, hbC⟩ := hco; have CB := Aside0.mk hb; have CC := Aside0.mk hbC; have CL := Aside0.mk hbc; clear hb hbC hbc)
        | (go_at_call 10; refine (parse_l _ _ _ (bytesOf (⟨sx.toArray⟩)) _ e0 e1 e2 e3 e4 e5 e6 e7 e8 e9 0 0 tx ox (PY.out) rfl CC.out CL.out (HL.out.below (below_step (below_step (below_step BT.out BW2.out) G2.out) CB.out))).mono ?_; rintro e' r3b ⟨vT, vO, rfl, hT, hO, hb⟩; obtain ⟨AT3, cT3, rfl⟩ := Kd.R_slice hT; obtain ⟨AO3, cO3, rfl⟩ := Kd.R_slice hO; have RT3 := Aside0.mk hT; have RO3 := Aside0.mk hO; have PB3 := Aside0.mk (below_step CB.out hb); clear CC CL CB hT hO hb)
        | ((with_reducible refine gate_dst (N := 16) rfl ?_); (try (refine gate_guard (by rfl) ?_; dsimp only)); refine box_event ?hg (N := 16) ?hd (cs := #[.int .i64 0, .int .i64 0, .int .i64 0, .int .i64 0, .int .i64 0, .int .i64 0, .int .i64 0, .int .i64 0, .int .i64 0, .int .i64 0, .slice none 0 0, .slice none 0 0]) (t := 29) ?hr ?_; (case hd => rfl); (case hg => rfl); (case hr => first | (go_simp; done) | (go_simp; rfl)); intro o3 hg r3c hbox hb; have ZX3 := Aside0.mk hbox; have ZB3 := Aside0.mk hb; have ZG3 := Aside0.mk (Nat.le_of_eq hg.symm); obtain ⟨z0, z1, z2, z3, z4, z5, z6, z7, z8, z9, z10, z11, g0, g1, g2, g3, g4, g5, g6, g7, g8, g9, g10, g11⟩ := cells12 hbox; clear hbox hb hg))
      obtain ⟨r3, hw, hX, hBx⟩ := put12 (.int .i64 e0) (.int .i64 e1) (.int .i64 e2) (.int .i64 e3) (.int .i64 e4) (.int .i64 e5) (.int .i64 e6) (.int .i64 e7) (.int .i64 e8) (.int .i64 e9) (.slice AT3 tx.length cT3) (.slice AO3 ox.length cO3) ZX3.out ZB3.out ZG3.out
      rw [← hw]
      have FX3 := Aside0.mk hX
      have RU3 := Aside0.mk (Kd.R_below RT3.out hBx)
      have RV3 := Aside0.mk (Kd.R_below RO3.out hBx)
      have BW3 := Aside0.mk (below_step PB3.out hBx)
      clear hw hX hBx ZX3 ZB3 ZG3 RT3 RO3 PB3 z0 z1 z2 z3 z4 z5 z6 z7 z8 z9 z10 z11 g0 g1 g2 g3 g4 g5 g6 g7 g8 g9 g10 g11
      have FZ := Aside0.mk (blk_below (blk_below FX2.out G2.out) BW3.out)
      obtain ⟨z0, z1, z2, z3, z4, z5, z6, z7, z8, z9, z10, z11, -, -, -, -, -, -, -, -, -, -, -, -⟩ := cells12 FZ.out
      obtain ⟨y0, y1, y2, y3, y4, y5, y6, y7, y8, y9, y10, y11, -, -, -, -, -, -, -, -, -, -, -, -⟩ := cells12 FX3.out
      go_wp2_with (first
        | (go_at_call 12; refine (same_calls e0 e1 e2 e3 e4 e5 e6 e7 e8 e9 tx ox _ _ _ _ _ _ _ _ _ _ _ _ _ rfl rfl rfl rfl (Kd.R_reads' RU3.out).2.2 (Kd.C_below (Kd.C_below (Kd.R_reads' RU2.out).2.2 G2.out) BW3.out) (Kd.R_reads' RV3.out).2.2 (Kd.C_below (Kd.C_below (Kd.R_reads' RV2.out).2.2 G2.out) BW3.out) (by have := L64.out; omega)).mono ?_; rintro e' r4 ⟨rfl, hb⟩; have SY := Aside0.mk hb; clear hb))
      first | go_ret | go_ret2
      exact ⟨rfl, below_step (below_step (below_step (below_step BT.out BW2.out) G2.out) BW3.out) SY.out⟩
  obtain rfl : er = 0 := Classical.not_not.1 he
  obtain ⟨hg, h64, -, hs⟩ := text_ok HTX.out rfl
  have hl := words_len _ hg h64 (show ok.length ≤ 201 by have := TK70.out; omega)
  have P0 := Aside0.mk (show parseP (bytesOf (⟨s.toArray⟩ : ByteArray)) = (⟨[v0, v1, v2, v3, v4, v5, v6, v7, v8, v9], tk, ok⟩, 0, 0) by rw [bytes_ints, hs]; exact read_back _ hg h64 (show ok.length ≤ 4096 by have := TK70.out; omega) (by omega))
  have SL := Aside0.mk (show s.length ≤ 30000 by have h2 := ints_len s; rw [hs] at h2; omega)
  clear hg h64 hs hl he
  go_upto_region 6 with (first
    | ((with_reducible refine gate_dst (N := 31) rfl ?_); refine LexK.CO_conv (w0 := w5) w5.heap.size ?hg (N := 31) ?hd 9 22 5 (.tmp 30) rfl Tryd.underlying9 Tryd.underlying22 Tryd.underlying5 (⟨s.toArray⟩) rfl (fun _ => True) trivial (Below.refl _ _) (Nat.le_refl _) (by have := SL.out; simp [ByteArray.size]; omega) ?_; (case hd => rfl); (case hg => rfl); intro v1 x1a hco hb _ _; obtain ⟨bb, bc, rfl, hbc, -, -, hbC⟩ := hco; have CB := Aside0.mk hb; have CC := Aside0.mk hbC; have CL := Aside0.mk hbc; clear hb hbC hbc)
    | (go_at_call 10; refine (parse_l _ _ _ (bytesOf (⟨s.toArray⟩)) _ v0 v1 v2 v3 v4 v5 v6 v7 v8 v9 0 0 tk ok (P0.out) rfl CC.out CL.out (HL.out.below (below_step B5.out CB.out))).mono ?_; rintro e' x1b ⟨vT, vO, rfl, hT, hO, hb⟩; obtain ⟨AT1, cT1, rfl⟩ := Kd.R_slice hT; obtain ⟨AO1, cO1, rfl⟩ := Kd.R_slice hO; have RT1 := Aside0.mk hT; have RO1 := Aside0.mk hO; have PB1 := Aside0.mk (below_step CB.out hb); clear CC CL CB hT hO hb)
    | ((with_reducible refine gate_dst (N := 8) rfl ?_); (try (refine gate_guard (by rfl) ?_; dsimp only)); refine box_event ?hg (N := 8) ?hd (cs := #[.int .i64 0, .int .i64 0, .int .i64 0, .int .i64 0, .int .i64 0, .int .i64 0, .int .i64 0, .int .i64 0, .int .i64 0, .int .i64 0, .slice none 0 0, .slice none 0 0]) (t := 29) ?hr ?_; (case hd => rfl); (case hg => rfl); (case hr => first | (go_simp; done) | (go_simp; rfl)); intro o1 hg x1c hbox hb; have ZX1 := Aside0.mk hbox; have ZB1 := Aside0.mk hb; have ZG1 := Aside0.mk (Nat.le_of_eq hg.symm); obtain ⟨z0, z1, z2, z3, z4, z5, z6, z7, z8, z9, z10, z11, g0, g1, g2, g3, g4, g5, g6, g7, g8, g9, g10, g11⟩ := cells12 hbox; clear hbox hb hg))
  obtain ⟨x1, hw, hX, hBx⟩ := put12 (.int .i64 v0) (.int .i64 v1) (.int .i64 v2) (.int .i64 v3) (.int .i64 v4) (.int .i64 v5) (.int .i64 v6) (.int .i64 v7) (.int .i64 v8) (.int .i64 v9) (.slice AT1 tk.length cT1) (.slice AO1 ok.length cO1) ZX1.out ZB1.out ZG1.out
  rw [← hw]
  have FX1 := Aside0.mk hX
  have RU1 := Aside0.mk (Kd.R_below RT1.out hBx)
  have RV1 := Aside0.mk (Kd.R_below RO1.out hBx)
  have BW1 := Aside0.mk (below_step PB1.out hBx)
  clear hw hX hBx ZX1 ZB1 ZG1 RT1 RO1 PB1 z0 z1 z2 z3 z4 z5 z6 z7 z8 z9 z10 z11 g0 g1 g2 g3 g4 g5 g6 g7 g8 g9 g10 g11
  have F6 := Aside0.mk (blk_below F5.out BW1.out)
  obtain ⟨q0, q1, q2, q3, q4, q5, q6, q7, q8, q9, q10, q11, -, -, -, -, -, -, -, -, -, -, -, -⟩ := cells12 F6.out
  obtain ⟨p0, p1, p2, p3, p4, p5, p6, p7, p8, p9, p10, p11, -, -, -, -, -, -, -, -, -, -, -, -⟩ := cells12 FX1.out
  go_upto_region 8 with (first
    | (go_at_call 12; refine (same_calls v0 v1 v2 v3 v4 v5 v6 v7 v8 v9 tk ok _ _ _ _ _ _ _ _ _ _ _ _ _ rfl rfl rfl rfl (Kd.R_reads' RU1.out).2.2 (Kd.C_below HT5.out BW1.out) (Kd.R_reads' RV1.out).2.2 (Kd.C_below HO5.out BW1.out) (by have := TK70.out; omega)).mono ?_; rintro e' x2 ⟨rfl, hb⟩; have S0 := Aside0.mk hb; clear hb))
  clear q0 q1 q2 q3 q4 q5 q6 q7 q8 q9 q10 q11 p0 p1 p2 p3 p4 p5 p6 p7 p8 p9 p10 p11
  have BT := Aside0.mk (below_step (below_step B5.out BW1.out) S0.out)
  have jB := JB.out
  have sB := fun W => cut_run (P := Tryd.prog) Tryd.underlying22 HI5.out AB lb.length cB lbt.length LBC.out.2 W
  have HBT := Aside0.mk (show (Kd.int .u8).C x2 AB lbt.length lbt by rw [LBT.out]; exact C_takes (Kd.C_below HBB.out BT.out) 4000)
  rcases parse_inv lbt (by have := LBC.out; omega) fx lx ex HPX.out with ⟨hf, h0, h1⟩ | ⟨hl0, he0, hg, h64, h4096, hlw⟩
  · have PX : parseP lbt = (⟨[0, 0, 0, 0, 0, 0, 0, 0, 0, 0], [], []⟩, lx, ex) := by rw [HPX.out, hf]; rfl
    have h1b : (ex != 0) = true := by simp [h1]
    have H0 := Aside0.mk h0
    clear hf h0 h1
    go_upto_region 11 with (first
      | (go_at_call 10; refine (parse_l _ _ _ lbt _ 0 0 0 0 0 0 0 0 0 0 lx ex [] [] PX rfl HBT.out LBC.out.2 (HL.out.below BT.out)).mono ?_; rintro e' r1b ⟨vT, vO, rfl, hT, hO, hb⟩; obtain ⟨AT2, cT2, rfl⟩ := Kd.R_slice hT; obtain ⟨AO2, cO2, rfl⟩ := Kd.R_slice hO; have RT2 := Aside0.mk hT; have RO2 := Aside0.mk hO; have PB2 := Aside0.mk hb; clear hT hO hb)
      | ((with_reducible refine gate_dst (N := 11) rfl ?_); (try (refine gate_guard (by rfl) ?_; dsimp only)); refine box_event ?hg (N := 11) ?hd (cs := #[.int .i64 0, .int .i64 0, .int .i64 0, .int .i64 0, .int .i64 0, .int .i64 0, .int .i64 0, .int .i64 0, .int .i64 0, .int .i64 0, .slice none 0 0, .slice none 0 0]) (t := 29) ?hr ?_; (case hd => rfl); (case hg => rfl); (case hr => first | (go_simp; done) | (go_simp; rfl)); intro o2 hg r1c hbox hb; have ZX2 := Aside0.mk hbox; have ZB2 := Aside0.mk hb; have ZG2 := Aside0.mk (Nat.le_of_eq hg.symm); obtain ⟨z0, z1, z2, z3, z4, z5, z6, z7, z8, z9, z10, z11, g0, g1, g2, g3, g4, g5, g6, g7, g8, g9, g10, g11⟩ := cells12 hbox; clear hbox hb hg))
    obtain ⟨r1, hw, hX, hBx⟩ := put12 (.int .i64 0) (.int .i64 0) (.int .i64 0) (.int .i64 0) (.int .i64 0) (.int .i64 0) (.int .i64 0) (.int .i64 0) (.int .i64 0) (.int .i64 0) (.slice AT2 0 cT2) (.slice AO2 0 cO2) ZX2.out ZB2.out ZG2.out
    rw [← hw]
    have FX2 := Aside0.mk hX
    have RU2 := Aside0.mk (Kd.R_below RT2.out hBx)
    have RV2 := Aside0.mk (Kd.R_below RO2.out hBx)
    have BW2 := Aside0.mk (below_step PB2.out hBx)
    clear hw hX hBx ZX2 ZB2 ZG2 RT2 RO2 PB2 z0 z1 z2 z3 z4 z5 z6 z7 z8 z9 z10 z11 g0 g1 g2 g3 g4 g5 g6 g7 g8 g9 g10 g11
    clear jB sB PX
    have h0 := H0.out
    have h0b : decide (0 ≤ lx) = true := by simp [h0]
    have q25 := fun W => eqS25 9998 W 0 0 0 0 0 0 0 0 0 0
    obtain ⟨z0, z1, z2, z3, z4, z5, z6, z7, z8, z9, z10, z11, -, -, -, -, -, -, -, -, -, -, -, -⟩ := cells12 FX2.out
    go_wp2
    first | go_ret | go_ret2
    exact ⟨by first | rfl | simp, below_step BT.out BW2.out⟩
  · obtain ⟨cx, tx, ox⟩ := fx
    obtain ⟨e0, e1, e2, e3, e4, e5, e6, e7, e8, e9, hcx⟩ := PaE.ten hg.len
    simp only at hcx
    subst hcx hl0 he0
    obtain ⟨sx, hsx, hpx, hlx⟩ := text_read _ hg h64 h4096 (by have := LBC.out; omega)
    have PX : parseP lbt = (⟨[e0, e1, e2, e3, e4, e5, e6, e7, e8, e9], tx, ox⟩, 0, 0) := HPX.out
    have IX := Aside0.mk (good_in hg)
    have SX := Aside0.mk hsx
    have PY := Aside0.mk hpx
    have LX := Aside0.mk hlx
    have L64 := Aside0.mk (show tx.length ≤ 64 ∧ ox.length ≤ 4096 from ⟨h64, h4096⟩)
    clear hg h64 h4096 hlw hsx hpx hlx
    go_upto_region 11 with (first
      | (go_at_call 10; refine (parse_l _ _ _ lbt _ e0 e1 e2 e3 e4 e5 e6 e7 e8 e9 0 0 tx ox PX rfl HBT.out LBC.out.2 (HL.out.below BT.out)).mono ?_; rintro e' r1b ⟨vT, vO, rfl, hT, hO, hb⟩; obtain ⟨AT2, cT2, rfl⟩ := Kd.R_slice hT; obtain ⟨AO2, cO2, rfl⟩ := Kd.R_slice hO; have RT2 := Aside0.mk hT; have RO2 := Aside0.mk hO; have PB2 := Aside0.mk hb; clear hT hO hb)
      | ((with_reducible refine gate_dst (N := 11) rfl ?_); (try (refine gate_guard (by rfl) ?_; dsimp only)); refine box_event ?hg (N := 11) ?hd (cs := #[.int .i64 0, .int .i64 0, .int .i64 0, .int .i64 0, .int .i64 0, .int .i64 0, .int .i64 0, .int .i64 0, .int .i64 0, .int .i64 0, .slice none 0 0, .slice none 0 0]) (t := 29) ?hr ?_; (case hd => rfl); (case hg => rfl); (case hr => first | (go_simp; done) | (go_simp; rfl)); intro o2 hg r1c hbox hb; have ZX2 := Aside0.mk hbox; have ZB2 := Aside0.mk hb; have ZG2 := Aside0.mk (Nat.le_of_eq hg.symm); obtain ⟨z0, z1, z2, z3, z4, z5, z6, z7, z8, z9, z10, z11, g0, g1, g2, g3, g4, g5, g6, g7, g8, g9, g10, g11⟩ := cells12 hbox; clear hbox hb hg))
    obtain ⟨r1, hw, hX, hBx⟩ := put12 (.int .i64 e0) (.int .i64 e1) (.int .i64 e2) (.int .i64 e3) (.int .i64 e4) (.int .i64 e5) (.int .i64 e6) (.int .i64 e7) (.int .i64 e8) (.int .i64 e9) (.slice AT2 tx.length cT2) (.slice AO2 ox.length cO2) ZX2.out ZB2.out ZG2.out
    rw [← hw]
    have FX2 := Aside0.mk hX
    have RU2 := Aside0.mk (Kd.R_below RT2.out hBx)
    have RV2 := Aside0.mk (Kd.R_below RO2.out hBx)
    have BW2 := Aside0.mk (below_step PB2.out hBx)
    clear hw hX hBx ZX2 ZB2 ZG2 RT2 RO2 PB2 z0 z1 z2 z3 z4 z5 z6 z7 z8 z9 z10 z11 g0 g1 g2 g3 g4 g5 g6 g7 g8 g9 g10 g11
    clear jB sB PX
    obtain ⟨z0, z1, z2, z3, z4, z5, z6, z7, z8, z9, z10, z11, -, -, -, -, -, -, -, -, -, -, -, -⟩ := cells12 FX2.out
    go_upto_region 14 with (first
      | (go_at_call 14; refine (text_l e0 e1 e2 e3 e4 e5 e6 e7 e8 e9 tx ox _ _ _ _ _ _ _ sx 0 SX.out rfl rfl (Kd.R_reads' RU2.out).2.2 (Kd.R_reads' RU2.out).2.1 (Kd.R_reads' RV2.out).2.2 (Kd.R_reads' RV2.out).2.1 (HL.out.below (below_step BT.out BW2.out)) IX.out (by have := L64.out; omega) (by have := L64.out; omega)).mono ?_; rintro e' r2 ⟨rfl, hb⟩; have G2 := Aside0.mk hb; clear hb))
    clear z0 z1 z2 z3 z4 z5 z6 z7 z8 z9 z10 z11
    go_upto_region 15 with (first
      | ((with_reducible refine gate_dst (N := 106) rfl ?_); refine LexK.CO_conv (w0 := r2) r2.heap.size ?hg (N := 106) ?hd 9 22 5 (.tmp 105) rfl Tryd.underlying9 Tryd.underlying22 Tryd.underlying5 (⟨sx.toArray⟩) rfl (fun _ => True) trivial (Below.refl _ _) (Nat.le_refl _) (by have := LX.out; simp [ByteArray.size]; omega) ?_; (case hd => rfl); (case hg => rfl); intro v1 r3a hco hb _ _; obtain ⟨bb, bc, rfl, hbc, -, -, hbC⟩ := hco; have CB := Aside0.mk hb; have CC := Aside0.mk hbC; have CL := Aside0.mk hbc; clear hb hbC hbc)
      | (go_at_call 10; refine (parse_l _ _ _ (bytesOf (⟨sx.toArray⟩)) _ e0 e1 e2 e3 e4 e5 e6 e7 e8 e9 0 0 tx ox (PY.out) rfl CC.out CL.out (HL.out.below (below_step (below_step (below_step BT.out BW2.out) G2.out) CB.out))).mono ?_; rintro e' r3b ⟨vT, vO, rfl, hT, hO, hb⟩; obtain ⟨AT3, cT3, rfl⟩ := Kd.R_slice hT; obtain ⟨AO3, cO3, rfl⟩ := Kd.R_slice hO; have RT3 := Aside0.mk hT; have RO3 := Aside0.mk hO; have PB3 := Aside0.mk (below_step CB.out hb); clear CC CL CB hT hO hb)
      | ((with_reducible refine gate_dst (N := 16) rfl ?_); (try (refine gate_guard (by rfl) ?_; dsimp only)); refine box_event ?hg (N := 16) ?hd (cs := #[.int .i64 0, .int .i64 0, .int .i64 0, .int .i64 0, .int .i64 0, .int .i64 0, .int .i64 0, .int .i64 0, .int .i64 0, .int .i64 0, .slice none 0 0, .slice none 0 0]) (t := 29) ?hr ?_; (case hd => rfl); (case hg => rfl); (case hr => first | (go_simp; done) | (go_simp; rfl)); intro o3 hg r3c hbox hb; have ZX3 := Aside0.mk hbox; have ZB3 := Aside0.mk hb; have ZG3 := Aside0.mk (Nat.le_of_eq hg.symm); obtain ⟨z0, z1, z2, z3, z4, z5, z6, z7, z8, z9, z10, z11, g0, g1, g2, g3, g4, g5, g6, g7, g8, g9, g10, g11⟩ := cells12 hbox; clear hbox hb hg))
    obtain ⟨r3, hw, hX, hBx⟩ := put12 (.int .i64 e0) (.int .i64 e1) (.int .i64 e2) (.int .i64 e3) (.int .i64 e4) (.int .i64 e5) (.int .i64 e6) (.int .i64 e7) (.int .i64 e8) (.int .i64 e9) (.slice AT3 tx.length cT3) (.slice AO3 ox.length cO3) ZX3.out ZB3.out ZG3.out
    rw [← hw]
    have FX3 := Aside0.mk hX
    have RU3 := Aside0.mk (Kd.R_below RT3.out hBx)
    have RV3 := Aside0.mk (Kd.R_below RO3.out hBx)
    have BW3 := Aside0.mk (below_step PB3.out hBx)
    clear hw hX hBx ZX3 ZB3 ZG3 RT3 RO3 PB3 z0 z1 z2 z3 z4 z5 z6 z7 z8 z9 z10 z11 g0 g1 g2 g3 g4 g5 g6 g7 g8 g9 g10 g11
    have FZ := Aside0.mk (blk_below (blk_below FX2.out G2.out) BW3.out)
    obtain ⟨z0, z1, z2, z3, z4, z5, z6, z7, z8, z9, z10, z11, -, -, -, -, -, -, -, -, -, -, -, -⟩ := cells12 FZ.out
    obtain ⟨y0, y1, y2, y3, y4, y5, y6, y7, y8, y9, y10, y11, -, -, -, -, -, -, -, -, -, -, -, -⟩ := cells12 FX3.out
    go_wp2_with (first
      | (go_at_call 12; refine (same_calls e0 e1 e2 e3 e4 e5 e6 e7 e8 e9 tx ox _ _ _ _ _ _ _ _ _ _ _ _ _ rfl rfl rfl rfl (Kd.R_reads' RU3.out).2.2 (Kd.C_below (Kd.C_below (Kd.R_reads' RU2.out).2.2 G2.out) BW3.out) (Kd.R_reads' RV3.out).2.2 (Kd.C_below (Kd.C_below (Kd.R_reads' RV2.out).2.2 G2.out) BW3.out) (by have := L64.out; omega)).mono ?_; rintro e' r4 ⟨rfl, hb⟩; have SY := Aside0.mk hb; clear hb))
    first | go_ret | go_ret2
    exact ⟨rfl, below_step (below_step (below_step (below_step BT.out BW2.out) G2.out) BW3.out) SY.out⟩
end Go.Proofs.YtegbfimfpkendaaDoor.PbBk
