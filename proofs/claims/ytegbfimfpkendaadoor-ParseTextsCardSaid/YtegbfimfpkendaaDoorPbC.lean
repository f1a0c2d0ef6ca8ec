/- The walk of ParseOrder: it returns true. Conditions: the tables are laid. -/
import Derived.Test.YtegbfimfpkendaaDoorPbB
namespace Go.Proofs.YtegbfimfpkendaaDoor.PbC
open Go.RowKit Go.Proofs.YtegbfimfpkendaaDoorW.PrintWords Go.Proofs.YtegbfimfpkendaaDoorW.PrintLast Go.Proofs.YtegbfimfpkendaaDoorW.PrintMore LexS LexB PaA LexBox PaC PaD PaB PaE PaF PaG PaH PaL PaM PaN PaQ PaS PaT PaU PaV PaW PaX PaY PaZ PbA PbB
set_option linter.unusedVariables false
set_option linter.unusedSimpArgs false
theorem C_takes {α : Type} {k : Kd α} {w : World} {A : Option Addr} {xs : List α} (h : k.C w A xs.length xs) (n : Nat) : k.C w A (xs.take n).length (xs.take n) := by
  by_cases hn : n ≤ xs.length
  · exact Kd.C_take h hn
  · rw [List.take_of_length_le (by omega)]; exact h
set_option maxHeartbeats 2000000 in
set_option maxRecDepth 100000 in
theorem order_calls (v0 v1 v2 v3 v4 v5 v6 v7 v8 v9 : Int) (tasks : List Tk) (ops : List Opn) (AT AO : Option Addr) (cT cO : Nat) (w : World) (hT : kTk.C w AT tasks.length tasks) (hTc : tasks.length ≤ cT) (hO : kOp.C w AO ops.length ops) (hOc : ops.length ≤ cO) (h : Laid w) (hI : FIn ⟨[v0, v1, v2, v3, v4, v5, v6, v7, v8, v9], tasks, ops⟩) :
    Calls Tryd.prog 6 #[.agg #[.int .i64 v0, .int .i64 v1, .int .i64 v2, .int .i64 v3, .int .i64 v4, .int .i64 v5, .int .i64 v6, .int .i64 v7, .int .i64 v8, .int .i64 v9, .slice AT tasks.length cT, .slice AO ops.length cO]] w fun e w' => e = .returned (.bool true) ∧ Below w.heap.size w w' := by
  have HL := Aside0.mk h
  have HT := Aside0.mk hT
  have HO := Aside0.mk hO
  have HTC := Aside0.mk hTc
  have HOC := Aside0.mk hOc
  have HI := Aside0.mk hI
  clear h hT hO hTc hOc hI
  go_enter Tryd.func6, Tryd.ntmps6
  go_upto_region 1 with (first
    | ((with_reducible refine gate_dst (N := 1) rfl ?_); (try (refine gate_guard (by rfl) ?_; dsimp only)); refine box_event ?hg (N := 1) ?hd (cs := #[.int .i64 v0, .int .i64 v1, .int .i64 v2, .int .i64 v3, .int .i64 v4, .int .i64 v5, .int .i64 v6, .int .i64 v7, .int .i64 v8, .int .i64 v9, .slice AT tasks.length cT, .slice AO ops.length cO]) (t := 29) ?hr ?_; (case hd => rfl); (case hg => rfl); (case hr => first | (go_simp; done) | (go_simp; rfl)); intro F hg w1 hbox hb; have FX := Aside0.mk hbox; have FB := Aside0.mk hb; have FG := Aside0.mk (Nat.le_of_eq hg.symm); clear hbox hb hg))
  obtain ⟨q0, q1, q2, q3, q4, q5, q6, q7, q8, q9, q10, q11, -, -, -, -, -, -, -, -, -, -, -, -⟩ := cells12 FX.out
  go_upto_region 2 with (first
    | (go_at_call 9; refine (shown_calls _ (HL.out.below FB.out)).mono ?_; rintro e' w2 ⟨rfl, hb⟩; have SB := Aside0.mk hb; clear hb))
  clear q0 q1 q2 q3 q4 q5 q6 q7 q8 q9 q10 q11
  have FX2 := Aside0.mk (blk_below FX.out SB.out)
  obtain ⟨q0, q1, q2, q3, q4, q5, q6, q7, q8, q9, q10, q11, -, -, -, -, -, -, -, -, -, -, -, -⟩ := cells12 FX2.out
  go_upto_region 3 with (first
    | (go_at_call 13; refine (few_calls v0 v1 v2 v3 v4 v5 v6 v7 v8 v9 AT AO tasks.length ops.length cT cO _ HTC.out HOC.out).mono ?_; rintro e' w3 ⟨rfl, hb⟩; have FW := Aside0.mk hb; have F3 := Aside0.mk (blk_below (blk_below FX.out SB.out) hb); clear hb; obtain ⟨z0, z1, z2, z3, z4, z5, z6, z7, z8, z9, z10, z11, g0, g1, g2, g3, g4, g5, g6, g7, g8, g9, g10, g11⟩ := cells12 F3.out))
  obtain ⟨w4, hw, hX, hBx⟩ := put12 (.int .i64 v0) (.int .i64 v1) (.int .i64 v2) (.int .i64 v3) (.int .i64 v4) (.int .i64 v5) (.int .i64 v6) (.int .i64 v7) (.int .i64 v8) (.int .i64 v9) (.slice AT (min tasks.length 70) cT) (.slice AO (min ops.length 200) cO) F3.out (below_step (below_step FB.out SB.out) FW.out) FG.out
  rw [← hw]
  have F4 := Aside0.mk hX
  have B4 := Aside0.mk hBx
  clear hw hX hBx F3 FW FX FX2 SB FB z0 z1 z2 z3 z4 z5 z6 z7 z8 z9 z10 z11 g0 g1 g2 g3 g4 g5 g6 g7 g8 g9 g10 g11 q0 q1 q2 q3 q4 q5 q6 q7 q8 q9 q10 q11
  obtain ⟨tk, htk⟩ : ∃ t, t = tasks.take 70 := ⟨_, rfl⟩
  obtain ⟨ok, hok⟩ : ∃ t, t = ops.take 200 := ⟨_, rfl⟩
  have ltk : tk.length = min tasks.length 70 := by rw [htk, List.length_take, Nat.min_comm]
  have lok : ok.length = min ops.length 200 := by rw [hok, List.length_take, Nat.min_comm]
  have HT4 := Aside0.mk (show kTk.C w4 AT tk.length tk by rw [htk]; exact C_takes (Kd.C_below HT.out B4.out) 70)
  have HO4 := Aside0.mk (show kOp.C w4 AO ok.length ok by rw [hok]; exact C_takes (Kd.C_below HO.out B4.out) 200)
  have TC4 := Aside0.mk (show tk.length ≤ cT by have := HTC.out; omega)
  have OC4 := Aside0.mk (show ok.length ≤ cO by have := HOC.out; omega)
  have HI4 := Aside0.mk (show FIn ⟨[v0, v1, v2, v3, v4, v5, v6, v7, v8, v9], tk, ok⟩ by rw [htk, hok]; exact ⟨HI.out.cfg, fun t ht => HI.out.tasks t (List.mem_of_mem_take ht), fun t ht => HI.out.ops t (List.mem_of_mem_take ht)⟩)
  have TK70 := Aside0.mk (show tk.length ≤ 70 ∧ ok.length ≤ 200 by omega)
  have LTK := Aside0.mk ltk
  have LOK := Aside0.mk lok
  clear htk hok ltk lok HT HO HI
  rw [← LTK.out, ← LOK.out] at F4
  obtain ⟨s, er, htx⟩ : ∃ s er, textP ⟨[v0, v1, v2, v3, v4, v5, v6, v7, v8, v9], tk, ok⟩ = (s, er) := ⟨_, _, rfl⟩
  have HTX := Aside0.mk htx
  clear htx
  obtain ⟨q0, q1, q2, q3, q4, q5, q6, q7, q8, q9, q10, q11, -, -, -, -, -, -, -, -, -, -, -, -⟩ := cells12 F4.out
  go_upto_region 4 with (first
    | (go_at_call 14; refine (text_l v0 v1 v2 v3 v4 v5 v6 v7 v8 v9 tk ok AT AO _ _ cT cO _ s er HTX.out rfl rfl HT4.out TC4.out HO4.out OC4.out (HL.out.below B4.out) HI4.out (by have := TK70.out; omega) (by have := TK70.out; omega)).mono ?_; rintro e' w5 ⟨rfl, hb⟩; have B5 := Aside0.mk (below_step B4.out hb); have F5 := Aside0.mk (blk_below F4.out hb); have HT5 := Aside0.mk (Kd.C_below HT4.out hb); have HO5 := Aside0.mk (Kd.C_below HO4.out hb); clear hb))
  clear q0 q1 q2 q3 q4 q5 q6 q7 q8 q9 q10 q11 F4 B4 HT4 HO4

  by_cases he : ¬ er = 0
  · have heb : (er != 0) = true := by simp [he]
    clear he
    go_wp2
    first | go_ret | go_ret2
    exact ⟨rfl, B5.out⟩
  obtain rfl : er = 0 := Classical.not_not.1 he
  obtain ⟨hg, h64, -, hs⟩ := text_ok HTX.out rfl
  have HG := Aside0.mk hg
  have HS := Aside0.mk hs
  have H64 := Aside0.mk h64
  have WL := Aside0.mk (show (words ⟨[v0, v1, v2, v3, v4, v5, v6, v7, v8, v9], tk, ok⟩).length = 1 + tk.length + ok.length from words_length _)
  have SL := Aside0.mk (show s.length ≤ 30000 by
    have h1 := words_len _ hg h64 (show ok.length ≤ 201 by have := TK70.out; omega)
    have h2 := ints_len s
    rw [hs] at h2
    omega)
  have P1 := Aside0.mk (show parseP (bytesOf (⟨(([116, 105, 99, 107, 10] : List UInt8) ++ s).toArray⟩ : ByteArray)) = (⟨[0, 0, 0, 0, 0, 0, 0, 0, 0, 0], [], []⟩, 1, 2) from order1 _ s hg h64 TK70.out.2 hs)
  have P2 := Aside0.mk (show parseP (bytesOf (⟨(s ++ headB).toArray⟩ : ByteArray)) = (⟨[0, 0, 0, 0, 0, 0, 0, 0, 0, 0], [], []⟩, (1 : Int) + ((words ⟨[v0, v1, v2, v3, v4, v5, v6, v7, v8, v9], tk, ok⟩).length : Int), 2) from order2 _ s hg h64 TK70.out.2 hs)
  have P3 := Aside0.mk (show parseP (bytesOf (⟨(s ++ ([116, 105, 99, 107, 10, 116, 97, 115, 107, 32, 49, 32, 49, 10] : List UInt8)).toArray⟩ : ByteArray)) = (⟨[0, 0, 0, 0, 0, 0, 0, 0, 0, 0], [], []⟩, (2 : Int) + ((words ⟨[v0, v1, v2, v3, v4, v5, v6, v7, v8, v9], tk, ok⟩).length : Int), 2) from order3 _ s hg h64 TK70.out.2 hs)
  have P4 := Aside0.mk (show parseP (bytesOf (⟨(s ++ ([10, 10, 119, 104, 97, 116, 10] : List UInt8)).toArray⟩ : ByteArray)) = (⟨[0, 0, 0, 0, 0, 0, 0, 0, 0, 0], [], []⟩, (3 : Int) + ((words ⟨[v0, v1, v2, v3, v4, v5, v6, v7, v8, v9], tk, ok⟩).length : Int), 2) from order4 _ s hg h64 TK70.out.2 hs)
  clear hg hs h64
  have a1 := add_lit [116, 105, 99, 107, 10] s (by have := SL.out; simp; omega)
  have a2 : ∀ W : World, (Op.stringOp .add (⟨s.toArray⟩ : ByteArray) headS).run Tryd.prog W = .ok (.string ⟨(s ++ headB).toArray⟩) W := add_lit s headB (by have := SL.out; simp [headB]; omega)
  have a3 := add_lit s [116, 105, 99, 107, 10, 116, 97, 115, 107, 32, 49, 32, 49, 10] (by have := SL.out; simp; omega)
  have a4 := add_lit s [10, 10, 119, 104, 97, 116, 10] (by have := SL.out; simp; omega)
  obtain ⟨-, -, -, -, -, -, -, -, -, -, q10, q11, -, -, -, -, -, -, -, -, -, -, -, -⟩ := cells12 F5.out
  go_upto_region 7 with (fail)
  obtain ⟨nl, hnl⟩ : ∃ nl : Int, nl = 1 + (tk.length : Int) + (ok.length : Int) := ⟨_, rfl⟩
  have hw : wrap64 (wrap64 (1 + (tk.length : Int)) + (ok.length : Int)) = nl := by
    have := TK70.out
    unfold wrap64
    omega
  rw [hw]
  have NR := Aside0.mk (show 0 ≤ nl ∧ nl ≤ 1000 by have := TK70.out; omega)
  have hwl : ((words ⟨[v0, v1, v2, v3, v4, v5, v6, v7, v8, v9], tk, ok⟩).length : Int) = nl := by rw [WL.out]; omega
  rw [hwl] at P2 P3 P4
  clear hw hwl hnl WL q10 q11

  go_upto_region 8 with (first
    | ((with_reducible refine gate_dst (N := 41) rfl ?_); refine LexK.CO_conv (w0 := w5) w5.heap.size ?hg (N := 41) ?hd 9 22 5 (.tmp 40) rfl Tryd.underlying9 Tryd.underlying22 Tryd.underlying5 (⟨(([116, 105, 99, 107, 10] : List UInt8) ++ s).toArray⟩) rfl (fun _ => True) trivial (Below.refl _ _) (Nat.le_refl _) (by have := SL.out; simp [ByteArray.size, headB]; omega) ?_; (case hd => rfl); (case hg => rfl); intro v1 x1a hco hb _ _; obtain ⟨bb, bc, rfl, hbc, -, -, hbC⟩ := hco; have CB := Aside0.mk hb; have CC := Aside0.mk hbC; have CL := Aside0.mk hbc; clear hb hbC hbc)
    | (go_at_call 10; refine (parse_l _ _ _ (bytesOf (⟨(([116, 105, 99, 107, 10] : List UInt8) ++ s).toArray⟩)) _ 0 0 0 0 0 0 0 0 0 0 1 2 [] [] (P1.out) rfl CC.out CL.out (HL.out.below (below_step B5.out CB.out))).mono ?_; rintro e' x1b ⟨vT, vO, rfl, hT, hO, hb⟩; obtain ⟨AT1, cT1, rfl⟩ := Kd.R_slice hT; obtain ⟨AO1, cO1, rfl⟩ := Kd.R_slice hO; have RT1 := Aside0.mk hT; have RO1 := Aside0.mk hO; have PB1 := Aside0.mk (below_step CB.out hb); clear CC CL CB hT hO hb)
    | ((with_reducible refine gate_dst (N := 7) rfl ?_); (try (refine gate_guard (by rfl) ?_; dsimp only)); refine box_event ?hg (N := 7) ?hd (cs := #[.int .i64 0, .int .i64 0, .int .i64 0, .int .i64 0, .int .i64 0, .int .i64 0, .int .i64 0, .int .i64 0, .int .i64 0, .int .i64 0, .slice none 0 0, .slice none 0 0]) (t := 29) ?hr ?_; (case hd => rfl); (case hg => rfl); (case hr => first | (go_simp; done) | (go_simp; rfl)); intro o1 hg x1c hbox hb; have ZX1 := Aside0.mk hbox; have ZB1 := Aside0.mk hb; have ZG1 := Aside0.mk (Nat.le_of_eq hg.symm); obtain ⟨z0, z1, z2, z3, z4, z5, z6, z7, z8, z9, z10, z11, g0, g1, g2, g3, g4, g5, g6, g7, g8, g9, g10, g11⟩ := cells12 hbox; clear hbox hb hg))

  obtain ⟨x1, hw, hX, hBx⟩ := put12 (.int .i64 0) (.int .i64 0) (.int .i64 0) (.int .i64 0) (.int .i64 0) (.int .i64 0) (.int .i64 0) (.int .i64 0) (.int .i64 0) (.int .i64 0) (.slice AT1 0 cT1) (.slice AO1 0 cO1) ZX1.out ZB1.out ZG1.out
  rw [← hw]
  have FX1 := Aside0.mk hX
  have RU1 := Aside0.mk (Kd.R_below RT1.out hBx)
  have RV1 := Aside0.mk (Kd.R_below RO1.out hBx)
  have BW1 := Aside0.mk (below_step PB1.out hBx)
  clear hw hX hBx ZX1 ZB1 ZG1 RT1 RO1 PB1 z0 z1 z2 z3 z4 z5 z6 z7 z8 z9 z10 z11 g0 g1 g2 g3 g4 g5 g6 g7 g8 g9 g10 g11

  have C1 := Aside0.mk (below_step B5.out BW1.out)
  clear BW1 RU1 RV1 FX1 B5
  go_upto_region 9 with (first
    | (go_at_call 16; refine (head_calls _).mono ?_; rintro e' w' ⟨rfl, rfl⟩)
    | ((with_reducible refine gate_dst (N := 50) rfl ?_); refine LexK.CO_conv (w0 := x1) x1.heap.size ?hg (N := 50) ?hd 9 22 5 (.tmp 49) rfl Tryd.underlying9 Tryd.underlying22 Tryd.underlying5 (⟨(s ++ headB).toArray⟩) rfl (fun _ => True) trivial (Below.refl _ _) (Nat.le_refl _) (by have := SL.out; simp [ByteArray.size, headB]; omega) ?_; (case hd => rfl); (case hg => rfl); intro v1 x2a hco hb _ _; obtain ⟨bb, bc, rfl, hbc, -, -, hbC⟩ := hco; have CB := Aside0.mk hb; have CC := Aside0.mk hbC; have CL := Aside0.mk hbc; clear hb hbC hbc)
    | (go_at_call 10; refine (parse_l _ _ _ (bytesOf (⟨(s ++ headB).toArray⟩)) _ 0 0 0 0 0 0 0 0 0 0 (1 + nl) 2 [] [] (P2.out) rfl CC.out CL.out (HL.out.below (below_step C1.out CB.out))).mono ?_; rintro e' x2b ⟨vT, vO, rfl, hT, hO, hb⟩; obtain ⟨AT2, cT2, rfl⟩ := Kd.R_slice hT; obtain ⟨AO2, cO2, rfl⟩ := Kd.R_slice hO; have RT2 := Aside0.mk hT; have RO2 := Aside0.mk hO; have PB2 := Aside0.mk (below_step CB.out hb); clear CC CL CB hT hO hb)
    | ((with_reducible refine gate_dst (N := 10) rfl ?_); (try (refine gate_guard (by rfl) ?_; dsimp only)); refine box_event ?hg (N := 10) ?hd (cs := #[.int .i64 0, .int .i64 0, .int .i64 0, .int .i64 0, .int .i64 0, .int .i64 0, .int .i64 0, .int .i64 0, .int .i64 0, .int .i64 0, .slice none 0 0, .slice none 0 0]) (t := 29) ?hr ?_; (case hd => rfl); (case hg => rfl); (case hr => first | (go_simp; done) | (go_simp; rfl)); intro o2 hg x2c hbox hb; have ZX2 := Aside0.mk hbox; have ZB2 := Aside0.mk hb; have ZG2 := Aside0.mk (Nat.le_of_eq hg.symm); obtain ⟨z0, z1, z2, z3, z4, z5, z6, z7, z8, z9, z10, z11, g0, g1, g2, g3, g4, g5, g6, g7, g8, g9, g10, g11⟩ := cells12 hbox; clear hbox hb hg))

  obtain ⟨x2, hw, hX, hBx⟩ := put12 (.int .i64 0) (.int .i64 0) (.int .i64 0) (.int .i64 0) (.int .i64 0) (.int .i64 0) (.int .i64 0) (.int .i64 0) (.int .i64 0) (.int .i64 0) (.slice AT2 0 cT2) (.slice AO2 0 cO2) ZX2.out ZB2.out ZG2.out
  rw [← hw]
  have FX2 := Aside0.mk hX
  have RU2 := Aside0.mk (Kd.R_below RT2.out hBx)
  have RV2 := Aside0.mk (Kd.R_below RO2.out hBx)
  have BW2 := Aside0.mk (below_step PB2.out hBx)
  clear hw hX hBx ZX2 ZB2 ZG2 RT2 RO2 PB2 z0 z1 z2 z3 z4 z5 z6 z7 z8 z9 z10 z11 g0 g1 g2 g3 g4 g5 g6 g7 g8 g9 g10 g11

  have C2 := Aside0.mk (below_step C1.out BW2.out)
  clear BW2 RU2 RV2 FX2 C1
  go_upto_region 10 with (first
    | ((with_reducible refine gate_dst (N := 58) rfl ?_); refine LexK.CO_conv (w0 := x2) x2.heap.size ?hg (N := 58) ?hd 9 22 5 (.tmp 57) rfl Tryd.underlying9 Tryd.underlying22 Tryd.underlying5 (⟨(s ++ ([116, 105, 99, 107, 10, 116, 97, 115, 107, 32, 49, 32, 49, 10] : List UInt8)).toArray⟩) rfl (fun _ => True) trivial (Below.refl _ _) (Nat.le_refl _) (by have := SL.out; simp [ByteArray.size, headB]; omega) ?_; (case hd => rfl); (case hg => rfl); intro v1 x3a hco hb _ _; obtain ⟨bb, bc, rfl, hbc, -, -, hbC⟩ := hco; have CB := Aside0.mk hb; have CC := Aside0.mk hbC; have CL := Aside0.mk hbc; clear hb hbC hbc)
    | (go_at_call 10; refine (parse_l _ _ _ (bytesOf (⟨(s ++ ([116, 105, 99, 107, 10, 116, 97, 115, 107, 32, 49, 32, 49, 10] : List UInt8)).toArray⟩)) _ 0 0 0 0 0 0 0 0 0 0 (2 + nl) 2 [] [] (P3.out) rfl CC.out CL.out (HL.out.below (below_step C2.out CB.out))).mono ?_; rintro e' x3b ⟨vT, vO, rfl, hT, hO, hb⟩; obtain ⟨AT3, cT3, rfl⟩ := Kd.R_slice hT; obtain ⟨AO3, cO3, rfl⟩ := Kd.R_slice hO; have RT3 := Aside0.mk hT; have RO3 := Aside0.mk hO; have PB3 := Aside0.mk (below_step CB.out hb); clear CC CL CB hT hO hb)
    | ((with_reducible refine gate_dst (N := 13) rfl ?_); (try (refine gate_guard (by rfl) ?_; dsimp only)); refine box_event ?hg (N := 13) ?hd (cs := #[.int .i64 0, .int .i64 0, .int .i64 0, .int .i64 0, .int .i64 0, .int .i64 0, .int .i64 0, .int .i64 0, .int .i64 0, .int .i64 0, .slice none 0 0, .slice none 0 0]) (t := 29) ?hr ?_; (case hd => rfl); (case hg => rfl); (case hr => first | (go_simp; done) | (go_simp; rfl)); intro o3 hg x3c hbox hb; have ZX3 := Aside0.mk hbox; have ZB3 := Aside0.mk hb; have ZG3 := Aside0.mk (Nat.le_of_eq hg.symm); obtain ⟨z0, z1, z2, z3, z4, z5, z6, z7, z8, z9, z10, z11, g0, g1, g2, g3, g4, g5, g6, g7, g8, g9, g10, g11⟩ := cells12 hbox; clear hbox hb hg))

  obtain ⟨x3, hw, hX, hBx⟩ := put12 (.int .i64 0) (.int .i64 0) (.int .i64 0) (.int .i64 0) (.int .i64 0) (.int .i64 0) (.int .i64 0) (.int .i64 0) (.int .i64 0) (.int .i64 0) (.slice AT3 0 cT3) (.slice AO3 0 cO3) ZX3.out ZB3.out ZG3.out
  rw [← hw]
  have FX3 := Aside0.mk hX
  have RU3 := Aside0.mk (Kd.R_below RT3.out hBx)
  have RV3 := Aside0.mk (Kd.R_below RO3.out hBx)
  have BW3 := Aside0.mk (below_step PB3.out hBx)
  clear hw hX hBx ZX3 ZB3 ZG3 RT3 RO3 PB3 z0 z1 z2 z3 z4 z5 z6 z7 z8 z9 z10 z11 g0 g1 g2 g3 g4 g5 g6 g7 g8 g9 g10 g11

  have C3 := Aside0.mk (below_step C2.out BW3.out)
  clear BW3 RU3 RV3 FX3 C2
  go_upto_region 11 with (first
    | ((with_reducible refine gate_dst (N := 66) rfl ?_); refine LexK.CO_conv (w0 := x3) x3.heap.size ?hg (N := 66) ?hd 9 22 5 (.tmp 65) rfl Tryd.underlying9 Tryd.underlying22 Tryd.underlying5 (⟨(s ++ ([10, 10, 119, 104, 97, 116, 10] : List UInt8)).toArray⟩) rfl (fun _ => True) trivial (Below.refl _ _) (Nat.le_refl _) (by have := SL.out; simp [ByteArray.size, headB]; omega) ?_; (case hd => rfl); (case hg => rfl); intro v1 x4a hco hb _ _; obtain ⟨bb, bc, rfl, hbc, -, -, hbC⟩ := hco; have CB := Aside0.mk hb; have CC := Aside0.mk hbC; have CL := Aside0.mk hbc; clear hb hbC hbc)
    | (go_at_call 10; refine (parse_l _ _ _ (bytesOf (⟨(s ++ ([10, 10, 119, 104, 97, 116, 10] : List UInt8)).toArray⟩)) _ 0 0 0 0 0 0 0 0 0 0 (3 + nl) 2 [] [] (P4.out) rfl CC.out CL.out (HL.out.below (below_step C3.out CB.out))).mono ?_; rintro e' x4b ⟨vT, vO, rfl, hT, hO, hb⟩; obtain ⟨AT4, cT4, rfl⟩ := Kd.R_slice hT; obtain ⟨AO4, cO4, rfl⟩ := Kd.R_slice hO; have RT4 := Aside0.mk hT; have RO4 := Aside0.mk hO; have PB4 := Aside0.mk (below_step CB.out hb); clear CC CL CB hT hO hb)
    | ((with_reducible refine gate_dst (N := 16) rfl ?_); (try (refine gate_guard (by rfl) ?_; dsimp only)); refine box_event ?hg (N := 16) ?hd (cs := #[.int .i64 0, .int .i64 0, .int .i64 0, .int .i64 0, .int .i64 0, .int .i64 0, .int .i64 0, .int .i64 0, .int .i64 0, .int .i64 0, .slice none 0 0, .slice none 0 0]) (t := 29) ?hr ?_; (case hd => rfl); (case hg => rfl); (case hr => first | (go_simp; done) | (go_simp; rfl)); intro o4 hg x4c hbox hb; have ZX4 := Aside0.mk hbox; have ZB4 := Aside0.mk hb; have ZG4 := Aside0.mk (Nat.le_of_eq hg.symm); obtain ⟨z0, z1, z2, z3, z4, z5, z6, z7, z8, z9, z10, z11, g0, g1, g2, g3, g4, g5, g6, g7, g8, g9, g10, g11⟩ := cells12 hbox; clear hbox hb hg))

  obtain ⟨x4, hw, hX, hBx⟩ := put12 (.int .i64 0) (.int .i64 0) (.int .i64 0) (.int .i64 0) (.int .i64 0) (.int .i64 0) (.int .i64 0) (.int .i64 0) (.int .i64 0) (.int .i64 0) (.slice AT4 0 cT4) (.slice AO4 0 cO4) ZX4.out ZB4.out ZG4.out
  rw [← hw]
  have FX4 := Aside0.mk hX
  have RU4 := Aside0.mk (Kd.R_below RT4.out hBx)
  have RV4 := Aside0.mk (Kd.R_below RO4.out hBx)
  have BW4 := Aside0.mk (below_step PB4.out hBx)
  clear hw hX hBx ZX4 ZB4 ZG4 RT4 RO4 PB4 z0 z1 z2 z3 z4 z5 z6 z7 z8 z9 z10 z11 g0 g1 g2 g3 g4 g5 g6 g7 g8 g9 g10 g11

  have C4 := Aside0.mk (below_step C3.out BW4.out)
  clear BW4 RU4 RV4 FX4 C3 a1 a2 a3 a4
  have e1 : (1 + nl == wrap64 (nl + 1)) = true := by rw [beq_iff_eq]; have := NR.out; unfold wrap64; omega
  have e2 : (2 + nl == wrap64 (nl + 2)) = true := by rw [beq_iff_eq]; have := NR.out; unfold wrap64; omega
  have e3 : (3 + nl == wrap64 (nl + 3)) = true := by rw [beq_iff_eq]; have := NR.out; unfold wrap64; omega
  go_wp2
  first | go_ret | go_ret2
  refine ⟨?_, C4.out⟩
  trace_state
  rfl
end Go.Proofs.YtegbfimfpkendaaDoor.PbC
