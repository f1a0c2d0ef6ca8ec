/- The walk of ParseLines: it returns true. Conditions: the tables are laid. -/
import Derived.Test.YtegbfimfpkendaaDoorPbF
import Derived.Test.YtegbfimfpkendaaDoorPbS
namespace Go.Proofs.YtegbfimfpkendaaDoor.PbL
open Go.RowKit Go.Proofs.YtegbfimfpkendaaDoorW.PrintWords Go.Proofs.YtegbfimfpkendaaDoorW.PrintLast Go.Proofs.YtegbfimfpkendaaDoorW.PrintMore LexS LexB PaA LexBox PaC PaD PaB PaE PaF PaG PaH PaL PaM PaN PaQ PaS PaT PaU PaV PaW PaX PaY PaZ PbA PbB PbC PbS PbF
set_option linter.unusedVariables false
set_option linter.unusedSimpArgs false
theorem ne_new {α : Type} {d : Kd α} {e base : Nat} {ok : Nat → Prop} {W : World} {v v1 : Value} {xs : List α} (h : d.R e W base ok v xs) (hat : ∃ b, v1.ownBlock = some b ∧ W.heap.size ≤ b) : v.ownBlock ≠ v1.ownBlock := by
  obtain ⟨b, hb, hl⟩ := hat
  intro he
  obtain ⟨_, c, hc⟩ := R_ownAt h b (he.trans hb)
  have := blk_lt hc
  omega
theorem put12f {w0 w : World} {o base : Nat} {t : TypeId} {a0 a1 a2 a3 a4 a5 a6 a7 a8 a9 a10 a11 : Value} (u0 u1 u2 u3 u4 u5 u6 u7 u8 u9 u10 u11 : Value) (h : w.heap[o]? = some (.cells #[a0, a1, a2, a3, a4, a5, a6, a7, a8, a9, a10, a11] t (0, 0))) (hB : Below base w0 w) (ho : base ≤ o) :
    ∃ W, W = ((((((((((((w.setCell ⟨o, 0, none⟩ u0).setCell ⟨o, 1, none⟩ u1).setCell ⟨o, 2, none⟩ u2).setCell ⟨o, 3, none⟩ u3).setCell ⟨o, 4, none⟩ u4).setCell ⟨o, 5, none⟩ u5).setCell ⟨o, 6, none⟩ u6).setCell ⟨o, 7, none⟩ u7).setCell ⟨o, 8, none⟩ u8).setCell ⟨o, 9, none⟩ u9).setCell ⟨o, 10, none⟩ u10).setCell ⟨o, 11, none⟩ u11) ∧ W.heap[o]? = some (.cells #[u0, u1, u2, u3, u4, u5, u6, u7, u8, u9, u10, u11] t (0, 0)) ∧ Below base w0 W ∧ ∀ (i : Nat) (t : TypeId) (cs : Array Value), i ≠ o → w.heap[i]? = some (.cells cs t (0, 0)) → W.heap[i]? = some (.cells cs t (0, 0)) := by
  obtain ⟨W, h1, h2, h3⟩ := put12 u0 u1 u2 u3 u4 u5 u6 u7 u8 u9 u10 u11 h hB ho
  refine ⟨W, h1, h2, h3, fun i t cs hi hc => ?_⟩
  rw [h1]
  exact farB12 u0 u1 u2 u3 u4 u5 u6 u7 u8 u9 u10 u11 hc hi
theorem put_one {w0 w : World} {o base : Nat} {t : TypeId} {a0 a1 a2 a3 a4 a5 a6 a7 a8 a9 a10 a11 : Value} (u : Value) (h : w.heap[o]? = some (.cells #[a0, a1, a2, a3, a4, a5, a6, a7, a8, a9, a10, a11] t (0, 0))) (hB : Below base w0 w) (ho : base ≤ o) :
    ∃ W, W = w.setCell ⟨o, 11, none⟩ u ∧ W.heap[o]? = some (.cells #[a0, a1, a2, a3, a4, a5, a6, a7, a8, a9, a10, u] t (0, 0)) ∧ Below base w0 W ∧ ∀ (i : Nat) (t : TypeId) (cs : Array Value), i ≠ o → w.heap[i]? = some (.cells cs t (0, 0)) → W.heap[i]? = some (.cells cs t (0, 0)) :=
  ⟨_, rfl, blk_put h 11 u rfl, hB.setCell ho u, fun i t cs hi hc => blk_far hc hi u⟩
theorem R_put_box {α : Type} {d : Kd α} {e base : Nat} {ok : Nat → Prop} {w : World} {v : Value} {xs : List α} {g : Nat} {t : TypeId} {cs : Array Value} (h : d.R e w base ok v xs) (hE : d.E = []) (hb : w.heap[g]? = some (.cells cs t (0, 0))) (hne : e ≠ t) (u : Value) (j : Nat) : d.R e (w.setCell ⟨g, j, none⟩ u) base ok v xs :=
  Kd.R_mono (Kd.R_far (p := ⟨g, j, none⟩) (Kd.R_far1 h hE (fun he => by obtain ⟨_, c, hc⟩ := R_ownAt h g he.symm; exact blk_ne hc hb hne rfl)) (fun k hk => hk.2) u) (fun k hk => hk.1)
theorem st_facts (s q : List UInt8) (hq : ∀ c ∈ q, ¬ c = 10) : (⟨(s ++ (q ++ [10])).toArray⟩ : ByteArray).size = (⟨s.toArray⟩ : ByteArray).size + q.length + 1 ∧ (⟨(s ++ (q ++ [10])).toArray⟩ : ByteArray).extract 0 (⟨s.toArray⟩ : ByteArray).size = ⟨s.toArray⟩ ∧ bt ⟨(s ++ (q ++ [10])).toArray⟩ (((⟨s.toArray⟩ : ByteArray).size : Int) + (q.length : Int)) = 10 ∧ ∀ j : Nat, j < q.length → ¬ bt ⟨(s ++ (q ++ [10])).toArray⟩ (((⟨s.toArray⟩ : ByteArray).size : Int) + (j : Int)) = 10 := by
  have hs : (⟨s.toArray⟩ : ByteArray).size = s.length := by show s.toArray.size = _; exact List.size_toArray
  have ht : (⟨(s ++ (q ++ [10])).toArray⟩ : ByteArray).size = s.length + q.length + 1 := by
    show (s ++ (q ++ [10])).toArray.size = _
    rw [List.size_toArray]
    simp
    omega
  have hb : ∀ j : Nat, j ≤ q.length → bt ⟨(s ++ (q ++ [10])).toArray⟩ ((s.length : Int) + (j : Int)) = (((q ++ [10])[j]?.getD 0).toNat : Int) := by
    intro j hj
    have e : ((s.length : Int) + (j : Int)).toNat = s.length + j := by omega
    unfold bt
    rw [dif_pos (by rw [ht, e]; omega)]
    simp only [e]
    show (((s ++ (q ++ [10])).toArray[s.length + j]'_).toNat : Int) = _
    simp only [List.getElem_toArray]
    rw [List.getElem_append_right (by omega)]
    simp only [Nat.add_sub_cancel_left]
    rw [List.getElem?_eq_getElem (by simp; omega)]
    rfl
  refine ⟨by rw [ht, hs], ?_, ?_, fun j hj => ?_⟩
  · apply ByteArray.ext
    rw [ByteArray.data_extract, hs]
    show (s ++ (q ++ [10])).toArray.extract 0 s.length = s.toArray
    simp
  · rw [hs, hb q.length (Nat.le_refl _)]
    simp
  · rw [hs, hb j (Nat.le_of_lt hj), List.getElem?_append_left hj, List.getElem?_eq_getElem hj]
    intro he
    refine hq q[j] (List.getElem_mem hj) ?_
    apply UInt8.toNat_inj.1
    simp only [Option.getD_some] at he
    show _ = 10
    omega
attribute [local go_sem] max2_int min2_int max_two min_two
set_option maxHeartbeats 2000000 in
set_option maxRecDepth 100000 in
theorem lines_calls (v0 v1 v2 v3 v4 v5 v6 v7 v8 v9 : Int) (tasks : List Tk) (ops : List Opn) (AT AO : Option Addr) (cT cO : Nat) (w : World) (hT : kTk.C w AT tasks.length tasks) (hTc : tasks.length ≤ cT) (hO : kOp.C w AO ops.length ops) (hOc : ops.length ≤ cO) (h : Laid w) (hI : FIn ⟨[v0, v1, v2, v3, v4, v5, v6, v7, v8, v9], tasks, ops⟩) (xk xa xb xc xd : Int) (hIo : PaP.inI xk ∧ PaP.inI xa ∧ PaP.inI xb ∧ PaP.inI xc ∧ PaP.inI xd) :
    Calls Tryd.prog 7 #[.agg #[.int .i64 v0, .int .i64 v1, .int .i64 v2, .int .i64 v3, .int .i64 v4, .int .i64 v5, .int .i64 v6, .int .i64 v7, .int .i64 v8, .int .i64 v9, .slice AT tasks.length cT, .slice AO ops.length cO], .agg #[.int .i64 xk, .int .i64 xa, .int .i64 xb, .int .i64 xc, .int .i64 xd]] w fun e w' => e = .returned (.bool true) ∧ Below w.heap.size w w' := by
  have HIO := Aside0.mk hIo
  clear hIo
  have HL := Aside0.mk h
  have HT := Aside0.mk hT
  have HO := Aside0.mk hO
  have HTC := Aside0.mk hTc
  have HOC := Aside0.mk hOc
  have HI := Aside0.mk hI
  clear h hT hO hTc hOc hI
  go_enter Tryd.func7, Tryd.ntmps7
  go_upto_region 1 with (first
    | ((with_reducible refine gate_dst (N := 2) rfl ?_); (try (refine gate_guard (by rfl) ?_; dsimp only)); refine box_event ?hg (N := 2) ?hd (cs := #[.int .i64 v0, .int .i64 v1, .int .i64 v2, .int .i64 v3, .int .i64 v4, .int .i64 v5, .int .i64 v6, .int .i64 v7, .int .i64 v8, .int .i64 v9, .slice AT tasks.length cT, .slice AO ops.length cO]) (t := 29) ?hr ?_; (case hd => rfl); (case hg => rfl); (case hr => first | (go_simp; done) | (go_simp; rfl)); intro F hg w1a hbox hb; have FXa := Aside0.mk hbox; have FBa := Aside0.mk hb; have FGa := Aside0.mk (Nat.le_of_eq hg.symm); clear hbox hb hg)
    | ((with_reducible refine gate_dst (N := 3) rfl ?_); (try (refine gate_guard (by rfl) ?_; dsimp only)); refine box_event ?hg (N := 3) ?hd (cs := #[.int .i64 xk, .int .i64 xa, .int .i64 xb, .int .i64 xc, .int .i64 xd]) (t := 46) ?hr ?_; (case hd => rfl); (case hg => rfl); (case hr => first | (go_simp; done) | (go_simp; rfl)); intro G hg w1 hbox hb; have OX := Aside0.mk hbox; have OB := Aside0.mk hb; have OG := Aside0.mk (Nat.le_of_eq hg.symm); clear hbox hb hg))
  have FX := Aside0.mk (blk_below FXa.out OB.out)
  have FB := Aside0.mk (below_step FBa.out OB.out)
  have FG := FGa
  have NG := Aside0.mk (show G ≠ F by have := blk_lt FXa.out; have := OG.out; omega)
  clear FXa FBa FGa OB OG
  obtain ⟨q0, q1, q2, q3, q4, q5, q6, q7, q8, q9, q10, q11, -, -, -, -, -, -, -, -, -, -, -, -⟩ := cells12 FX.out
  go_upto_region 2 with (first
    | (go_at_call 9; refine (shown_calls _ (HL.out.below FB.out)).mono ?_; rintro e' w2 ⟨rfl, hb⟩; have SB := Aside0.mk hb; clear hb))
  clear q0 q1 q2 q3 q4 q5 q6 q7 q8 q9 q10 q11
  have FX2 := Aside0.mk (blk_below FX.out SB.out)
  obtain ⟨q0, q1, q2, q3, q4, q5, q6, q7, q8, q9, q10, q11, -, -, -, -, -, -, -, -, -, -, -, -⟩ := cells12 FX2.out
  go_upto_region 3 with (first
    | (go_at_call 13; refine (few_calls v0 v1 v2 v3 v4 v5 v6 v7 v8 v9 AT AO tasks.length ops.length cT cO _ HTC.out HOC.out).mono ?_; rintro e' w3 ⟨rfl, hb⟩; have FW := Aside0.mk hb; have F3 := Aside0.mk (blk_below (blk_below FX.out SB.out) hb); clear hb; obtain ⟨z0, z1, z2, z3, z4, z5, z6, z7, z8, z9, z10, z11, g0, g1, g2, g3, g4, g5, g6, g7, g8, g9, g10, g11⟩ := cells12 F3.out))
  obtain ⟨w4, hw, hX, hBx, hfar⟩ := put12f (.int .i64 v0) (.int .i64 v1) (.int .i64 v2) (.int .i64 v3) (.int .i64 v4) (.int .i64 v5) (.int .i64 v6) (.int .i64 v7) (.int .i64 v8) (.int .i64 v9) (.slice AT (min tasks.length 70) cT) (.slice AO (min ops.length 200) cO) F3.out (below_step (below_step FB.out SB.out) FW.out) FG.out
  rw [← hw]
  have F4 := Aside0.mk hX
  have B4 := Aside0.mk hBx
  have O4 := Aside0.mk (hfar G _ _ NG.out (blk_below (blk_below OX.out SB.out) FW.out))
  clear hfar OX
  clear hw hX hBx F3 FW FX FX2 SB FB z0 z1 z2 z3 z4 z5 z6 z7 z8 z9 z10 z11 g0 g1 g2 g3 g4 g5 g6 g7 g8 g9 g10 g11 q0 q1 q2 q3 q4 q5 q6 q7 q8 q9 q10 q11
  obtain ⟨tk, htk⟩ : ∃ t, t = tasks.take 70 := ⟨_, rfl⟩
  obtain ⟨ok, hok⟩ : ∃ t, t = ops.take 200 := ⟨_, rfl⟩
  have ltk : tk.length = min tasks.length 70 := by rw [htk, List.length_take, Nat.min_comm]
  have lok : ok.length = min ops.length 200 := by rw [hok, List.length_take, Nat.min_comm]
  have HT4 := Aside0.mk (show kTk.C w4 AT tk.length tk by rw [htk]; exact C_takes (Kd.C_below HT.out B4.out) 70)
  have HO4 := Aside0.mk (show kOp.C w4 AO ok.length ok by rw [hok]; exact C_takes (Kd.C_below HO.out B4.out) 200)
  have HTW := Aside0.mk (show kTk.C w AT tk.length tk by rw [htk]; exact C_takes HT.out 70)
  have TC4 := Aside0.mk (show tk.length ≤ cT by have := HTC.out; omega)
  have OC4 := Aside0.mk (show ok.length ≤ cO by have := HOC.out; omega)
  have HI4 := Aside0.mk (show FIn ⟨[v0, v1, v2, v3, v4, v5, v6, v7, v8, v9], tk, ok⟩ by rw [htk, hok]; exact ⟨HI.out.cfg, fun t ht => HI.out.tasks t (List.mem_of_mem_take ht), fun t ht => HI.out.ops t (List.mem_of_mem_take ht)⟩)
  have TK70 := Aside0.mk (show tk.length ≤ 70 ∧ ok.length ≤ 200 by omega)
  have LTK := Aside0.mk ltk
  have LOK := Aside0.mk lok
  clear htk hok ltk lok HT HO HI
  rw [← LTK.out, ← LOK.out] at F4
  obtain ⟨s, er, htx⟩ : ∃ s er, textP ⟨[v0, v1, v2, v3, v4, v5, v6, v7, v8, v9], tk, ok⟩ = (s, er) := ⟨_, _, rfl⟩
  have HTX := Aside0.mk htx
  clear htx
  obtain ⟨q0, q1, q2, q3, q4, q5, q6, q7, q8, q9, q10, q11, -, -, -, -, -, -, -, -, -, -, -, -⟩ := cells12 F4.out
  go_upto_region 4 with (first
    | (go_at_call 14; refine (text_l v0 v1 v2 v3 v4 v5 v6 v7 v8 v9 tk ok AT AO _ _ cT cO _ s er HTX.out rfl rfl HT4.out TC4.out HO4.out OC4.out (HL.out.below B4.out) HI4.out (by have := TK70.out; omega) (by have := TK70.out; omega)).mono ?_; rintro e' w5 ⟨rfl, hb⟩; have B5 := Aside0.mk (below_step B4.out hb); have F5 := Aside0.mk (blk_below F4.out hb); have O5 := Aside0.mk (blk_below O4.out hb); have HT5 := Aside0.mk (Kd.C_below HT4.out hb); have HO5 := Aside0.mk (Kd.C_below HO4.out hb); clear hb))
  clear q0 q1 q2 q3 q4 q5 q6 q7 q8 q9 q10 q11 F4 B4 HT4 HO4 O4
  by_cases he : ¬ er = 0
  · have heb : (er != 0) = true := by simp [he]
    clear he
    go_wp2
    first | go_ret | go_ret2
    exact ⟨rfl, B5.out⟩
  obtain rfl : er = 0 := Classical.not_not.1 he
  have heb : ((0 : Int) != 0) = false := by simp
  clear he
  obtain ⟨q0, q1, q2, q3, q4, q5, q6, q7, q8, q9, q10, q11, -, -, -, -, -, -, -, -, -, -, -, -⟩ := cells12 F5.out
  go_upto_region 7 with (first
    | ((with_reducible refine gate_dst (N := 8) rfl ?_); (try (refine gate_guard (by rfl) ?_; dsimp only)); refine box_event ?hg (N := 8) ?hd (cs := #[.int .i64 0, .int .i64 0, .int .i64 0, .int .i64 0, .int .i64 0, .int .i64 0, .int .i64 0, .int .i64 0, .int .i64 0, .int .i64 0, .slice none 0 0, .slice none 0 0]) (t := 29) ?hr ?_; (case hd => rfl); (case hg => rfl); (case hr => first | (go_simp; done) | (go_simp; rfl)); intro o1 hg w5b hbox hb; have ZX1 := Aside0.mk hbox; have ZB1 := Aside0.mk hb; have ZG1 := Aside0.mk (Nat.le_of_eq hg.symm); obtain ⟨z0, z1, z2, z3, z4, z5, z6, z7, z8, z9, z10, z11, g0, g1, g2, g3, g4, g5, g6, g7, g8, g9, g10, g11⟩ := cells12 hbox; clear hbox hb hg))
  obtain ⟨w6, hw, hX, hBx⟩ := put12 (.int .i64 v0) (.int .i64 v1) (.int .i64 v2) (.int .i64 v3) (.int .i64 v4) (.int .i64 v5) (.int .i64 v6) (.int .i64 v7) (.int .i64 v8) (.int .i64 v9) (.slice AT tk.length cT) (.slice AO ok.length cO) ZX1.out ZB1.out ZG1.out
  rw [← hw]
  have G6 := Aside0.mk hX
  have B6 := Aside0.mk (below_step B5.out hBx)
  have F6 := Aside0.mk (blk_below F5.out hBx)
  have O6 := Aside0.mk (blk_below O5.out hBx)
  have HO6 := Aside0.mk (Kd.C_below HO5.out hBx)
  have GG := Aside0.mk (show w.heap.size ≤ o1 by have := ZG1.out; have := below_size B5.out; omega)
  have NFG := Aside0.mk (show F ≠ o1 ∧ G ≠ o1 by have := ZG1.out; have := blk_lt F5.out; have := blk_lt O5.out; omega)
  clear hw hX hBx ZX1 ZB1 q0 q1 q2 q3 q4 q5 q6 q7 q8 q9 q10 q11 F5 O5 HT5 HO5 z0 z1 z2 z3 z4 z5 z6 z7 z8 z9 z10 z11 g0 g1 g2 g3 g4 g5 g6 g7 g8 g9 g10 g11

  refine start_ (n := 9) (S := fun w' => w'.cell? ⟨F, 11, none⟩ = some (.slice AO ok.length cO) ∧ w'.cell? ⟨G, 0, none⟩ = some (.int .i64 xk) ∧ w'.cell? ⟨G, 1, none⟩ = some (.int .i64 xa) ∧ w'.cell? ⟨G, 2, none⟩ = some (.int .i64 xb) ∧ w'.cell? ⟨G, 3, none⟩ = some (.int .i64 xc) ∧ w'.cell? ⟨G, 4, none⟩ = some (.int .i64 xd)) (ds := [8]) #[false, false, false, false, false, false, false, false, false] (by kernel_rfl) rfl rfl ⟨((blk_cell (blk_below F6.out (below_drew (Below.refl _ _))) 11).trans rfl), ((blk_cell (blk_below O6.out (below_drew (Below.refl _ _))) 0).trans rfl), ((blk_cell (blk_below O6.out (below_drew (Below.refl _ _))) 1).trans rfl), ((blk_cell (blk_below O6.out (below_drew (Below.refl _ _))) 2).trans rfl), ((blk_cell (blk_below O6.out (below_drew (Below.refl _ _))) 3).trans rfl), ((blk_cell (blk_below O6.out (below_drew (Below.refl _ _))) 4).trans rfl)⟩ (fun hHeld => ?_)
  refine pure_ (i := 1) (N := some 29) (v := ?_) (a' := ?_) #[false, true, false, false, false, false, false, false, false] rfl rfl (by kernel_rfl) (fun _ _ _ h => h) (Or.inl ⟨by rfl, ?_⟩) ?_ ?_
  rotate_left
  · intro w'
    go_simp
    with_reducible rfl
  rotate_left
  · simp only [Act.put, List.setIfInBounds_toArray, List.set_cons_zero, List.set_cons_succ, i64_w, i32_w]
    rfl
  refine take_ (i := 2) (N := some 30) (v := ?_) (a' := ?_) #[false, true, true, false, false, false, false, false, false] rfl rfl (by kernel_rfl) (fun _ _ _ h => h) (Or.inl ⟨by rfl, ?_⟩) hHeld ?_ ?_
  rotate_left
  · rintro w' ⟨s0, s1, s2, s3, s4, s5⟩
    go_simp
    with_reducible rfl
  rotate_left
  · simp only [Act.put, List.setIfInBounds_toArray, List.set_cons_zero, List.set_cons_succ, i64_w, i32_w]
    rfl
  refine take_ (i := 4) (N := some 32) (v := ?_) (a' := ?_) #[false, true, true, false, true, false, false, false, false] rfl rfl (by kernel_rfl) (fun _ _ _ h => h) (Or.inl ⟨by rfl, ?_⟩) hHeld ?_ ?_
  rotate_left
  · rintro w' ⟨s0, s1, s2, s3, s4, s5⟩
    go_simp
    with_reducible rfl
  rotate_left
  · simp only [Act.put, List.setIfInBounds_toArray, List.set_cons_zero, List.set_cons_succ, i64_w, i32_w]
    rfl
  refine join_ (σ := Value × Value × Value) 3 #[true, true, true, true, true, true, false, false, false] (fun s => [(28, s.1), (31, s.2.1), (33, s.2.2)]) (fun s w' => Aside0 (Below w6.heap.size w6 w') ∧ Aside0 (kOp.R 46 w' w6.heap.size (fun _ => True) s.2.1 ok) ∧ Aside0 (kOp.R 46 w' w6.heap.size (fun _ => True) s.2.2 [(⟨xk, xa, xb, xc, xd⟩ : Opn)])) ?_ ?_
  rotate_left
  · intro hCont
    refine two_ (i := 0) (j := 5) (Ni := some 28) (Nj := some 33) #[true, true, true, false, true, false, false, false, false] #[false, true, true, false, true, true, false, false, false] rfl rfl rfl rfl (by kernel_rfl) (by decide) (by decide) (fun K hK => ?_) (fun K hK => ?_)
    · skip
      refine Kd.R_lit_step kOp (w0 := w6) w6.heap.size 46 (by rfl) (N := 28) rfl (xs := ([] : List Opn)) (inner := []) (ok := fun _ => True) (okp := fun _ => True) ?hr1 (Reps.none _ _) (fun _ hk => hk) trivial (below_drew (Below.refl _ _)) (below_size (below_drew (Below.refl _ _))) (by simp) ?_
      (case hr1 => first | (go_simp; done) | (go_simp; rfl))
      intro v28 x0 ho hb hg hat
      have O28 := Aside0.mk ho
      have B_0 := Aside0.mk hb
      clear ho hb hg hat
      refine hK.out _ _ ⟨((blk_cell (blk_below F6.out B_0.out) 11).trans rfl), ((blk_cell (blk_below O6.out B_0.out) 0).trans rfl), ((blk_cell (blk_below O6.out B_0.out) 1).trans rfl), ((blk_cell (blk_below O6.out B_0.out) 2).trans rfl), ((blk_cell (blk_below O6.out B_0.out) 3).trans rfl), ((blk_cell (blk_below O6.out B_0.out) 4).trans rfl)⟩ (fun hHeld => ?_)
      clear hK K
      refine norm_ (a' := ?_) ?_ ?_
      rotate_left
      · show Act.put _ (some 28) _ = _
        simp only [Act.put, List.setIfInBounds_toArray, List.set_cons_zero, List.set_cons_succ, i64_w, i32_w]
        rfl
      refine two_ (i := 3) (j := 5) (Ni := some 31) (Nj := some 33) #[true, true, true, true, true, false, false, false, false] #[true, true, true, false, true, true, false, false, false] rfl rfl rfl rfl (by kernel_rfl) (by decide) (by decide) (fun K hK => ?_) (fun K hK => ?_)
      · skip
        refine Kd.R_append_rows_step kOp (w0 := w6) w6.heap.size (by rfl) (.tmp 28) (.tmp 30) 27 46 (.agg #[(.int .i64 0), (.int .i64 0), (.int .i64 0), (.int .i64 0), (.int .i64 0)]) 40 rfl Tryd.underlying27 infoOp rfl (by decide) (by decide) v28 [] ok AO ok.length cO (fun _ => True) (fun _ => False) rfl rfl O28.out (Kd.C_below HO6.out B_0.out) (fun _ _ h => h) (fun _ h => h.elim) (fun _ _ => trivial) B_0.out (below_size B_0.out) (by have := TK70.out; simp only [List.length_nil]; omega) ?_
        intro v31 x3 ho hb hg hat
        rw [List.nil_append] at ho
        have O31 := Aside0.mk ho
        have B_3 := Aside0.mk hb
        clear ho hb hg hat
        refine hK.out _ _ ⟨((blk_cell (blk_below F6.out B_3.out) 11).trans rfl), ((blk_cell (blk_below O6.out B_3.out) 0).trans rfl), ((blk_cell (blk_below O6.out B_3.out) 1).trans rfl), ((blk_cell (blk_below O6.out B_3.out) 2).trans rfl), ((blk_cell (blk_below O6.out B_3.out) 3).trans rfl), ((blk_cell (blk_below O6.out B_3.out) 4).trans rfl)⟩ (fun hHeld => ?_)
        clear hK K
        refine norm_ (a' := ?_) ?_ ?_
        rotate_left
        · show Act.put _ (some 31) _ = _
          simp only [Act.put, List.setIfInBounds_toArray, List.set_cons_zero, List.set_cons_succ, i64_w, i32_w]
          rfl
        refine one_ (i := 5) (N := some 33) #[true, true, true, true, true, true, false, false, false] rfl rfl (by kernel_rfl) (by decide) (fun K hK => ?_)
        refine Kd.R_lit_step kOp (w0 := w6) w6.heap.size 46 (by rfl) (N := 33) rfl (xs := [(⟨xk, xa, xb, xc, xd⟩ : Opn)]) (inner := [.int .i64 xk, .int .i64 xa, .int .i64 xb, .int .i64 xc, .int .i64 xd]) (ok := fun _ => True) (okp := fun _ => True) ?hr3 (Reps.c5 (kOp_mkM _ w6.heap.size (fun _ => True) ⟨xk, xa, xb, xc, xd⟩) (Reps.none _ _)) (fun _ hk => hk) trivial B_3.out (below_size B_3.out) (by simp) ?_
        (case hr3 => first | (go_simp; done) | (go_simp; rfl))
        intro v33 x5 ho hb hg hat
        have O33 := Aside0.mk ho
        have B_5 := Aside0.mk hb
        have O31 := Aside0.mk (Kd.R_grown2 O31.out rfl hg (fun k hk => by cases hk))
        clear ho hb hg hat
        refine hK.out _ _ ⟨((blk_cell (blk_below F6.out B_5.out) 11).trans rfl), ((blk_cell (blk_below O6.out B_5.out) 0).trans rfl), ((blk_cell (blk_below O6.out B_5.out) 1).trans rfl), ((blk_cell (blk_below O6.out B_5.out) 2).trans rfl), ((blk_cell (blk_below O6.out B_5.out) 3).trans rfl), ((blk_cell (blk_below O6.out B_5.out) 4).trans rfl)⟩ (fun hHeld => ?_)
        clear hK K
        refine norm_ (a' := ?_) ?_ ?_
        rotate_left
        · show Act.put _ (some 33) _ = _
          simp only [Act.put, List.setIfInBounds_toArray, List.set_cons_zero, List.set_cons_succ, i64_w, i32_w]
          rfl
        exact norm_ (by simp only [putAll, Act.put, List.setIfInBounds_toArray, List.set_cons_zero, List.set_cons_succ]) (hCont (v28, v31, v33) _ ⟨B_5, O31, O33⟩)
      · skip
        refine Kd.R_lit_step kOp (w0 := w6) w6.heap.size 46 (by rfl) (N := 33) rfl (xs := [(⟨xk, xa, xb, xc, xd⟩ : Opn)]) (inner := [.int .i64 xk, .int .i64 xa, .int .i64 xb, .int .i64 xc, .int .i64 xd]) (ok := fun _ => True) (okp := fun _ => True) ?hr4 (Reps.c5 (kOp_mkM _ w6.heap.size (fun _ => True) ⟨xk, xa, xb, xc, xd⟩) (Reps.none _ _)) (fun _ hk => hk) trivial B_0.out (below_size B_0.out) (by simp) ?_
        (case hr4 => first | (go_simp; done) | (go_simp; rfl))
        intro v33 x5 ho hb hg hat
        have O33 := Aside0.mk ho
        have B_5 := Aside0.mk hb
        have NE := Aside0.mk (ne_new O28.out hat)
        have O28 := Aside0.mk (Kd.R_grown2 O28.out rfl hg (fun k hk => by cases hk))
        clear ho hb hg hat
        refine hK.out _ _ ⟨((blk_cell (blk_below F6.out B_5.out) 11).trans rfl), ((blk_cell (blk_below O6.out B_5.out) 0).trans rfl), ((blk_cell (blk_below O6.out B_5.out) 1).trans rfl), ((blk_cell (blk_below O6.out B_5.out) 2).trans rfl), ((blk_cell (blk_below O6.out B_5.out) 3).trans rfl), ((blk_cell (blk_below O6.out B_5.out) 4).trans rfl)⟩ (fun hHeld => ?_)
        clear hK K
        refine norm_ (a' := ?_) ?_ ?_
        rotate_left
        · show Act.put _ (some 33) _ = _
          simp only [Act.put, List.setIfInBounds_toArray, List.set_cons_zero, List.set_cons_succ, i64_w, i32_w]
          rfl
        refine one_ (i := 3) (N := some 31) #[true, true, true, true, true, true, false, false, false] rfl rfl (by kernel_rfl) (by decide) (fun K hK => ?_)
        refine Kd.R_append_rows_step kOp (w0 := w6) w6.heap.size (by rfl) (.tmp 28) (.tmp 30) 27 46 (.agg #[(.int .i64 0), (.int .i64 0), (.int .i64 0), (.int .i64 0), (.int .i64 0)]) 40 rfl Tryd.underlying27 infoOp rfl (by decide) (by decide) v28 [] ok AO ok.length cO (fun _ => True) (fun _ => False) rfl rfl O28.out (Kd.C_below HO6.out B_5.out) (fun _ _ h => h) (fun _ h => h.elim) (fun _ _ => trivial) B_5.out (below_size B_5.out) (by have := TK70.out; simp only [List.length_nil]; omega) ?_
        intro v31 x3 ho hb hg hat
        rw [List.nil_append] at ho
        have O31 := Aside0.mk ho
        have B_3 := Aside0.mk hb
        have O33 := Aside0.mk (Kd.R_grown1 O33.out rfl hg NE.out)
        clear ho hb hg hat
        refine hK.out _ _ ⟨((blk_cell (blk_below F6.out B_3.out) 11).trans rfl), ((blk_cell (blk_below O6.out B_3.out) 0).trans rfl), ((blk_cell (blk_below O6.out B_3.out) 1).trans rfl), ((blk_cell (blk_below O6.out B_3.out) 2).trans rfl), ((blk_cell (blk_below O6.out B_3.out) 3).trans rfl), ((blk_cell (blk_below O6.out B_3.out) 4).trans rfl)⟩ (fun hHeld => ?_)
        clear hK K
        refine norm_ (a' := ?_) ?_ ?_
        rotate_left
        · show Act.put _ (some 31) _ = _
          simp only [Act.put, List.setIfInBounds_toArray, List.set_cons_zero, List.set_cons_succ, i64_w, i32_w]
          rfl
        exact norm_ (by simp only [putAll, Act.put, List.setIfInBounds_toArray, List.set_cons_zero, List.set_cons_succ]) (hCont (v28, v31, v33) _ ⟨B_3, O31, O33⟩)
    · skip
      refine Kd.R_lit_step kOp (w0 := w6) w6.heap.size 46 (by rfl) (N := 33) rfl (xs := [(⟨xk, xa, xb, xc, xd⟩ : Opn)]) (inner := [.int .i64 xk, .int .i64 xa, .int .i64 xb, .int .i64 xc, .int .i64 xd]) (ok := fun _ => True) (okp := fun _ => True) ?hr6 (Reps.c5 (kOp_mkM _ w6.heap.size (fun _ => True) ⟨xk, xa, xb, xc, xd⟩) (Reps.none _ _)) (fun _ hk => hk) trivial (below_drew (Below.refl _ _)) (below_size (below_drew (Below.refl _ _))) (by simp) ?_
      (case hr6 => first | (go_simp; done) | (go_simp; rfl))
      intro v33 x5 ho hb hg hat
      have O33 := Aside0.mk ho
      have B_5 := Aside0.mk hb
      clear ho hb hg hat
      refine hK.out _ _ ⟨((blk_cell (blk_below F6.out B_5.out) 11).trans rfl), ((blk_cell (blk_below O6.out B_5.out) 0).trans rfl), ((blk_cell (blk_below O6.out B_5.out) 1).trans rfl), ((blk_cell (blk_below O6.out B_5.out) 2).trans rfl), ((blk_cell (blk_below O6.out B_5.out) 3).trans rfl), ((blk_cell (blk_below O6.out B_5.out) 4).trans rfl)⟩ (fun hHeld => ?_)
      clear hK K
      refine norm_ (a' := ?_) ?_ ?_
      rotate_left
      · show Act.put _ (some 33) _ = _
        simp only [Act.put, List.setIfInBounds_toArray, List.set_cons_zero, List.set_cons_succ, i64_w, i32_w]
        rfl
      refine one_ (i := 0) (N := some 28) #[true, true, true, false, true, true, false, false, false] rfl rfl (by kernel_rfl) (by decide) (fun K hK => ?_)
      refine Kd.R_lit_step kOp (w0 := w6) w6.heap.size 46 (by rfl) (N := 28) rfl (xs := ([] : List Opn)) (inner := []) (ok := fun _ => True) (okp := fun _ => True) ?hr7 (Reps.none _ _) (fun _ hk => hk) trivial B_5.out (below_size B_5.out) (by simp) ?_
      (case hr7 => first | (go_simp; done) | (go_simp; rfl))
      intro v28 x0 ho hb hg hat
      have O28 := Aside0.mk ho
      have B_0 := Aside0.mk hb
      have NE := Aside0.mk (ne_new O33.out hat).symm
      have O33 := Aside0.mk (Kd.R_grown2 O33.out rfl hg (fun k hk => by cases hk))
      clear ho hb hg hat
      refine hK.out _ _ ⟨((blk_cell (blk_below F6.out B_0.out) 11).trans rfl), ((blk_cell (blk_below O6.out B_0.out) 0).trans rfl), ((blk_cell (blk_below O6.out B_0.out) 1).trans rfl), ((blk_cell (blk_below O6.out B_0.out) 2).trans rfl), ((blk_cell (blk_below O6.out B_0.out) 3).trans rfl), ((blk_cell (blk_below O6.out B_0.out) 4).trans rfl)⟩ (fun hHeld => ?_)
      clear hK K
      refine norm_ (a' := ?_) ?_ ?_
      rotate_left
      · show Act.put _ (some 28) _ = _
        simp only [Act.put, List.setIfInBounds_toArray, List.set_cons_zero, List.set_cons_succ, i64_w, i32_w]
        rfl
      refine one_ (i := 3) (N := some 31) #[true, true, true, true, true, true, false, false, false] rfl rfl (by kernel_rfl) (by decide) (fun K hK => ?_)
      refine Kd.R_append_rows_step kOp (w0 := w6) w6.heap.size (by rfl) (.tmp 28) (.tmp 30) 27 46 (.agg #[(.int .i64 0), (.int .i64 0), (.int .i64 0), (.int .i64 0), (.int .i64 0)]) 40 rfl Tryd.underlying27 infoOp rfl (by decide) (by decide) v28 [] ok AO ok.length cO (fun _ => True) (fun _ => False) rfl rfl O28.out (Kd.C_below HO6.out B_0.out) (fun _ _ h => h) (fun _ h => h.elim) (fun _ _ => trivial) B_0.out (below_size B_0.out) (by have := TK70.out; simp only [List.length_nil]; omega) ?_
      intro v31 x3 ho hb hg hat
      rw [List.nil_append] at ho
      have O31 := Aside0.mk ho
      have B_3 := Aside0.mk hb
      have O33 := Aside0.mk (Kd.R_grown1 O33.out rfl hg NE.out)
      clear ho hb hg hat
      refine hK.out _ _ ⟨((blk_cell (blk_below F6.out B_3.out) 11).trans rfl), ((blk_cell (blk_below O6.out B_3.out) 0).trans rfl), ((blk_cell (blk_below O6.out B_3.out) 1).trans rfl), ((blk_cell (blk_below O6.out B_3.out) 2).trans rfl), ((blk_cell (blk_below O6.out B_3.out) 3).trans rfl), ((blk_cell (blk_below O6.out B_3.out) 4).trans rfl)⟩ (fun hHeld => ?_)
      clear hK K
      refine norm_ (a' := ?_) ?_ ?_
      rotate_left
      · show Act.put _ (some 31) _ = _
        simp only [Act.put, List.setIfInBounds_toArray, List.set_cons_zero, List.set_cons_succ, i64_w, i32_w]
        rfl
      exact norm_ (by simp only [putAll, Act.put, List.setIfInBounds_toArray, List.set_cons_zero, List.set_cons_succ]) (hCont (v28, v31, v33) _ ⟨B_3, O31, O33⟩)
  rintro ⟨v28, v31, v33⟩ w7 ⟨B7, O31, O33⟩
  obtain ⟨A33, c33, hv33⟩ := Kd.R_slice O33.out
  simp only at hv33
  subst hv33
  have hHeld : w7.cell? ⟨F, 11, none⟩ = some (.slice AO ok.length cO) ∧ w7.cell? ⟨G, 0, none⟩ = some (.int .i64 xk) ∧ w7.cell? ⟨G, 1, none⟩ = some (.int .i64 xa) ∧ w7.cell? ⟨G, 2, none⟩ = some (.int .i64 xb) ∧ w7.cell? ⟨G, 3, none⟩ = some (.int .i64 xc) ∧ w7.cell? ⟨G, 4, none⟩ = some (.int .i64 xd) := ⟨((blk_cell (blk_below F6.out B7.out) 11).trans rfl), ((blk_cell (blk_below O6.out B7.out) 0).trans rfl), ((blk_cell (blk_below O6.out B7.out) 1).trans rfl), ((blk_cell (blk_below O6.out B7.out) 2).trans rfl), ((blk_cell (blk_below O6.out B7.out) 3).trans rfl), ((blk_cell (blk_below O6.out B7.out) 4).trans rfl)⟩
  refine norm_ (a' := ?_) ?_ ?_
  rotate_left
  · simp only [putAll, Act.put, List.setIfInBounds_toArray, List.set_cons_zero, List.set_cons_succ]
    rfl
  refine one_ (i := 6) (N := some 34) #[true, true, true, true, true, true, true, false, false] rfl rfl (by kernel_rfl) (by decide) (fun K hK => ?_)
  refine Kd.R_append_rows_step kOp (w0 := w6) w6.heap.size (by rfl) (.tmp 31) (.tmp 33) 27 46 (.agg #[(.int .i64 0), (.int .i64 0), (.int .i64 0), (.int .i64 0), (.int .i64 0)]) 40 rfl Tryd.underlying27 infoOp rfl (by decide) (by decide) v31 ok [(⟨xk, xa, xb, xc, xd⟩ : Opn)] _ _ _ (fun _ => True) (fun _ => False) rfl rfl O31.out (Kd.R_reads' O33.out).2.2 (fun _ _ h => h) (fun _ h => h.elim) (fun _ _ => trivial) B7.out (below_size B7.out) (by have := TK70.out; simp only [List.length_singleton]; omega) ?_
  intro v34 x6 ho hb hg hat
  obtain ⟨A34, c34, hv34⟩ := Kd.R_slice ho
  have B8 := Aside0.mk hb
  have O34 := Aside0.mk ho
  clear ho hb hg hat
  have hc8 : x6.cell? ⟨o1, 11, none⟩ = some (.slice AO ok.length cO) := (blk_cell (blk_below G6.out B8.out) 11).trans rfl
  have hf8 : x6.frozen? ⟨o1, 11, none⟩ = false := blk_frozen (blk_below G6.out B8.out) 11
  obtain ⟨L34, hL34⟩ : ∃ n, n = (ok ++ [(⟨xk, xa, xb, xc, xd⟩ : Opn)]).length := ⟨_, rfl⟩
  rw [← hL34] at hv34
  have LL34 := Aside0.mk hL34
  clear hL34
  subst hv34
  refine hK.out _ _ ⟨((blk_cell (blk_below F6.out B8.out) 11).trans rfl), ((blk_cell (blk_below O6.out B8.out) 0).trans rfl), ((blk_cell (blk_below O6.out B8.out) 1).trans rfl), ((blk_cell (blk_below O6.out B8.out) 2).trans rfl), ((blk_cell (blk_below O6.out B8.out) 3).trans rfl), ((blk_cell (blk_below O6.out B8.out) 4).trans rfl)⟩ (fun hHeld => ?_)
  clear hK K
  refine norm_ (a' := ?_) ?_ ?_
  rotate_left
  · show Act.put _ (some 34) _ = _
    simp only [Act.put, List.setIfInBounds_toArray, List.set_cons_zero, List.set_cons_succ, i64_w, i32_w]
    rfl
  refine pure_ (i := 7) (N := some 35) (v := ?_) (a' := ?_) #[true, true, true, true, true, true, true, true, false] rfl rfl (by kernel_rfl) (fun _ _ _ h => h) (Or.inl ⟨by rfl, ?_⟩) ?_ ?_
  rotate_left
  · intro w'
    go_simp
    with_reducible rfl
  rotate_left
  · simp only [Act.put, List.setIfInBounds_toArray, List.set_cons_zero, List.set_cons_succ, i64_w, i32_w]
    rfl
  refine last_ (i := 8) (N := none) #[true, true, true, true, true, true, true, true, true] rfl rfl (by kernel_rfl) (by decide) (fun K hK => ?_)
  refine skip_ (w1 := ?_) (by rfl) rfl ?_ ?_
  rotate_left
  · go_simp
    rfl
  refine hK.out _ _ ?_
  clear hK K
  refine done_ (by kernel_rfl) ?_
  obtain ⟨w8, hw, hX, hBx, hfar⟩ := put_one (.slice A34 L34 c34) (blk_below G6.out B8.out) (below_step B6.out B8.out) GG.out
  have O38 := Aside0.mk (show kOp.R 46 w8 w6.heap.size (fun _ => True) (.slice A34 L34 c34) (ok ++ [(⟨xk, xa, xb, xc, xd⟩ : Opn)]) by rw [hw]; exact R_put_box O34.out rfl (blk_below G6.out B8.out) (by decide) _ 11)
  rw [← hw]
  have G8 := Aside0.mk hX
  have BB8 := Aside0.mk hBx
  have O8 := Aside0.mk (hfar G _ _ NFG.out.2 (blk_below O6.out B8.out))
  have HT8 := Aside0.mk (Kd.C_below HTW.out BB8.out)
  have HI8 := Aside0.mk (show FIn ⟨[v0, v1, v2, v3, v4, v5, v6, v7, v8, v9], tk, ok ++ [(⟨xk, xa, xb, xc, xd⟩ : Opn)]⟩ from ⟨HI4.out.cfg, HI4.out.tasks, fun p hp => by
    rcases List.mem_append.1 hp with hp | hp
    · exact HI4.out.ops p hp
    · rw [List.mem_singleton.1 hp]; exact HIO.out⟩)
  have L8 := Aside0.mk (show (ok ++ [(⟨xk, xa, xb, xc, xd⟩ : Opn)]).length = ok.length + 1 by simp)
  clear hw hX hBx hfar hc8 hf8 O34 O33 O31 B7 B8 G6 O6 F6 B6 HO6 hHeld
  obtain ⟨t, er2, htx2⟩ : ∃ t er2, textP ⟨[v0, v1, v2, v3, v4, v5, v6, v7, v8, v9], tk, ok ++ [(⟨xk, xa, xb, xc, xd⟩ : Opn)]⟩ = (t, er2) := ⟨_, _, rfl⟩
  have HTX2 := Aside0.mk htx2
  clear htx2
  obtain ⟨q0, q1, q2, q3, q4, q5, q6, q7, q8, q9, q10, q11, -, -, -, -, -, -, -, -, -, -, -, -⟩ := cells12 G8.out
  go_upto_region 9 with (first
    | (go_at_call 14; refine (text_l v0 v1 v2 v3 v4 v5 v6 v7 v8 v9 tk (ok ++ [(⟨xk, xa, xb, xc, xd⟩ : Opn)]) AT A34 _ L34 cT c34 _ t er2 HTX2.out rfl LL34.out.symm HT8.out TC4.out (Kd.R_reads' O38.out).2.2 (by have := (Kd.R_reads' O38.out).2.1; have := LL34.out; omega) (HL.out.below BB8.out) HI8.out (by have := TK70.out; omega) (by have := TK70.out; have := L8.out; omega)).mono ?_; rintro e' w9 ⟨rfl, hb⟩; have B9 := Aside0.mk (below_step BB8.out hb); have G9 := Aside0.mk (blk_below G8.out hb); have O9 := Aside0.mk (blk_below O8.out hb); clear hb))
  clear q0 q1 q2 q3 q4 q5 q6 q7 q8 q9 q10 q11 G8 BB8 O8 HT8 HI8 O38
  by_cases he : ¬ er2 = 0
  · obtain ⟨rfl, rfl⟩ := text_bad HTX2.out he
    clear he
    go_wp2
    first | go_ret | go_ret2
    exact ⟨by first | rfl | simp, B9.out⟩
  obtain rfl : er2 = 0 := Classical.not_not.1 he
  clear he
  obtain ⟨q, hq, hq10, hp, hl⟩ := one_more (o := ⟨xk, xa, xb, xc, xd⟩) rfl HTX.out HTX2.out (show ok.length ≤ 200 from TK70.out.2)
  simp only at hp
  subst hq
  have P2 := Aside0.mk hp
  have TL := Aside0.mk hl
  have Q10 := Aside0.mk hq10
  clear hp hl hq10
  obtain ⟨hsz, hext, hbl, hbq⟩ := st_facts s q Q10.out
  have hS30 : (⟨s.toArray⟩ : ByteArray).size ≤ 30000 ∧ q.length ≤ 30000 := by
    have := TL.out
    simp only [List.length_append] at this
    refine ⟨?_, by omega⟩
    show s.toArray.size ≤ 30000
    rw [List.size_toArray]
    omega
  generalize (⟨(s ++ (q ++ [10])).toArray⟩ : ByteArray) = T at P2 hsz hext hbl hbq ⊢
  generalize (⟨s.toArray⟩ : ByteArray) = S at hsz hext hbl hbq hS30 ⊢
  obtain ⟨nl, hnl⟩ : ∃ n : Int, n = (S.size : Int) + (q.length : Int) := ⟨_, rfl⟩
  have e0 : decide (T.size ≤ S.size) = false := decide_eq_false (by omega)
  have e1 : wrap64 ((T.size : Int) - 1) = nl := by unfold wrap64; omega
  have e2 := eq_true (show (0 : Int) ≤ nl by omega)
  have e3 := eq_true (show nl < (T.size : Int) by omega)
  have e6 := bt_at T nl
  have e4 : bt T nl = 10 := by rw [hnl]; exact hbl
  have e5 := eq_true (show (S.size : Int) ≤ (T.size : Int) by omega)
  have ex0 : T.extract 0 ((S.size : Int)).toNat = S := by rw [Int.toNat_natCast]; exact hext
  have ex1 : (S.toList != S.toList) = false := by simp
  have HSZ := Aside0.mk hsz
  have HBL := Aside0.mk hbl
  have HBQ := Aside0.mk hbq
  have HS30 := Aside0.mk hS30
  have HNL := Aside0.mk hnl
  clear hsz hbl hbq hS30 hnl
  go_upto_region 13 with (fail)
  clear e0 e1 e2 e3 e4 e5 e6 hext ex0 ex1
  go_upto_region 15 with (fail)
  go_loopg [11, 12] (q.length + 1) (fun gg s11 s12 wr => ∃ kk : Nat, kk ≤ q.length + 1 ∧ q.length + 1 - kk ≤ gg ∧ s12 = .int .i64 ((S.size : Int) + (kk : Int)) ∧ s11 = .int .i64 (if kk = q.length + 1 then 1 else 0) ∧ w9 = wr)
  case atStart => exact ⟨0, by omega, by omega, by simp, by simp, rfl⟩
  case round =>
    obtain ⟨kk, hkk, hg, rfl, rfl, rfl⟩ := hrel
    by_cases hlt : kk < q.length + 1
    · obtain ⟨ii, hii⟩ : ∃ n : Int, n = (S.size : Int) + (kk : Int) := ⟨_, rfl⟩
      have hb1 := HBQ.out kk
      have hb2 := HBL.out
      have hS := HS30.out
      have hZ := HSZ.out
      rw [← hii]
      have e7 : decide (ii < (T.size : Int)) = true := decide_eq_true (by omega)
      have e2 := eq_true (show (0 : Int) ≤ ii by omega)
      have e3 := eq_true (show ii < (T.size : Int) by omega)
      have e6 := bt_at T ii
      have e8 : wrap64 (ii + 1) = (S.size : Int) + ((kk + 1 : Nat) : Int) := by unfold wrap64; omega
      have e9 : (if kk = q.length + 1 then (1 : Int) else 0) = 0 := if_neg (by omega)
      rw [e9]
      by_cases hk : kk = q.length
      · have e4 : bt T ii = 10 := by rw [hii, hk]; exact hb2
        have hkq := Aside0.mk hk
        have HG := Aside0.mk hg
        clear hg hkk hlt hii hb1 hb2 hS hZ hk
        go_wp2
        go_roundg (q.length + 1 - (kk + 1))
        case measure => have := HG.out; have := hkq.out; omega
        case rel => exact ⟨kk + 1, by have := hkq.out; omega, by omega, by first | exact congrArg _ e8 | simp [e8], by first | (rw [if_pos (by have := hkq.out; omega)]; done) | (rw [if_pos (by have := hkq.out; omega)]; simp [wrap64]), rfl⟩
      · have e4 : (bt T ii == 10) = false := beq_eq_false_iff_ne.2 (by rw [hii]; exact hb1 (by omega))
        have hkq := Aside0.mk (show kk < q.length by omega)
        have HG := Aside0.mk hg
        clear hg hkk hlt hii hb1 hb2 hS hZ hk
        go_wp2
        go_roundg (q.length + 1 - (kk + 1))
        case measure => have := HG.out; have := hkq.out; omega
        case rel => exact ⟨kk + 1, by have := hkq.out; omega, by omega, by first | exact congrArg _ e8 | simp [e8], by rw [if_neg (by have := hkq.out; omega)], rfl⟩
    · obtain rfl : kk = q.length + 1 := by omega
      obtain ⟨ii, hii⟩ : ∃ n : Int, n = (S.size : Int) + ((q.length + 1 : Nat) : Int) := ⟨_, rfl⟩
      rw [← hii]
      have e7 : decide (ii < (T.size : Int)) = false := decide_eq_false (by have := HSZ.out; omega)
      have e9 : (if q.length + 1 = q.length + 1 then (1 : Int) else 0) = 1 := if_pos rfl
      rw [e9]
      clear hg hkk hlt e9 hii
      go_upto_region 19 with (fail)
      go_upto_region 20 with (first
        | ((with_reducible refine gate_dst (N := 89) rfl ?_); refine LexK.CO_conv (w0 := w9) w9.heap.size ?hg (N := 89) ?hd 9 22 5 (.tmp 88) rfl Tryd.underlying9 Tryd.underlying22 Tryd.underlying5 (T) rfl (fun _ => True) trivial (Below.refl _ _) (Nat.le_refl _) (by have := HS30.out; have := HSZ.out; omega) ?_; (case hd => rfl); (case hg => rfl); intro v1 y1a hco hb _ _; obtain ⟨bb, bc, rfl, hbc, -, -, hbC⟩ := hco; have CB := Aside0.mk hb; have CC := Aside0.mk hbC; have CL := Aside0.mk hbc; clear hb hbC hbc)
        | (go_at_call 10; refine (parse_l _ _ _ (bytesOf (T)) _ v0 v1 v2 v3 v4 v5 v6 v7 v8 v9 0 0 tk (ok ++ [(⟨xk, xa, xb, xc, xd⟩ : Opn)]) (P2.out) (by first | rfl | exact bytesOf_length _) CC.out CL.out (HL.out.below (below_step B9.out CB.out))).mono ?_; rintro e' y1b ⟨vT, vO, rfl, hT, hO, hb⟩; obtain ⟨AT2, cT2, rfl⟩ := Kd.R_slice hT; obtain ⟨AO2, cO2, rfl⟩ := Kd.R_slice hO; have RT2 := Aside0.mk hT; have RO2 := Aside0.mk hO; have PB2 := Aside0.mk (below_step CB.out hb); clear CC CL CB hT hO hb)
        | ((with_reducible refine gate_dst (N := 13) rfl ?_); (try (refine gate_guard (by rfl) ?_; dsimp only)); refine box_event ?hg (N := 13) ?hd (cs := #[.int .i64 0, .int .i64 0, .int .i64 0, .int .i64 0, .int .i64 0, .int .i64 0, .int .i64 0, .int .i64 0, .int .i64 0, .int .i64 0, .slice none 0 0, .slice none 0 0]) (t := 29) ?hr ?_; (case hd => rfl); (case hg => rfl); (case hr => first | (go_simp; done) | (go_simp; rfl)); intro o2 hg y1c hbox hb; have ZX2 := Aside0.mk hbox; have ZB2 := Aside0.mk hb; have ZG2 := Aside0.mk (Nat.le_of_eq hg.symm); obtain ⟨z0, z1, z2, z3, z4, z5, z6, z7, z8, z9, z10, z11, g0, g1, g2, g3, g4, g5, g6, g7, g8, g9, g10, g11⟩ := cells12 hbox; clear hbox hb hg))
      obtain ⟨y1, hw, hX, hBx⟩ := put12 (.int .i64 v0) (.int .i64 v1) (.int .i64 v2) (.int .i64 v3) (.int .i64 v4) (.int .i64 v5) (.int .i64 v6) (.int .i64 v7) (.int .i64 v8) (.int .i64 v9) (.slice AT2 tk.length cT2) (.slice AO2 (ok.length + 1) cO2) ZX2.out ZB2.out ZG2.out
      rw [← hw]
      have FX2 := Aside0.mk hX
      have RU2 := Aside0.mk (Kd.R_below RT2.out hBx)
      have RV2 := Aside0.mk (Kd.R_below RO2.out hBx)
      have BW2 := Aside0.mk (below_step PB2.out hBx)
      clear hw hX hBx ZX2 ZB2 ZG2 RT2 RO2 PB2 z0 z1 z2 z3 z4 z5 z6 z7 z8 z9 z10 z11 g0 g1 g2 g3 g4 g5 g6 g7 g8 g9 g10 g11
      have G20 := Aside0.mk (blk_below G9.out BW2.out)
      have O20 := Aside0.mk (blk_below O9.out BW2.out)
      have B20 := Aside0.mk (below_step B9.out BW2.out)
      obtain ⟨ad, ead, u0, u1, u2, u3, u4⟩ := op_get (Kd.R_reads' RV2.out).2.2 ok.length (by simp)
      rw [show (ok ++ [(⟨xk, xa, xb, xc, xd⟩ : Opn)]).getD ok.length ⟨0, 0, 0, 0, 0⟩ = ⟨xk, xa, xb, xc, xd⟩ by simp [List.getD_eq_getElem?_getD]] at u0 u1 u2 u3 u4
      subst ead
      have FX20 := Aside0.mk (show y1.heap[o2]? = some (.cells #[.int .i64 v0, .int .i64 v1, .int .i64 v2, .int .i64 v3, .int .i64 v4, .int .i64 v5, .int .i64 v6, .int .i64 v7, .int .i64 v8, .int .i64 v9, .slice AT2 tk.length cT2, .slice (some ad) L34 cO2] 29 (0, 0)) by rw [LL34.out, L8.out]; exact FX2.out)
      clear FX2
      have hL8 := L8.out
      have hLL := LL34.out
      have h200 := TK70.out
      obtain ⟨m, hm⟩ : ∃ n : Int, n = (ok.length : Int) := ⟨_, rfl⟩
      have f1 : wrap64 ((L34 : Int) - 1) = m := by unfold wrap64; omega
      have f2 := eq_true (show (0 : Int) ≤ m by omega)
      have f3 := eq_true (show m < (L34 : Int) by omega)
      have hmn : m.toNat = ok.length := by omega
      rw [← hmn] at u0 u1 u2 u3 u4
      have q46 := fun W => eqS46 9998 W xk xa xb xc xd
      clear hL8 hLL h200 hm hmn

      refine start_ (n := 35) (S := fun w' => w'.cell? ⟨o2, 11, none⟩ = some (.slice (some ad) L34 cO2) ∧ w'.cell? ⟨o1, 11, none⟩ = some (.slice A34 L34 c34) ∧ w'.cell? ⟨G, 0, none⟩ = some (.int .i64 xk) ∧ w'.cell? ⟨G, 1, none⟩ = some (.int .i64 xa) ∧ w'.cell? ⟨G, 2, none⟩ = some (.int .i64 xb) ∧ w'.cell? ⟨G, 3, none⟩ = some (.int .i64 xc) ∧ w'.cell? ⟨G, 4, none⟩ = some (.int .i64 xd) ∧ w'.cell? (ad.add (m.toNat * 5)) = some (.int .i64 xk) ∧ w'.cell? ⟨(ad.add (m.toNat * 5)).block, (ad.add (m.toNat * 5)).off + 1, none⟩ = some (.int .i64 xa) ∧ w'.cell? ⟨(ad.add (m.toNat * 5)).block, (ad.add (m.toNat * 5)).off + 2, none⟩ = some (.int .i64 xb) ∧ w'.cell? ⟨(ad.add (m.toNat * 5)).block, (ad.add (m.toNat * 5)).off + 3, none⟩ = some (.int .i64 xc) ∧ w'.cell? ⟨(ad.add (m.toNat * 5)).block, (ad.add (m.toNat * 5)).off + 4, none⟩ = some (.int .i64 xd)) (ds := []) #[false, false, false, false, false, false, false, false, false, false, false, false, false, false, false, false, false, false, false, false, false, false, false, false, false, false, false, false, false, false, false, false, false, false, false] (by kernel_rfl) rfl rfl ⟨((blk_cell (blk_below FX20.out (below_drew (Below.refl _ _))) 11).trans rfl), ((blk_cell (blk_below G20.out (below_drew (Below.refl _ _))) 11).trans rfl), ((blk_cell (blk_below O20.out (below_drew (Below.refl _ _))) 0).trans rfl), ((blk_cell (blk_below O20.out (below_drew (Below.refl _ _))) 1).trans rfl), ((blk_cell (blk_below O20.out (below_drew (Below.refl _ _))) 2).trans rfl), ((blk_cell (blk_below O20.out (below_drew (Below.refl _ _))) 3).trans rfl), ((blk_cell (blk_below O20.out (below_drew (Below.refl _ _))) 4).trans rfl), u0, u1, u2, u3, u4⟩ (fun hHeld => ?_)
      refine pure_ (i := 0) (N := some 94) (v := ?_) (a' := ?_) #[true, false, false, false, false, false, false, false, false, false, false, false, false, false, false, false, false, false, false, false, false, false, false, false, false, false, false, false, false, false, false, false, false, false, false] rfl rfl (by kernel_rfl) (fun _ _ _ h => h) (Or.inl ⟨by rfl, ?_⟩) ?_ ?_
      rotate_left
      · intro w'
        go_simp
        with_reducible rfl
      rotate_left
      · simp only [Act.put, List.setIfInBounds_toArray, List.set_cons_zero, List.set_cons_succ, i64_w, i32_w]
        rfl
      refine pure_ (i := 1) (N := some 95) (v := ?_) (a' := ?_) #[true, true, false, false, false, false, false, false, false, false, false, false, false, false, false, false, false, false, false, false, false, false, false, false, false, false, false, false, false, false, false, false, false, false, false] rfl rfl (by kernel_rfl) (fun _ _ _ h => h) (Or.inl ⟨by rfl, ?_⟩) ?_ ?_
      rotate_left
      · intro w'
        go_simp
        with_reducible rfl
      rotate_left
      · simp only [Act.put, List.setIfInBounds_toArray, List.set_cons_zero, List.set_cons_succ, i64_w, i32_w]
        rfl
      refine pure_ (i := 2) (N := some 96) (v := ?_) (a' := ?_) #[true, true, true, false, false, false, false, false, false, false, false, false, false, false, false, false, false, false, false, false, false, false, false, false, false, false, false, false, false, false, false, false, false, false, false] rfl rfl (by kernel_rfl) (fun _ _ _ h => h) (Or.inl ⟨by rfl, ?_⟩) ?_ ?_
      rotate_left
      · intro w'
        go_simp
        with_reducible rfl
      rotate_left
      · simp only [Act.put, List.setIfInBounds_toArray, List.set_cons_zero, List.set_cons_succ, i64_w, i32_w]
        rfl
      refine pure_ (i := 3) (N := some 97) (v := ?_) (a' := ?_) #[true, true, true, true, false, false, false, false, false, false, false, false, false, false, false, false, false, false, false, false, false, false, false, false, false, false, false, false, false, false, false, false, false, false, false] rfl rfl (by kernel_rfl) (fun _ _ _ h => h) (Or.inl ⟨by rfl, ?_⟩) ?_ ?_
      rotate_left
      · intro w'
        go_simp
        with_reducible rfl
      rotate_left
      · simp only [Act.put, List.setIfInBounds_toArray, List.set_cons_zero, List.set_cons_succ, i64_w, i32_w]
        rfl
      refine pure_ (i := 4) (N := some 98) (v := ?_) (a' := ?_) #[true, true, true, true, true, false, false, false, false, false, false, false, false, false, false, false, false, false, false, false, false, false, false, false, false, false, false, false, false, false, false, false, false, false, false] rfl rfl (by kernel_rfl) (fun _ _ _ h => h) (Or.inl ⟨by rfl, ?_⟩) ?_ ?_
      rotate_left
      · intro w'
        go_simp
        with_reducible rfl
      rotate_left
      · simp only [Act.put, List.setIfInBounds_toArray, List.set_cons_zero, List.set_cons_succ, i64_w, i32_w]
        rfl
      refine pure_ (i := 5) (N := some 99) (v := ?_) (a' := ?_) #[true, true, true, true, true, true, false, false, false, false, false, false, false, false, false, false, false, false, false, false, false, false, false, false, false, false, false, false, false, false, false, false, false, false, false] rfl rfl (by kernel_rfl) (fun _ _ _ h => h) (Or.inl ⟨by rfl, ?_⟩) ?_ ?_
      rotate_left
      · intro w'
        go_simp
        with_reducible rfl
      rotate_left
      · simp only [Act.put, List.setIfInBounds_toArray, List.set_cons_zero, List.set_cons_succ, i64_w, i32_w]
        rfl
      refine pure_ (i := 6) (N := some 100) (v := ?_) (a' := ?_) #[true, true, true, true, true, true, true, false, false, false, false, false, false, false, false, false, false, false, false, false, false, false, false, false, false, false, false, false, false, false, false, false, false, false, false] rfl rfl (by kernel_rfl) (fun _ _ _ h => h) (Or.inl ⟨by rfl, ?_⟩) ?_ ?_
      rotate_left
      · intro w'
        go_simp
        with_reducible rfl
      rotate_left
      · simp only [Act.put, List.setIfInBounds_toArray, List.set_cons_zero, List.set_cons_succ, i64_w, i32_w]
        rfl
      refine pure_ (i := 7) (N := some 101) (v := ?_) (a' := ?_) #[true, true, true, true, true, true, true, true, false, false, false, false, false, false, false, false, false, false, false, false, false, false, false, false, false, false, false, false, false, false, false, false, false, false, false] rfl rfl (by kernel_rfl) (fun _ _ _ h => h) (Or.inl ⟨by rfl, ?_⟩) ?_ ?_
      rotate_left
      · intro w'
        go_simp
        with_reducible rfl
      rotate_left
      · simp only [Act.put, List.setIfInBounds_toArray, List.set_cons_zero, List.set_cons_succ, i64_w, i32_w]
        rfl
      refine pure_ (i := 8) (N := some 102) (v := ?_) (a' := ?_) #[true, true, true, true, true, true, true, true, true, false, false, false, false, false, false, false, false, false, false, false, false, false, false, false, false, false, false, false, false, false, false, false, false, false, false] rfl rfl (by kernel_rfl) (fun _ _ _ h => h) (Or.inl ⟨by rfl, ?_⟩) ?_ ?_
      rotate_left
      · intro w'
        go_simp
        with_reducible rfl
      rotate_left
      · simp only [Act.put, List.setIfInBounds_toArray, List.set_cons_zero, List.set_cons_succ, i64_w, i32_w]
        rfl
      refine pure_ (i := 9) (N := some 103) (v := ?_) (a' := ?_) #[true, true, true, true, true, true, true, true, true, true, false, false, false, false, false, false, false, false, false, false, false, false, false, false, false, false, false, false, false, false, false, false, false, false, false] rfl rfl (by kernel_rfl) (fun _ _ _ h => h) (Or.inl ⟨by rfl, ?_⟩) ?_ ?_
      rotate_left
      · intro w'
        go_simp
        with_reducible rfl
      rotate_left
      · simp only [Act.put, List.setIfInBounds_toArray, List.set_cons_zero, List.set_cons_succ, i64_w, i32_w]
        rfl
      refine pure_ (i := 10) (N := some 104) (v := ?_) (a' := ?_) #[true, true, true, true, true, true, true, true, true, true, true, false, false, false, false, false, false, false, false, false, false, false, false, false, false, false, false, false, false, false, false, false, false, false, false] rfl rfl (by kernel_rfl) (fun _ _ _ h => h) (Or.inl ⟨by rfl, ?_⟩) ?_ ?_
      rotate_left
      · intro w'
        go_simp
        with_reducible rfl
      rotate_left
      · simp only [Act.put, List.setIfInBounds_toArray, List.set_cons_zero, List.set_cons_succ, i64_w, i32_w]
        rfl
      refine pure_ (i := 11) (N := some 105) (v := ?_) (a' := ?_) #[true, true, true, true, true, true, true, true, true, true, true, true, false, false, false, false, false, false, false, false, false, false, false, false, false, false, false, false, false, false, false, false, false, false, false] rfl rfl (by kernel_rfl) (fun _ _ _ h => h) (Or.inl ⟨by rfl, ?_⟩) ?_ ?_
      rotate_left
      · intro w'
        go_simp
        with_reducible rfl
      rotate_left
      · simp only [Act.put, List.setIfInBounds_toArray, List.set_cons_zero, List.set_cons_succ, i64_w, i32_w]
        rfl
      refine pure_ (i := 12) (N := some 106) (v := ?_) (a' := ?_) #[true, true, true, true, true, true, true, true, true, true, true, true, true, false, false, false, false, false, false, false, false, false, false, false, false, false, false, false, false, false, false, false, false, false, false] rfl rfl (by kernel_rfl) (fun _ _ _ h => h) (Or.inl ⟨by rfl, ?_⟩) ?_ ?_
      rotate_left
      · intro w'
        go_simp
        with_reducible rfl
      rotate_left
      · simp only [Act.put, List.setIfInBounds_toArray, List.set_cons_zero, List.set_cons_succ, i64_w, i32_w]
        rfl
      refine pure_ (i := 13) (N := some 107) (v := ?_) (a' := ?_) #[true, true, true, true, true, true, true, true, true, true, true, true, true, true, false, false, false, false, false, false, false, false, false, false, false, false, false, false, false, false, false, false, false, false, false] rfl rfl (by kernel_rfl) (fun _ _ _ h => h) (Or.inl ⟨by rfl, ?_⟩) ?_ ?_
      rotate_left
      · intro w'
        go_simp
        with_reducible rfl
      rotate_left
      · simp only [Act.put, List.setIfInBounds_toArray, List.set_cons_zero, List.set_cons_succ, i64_w, i32_w]
        rfl
      refine pure_ (i := 14) (N := some 108) (v := ?_) (a' := ?_) #[true, true, true, true, true, true, true, true, true, true, true, true, true, true, true, false, false, false, false, false, false, false, false, false, false, false, false, false, false, false, false, false, false, false, false] rfl rfl (by kernel_rfl) (fun _ _ _ h => h) (Or.inl ⟨by rfl, ?_⟩) ?_ ?_
      rotate_left
      · intro w'
        go_simp
        with_reducible rfl
      rotate_left
      · simp only [Act.put, List.setIfInBounds_toArray, List.set_cons_zero, List.set_cons_succ, i64_w, i32_w]
        rfl
      refine pure_ (i := 17) (N := some 111) (v := ?_) (a' := ?_) #[true, true, true, true, true, true, true, true, true, true, true, true, true, true, true, false, false, true, false, false, false, false, false, false, false, false, false, false, false, false, false, false, false, false, false] rfl rfl (by kernel_rfl) (fun _ _ _ h => h) (Or.inl ⟨by rfl, ?_⟩) ?_ ?_
      rotate_left
      · intro w'
        go_simp
        with_reducible rfl
      rotate_left
      · simp only [Act.put, List.setIfInBounds_toArray, List.set_cons_zero, List.set_cons_succ, i64_w, i32_w]
        rfl
      refine take_ (i := 15) (N := some 109) (v := ?_) (a' := ?_) #[true, true, true, true, true, true, true, true, true, true, true, true, true, true, true, true, false, true, false, false, false, false, false, false, false, false, false, false, false, false, false, false, false, false, false] rfl rfl (by kernel_rfl) (fun _ _ _ h => h) (Or.inl ⟨by rfl, ?_⟩) hHeld ?_ ?_
      rotate_left
      · rintro w' ⟨s0, s1, s2, s3, s4, s5, s6, s7, s8, s9, s10, s11⟩
        go_simp
        with_reducible rfl
      rotate_left
      · simp only [Act.put, List.setIfInBounds_toArray, List.set_cons_zero, List.set_cons_succ, i64_w, i32_w]
        rfl
      refine pure_ (i := 16) (N := some 110) (v := ?_) (a' := ?_) #[true, true, true, true, true, true, true, true, true, true, true, true, true, true, true, true, true, true, false, false, false, false, false, false, false, false, false, false, false, false, false, false, false, false, false] rfl rfl (by kernel_rfl) (fun _ _ _ h => h) (Or.inl ⟨by rfl, ?_⟩) ?_ ?_
      rotate_left
      · intro w'
        go_simp
        with_reducible rfl
      rotate_left
      · simp only [Act.put, List.setIfInBounds_toArray, List.set_cons_zero, List.set_cons_succ, i64_w, i32_w]
        rfl
      refine take_ (i := 18) (N := some 112) (v := ?_) (a' := ?_) #[true, true, true, true, true, true, true, true, true, true, true, true, true, true, true, true, true, true, true, false, false, false, false, false, false, false, false, false, false, false, false, false, false, false, false] rfl rfl (by kernel_rfl) (fun _ _ _ h => h) (Or.inl ⟨by rfl, ?_⟩) hHeld ?_ ?_
      rotate_left
      · rintro w' ⟨s0, s1, s2, s3, s4, s5, s6, s7, s8, s9, s10, s11⟩
        go_simp
        with_reducible rfl
      rotate_left
      · simp only [Act.put, List.setIfInBounds_toArray, List.set_cons_zero, List.set_cons_succ, i64_w, i32_w]
        rfl
      refine pure_ (i := 19) (N := some 113) (v := ?_) (a' := ?_) #[true, true, true, true, true, true, true, true, true, true, true, true, true, true, true, true, true, true, true, true, false, false, false, false, false, false, false, false, false, false, false, false, false, false, false] rfl rfl (by kernel_rfl) (fun _ _ _ h => h) (Or.inl ⟨by rfl, ?_⟩) ?_ ?_
      rotate_left
      · intro w'
        go_simp
        with_reducible rfl
      rotate_left
      · simp only [Act.put, List.setIfInBounds_toArray, List.set_cons_zero, List.set_cons_succ, i64_w, i32_w]
        rfl
      refine pure_ (i := 20) (N := some 114) (v := ?_) (a' := ?_) #[true, true, true, true, true, true, true, true, true, true, true, true, true, true, true, true, true, true, true, true, true, false, false, false, false, false, false, false, false, false, false, false, false, false, false] rfl rfl (by kernel_rfl) (fun _ _ _ h => h) (Or.inl ⟨by rfl, ?_⟩) ?_ ?_
      rotate_left
      · intro w'
        go_simp
        with_reducible rfl
      rotate_left
      · simp only [Act.put, List.setIfInBounds_toArray, List.set_cons_zero, List.set_cons_succ, i64_w, i32_w]
        rfl
      refine pure_ (i := 21) (N := some 115) (v := ?_) (a' := ?_) #[true, true, true, true, true, true, true, true, true, true, true, true, true, true, true, true, true, true, true, true, true, true, false, false, false, false, false, false, false, false, false, false, false, false, false] rfl rfl (by kernel_rfl) (fun _ _ _ h => h) (Or.inl ⟨by rfl, ?_⟩) ?_ ?_
      rotate_left
      · intro w'
        go_simp
        with_reducible rfl
      rotate_left
      · simp only [Act.put, List.setIfInBounds_toArray, List.set_cons_zero, List.set_cons_succ, i64_w, i32_w]
        rfl
      refine pure_ (i := 22) (N := some 116) (v := ?_) (a' := ?_) #[true, true, true, true, true, true, true, true, true, true, true, true, true, true, true, true, true, true, true, true, true, true, true, false, false, false, false, false, false, false, false, false, false, false, false] rfl rfl (by kernel_rfl) (fun _ _ _ h => h) (Or.inl ⟨by rfl, ?_⟩) ?_ ?_
      rotate_left
      · intro w'
        go_simp
        with_reducible rfl
      rotate_left
      · simp only [Act.put, List.setIfInBounds_toArray, List.set_cons_zero, List.set_cons_succ, i64_w, i32_w]
        rfl
      refine pure_ (i := 23) (N := some 117) (v := ?_) (a' := ?_) #[true, true, true, true, true, true, true, true, true, true, true, true, true, true, true, true, true, true, true, true, true, true, true, true, false, false, false, false, false, false, false, false, false, false, false] rfl rfl (by kernel_rfl) (fun _ _ _ h => h) (Or.inl ⟨by rfl, ?_⟩) ?_ ?_
      rotate_left
      · intro w'
        go_simp
        with_reducible rfl
      rotate_left
      · simp only [Act.put, List.setIfInBounds_toArray, List.set_cons_zero, List.set_cons_succ, i64_w, i32_w]
        rfl
      refine pure_ (i := 25) (N := some 119) (v := ?_) (a' := ?_) #[true, true, true, true, true, true, true, true, true, true, true, true, true, true, true, true, true, true, true, true, true, true, true, true, false, true, false, false, false, false, false, false, false, false, false] rfl rfl (by kernel_rfl) (fun _ _ _ h => h) (Or.inl ⟨by rfl, ?_⟩) ?_ ?_
      rotate_left
      · intro w'
        go_simp
        with_reducible rfl
      rotate_left
      · simp only [Act.put, List.setIfInBounds_toArray, List.set_cons_zero, List.set_cons_succ, i64_w, i32_w]
        rfl
      refine take_ (i := 24) (N := some 118) (v := ?_) (a' := ?_) #[true, true, true, true, true, true, true, true, true, true, true, true, true, true, true, true, true, true, true, true, true, true, true, true, true, true, false, false, false, false, false, false, false, false, false] rfl rfl (by kernel_rfl) (fun _ _ _ h => h) (Or.inl ⟨by rfl, ?_⟩) hHeld ?_ ?_
      rotate_left
      · rintro w' ⟨s0, s1, s2, s3, s4, s5, s6, s7, s8, s9, s10, s11⟩
        go_simp
        with_reducible rfl
      rotate_left
      · simp only [Act.put, List.setIfInBounds_toArray, List.set_cons_zero, List.set_cons_succ, i64_w, i32_w]
        rfl
      refine take_ (i := 26) (N := some 120) (v := ?_) (a' := ?_) #[true, true, true, true, true, true, true, true, true, true, true, true, true, true, true, true, true, true, true, true, true, true, true, true, true, true, true, false, false, false, false, false, false, false, false] rfl rfl (by kernel_rfl) (fun _ _ _ h => h) (Or.inl ⟨by rfl, ?_⟩) hHeld ?_ ?_
      rotate_left
      · rintro w' ⟨s0, s1, s2, s3, s4, s5, s6, s7, s8, s9, s10, s11⟩
        go_simp
        with_reducible rfl
      rotate_left
      · simp only [Act.put, List.setIfInBounds_toArray, List.set_cons_zero, List.set_cons_succ, i64_w, i32_w]
        rfl
      refine pure_ (i := 27) (N := some 121) (v := ?_) (a' := ?_) #[true, true, true, true, true, true, true, true, true, true, true, true, true, true, true, true, true, true, true, true, true, true, true, true, true, true, true, true, false, false, false, false, false, false, false] rfl rfl (by kernel_rfl) (fun _ _ _ h => h) (Or.inl ⟨by rfl, ?_⟩) ?_ ?_
      rotate_left
      · intro w'
        go_simp
        with_reducible rfl
      rotate_left
      · simp only [Act.put, List.setIfInBounds_toArray, List.set_cons_zero, List.set_cons_succ, i64_w, i32_w]
        rfl
      refine pure_ (i := 28) (N := some 122) (v := ?_) (a' := ?_) #[true, true, true, true, true, true, true, true, true, true, true, true, true, true, true, true, true, true, true, true, true, true, true, true, true, true, true, true, true, false, false, false, false, false, false] rfl rfl (by kernel_rfl) (fun _ _ _ h => h) (Or.inl ⟨by rfl, ?_⟩) ?_ ?_
      rotate_left
      · intro w'
        go_simp
        with_reducible rfl
      rotate_left
      · simp only [Act.put, List.setIfInBounds_toArray, List.set_cons_zero, List.set_cons_succ, i64_w, i32_w]
        rfl
      refine pure_ (i := 29) (N := some 123) (v := ?_) (a' := ?_) #[true, true, true, true, true, true, true, true, true, true, true, true, true, true, true, true, true, true, true, true, true, true, true, true, true, true, true, true, true, true, false, false, false, false, false] rfl rfl (by kernel_rfl) (fun _ _ _ h => h) (Or.inl ⟨by rfl, ?_⟩) ?_ ?_
      rotate_left
      · intro w'
        go_simp
        with_reducible rfl
      rotate_left
      · simp only [Act.put, List.setIfInBounds_toArray, List.set_cons_zero, List.set_cons_succ, i64_w, i32_w]
        rfl
      refine take_ (i := 30) (N := some 124) (v := ?_) (a' := ?_) #[true, true, true, true, true, true, true, true, true, true, true, true, true, true, true, true, true, true, true, true, true, true, true, true, true, true, true, true, true, true, true, false, false, false, false] rfl rfl (by kernel_rfl) (fun _ _ _ h => h) (Or.inl ⟨by rfl, ?_⟩) hHeld ?_ ?_
      rotate_left
      · rintro w' ⟨s0, s1, s2, s3, s4, s5, s6, s7, s8, s9, s10, s11⟩
        go_simp
        with_reducible rfl
      rotate_left
      · simp only [Act.put, List.setIfInBounds_toArray, List.set_cons_zero, List.set_cons_succ, i64_w, i32_w]
        rfl
      refine take_ (i := 31) (N := some 125) (v := ?_) (a' := ?_) #[true, true, true, true, true, true, true, true, true, true, true, true, true, true, true, true, true, true, true, true, true, true, true, true, true, true, true, true, true, true, true, true, false, false, false] rfl rfl (by kernel_rfl) (fun _ _ _ h => h) (Or.inl ⟨by rfl, ?_⟩) hHeld ?_ ?_
      rotate_left
      · rintro w' ⟨s0, s1, s2, s3, s4, s5, s6, s7, s8, s9, s10, s11⟩
        go_simp
        with_reducible rfl
      rotate_left
      · simp only [Act.put, List.setIfInBounds_toArray, List.set_cons_zero, List.set_cons_succ, i64_w, i32_w]
        rfl
      refine pure_ (i := 32) (N := some 126) (v := ?_) (a' := ?_) #[true, true, true, true, true, true, true, true, true, true, true, true, true, true, true, true, true, true, true, true, true, true, true, true, true, true, true, true, true, true, true, true, true, false, false] rfl rfl (by kernel_rfl) (fun _ _ _ h => h) (Or.inl ⟨by rfl, ?_⟩) ?_ ?_
      rotate_left
      · intro w'
        go_simp
        with_reducible rfl
      rotate_left
      · simp only [Act.put, List.setIfInBounds_toArray, List.set_cons_zero, List.set_cons_succ, i64_w, i32_w]
        rfl
      refine pure_ (i := 33) (N := some 127) (v := ?_) (a' := ?_) #[true, true, true, true, true, true, true, true, true, true, true, true, true, true, true, true, true, true, true, true, true, true, true, true, true, true, true, true, true, true, true, true, true, true, false] rfl rfl (by kernel_rfl) (fun _ _ _ h => h) (Or.inl ⟨by rfl, ?_⟩) ?_ ?_
      rotate_left
      · intro w'
        go_simp
        with_reducible rfl
      rotate_left
      · simp only [Act.put, List.setIfInBounds_toArray, List.set_cons_zero, List.set_cons_succ, i64_w, i32_w]
        rfl
      refine pure_ (i := 34) (N := some 4) (v := ?_) (a' := ?_) #[true, true, true, true, true, true, true, true, true, true, true, true, true, true, true, true, true, true, true, true, true, true, true, true, true, true, true, true, true, true, true, true, true, true, true] rfl rfl (by kernel_rfl) (fun _ _ _ h => h) (Or.inl ⟨by rfl, ?_⟩) ?_ ?_
      rotate_left
      · intro w'
        go_simp
        with_reducible rfl
      rotate_left
      · simp only [Act.put, List.setIfInBounds_toArray, List.set_cons_zero, List.set_cons_succ, i64_w, i32_w]
        rfl
      refine done_ (by kernel_rfl) ?_
      go_wp2
      first | go_ret | go_ret2
      exact ⟨by first | rfl | simp, below_drew B20.out⟩
end Go.Proofs.YtegbfimfpkendaaDoor.PbL
