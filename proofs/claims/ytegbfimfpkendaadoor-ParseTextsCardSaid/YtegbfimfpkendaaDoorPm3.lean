/- The walk of the reference's Text. No condition but the file's lengths (seventy tasks, two hundred operations). The walk of ParseTexts: it returns true. Conditions: the tables are laid. -/
import Derived.Test.YtegbfimfpkendaaDoorPm2
import Derived.Test.YtegbfimfpkendaaDoorPbS
namespace Go.Proofs.YtegbfimfpkendaaDoor.PbP
open Go.RowKit Go.Proofs.YtegbfimfpkendaaDoorW.PrintWords Go.Proofs.YtegbfimfpkendaaDoorW.PrintLast Go.Proofs.YtegbfimfpkendaaDoorW.PrintMore LexS LexB PaA LexBox PaC PaD PaB PaE PaF PaG PaH PaL PaM PaN PaQ PaS PaT PaU PaV PaW PaX PaY PaZ PbA PbB PaP PbC PbS PbF PbG PbH PbI PbJ
set_option linter.unusedVariables false
set_option linter.unusedSimpArgs false
theorem name_i (ii : Int) (k : Nat) (nm : List UInt8) (h : ii = (k : Int)) (hk : k < 10) (hn : namesT.getD k [] = nm) (w : World) : Calls Tryd.prog 30 #[.int .i64 ii] w fun e w' => e = .returned (.string ⟨nm.toArray⟩) ∧ Below w.heap.size w w' := by
  subst h hn
  exact name_ref k hk w
theorem text_m (v : Int) (l : List UInt8) (h : 0 ≤ v) (hv : v ≤ 9223372036854775807) (hl : dig v = l) (w : World) : Calls Tryd.prog 17 #[.int .i64 v] w fun e w' => e = .returned (.string ⟨l.toArray⟩) ∧ Below w.heap.size w w' := by
  obtain ⟨u, rfl⟩ := Int.eq_ofNat_of_zero_le h
  subst hl
  exact text_ref u (by omega) w
theorem dig_len (v : Int) (h : PaP.inI v) : (dig (mx0 v)).length ≤ 21 := by
  unfold mx0
  split
  · rw [show dig 0 = Lib.decDigits 0 from rfl, NumT.digits_small 0 (by decide)]
    decide
  · have h1 := numB_len h
    have e : Lib.itoa v = dig v := by unfold Lib.itoa dig; rw [if_neg (by omega)]
    simp only [numB, e, List.length_cons] at h1
    omega
theorem mx0_in (v : Int) (h : PaP.inI v) : 0 ≤ mx0 v ∧ mx0 v ≤ 9223372036854775807 := by
  have h1 := h.2
  unfold mx0
  split <;> omega
theorem name_len (k : Nat) : (namesT.getD k []).length ≤ 8 := by
  by_cases hk : k < 10
  · have : k = 0 ∨ k = 1 ∨ k = 2 ∨ k = 3 ∨ k = 4 ∨ k = 5 ∨ k = 6 ∨ k = 7 ∨ k = 8 ∨ k = 9 := by omega
    rcases this with rfl | rfl | rfl | rfl | rfl | rfl | rfl | rfl | rfl | rfl <;> decide
  · rw [List.getD_eq_getElem?_getD, List.getElem?_eq_none (by simp [namesT]; omega)]
    simp
theorem put10 {w0 w : World} {o base : Nat} {t : TypeId} {a0 a1 a2 a3 a4 a5 a6 a7 a8 a9 : Value} (u0 u1 u2 u3 u4 u5 u6 u7 u8 u9 : Value) (h : w.heap[o]? = some (.cells #[a0, a1, a2, a3, a4, a5, a6, a7, a8, a9] t (0, 0))) (hB : Below base w0 w) (ho : base ≤ o) :
    ∃ W, W = ((((((((((w.setCell ⟨o, 0, none⟩ u0).setCell ⟨o, 1, none⟩ u1).setCell ⟨o, 2, none⟩ u2).setCell ⟨o, 3, none⟩ u3).setCell ⟨o, 4, none⟩ u4).setCell ⟨o, 5, none⟩ u5).setCell ⟨o, 6, none⟩ u6).setCell ⟨o, 7, none⟩ u7).setCell ⟨o, 8, none⟩ u8).setCell ⟨o, 9, none⟩ u9) ∧ W.heap[o]? = some (.cells #[u0, u1, u2, u3, u4, u5, u6, u7, u8, u9] t (0, 0)) ∧ Below base w0 W :=
  ⟨_, rfl, set10 u0 u1 u2 u3 u4 u5 u6 u7 u8 u9 h, ((((((((((hB.setCell ho u0).setCell ho u1).setCell ho u2).setCell ho u3).setCell ho u4).setCell ho u5).setCell ho u6).setCell ho u7).setCell ho u8).setCell ho u9)⟩
theorem int_get {w : World} {A : Option Addr} {n : Nat} {xs : List Int} {b c : Nat} {ok : Nat → Prop} (h : (Kd.int .i64).R 3 w b ok (.slice A n c) xs) (j : Nat) (hj : j < xs.length) : ∃ ad : Addr, A = some ad ∧ w.cell? (ad.add j) = some (.int .i64 (xs.getD j 0)) := by
  obtain ⟨hn, hc, hC⟩ := Kd.R_reads' h
  obtain ⟨ad, cs, e, hl, hK, hcc⟩ := Kd.C_get hC 0 (j : Int) (by omega) (by omega)
  have hk : cs = [.int .i64 (xs.getD j 0)] := hK
  subst hk
  have h0 := hcc 0 _ rfl
  rw [Int.toNat_natCast, show (Kd.int .i64).sz = 1 from rfl, Nat.mul_one, Nat.add_zero] at h0
  exact ⟨ad, e, h0⟩
theorem dig_len2 (v : Int) (h : 0 ≤ v ∧ v ≤ 1048576) : (dig v).length ≤ 21 := by
  unfold dig
  exact dec_len _ (by omega)
theorem line_len (o : Opn) : (lineP o).1.length ≤ 200 := by
  obtain ⟨k, a, b, c, d⟩ := o
  unfold lineP
  by_cases hr : inR ⟨k, a, b, c, d⟩
  rotate_left
  · rw [if_neg hr]; simp
  rw [if_pos hr]
  simp only [inR] at hr
  have ha := dig_len2 a ⟨hr.1.1, hr.2.1⟩
  have hb := dig_len2 b ⟨hr.1.2.1, hr.2.2.1⟩
  have hc := dig_len2 c ⟨hr.1.2.2.1, hr.2.2.2.1⟩
  have hd := dig_len2 d ⟨hr.1.2.2.2, hr.2.2.2.2⟩
  simp only
  unfold lineT
  (repeat' split) <;> simp only [List.length_append, List.length_cons, List.length_nil] <;> omega
theorem take_snoc {α : Type} (l : List α) (k : Nat) (d : α) (h : k < l.length) : l.take (k + 1) = l.take k ++ [l.getD k d] := by
  rw [List.take_succ_eq_append_getElem h]
  simp [List.getD_eq_getElem?_getD, h]
theorem getD_mem {α : Type} (l : List α) (k : Nat) (d : α) (h : k < l.length) : l.getD k d ∈ l := by
  rw [List.getD_eq_getElem?_getD, List.getElem?_eq_getElem h]
  exact List.getElem_mem h
attribute [local go_sem] max2_int min2_int max_two min_two max_three min_three max_four min_four
set_option maxHeartbeats 4000000 in
set_option maxRecDepth 100000 in
theorem reft_calls (c0 c1 c2 c3 c4 c5 c6 c7 c8 c9 : Int) (tasks : List Tk) (ops : List Opn) (AT AO : Option Addr) (cT cO : Nat) (w : World) (hT : kTk.C w AT tasks.length tasks) (hTc : tasks.length ≤ cT) (hO : kOp.C w AO ops.length ops) (hOc : ops.length ≤ cO) (hI : FIn ⟨[c0, c1, c2, c3, c4, c5, c6, c7, c8, c9], tasks, ops⟩) (h70 : tasks.length ≤ 70 ∧ ops.length ≤ 200) (r : List UInt8 × Int) (hr : refT ⟨[c0, c1, c2, c3, c4, c5, c6, c7, c8, c9], tasks, ops⟩ = r) :
    Calls Tryd.prog 15 #[.agg #[.int .i64 c0, .int .i64 c1, .int .i64 c2, .int .i64 c3, .int .i64 c4, .int .i64 c5, .int .i64 c6, .int .i64 c7, .int .i64 c8, .int .i64 c9, .slice AT tasks.length cT, .slice AO ops.length cO]] w fun e w' => e = .returned (.tuple #[.string ⟨r.1.toArray⟩, .int .i64 r.2]) ∧ Below w.heap.size w w' := by
  have HT := Aside0.mk hT
  have HO := Aside0.mk hO
  have HI := Aside0.mk hI
  have H70 := Aside0.mk h70
  have HR := Aside0.mk hr
  clear hT hTc hO hOc hI h70 hr
  go_enter Tryd.func15, Tryd.ntmps15
  go_upto_region 1 with (first
    | ((with_reducible refine gate_dst (N := 1) rfl ?_); (try (refine gate_guard (by rfl) ?_; dsimp only)); refine box_event ?hg (N := 1) ?hd (cs := #[.int .i64 c0, .int .i64 c1, .int .i64 c2, .int .i64 c3, .int .i64 c4, .int .i64 c5, .int .i64 c6, .int .i64 c7, .int .i64 c8, .int .i64 c9, .slice AT tasks.length cT, .slice AO ops.length cO]) (t := 33) ?hr ?_; (case hd => rfl); (case hg => rfl); (case hr => first | (go_simp; done) | (go_simp; rfl)); intro F hg w1 hbox hb; have FX := Aside0.mk hbox; have FB := Aside0.mk hb; have FG := Aside0.mk (Nat.le_of_eq hg.symm); clear hbox hb hg))
  obtain ⟨x0, x1, x2, x3, x4, x5, x6, x7, x8, x9, x10, x11, -, -, -, -, -, -, -, -, -, -, -, -⟩ := cells12 FX.out
  go_upto_region 2 with (first
    | ((with_reducible refine gate_dst (N := 4) rfl ?_); (try (refine gate_guard (by rfl) ?_; dsimp only)); refine box_event ?hg (N := 4) ?hd (cs := #[.int .i64 0, .int .i64 0, .int .i64 0, .int .i64 0, .int .i64 0, .int .i64 0, .int .i64 0, .int .i64 0, .int .i64 0, .int .i64 0]) (t := 25) ?hr ?_; (case hd => rfl); (case hg => rfl); (case hr => first | (go_simp; done) | (go_simp; rfl)); intro C hg w2 hbox hb; have CX := Aside0.mk hbox; have CB := Aside0.mk hb; have CG := Aside0.mk (Nat.le_of_eq hg.symm); obtain ⟨z0, z1, z2, z3, z4, z5, z6, z7, z8, z9, y0, y1, y2, y3, y4, y5, y6, y7, y8, y9⟩ := cells10 hbox; clear hbox hb hg))
  obtain ⟨w3, hw, hX, hBx⟩ := put10 (.int .i64 c0) (.int .i64 c1) (.int .i64 c2) (.int .i64 c3) (.int .i64 c4) (.int .i64 c5) (.int .i64 c6) (.int .i64 c7) (.int .i64 c8) (.int .i64 c9) CX.out CB.out CG.out
  rw [← hw]
  have C3 := Aside0.mk hX
  have B3 := Aside0.mk (below_step FB.out hBx)
  have F3 := Aside0.mk (blk_below FX.out hBx)
  clear hw hX hBx CX CB CG z0 z1 z2 z3 z4 z5 z6 z7 z8 z9 y0 y1 y2 y3 y4 y5 y6 y7 y8 y9 x0 x1 x2 x3 x4 x5 x6 x7 x8 x9 x10 x11
  obtain ⟨z0, z1, z2, z3, z4, z5, z6, z7, z8, z9, -, -, -, -, -, -, -, -, -, -⟩ := cells10 C3.out
  go_upto_region 3 with (first
    | ((with_reducible refine gate_dst (N := 38) rfl ?_); refine Kd.R_lit (Kd.int .i64) _ 3 ?hg (N := 38) ?hd (xs := ([c0, c1, c2, c3, c4, c5, c6, c7, c8, c9] : List Int)) (inner := [.int .i64 c0, .int .i64 c1, .int .i64 c2, .int .i64 c3, .int .i64 c4, .int .i64 c5, .int .i64 c6, .int .i64 c7, .int .i64 c8, .int .i64 c9]) (ok := fun _ => True) (okp := fun _ => True) ?hr ?hp (fun _ hk => hk) trivial (Below.refl _ _) (Nat.le_refl _) (by simp) ?_; (case hd => rfl); (case hg => rfl); (case hr => first | (go_simp; done) | (go_simp; rfl)); (case hp => exact (Reps.one (show Kd.M (Kd.int .i64) _ _ _ c0 [.int .i64 c0] from rfl) (Reps.one (show Kd.M (Kd.int .i64) _ _ _ c1 [.int .i64 c1] from rfl) (Reps.one (show Kd.M (Kd.int .i64) _ _ _ c2 [.int .i64 c2] from rfl) (Reps.one (show Kd.M (Kd.int .i64) _ _ _ c3 [.int .i64 c3] from rfl) (Reps.one (show Kd.M (Kd.int .i64) _ _ _ c4 [.int .i64 c4] from rfl) (Reps.one (show Kd.M (Kd.int .i64) _ _ _ c5 [.int .i64 c5] from rfl) (Reps.one (show Kd.M (Kd.int .i64) _ _ _ c6 [.int .i64 c6] from rfl) (Reps.one (show Kd.M (Kd.int .i64) _ _ _ c7 [.int .i64 c7] from rfl) (Reps.one (show Kd.M (Kd.int .i64) _ _ _ c8 [.int .i64 c8] from rfl) (Reps.one (show Kd.M (Kd.int .i64) _ _ _ c9 [.int .i64 c9] from rfl) (Reps.none _ _)))))))))))); intro v38 w4 ho hb hg_ hnew_; clear hg_ hnew_; have LR := Aside0.mk ho; have LB := Aside0.mk hb; clear ho hb))
  clear z0 z1 z2 z3 z4 z5 z6 z7 z8 z9
  obtain ⟨AL, cL, rfl⟩ := Kd.R_slice LR.out
  have F4 := Aside0.mk (blk_below F3.out LB.out)
  have B4 := Aside0.mk (below_step B3.out LB.out)
  obtain ⟨vs, hvs⟩ : ∃ l : List Int, l = [c0, c1, c2, c3, c4, c5, c6, c7, c8, c9] := ⟨_, rfl⟩
  have VL := Aside0.mk (show vs.length = 10 by rw [hvs]; rfl)
  have LR4 := Aside0.mk (show (Kd.int .i64).R 3 w4 w3.heap.size (fun _ => True) (.slice AL 10 cL) vs by rw [hvs]; exact LR.out)
  have HIV := Aside0.mk (show ∀ v ∈ vs, PaP.inI v by rw [hvs]; exact HI.out.cfg)
  have HRV := Aside0.mk (show refT ⟨vs, tasks, ops⟩ = r by rw [hvs]; exact HR.out)
  clear hvs LR LB HR
  obtain ⟨-, -, -, -, -, -, -, -, -, -, x10, x11, -, -, -, -, -, -, -, -, -, -, -, -⟩ := cells12 F4.out
  have ko : decide (ops.length ≤ 4096) = true := decide_eq_true (by have := H70.out; omega)
  have ko2 : decide ((ops.length : Int) ≤ 4096) = true := decide_eq_true (by have := H70.out; omega)
  by_cases h64 : tasks.length ≤ 64

  · have kt : decide (tasks.length ≤ 64) = true := decide_eq_true h64
    have kt2 : decide ((tasks.length : Int) ≤ 64) = true := decide_eq_true (by omega)
    have H64 := Aside0.mk h64
    clear h64
    go_upto_region 6 with (fail)
    clear kt kt2 ko ko2 x10 x11
    have hc0 : configB.length = 6 := rfl
    go_loopg [6, 7, 8] 10 (fun gg s6 s7 s8 wr => ∃ (kk : Nat) (X : List UInt8) (b : Bool), kk ≤ 10 ∧ 10 - kk ≤ gg ∧ s8 = .int .i64 kk ∧ s7 = .string ⟨X.toArray⟩ ∧ s6 = .bool b ∧ Aside0 (X = configB ++ cfgU 0 (vs.take kk)) ∧ Aside0 (b = (true && (vs.take kk).all okN)) ∧ Aside0 (X.length ≤ 6 + 40 * kk) ∧ Aside0 (Below w4.heap.size w4 wr))
    case atStart => exact ⟨0, configB, true, by omega, by omega, rfl, rfl, rfl, ⟨by simp [cfgU]⟩, ⟨by simp⟩, ⟨by omega⟩, ⟨Below.refl _ _⟩⟩
    case round =>
      clear hc0
      obtain ⟨kk, X, b, hkk, hg, rfl, rfl, rfl, HX, HB_, HXL, BR⟩ := hrel
      obtain ⟨ii, hii⟩ : ∃ n : Int, n = (kk : Int) := ⟨_, rfl⟩
      rw [← hii]
      by_cases hlt : kk < 10
      · have e7 : decide (ii < 10) = true := decide_eq_true (by omega)
        have p1 := eq_true (show (0 : Int) ≤ ii by omega)
        have q1 := eq_true (show ii < 10 by omega)
        obtain ⟨ad, ead, u0⟩ := int_get (Kd.R_below LR4.out BR.out) kk (by rw [VL.out]; exact hlt)
        subst ead
        obtain ⟨v, hv⟩ : ∃ v, vs.getD kk 0 = v := ⟨_, rfl⟩
        have HV := Aside0.mk hv
        have VIN := Aside0.mk (show PaP.inI v by rw [← hv]; exact HIV.out _ (getD_mem vs kk 0 (by rw [VL.out]; exact hlt)))
        have UB := Aside0.mk (show (ad.add ii.toNat).block < wr.heap.size by
          have h1 : wr.cell? (ad.add kk) = some (.int .i64 v) := by rw [← hv]; exact u0
          have h2 : (ad.add ii.toNat) = ad.add kk := by rw [hii, Int.toNat_natCast]
          rw [h2]
          unfold World.cell? at h1
          cases hh : wr.heap[(ad.add kk).block]? with
          | none => rw [hh] at h1; simp at h1
          | some ob => exact blk_lt hh)
        rw [hv, show kk = ii.toNat by omega] at u0
        have U0 := Aside0.mk u0
        obtain ⟨nm, hnm⟩ : ∃ l, namesT.getD kk [] = l := ⟨_, rfl⟩
        have NML := Aside0.mk (show nm.length ≤ 8 by rw [← hnm]; exact name_len kk)
        obtain ⟨mv, hmv⟩ : ∃ m, (if v < 0 then 0 else v) = m := ⟨_, rfl⟩
        obtain ⟨dg, hdg⟩ : ∃ l, dig mv = l := ⟨_, rfl⟩
        have MV := Aside0.mk (show 0 ≤ mv ∧ mv ≤ 9223372036854775807 by rw [← hmv]; exact mx0_in v VIN.out)
        have DGL := Aside0.mk (show dg.length ≤ 21 by rw [← hdg, ← hmv]; exact dig_len v VIN.out)
        have PU := Aside0.mk (show pieceU kk v = (([32] ++ nm) ++ [32]) ++ dg by rw [← hnm, ← hdg, ← hmv]; rfl)
        have HDG := Aside0.mk hdg
        have HNM := Aside0.mk hnm
        have HII := Aside0.mk hii
        have HLT := Aside0.mk hlt
        have HG := Aside0.mk hg
        have hxl := HXL.out
        have hnl := NML.out
        have hdl := DGL.out
        have h32 : ([32] : List UInt8).length = 1 := rfl
        obtain ⟨Y1, hY1⟩ : ∃ X_, X_ = (X : List UInt8) ++ [32] := ⟨_, rfl⟩
        have hl1 : Y1.length = X.length + ([32] : List UInt8).length := by rw [hY1, List.length_append]
        have a1 : ∀ W : World, (Op.stringOp .add (⟨(X : List UInt8).toArray⟩ : ByteArray) ⟨([32] : List UInt8).toArray⟩).run Tryd.prog W = .ok (.string ⟨Y1.toArray⟩) W := by rw [hY1]; exact add_lit _ _ (by omega)
        obtain ⟨Y2, hY2⟩ : ∃ X_, X_ = (Y1 : List UInt8) ++ nm := ⟨_, rfl⟩
        have hl2 : Y2.length = Y1.length + (nm : List UInt8).length := by rw [hY2, List.length_append]
        have a2 : ∀ W : World, (Op.stringOp .add (⟨(Y1 : List UInt8).toArray⟩ : ByteArray) ⟨(nm : List UInt8).toArray⟩).run Tryd.prog W = .ok (.string ⟨Y2.toArray⟩) W := by rw [hY2]; exact add_lit _ _ (by omega)
        obtain ⟨Y3, hY3⟩ : ∃ X_, X_ = (Y2 : List UInt8) ++ [32] := ⟨_, rfl⟩
        have hl3 : Y3.length = Y2.length + ([32] : List UInt8).length := by rw [hY3, List.length_append]
        have a3 : ∀ W : World, (Op.stringOp .add (⟨(Y2 : List UInt8).toArray⟩ : ByteArray) ⟨([32] : List UInt8).toArray⟩).run Tryd.prog W = .ok (.string ⟨Y3.toArray⟩) W := by rw [hY3]; exact add_lit _ _ (by omega)
        obtain ⟨Y4, hY4⟩ : ∃ X_, X_ = (Y3 : List UInt8) ++ dg := ⟨_, rfl⟩
        have hl4 : Y4.length = Y3.length + (dg : List UInt8).length := by rw [hY4, List.length_append]
        have a4 : ∀ W : World, (Op.stringOp .add (⟨(Y3 : List UInt8).toArray⟩ : ByteArray) ⟨(dg : List UInt8).toArray⟩).run Tryd.prog W = .ok (.string ⟨Y4.toArray⟩) W := by rw [hY4]; exact add_lit _ _ (by omega)
        have XN := Aside0.mk (show Y4 = configB ++ cfgU 0 (vs.take (kk + 1)) by rw [hY4, hY3, hY2, hY1, HX.out, take_snoc vs kk 0 (by rw [VL.out]; exact hlt), hv, cfgU_snoc, List.length_take, VL.out, Nat.min_eq_left hkk, Nat.zero_add, PU.out]; simp)
        have XNL := Aside0.mk (show Y4.length ≤ 6 + 40 * (kk + 1) by omega)
        have BN := Aside0.mk (show (b && okN v) = (true && (vs.take (kk + 1)).all okN) by rw [HB_.out, take_snoc vs kk 0 (by rw [VL.out]; exact hlt), hv, List.all_append]; simp [Bool.and_assoc])
        have EW : wrap64 (ii + 1) = ((kk + 1 : Nat) : Int) := by unfold wrap64; omega
        clear hY1 hY2 hY3 hY4 hl1 hl2 hl3 hl4 hxl hnl hdl h32 hdg hnm hii hlt hg hkk hv
        go_upto_region 9 with (first
          | (go_at_call 29; refine (right_ref v _).mono ?_; rintro e' wa ⟨rfl, hb⟩; have Ewa := Aside0.mk (below_step (Below.refl _ _) hb); clear hb))
        clear u0
        cases b with
        | false =>
          go_upto_region 10 with (fail)
          refine start_ (n := 14) (S := fun w' => w'.cell? (ad.add ii.toNat) = some (.int .i64 v)) (ds := []) #[false, false, false, false, false, false, false, false, false, false, false, false, false, false] (by kernel_rfl) rfl rfl ((((below_drew Ewa.out).cell UB.out).trans U0.out)) (fun hHeld => ?_)
          refine pure_ (i := 0) (N := some 62) (v := ?_) (a' := ?_) #[true, false, false, false, false, false, false, false, false, false, false, false, false, false] rfl rfl (by kernel_rfl) (fun _ _ _ h => h) (Or.inl ⟨by rfl, ?_⟩) ?_ ?_
          rotate_left
          · intro w'
            go_simp
            with_reducible rfl
          rotate_left
          · simp only [Act.put, List.setIfInBounds_toArray, List.set_cons_zero, List.set_cons_succ, i64_w, i32_w]
            rfl
          refine pure_ (i := 1) (N := some 63) (v := ?_) (a' := ?_) #[true, true, false, false, false, false, false, false, false, false, false, false, false, false] rfl rfl (by kernel_rfl) (fun _ _ _ h => h) (Or.inl ⟨by rfl, ?_⟩) ?_ ?_
          rotate_left
          · intro w'
            go_simp
            with_reducible rfl
          rotate_left
          · simp only [Act.put, List.setIfInBounds_toArray, List.set_cons_zero, List.set_cons_succ, i64_w, i32_w]
            rfl
          refine pure_ (i := 2) (N := some 64) (v := ?_) (a' := ?_) #[true, true, true, false, false, false, false, false, false, false, false, false, false, false] rfl rfl (by kernel_rfl) (fun _ _ _ h => h) (Or.inl ⟨by rfl, ?_⟩) ?_ ?_
          rotate_left
          · intro w'
            go_simp
            with_reducible rfl
          rotate_left
          · simp only [Act.put, List.setIfInBounds_toArray, List.set_cons_zero, List.set_cons_succ, i64_w, i32_w]
            rfl
          refine pure_ (i := 6) (N := some 68) (v := ?_) (a' := ?_) #[true, true, true, false, false, false, true, false, false, false, false, false, false, false] rfl rfl (by kernel_rfl) (fun _ _ _ h => h) (Or.inl ⟨by rfl, ?_⟩) ?_ ?_
          rotate_left
          · intro w'
            go_simp
            with_reducible rfl
          rotate_left
          · simp only [Act.put, List.setIfInBounds_toArray, List.set_cons_zero, List.set_cons_succ, i64_w, i32_w]
            rfl
          refine pure_ (i := 7) (N := some 69) (v := ?_) (a' := ?_) #[true, true, true, false, false, false, true, true, false, false, false, false, false, false] rfl rfl (by kernel_rfl) (fun _ _ _ h => h) (Or.inl ⟨by rfl, ?_⟩) ?_ ?_
          rotate_left
          · intro w'
            go_simp
            with_reducible rfl
          rotate_left
          · simp only [Act.put, List.setIfInBounds_toArray, List.set_cons_zero, List.set_cons_succ, i64_w, i32_w]
            rfl
          refine pure_ (i := 8) (N := some 70) (v := ?_) (a' := ?_) #[true, true, true, false, false, false, true, true, true, false, false, false, false, false] rfl rfl (by kernel_rfl) (fun _ _ _ h => h) (Or.inl ⟨by rfl, ?_⟩) ?_ ?_
          rotate_left
          · intro w'
            go_simp
            with_reducible rfl
          rotate_left
          · simp only [Act.put, List.setIfInBounds_toArray, List.set_cons_zero, List.set_cons_succ, i64_w, i32_w]
            rfl
          refine take_ (i := 9) (N := some 71) (v := ?_) (a' := ?_) #[true, true, true, false, false, false, true, true, true, true, false, false, false, false] rfl rfl (by kernel_rfl) (fun _ _ _ h => h) (Or.inl ⟨by rfl, ?_⟩) hHeld ?_ ?_
          rotate_left
          · intro w' s0
            go_simp
            with_reducible rfl
          rotate_left
          · simp only [Act.put, List.setIfInBounds_toArray, List.set_cons_zero, List.set_cons_succ, i64_w, i32_w]
            rfl
          refine pure_ (i := 10) (N := some 72) (v := ?_) (a' := ?_) #[true, true, true, false, false, false, true, true, true, true, true, false, false, false] rfl rfl (by kernel_rfl) (fun _ _ _ h => h) (Or.inl ⟨by rfl, ?_⟩) ?_ ?_
          rotate_left
          · intro w'
            go_simp
            with_reducible rfl
          rotate_left
          · simp only [Act.put, List.setIfInBounds_toArray, List.set_cons_zero, List.set_cons_succ, i64_w, i32_w]
            rfl
          refine one_ (i := 3) (N := some 65) #[true, true, true, true, false, false, true, true, true, true, true, false, false, false] rfl rfl (by kernel_rfl) (by decide) (fun K hK => ?_)
          refine goes_ Tryd.func30 (by kernel_rfl) rfl #[.int .i64 ii] (by rfl) rfl rfl (by simp only [List.map_toArray, List.map_cons, List.map_nil]; rfl) ?_
          refine (name_i ii kk nm HII.out HLT.out HNM.out _).mono ?_
          rintro e' wb ⟨rfl, hb⟩
          refine ⟨_, rfl, ?_⟩
          have Ewb := Aside0.mk (below_step (below_drew Ewa.out) hb)
          clear hb
          refine hK.out _ _ (((Ewb.out.cell UB.out).trans U0.out)) (fun hHeld => ?_)
          clear hK K
          refine norm_ (a' := ?_) ?_ ?_
          rotate_left
          · show Act.put _ (some 65) _ = _
            simp only [Act.put, List.setIfInBounds_toArray, List.set_cons_zero, List.set_cons_succ, i64_w, i32_w]
            rfl
          refine pure_ (i := 4) (N := some 66) (v := ?_) (a' := ?_) #[true, true, true, true, true, false, true, true, true, true, true, false, false, false] rfl rfl (by kernel_rfl) (fun _ _ _ h => h) (Or.inl ⟨by rfl, ?_⟩) ?_ ?_
          rotate_left
          · intro w'
            go_simp
            with_reducible rfl
          rotate_left
          · simp only [Act.put, List.setIfInBounds_toArray, List.set_cons_zero, List.set_cons_succ, i64_w, i32_w]
            rfl
          refine pure_ (i := 5) (N := some 67) (v := ?_) (a' := ?_) #[true, true, true, true, true, true, true, true, true, true, true, false, false, false] rfl rfl (by kernel_rfl) (fun _ _ _ h => h) (Or.inl ⟨by rfl, ?_⟩) ?_ ?_
          rotate_left
          · intro w'
            go_simp
            with_reducible rfl
          rotate_left
          · simp only [Act.put, List.setIfInBounds_toArray, List.set_cons_zero, List.set_cons_succ, i64_w, i32_w]
            rfl
          refine one_ (i := 11) (N := some 73) #[true, true, true, true, true, true, true, true, true, true, true, true, false, false] rfl rfl (by kernel_rfl) (by decide) (fun K hK => ?_)
          refine goes_ Tryd.func17 (by kernel_rfl) rfl #[.int .i64 mv] (by rfl) rfl rfl (by simp only [List.map_toArray, List.map_cons, List.map_nil]; rfl) ?_
          refine (text_m mv dg MV.out.1 MV.out.2 HDG.out _).mono ?_
          rintro e' wc ⟨rfl, hb⟩
          refine ⟨_, rfl, ?_⟩
          have Ewc := Aside0.mk (below_step Ewb.out hb)
          clear hb
          refine hK.out _ _ (((Ewc.out.cell UB.out).trans U0.out)) (fun hHeld => ?_)
          clear hK K
          refine norm_ (a' := ?_) ?_ ?_
          rotate_left
          · show Act.put _ (some 73) _ = _
            simp only [Act.put, List.setIfInBounds_toArray, List.set_cons_zero, List.set_cons_succ, i64_w, i32_w]
            rfl
          refine pure_ (i := 12) (N := some 74) (v := ?_) (a' := ?_) #[true, true, true, true, true, true, true, true, true, true, true, true, true, false] rfl rfl (by kernel_rfl) (fun _ _ _ h => h) (Or.inl ⟨by rfl, ?_⟩) ?_ ?_
          rotate_left
          · intro w'
            go_simp
            with_reducible rfl
          rotate_left
          · simp only [Act.put, List.setIfInBounds_toArray, List.set_cons_zero, List.set_cons_succ, i64_w, i32_w]
            rfl
          refine pure_ (i := 13) (N := some 7) (v := ?_) (a' := ?_) #[true, true, true, true, true, true, true, true, true, true, true, true, true, true] rfl rfl (by kernel_rfl) (fun _ _ _ h => h) (Or.inl ⟨by rfl, ?_⟩) ?_ ?_
          rotate_left
          · intro w'
            go_simp
            with_reducible rfl
          rotate_left
          · simp only [Act.put, List.setIfInBounds_toArray, List.set_cons_zero, List.set_cons_succ, i64_w, i32_w]
            rfl
          refine done_ (by kernel_rfl) ?_
          go_wp2
          go_roundg (10 - (kk + 1))
          case measure => have := HLT.out; have := HG.out; omega
          case rel => exact ⟨kk + 1, Y4, false, by have := HLT.out; omega, by omega, by first | exact congrArg _ EW | simp [EW], rfl, rfl, XN, BN, XNL, ⟨below_step BR.out Ewc.out⟩⟩
        | true =>
          go_upto_region 10 with (fail)
          refine start_ (n := 14) (S := fun w' => w'.cell? (ad.add ii.toNat) = some (.int .i64 v)) (ds := []) #[false, false, false, false, false, false, false, false, false, false, false, false, false, false] (by kernel_rfl) rfl rfl ((((below_drew Ewa.out).cell UB.out).trans U0.out)) (fun hHeld => ?_)
          refine pure_ (i := 0) (N := some 62) (v := ?_) (a' := ?_) #[true, false, false, false, false, false, false, false, false, false, false, false, false, false] rfl rfl (by kernel_rfl) (fun _ _ _ h => h) (Or.inl ⟨by rfl, ?_⟩) ?_ ?_
          rotate_left
          · intro w'
            go_simp
            with_reducible rfl
          rotate_left
          · simp only [Act.put, List.setIfInBounds_toArray, List.set_cons_zero, List.set_cons_succ, i64_w, i32_w]
            rfl
          refine pure_ (i := 1) (N := some 63) (v := ?_) (a' := ?_) #[true, true, false, false, false, false, false, false, false, false, false, false, false, false] rfl rfl (by kernel_rfl) (fun _ _ _ h => h) (Or.inl ⟨by rfl, ?_⟩) ?_ ?_
          rotate_left
          · intro w'
            go_simp
            with_reducible rfl
          rotate_left
          · simp only [Act.put, List.setIfInBounds_toArray, List.set_cons_zero, List.set_cons_succ, i64_w, i32_w]
            rfl
          refine pure_ (i := 2) (N := some 64) (v := ?_) (a' := ?_) #[true, true, true, false, false, false, false, false, false, false, false, false, false, false] rfl rfl (by kernel_rfl) (fun _ _ _ h => h) (Or.inl ⟨by rfl, ?_⟩) ?_ ?_
          rotate_left
          · intro w'
            go_simp
            with_reducible rfl
          rotate_left
          · simp only [Act.put, List.setIfInBounds_toArray, List.set_cons_zero, List.set_cons_succ, i64_w, i32_w]
            rfl
          refine pure_ (i := 6) (N := some 68) (v := ?_) (a' := ?_) #[true, true, true, false, false, false, true, false, false, false, false, false, false, false] rfl rfl (by kernel_rfl) (fun _ _ _ h => h) (Or.inl ⟨by rfl, ?_⟩) ?_ ?_
          rotate_left
          · intro w'
            go_simp
            with_reducible rfl
          rotate_left
          · simp only [Act.put, List.setIfInBounds_toArray, List.set_cons_zero, List.set_cons_succ, i64_w, i32_w]
            rfl
          refine pure_ (i := 7) (N := some 69) (v := ?_) (a' := ?_) #[true, true, true, false, false, false, true, true, false, false, false, false, false, false] rfl rfl (by kernel_rfl) (fun _ _ _ h => h) (Or.inl ⟨by rfl, ?_⟩) ?_ ?_
          rotate_left
          · intro w'
            go_simp
            with_reducible rfl
          rotate_left
          · simp only [Act.put, List.setIfInBounds_toArray, List.set_cons_zero, List.set_cons_succ, i64_w, i32_w]
            rfl
          refine pure_ (i := 8) (N := some 70) (v := ?_) (a' := ?_) #[true, true, true, false, false, false, true, true, true, false, false, false, false, false] rfl rfl (by kernel_rfl) (fun _ _ _ h => h) (Or.inl ⟨by rfl, ?_⟩) ?_ ?_
          rotate_left
          · intro w'
            go_simp
            with_reducible rfl
          rotate_left
          · simp only [Act.put, List.setIfInBounds_toArray, List.set_cons_zero, List.set_cons_succ, i64_w, i32_w]
            rfl
          refine take_ (i := 9) (N := some 71) (v := ?_) (a' := ?_) #[true, true, true, false, false, false, true, true, true, true, false, false, false, false] rfl rfl (by kernel_rfl) (fun _ _ _ h => h) (Or.inl ⟨by rfl, ?_⟩) hHeld ?_ ?_
          rotate_left
          · intro w' s0
            go_simp
            with_reducible rfl
          rotate_left
          · simp only [Act.put, List.setIfInBounds_toArray, List.set_cons_zero, List.set_cons_succ, i64_w, i32_w]
            rfl
          refine pure_ (i := 10) (N := some 72) (v := ?_) (a' := ?_) #[true, true, true, false, false, false, true, true, true, true, true, false, false, false] rfl rfl (by kernel_rfl) (fun _ _ _ h => h) (Or.inl ⟨by rfl, ?_⟩) ?_ ?_
          rotate_left
          · intro w'
            go_simp
            with_reducible rfl
          rotate_left
          · simp only [Act.put, List.setIfInBounds_toArray, List.set_cons_zero, List.set_cons_succ, i64_w, i32_w]
            rfl
          refine one_ (i := 3) (N := some 65) #[true, true, true, true, false, false, true, true, true, true, true, false, false, false] rfl rfl (by kernel_rfl) (by decide) (fun K hK => ?_)
          refine goes_ Tryd.func30 (by kernel_rfl) rfl #[.int .i64 ii] (by rfl) rfl rfl (by simp only [List.map_toArray, List.map_cons, List.map_nil]; rfl) ?_
          refine (name_i ii kk nm HII.out HLT.out HNM.out _).mono ?_
          rintro e' wb ⟨rfl, hb⟩
          refine ⟨_, rfl, ?_⟩
          have Ewb := Aside0.mk (below_step (below_drew Ewa.out) hb)
          clear hb
          refine hK.out _ _ (((Ewb.out.cell UB.out).trans U0.out)) (fun hHeld => ?_)
          clear hK K
          refine norm_ (a' := ?_) ?_ ?_
          rotate_left
          · show Act.put _ (some 65) _ = _
            simp only [Act.put, List.setIfInBounds_toArray, List.set_cons_zero, List.set_cons_succ, i64_w, i32_w]
            rfl
          refine pure_ (i := 4) (N := some 66) (v := ?_) (a' := ?_) #[true, true, true, true, true, false, true, true, true, true, true, false, false, false] rfl rfl (by kernel_rfl) (fun _ _ _ h => h) (Or.inl ⟨by rfl, ?_⟩) ?_ ?_
          rotate_left
          · intro w'
            go_simp
            with_reducible rfl
          rotate_left
          · simp only [Act.put, List.setIfInBounds_toArray, List.set_cons_zero, List.set_cons_succ, i64_w, i32_w]
            rfl
          refine pure_ (i := 5) (N := some 67) (v := ?_) (a' := ?_) #[true, true, true, true, true, true, true, true, true, true, true, false, false, false] rfl rfl (by kernel_rfl) (fun _ _ _ h => h) (Or.inl ⟨by rfl, ?_⟩) ?_ ?_
          rotate_left
          · intro w'
            go_simp
            with_reducible rfl
          rotate_left
          · simp only [Act.put, List.setIfInBounds_toArray, List.set_cons_zero, List.set_cons_succ, i64_w, i32_w]
            rfl
          refine one_ (i := 11) (N := some 73) #[true, true, true, true, true, true, true, true, true, true, true, true, false, false] rfl rfl (by kernel_rfl) (by decide) (fun K hK => ?_)
          refine goes_ Tryd.func17 (by kernel_rfl) rfl #[.int .i64 mv] (by rfl) rfl rfl (by simp only [List.map_toArray, List.map_cons, List.map_nil]; rfl) ?_
          refine (text_m mv dg MV.out.1 MV.out.2 HDG.out _).mono ?_
          rintro e' wc ⟨rfl, hb⟩
          refine ⟨_, rfl, ?_⟩
          have Ewc := Aside0.mk (below_step Ewb.out hb)
          clear hb
          refine hK.out _ _ (((Ewc.out.cell UB.out).trans U0.out)) (fun hHeld => ?_)
          clear hK K
          refine norm_ (a' := ?_) ?_ ?_
          rotate_left
          · show Act.put _ (some 73) _ = _
            simp only [Act.put, List.setIfInBounds_toArray, List.set_cons_zero, List.set_cons_succ, i64_w, i32_w]
            rfl
          refine pure_ (i := 12) (N := some 74) (v := ?_) (a' := ?_) #[true, true, true, true, true, true, true, true, true, true, true, true, true, false] rfl rfl (by kernel_rfl) (fun _ _ _ h => h) (Or.inl ⟨by rfl, ?_⟩) ?_ ?_
          rotate_left
          · intro w'
            go_simp
            with_reducible rfl
          rotate_left
          · simp only [Act.put, List.setIfInBounds_toArray, List.set_cons_zero, List.set_cons_succ, i64_w, i32_w]
            rfl
          refine pure_ (i := 13) (N := some 7) (v := ?_) (a' := ?_) #[true, true, true, true, true, true, true, true, true, true, true, true, true, true] rfl rfl (by kernel_rfl) (fun _ _ _ h => h) (Or.inl ⟨by rfl, ?_⟩) ?_ ?_
          rotate_left
          · intro w'
            go_simp
            with_reducible rfl
          rotate_left
          · simp only [Act.put, List.setIfInBounds_toArray, List.set_cons_zero, List.set_cons_succ, i64_w, i32_w]
            rfl
          refine done_ (by kernel_rfl) ?_
          go_wp2
          go_roundg (10 - (kk + 1))
          case measure => have := HLT.out; have := HG.out; omega
          case rel => exact ⟨kk + 1, Y4, okN v, by have := HLT.out; omega, by omega, by first | exact congrArg _ EW | simp [EW], rfl, by first | rfl | simp, XN, BN, XNL, ⟨below_step BR.out Ewc.out⟩⟩
      · obtain rfl : kk = 10 := by omega
        have e7 : decide (ii < 10) = false := decide_eq_false (by omega)
        have hfull : vs.take 10 = vs := List.take_of_length_le (by rw [VL.out]; exact Nat.le_refl _)
        rw [hfull] at HX HB_
        clear hkk hg hlt hfull hii
        obtain ⟨X1, hX1⟩ : ∃ X_, X_ = X ++ [10] := ⟨_, rfl⟩
        have a1 : ∀ W : World, (Op.stringOp .add (⟨X.toArray⟩ : ByteArray) ⟨([10] : List UInt8).toArray⟩).run Tryd.prog W = .ok (.string ⟨X1.toArray⟩) W := by rw [hX1]; exact add_lit _ _ (by have := HXL.out; simp only [List.length_cons, List.length_nil]; omega)
        have HX1 := Aside0.mk (show X1 = (configB ++ cfgU 0 vs) ++ [10] by rw [hX1, HX.out])
        have HX1L := Aside0.mk (show X1.length ≤ 407 by rw [hX1, List.length_append]; have := HXL.out; simp only [List.length_cons, List.length_nil]; omega)
        have F5 := Aside0.mk (blk_below F4.out BR.out)
        have B5 := Aside0.mk (below_step B4.out BR.out)
        clear hX1 HX HXL
        go_upto_region 13 with (fail)
        clear a1
        have HAT := Aside0.mk (show True from trivial)
        go_loopg [6, 7, 10] 65 (fun gg s6 s7 s10 wq => ∃ (kk : Nat) (Y : List UInt8) (d : Bool), (kk ≤ tasks.length ∧ kk ≤ 65) ∧ 65 - kk ≤ gg ∧ s10 = .int .i64 kk ∧ s7 = .string ⟨Y.toArray⟩ ∧ s6 = .bool d ∧ Aside0 (Y = X1 ++ tasksU (tasks.take kk)) ∧ Aside0 (d = (b && (tasks.take kk).all okTk)) ∧ Aside0 (Y.length ≤ 407 + 60 * kk) ∧ Aside0 (Below wr.heap.size wr wq))
        case atStart => exact ⟨0, X1, b, by omega, by omega, rfl, rfl, rfl, ⟨by simp [tasksU]⟩, ⟨by simp⟩, ⟨by have := HX1L.out; omega⟩, ⟨Below.refl _ _⟩⟩
        case round =>
          obtain ⟨kk, Y, d, hkk, hg, rfl, rfl, rfl, HY, HD, HYL, B2⟩ := hrel
          obtain ⟨ii, hii⟩ : ∃ n : Int, n = (kk : Int) := ⟨_, rfl⟩
          rw [← hii]
          have F6 := Aside0.mk (blk_below F5.out B2.out)
          have B6 := Aside0.mk (below_step B5.out B2.out)
          obtain ⟨-, -, -, -, -, -, -, -, -, -, x10, x11, -, -, -, -, -, -, -, -, -, -, -, -⟩ := cells12 F6.out
          by_cases hlt : kk < tasks.length ∧ kk < 65
          · have c1 : decide (ii < (tasks.length : Int)) = true := decide_eq_true (by omega)
            have c2 : decide (ii < 65) = true := decide_eq_true (by omega)
            have p1 := eq_true (show (0 : Int) ≤ ii by omega)
            have q1 := eq_true (show ii < (tasks.length : Int) by omega)
            obtain ⟨ad, ead, u0, u1⟩ := tk_get (Kd.C_below HT.out B6.out) kk hlt.1
            subst ead
            obtain ⟨⟨m, c⟩, hv⟩ : ∃ v, tasks.getD kk ⟨0, 0⟩ = v := ⟨_, rfl⟩
            have HV := Aside0.mk hv
            have VIN := Aside0.mk (show PaP.inI m ∧ PaP.inI c by
              have h := HI.out.tasks _ (getD_mem tasks kk ⟨0, 0⟩ hlt.1)
              rw [hv] at h
              exact h)
            rw [hv, show kk = ii.toNat by omega] at u0 u1
            simp only at u0 u1
            have UB := Aside0.mk (show (ad.add (ii.toNat * 2)).block < wr.heap.size by
              have h1 := u0
              unfold World.cell? at h1
              cases hh : wr.heap[(ad.add (ii.toNat * 2)).block]? with
              | none => rw [hh] at h1; simp at h1
              | some ob => exact blk_lt hh)
            have U0 := Aside0.mk u0
            have U1 := Aside0.mk u1
            have UC := Aside0.mk (show (⟨(ad.add (ii.toNat * 2)).block, (ad.add (ii.toNat * 2)).off + 1, none⟩ : Addr).block < wr.heap.size from UB.out)
            obtain ⟨mv, hmv⟩ : ∃ x, (if m < 0 then 0 else m) = x := ⟨_, rfl⟩
            obtain ⟨cv, hcv⟩ : ∃ x, (if c < 0 then 0 else c) = x := ⟨_, rfl⟩
            obtain ⟨dm, hdm⟩ : ∃ l, dig mv = l := ⟨_, rfl⟩
            obtain ⟨dc, hdc⟩ : ∃ l, dig cv = l := ⟨_, rfl⟩
            have MV := Aside0.mk (show 0 ≤ mv ∧ mv ≤ 9223372036854775807 by rw [← hmv]; exact mx0_in m VIN.out.1)
            have CV := Aside0.mk (show 0 ≤ cv ∧ cv ≤ 9223372036854775807 by rw [← hcv]; exact mx0_in c VIN.out.2)
            have hml : dm.length ≤ 21 := by rw [← hdm, ← hmv]; exact dig_len m VIN.out.1
            have hcl : dc.length ≤ 21 := by rw [← hdc, ← hcv]; exact dig_len c VIN.out.2
            have PU := Aside0.mk (show taskU ⟨m, c⟩ = (((([116, 97, 115, 107, 32] ++ dm) ++ [32]) ++ dc) ++ [10]) by rw [← hdm, ← hdc, ← hmv, ← hcv]; rfl)
            have HDM := Aside0.mk hdm
            have HDC := Aside0.mk hdc
            have HII := Aside0.mk hii
            have HLT := Aside0.mk hlt
            have HG := Aside0.mk hg
            have hyl := HYL.out
            have h32 : ([32] : List UInt8).length = 1 := rfl
            have h10 : ([10] : List UInt8).length = 1 := rfl
            have h5 : ([116, 97, 115, 107, 32] : List UInt8).length = 5 := rfl
            obtain ⟨Y1, hY1⟩ : ∃ X_, X_ = (Y : List UInt8) ++ [116, 97, 115, 107, 32] := ⟨_, rfl⟩
            have hl1 : Y1.length = Y.length + ([116, 97, 115, 107, 32] : List UInt8).length := by rw [hY1, List.length_append]
            have a1 : ∀ W : World, (Op.stringOp .add (⟨(Y : List UInt8).toArray⟩ : ByteArray) ⟨([116, 97, 115, 107, 32] : List UInt8).toArray⟩).run Tryd.prog W = .ok (.string ⟨Y1.toArray⟩) W := by rw [hY1]; exact add_lit _ _ (by omega)
            obtain ⟨Y2, hY2⟩ : ∃ X_, X_ = (Y1 : List UInt8) ++ dm := ⟨_, rfl⟩
            have hl2 : Y2.length = Y1.length + (dm : List UInt8).length := by rw [hY2, List.length_append]
            have a2 : ∀ W : World, (Op.stringOp .add (⟨(Y1 : List UInt8).toArray⟩ : ByteArray) ⟨(dm : List UInt8).toArray⟩).run Tryd.prog W = .ok (.string ⟨Y2.toArray⟩) W := by rw [hY2]; exact add_lit _ _ (by omega)
            obtain ⟨Y3, hY3⟩ : ∃ X_, X_ = (Y2 : List UInt8) ++ [32] := ⟨_, rfl⟩
            have hl3 : Y3.length = Y2.length + ([32] : List UInt8).length := by rw [hY3, List.length_append]
            have a3 : ∀ W : World, (Op.stringOp .add (⟨(Y2 : List UInt8).toArray⟩ : ByteArray) ⟨([32] : List UInt8).toArray⟩).run Tryd.prog W = .ok (.string ⟨Y3.toArray⟩) W := by rw [hY3]; exact add_lit _ _ (by omega)
            obtain ⟨Y4, hY4⟩ : ∃ X_, X_ = (Y3 : List UInt8) ++ dc := ⟨_, rfl⟩
            have hl4 : Y4.length = Y3.length + (dc : List UInt8).length := by rw [hY4, List.length_append]
            have a4 : ∀ W : World, (Op.stringOp .add (⟨(Y3 : List UInt8).toArray⟩ : ByteArray) ⟨(dc : List UInt8).toArray⟩).run Tryd.prog W = .ok (.string ⟨Y4.toArray⟩) W := by rw [hY4]; exact add_lit _ _ (by omega)
            obtain ⟨Y5, hY5⟩ : ∃ X_, X_ = (Y4 : List UInt8) ++ [10] := ⟨_, rfl⟩
            have hl5 : Y5.length = Y4.length + ([10] : List UInt8).length := by rw [hY5, List.length_append]
            have a5 : ∀ W : World, (Op.stringOp .add (⟨(Y4 : List UInt8).toArray⟩ : ByteArray) ⟨([10] : List UInt8).toArray⟩).run Tryd.prog W = .ok (.string ⟨Y5.toArray⟩) W := by rw [hY5]; exact add_lit _ _ (by omega)
            have XN := Aside0.mk (show Y5 = X1 ++ tasksU (tasks.take (kk + 1)) by rw [hY5, hY4, hY3, hY2, hY1, HY.out, take_snoc tasks kk ⟨0, 0⟩ hlt.1, hv]; simp only [tasksU, List.flatMap_append, List.flatMap_cons, List.flatMap_nil, List.append_nil, PU.out]; simp)
            have XNL := Aside0.mk (show Y5.length ≤ 407 + 60 * (kk + 1) by omega)
            have BN := Aside0.mk (show (d && (okN m && okN c)) = (b && (tasks.take (kk + 1)).all okTk) by rw [HD.out, take_snoc tasks kk ⟨0, 0⟩ hlt.1, hv, List.all_append]; simp [Bool.and_assoc, okTk])
            have EW : wrap64 (ii + 1) = ((kk + 1 : Nat) : Int) := by unfold wrap64; omega
            clear hY1 hY2 hY3 hY4 hY5 hl1 hl2 hl3 hl4 hl5 hyl hml hcl h32 h10 h5 hdm hdc hii hlt hg hkk hv
            go_upto_region 16 with (first
              | (go_at_call 29; refine (right_ref m _).mono ?_; rintro e' wa ⟨rfl, hb⟩; have Ewa := Aside0.mk (below_step (Below.refl _ _) hb); clear hb))
            clear u0 u1 x10 x11
            have x10 : wa.cell? ⟨F, 10, none⟩ = some (.slice (some ad) tasks.length cT) := (blk_cell (blk_below F6.out Ewa.out) 10).trans rfl
            have u1 : wa.cell? ⟨(ad.add (ii.toNat * 2)).block, (ad.add (ii.toNat * 2)).off + 1, none⟩ = some (.int .i64 c) := (Below.cell (p := ⟨(ad.add (ii.toNat * 2)).block, (ad.add (ii.toNat * 2)).off + 1, none⟩) Ewa.out UC.out).trans U1.out
            go_upto_region 17 with (first
              | (go_at_call 29; refine (right_ref c _).mono ?_; rintro e' wb ⟨rfl, hb⟩; have Ewb := Aside0.mk (below_step Ewa.out hb); clear hb))
            clear u1 x10
            cases d with
            | false =>
              go_upto_region 18 with (fail)
              refine start_ (n := 23) (S := fun w' => w'.cell? ⟨F, 10, none⟩ = some (.slice (some ad) tasks.length cT) ∧ w'.cell? (ad.add (ii.toNat * 2)) = some (.int .i64 m) ∧ w'.cell? ⟨(ad.add (ii.toNat * 2)).block, (ad.add (ii.toNat * 2)).off + 1, none⟩ = some (.int .i64 c)) (ds := []) #[false, false, false, false, false, false, false, false, false, false, false, false, false, false, false, false, false, false, false, false, false, false, false] (by kernel_rfl) rfl rfl ⟨((blk_cell (blk_below F6.out (below_drew Ewb.out)) 10).trans rfl), (((below_drew Ewb.out).cell UB.out).trans U0.out), ((Below.cell (p := ⟨(ad.add (ii.toNat * 2)).block, (ad.add (ii.toNat * 2)).off + 1, none⟩) (below_drew Ewb.out) UC.out).trans U1.out)⟩ (fun hHeld => ?_)
              refine pure_ (i := 0) (N := some 109) (v := ?_) (a' := ?_) #[true, false, false, false, false, false, false, false, false, false, false, false, false, false, false, false, false, false, false, false, false, false, false] rfl rfl (by kernel_rfl) (fun _ _ _ h => h) (Or.inl ⟨by rfl, ?_⟩) ?_ ?_
              rotate_left
              · intro w'
                go_simp
                with_reducible rfl
              rotate_left
              · simp only [Act.put, List.setIfInBounds_toArray, List.set_cons_zero, List.set_cons_succ, i64_w, i32_w]
                rfl
              refine pure_ (i := 1) (N := some 110) (v := ?_) (a' := ?_) #[true, true, false, false, false, false, false, false, false, false, false, false, false, false, false, false, false, false, false, false, false, false, false] rfl rfl (by kernel_rfl) (fun _ _ _ h => h) (Or.inl ⟨by rfl, ?_⟩) ?_ ?_
              rotate_left
              · intro w'
                go_simp
                with_reducible rfl
              rotate_left
              · simp only [Act.put, List.setIfInBounds_toArray, List.set_cons_zero, List.set_cons_succ, i64_w, i32_w]
                rfl
              refine pure_ (i := 2) (N := some 111) (v := ?_) (a' := ?_) #[true, true, true, false, false, false, false, false, false, false, false, false, false, false, false, false, false, false, false, false, false, false, false] rfl rfl (by kernel_rfl) (fun _ _ _ h => h) (Or.inl ⟨by rfl, ?_⟩) ?_ ?_
              rotate_left
              · intro w'
                go_simp
                with_reducible rfl
              rotate_left
              · simp only [Act.put, List.setIfInBounds_toArray, List.set_cons_zero, List.set_cons_succ, i64_w, i32_w]
                rfl
              refine pure_ (i := 4) (N := some 113) (v := ?_) (a' := ?_) #[true, true, true, false, true, false, false, false, false, false, false, false, false, false, false, false, false, false, false, false, false, false, false] rfl rfl (by kernel_rfl) (fun _ _ _ h => h) (Or.inl ⟨by rfl, ?_⟩) ?_ ?_
              rotate_left
              · intro w'
                go_simp
                with_reducible rfl
              rotate_left
              · simp only [Act.put, List.setIfInBounds_toArray, List.set_cons_zero, List.set_cons_succ, i64_w, i32_w]
                rfl
              refine pure_ (i := 12) (N := some 121) (v := ?_) (a' := ?_) #[true, true, true, false, true, false, false, false, false, false, false, false, true, false, false, false, false, false, false, false, false, false, false] rfl rfl (by kernel_rfl) (fun _ _ _ h => h) (Or.inl ⟨by rfl, ?_⟩) ?_ ?_
              rotate_left
              · intro w'
                go_simp
                with_reducible rfl
              rotate_left
              · simp only [Act.put, List.setIfInBounds_toArray, List.set_cons_zero, List.set_cons_succ, i64_w, i32_w]
                rfl
              refine pure_ (i := 14) (N := some 123) (v := ?_) (a' := ?_) #[true, true, true, false, true, false, false, false, false, false, false, false, true, false, true, false, false, false, false, false, false, false, false] rfl rfl (by kernel_rfl) (fun _ _ _ h => h) (Or.inl ⟨by rfl, ?_⟩) ?_ ?_
              rotate_left
              · intro w'
                go_simp
                with_reducible rfl
              rotate_left
              · simp only [Act.put, List.setIfInBounds_toArray, List.set_cons_zero, List.set_cons_succ, i64_w, i32_w]
                rfl
              refine take_ (i := 3) (N := some 112) (v := ?_) (a' := ?_) #[true, true, true, true, true, false, false, false, false, false, false, false, true, false, true, false, false, false, false, false, false, false, false] rfl rfl (by kernel_rfl) (fun _ _ _ h => h) (Or.inl ⟨by rfl, ?_⟩) hHeld ?_ ?_
              rotate_left
              · rintro w' ⟨s0, s1, s2⟩
                go_simp
                with_reducible rfl
              rotate_left
              · simp only [Act.put, List.setIfInBounds_toArray, List.set_cons_zero, List.set_cons_succ, i64_w, i32_w]
                rfl
              refine pure_ (i := 5) (N := some 114) (v := ?_) (a' := ?_) #[true, true, true, true, true, true, false, false, false, false, false, false, true, false, true, false, false, false, false, false, false, false, false] rfl rfl (by kernel_rfl) (fun _ _ _ h => h) (Or.inl ⟨by rfl, ?_⟩) ?_ ?_
              rotate_left
              · intro w'
                go_simp
                with_reducible rfl
              rotate_left
              · simp only [Act.put, List.setIfInBounds_toArray, List.set_cons_zero, List.set_cons_succ, i64_w, i32_w]
                rfl
              refine pure_ (i := 6) (N := some 115) (v := ?_) (a' := ?_) #[true, true, true, true, true, true, true, false, false, false, false, false, true, false, true, false, false, false, false, false, false, false, false] rfl rfl (by kernel_rfl) (fun _ _ _ h => h) (Or.inl ⟨by rfl, ?_⟩) ?_ ?_
              rotate_left
              · intro w'
                go_simp
                with_reducible rfl
              rotate_left
              · simp only [Act.put, List.setIfInBounds_toArray, List.set_cons_zero, List.set_cons_succ, i64_w, i32_w]
                rfl
              refine take_ (i := 7) (N := some 116) (v := ?_) (a' := ?_) #[true, true, true, true, true, true, true, true, false, false, false, false, true, false, true, false, false, false, false, false, false, false, false] rfl rfl (by kernel_rfl) (fun _ _ _ h => h) (Or.inl ⟨by rfl, ?_⟩) hHeld ?_ ?_
              rotate_left
              · rintro w' ⟨s0, s1, s2⟩
                go_simp
                with_reducible rfl
              rotate_left
              · simp only [Act.put, List.setIfInBounds_toArray, List.set_cons_zero, List.set_cons_succ, i64_w, i32_w]
                rfl
              refine pure_ (i := 8) (N := some 117) (v := ?_) (a' := ?_) #[true, true, true, true, true, true, true, true, true, false, false, false, true, false, true, false, false, false, false, false, false, false, false] rfl rfl (by kernel_rfl) (fun _ _ _ h => h) (Or.inl ⟨by rfl, ?_⟩) ?_ ?_
              rotate_left
              · intro w'
                go_simp
                with_reducible rfl
              rotate_left
              · simp only [Act.put, List.setIfInBounds_toArray, List.set_cons_zero, List.set_cons_succ, i64_w, i32_w]
                rfl
              refine take_ (i := 13) (N := some 122) (v := ?_) (a' := ?_) #[true, true, true, true, true, true, true, true, true, false, false, false, true, true, true, false, false, false, false, false, false, false, false] rfl rfl (by kernel_rfl) (fun _ _ _ h => h) (Or.inl ⟨by rfl, ?_⟩) hHeld ?_ ?_
              rotate_left
              · rintro w' ⟨s0, s1, s2⟩
                go_simp
                with_reducible rfl
              rotate_left
              · simp only [Act.put, List.setIfInBounds_toArray, List.set_cons_zero, List.set_cons_succ, i64_w, i32_w]
                rfl
              refine pure_ (i := 15) (N := some 124) (v := ?_) (a' := ?_) #[true, true, true, true, true, true, true, true, true, false, false, false, true, true, true, true, false, false, false, false, false, false, false] rfl rfl (by kernel_rfl) (fun _ _ _ h => h) (Or.inl ⟨by rfl, ?_⟩) ?_ ?_
              rotate_left
              · intro w'
                go_simp
                with_reducible rfl
              rotate_left
              · simp only [Act.put, List.setIfInBounds_toArray, List.set_cons_zero, List.set_cons_succ, i64_w, i32_w]
                rfl
              refine pure_ (i := 16) (N := some 125) (v := ?_) (a' := ?_) #[true, true, true, true, true, true, true, true, true, false, false, false, true, true, true, true, true, false, false, false, false, false, false] rfl rfl (by kernel_rfl) (fun _ _ _ h => h) (Or.inl ⟨by rfl, ?_⟩) ?_ ?_
              rotate_left
              · intro w'
                go_simp
                with_reducible rfl
              rotate_left
              · simp only [Act.put, List.setIfInBounds_toArray, List.set_cons_zero, List.set_cons_succ, i64_w, i32_w]
                rfl
              refine take_ (i := 17) (N := some 126) (v := ?_) (a' := ?_) #[true, true, true, true, true, true, true, true, true, false, false, false, true, true, true, true, true, true, false, false, false, false, false] rfl rfl (by kernel_rfl) (fun _ _ _ h => h) (Or.inl ⟨by rfl, ?_⟩) hHeld ?_ ?_
              rotate_left
              · rintro w' ⟨s0, s1, s2⟩
                go_simp
                with_reducible rfl
              rotate_left
              · simp only [Act.put, List.setIfInBounds_toArray, List.set_cons_zero, List.set_cons_succ, i64_w, i32_w]
                rfl
              refine pure_ (i := 18) (N := some 127) (v := ?_) (a' := ?_) #[true, true, true, true, true, true, true, true, true, false, false, false, true, true, true, true, true, true, true, false, false, false, false] rfl rfl (by kernel_rfl) (fun _ _ _ h => h) (Or.inl ⟨by rfl, ?_⟩) ?_ ?_
              rotate_left
              · intro w'
                go_simp
                with_reducible rfl
              rotate_left
              · simp only [Act.put, List.setIfInBounds_toArray, List.set_cons_zero, List.set_cons_succ, i64_w, i32_w]
                rfl
              refine one_ (i := 9) (N := some 118) #[true, true, true, true, true, true, true, true, true, true, false, false, true, true, true, true, true, true, true, false, false, false, false] rfl rfl (by kernel_rfl) (by decide) (fun K hK => ?_)
              refine goes_ Tryd.func17 (by kernel_rfl) rfl #[.int .i64 mv] (by rfl) rfl rfl (by simp only [List.map_toArray, List.map_cons, List.map_nil]; rfl) ?_
              refine (text_m mv dm MV.out.1 MV.out.2 HDM.out _).mono ?_
              rintro e' wc ⟨rfl, hb⟩
              refine ⟨_, rfl, ?_⟩
              have Ewc := Aside0.mk (below_step (below_drew Ewb.out) hb)
              clear hb
              refine hK.out _ _ ⟨((blk_cell (blk_below F6.out Ewc.out) 10).trans rfl), ((Ewc.out.cell UB.out).trans U0.out), ((Below.cell (p := ⟨(ad.add (ii.toNat * 2)).block, (ad.add (ii.toNat * 2)).off + 1, none⟩) Ewc.out UC.out).trans U1.out)⟩ (fun hHeld => ?_)
              clear hK K
              refine norm_ (a' := ?_) ?_ ?_
              rotate_left
              · show Act.put _ (some 118) _ = _
                simp only [Act.put, List.setIfInBounds_toArray, List.set_cons_zero, List.set_cons_succ, i64_w, i32_w]
                rfl
              refine pure_ (i := 10) (N := some 119) (v := ?_) (a' := ?_) #[true, true, true, true, true, true, true, true, true, true, true, false, true, true, true, true, true, true, true, false, false, false, false] rfl rfl (by kernel_rfl) (fun _ _ _ h => h) (Or.inl ⟨by rfl, ?_⟩) ?_ ?_
              rotate_left
              · intro w'
                go_simp
                with_reducible rfl
              rotate_left
              · simp only [Act.put, List.setIfInBounds_toArray, List.set_cons_zero, List.set_cons_succ, i64_w, i32_w]
                rfl
              refine pure_ (i := 11) (N := some 120) (v := ?_) (a' := ?_) #[true, true, true, true, true, true, true, true, true, true, true, true, true, true, true, true, true, true, true, false, false, false, false] rfl rfl (by kernel_rfl) (fun _ _ _ h => h) (Or.inl ⟨by rfl, ?_⟩) ?_ ?_
              rotate_left
              · intro w'
                go_simp
                with_reducible rfl
              rotate_left
              · simp only [Act.put, List.setIfInBounds_toArray, List.set_cons_zero, List.set_cons_succ, i64_w, i32_w]
                rfl
              refine one_ (i := 19) (N := some 128) #[true, true, true, true, true, true, true, true, true, true, true, true, true, true, true, true, true, true, true, true, false, false, false] rfl rfl (by kernel_rfl) (by decide) (fun K hK => ?_)
              refine goes_ Tryd.func17 (by kernel_rfl) rfl #[.int .i64 cv] (by rfl) rfl rfl (by simp only [List.map_toArray, List.map_cons, List.map_nil]; rfl) ?_
              refine (text_m cv dc CV.out.1 CV.out.2 HDC.out _).mono ?_
              rintro e' wd ⟨rfl, hb⟩
              refine ⟨_, rfl, ?_⟩
              have Ewd := Aside0.mk (below_step Ewc.out hb)
              clear hb
              refine hK.out _ _ ⟨((blk_cell (blk_below F6.out Ewd.out) 10).trans rfl), ((Ewd.out.cell UB.out).trans U0.out), ((Below.cell (p := ⟨(ad.add (ii.toNat * 2)).block, (ad.add (ii.toNat * 2)).off + 1, none⟩) Ewd.out UC.out).trans U1.out)⟩ (fun hHeld => ?_)
              clear hK K
              refine norm_ (a' := ?_) ?_ ?_
              rotate_left
              · show Act.put _ (some 128) _ = _
                simp only [Act.put, List.setIfInBounds_toArray, List.set_cons_zero, List.set_cons_succ, i64_w, i32_w]
                rfl
              refine pure_ (i := 20) (N := some 129) (v := ?_) (a' := ?_) #[true, true, true, true, true, true, true, true, true, true, true, true, true, true, true, true, true, true, true, true, true, false, false] rfl rfl (by kernel_rfl) (fun _ _ _ h => h) (Or.inl ⟨by rfl, ?_⟩) ?_ ?_
              rotate_left
              · intro w'
                go_simp
                with_reducible rfl
              rotate_left
              · simp only [Act.put, List.setIfInBounds_toArray, List.set_cons_zero, List.set_cons_succ, i64_w, i32_w]
                rfl
              refine pure_ (i := 21) (N := some 130) (v := ?_) (a' := ?_) #[true, true, true, true, true, true, true, true, true, true, true, true, true, true, true, true, true, true, true, true, true, true, false] rfl rfl (by kernel_rfl) (fun _ _ _ h => h) (Or.inl ⟨by rfl, ?_⟩) ?_ ?_
              rotate_left
              · intro w'
                go_simp
                with_reducible rfl
              rotate_left
              · simp only [Act.put, List.setIfInBounds_toArray, List.set_cons_zero, List.set_cons_succ, i64_w, i32_w]
                rfl
              refine pure_ (i := 22) (N := some 7) (v := ?_) (a' := ?_) #[true, true, true, true, true, true, true, true, true, true, true, true, true, true, true, true, true, true, true, true, true, true, true] rfl rfl (by kernel_rfl) (fun _ _ _ h => h) (Or.inl ⟨by rfl, ?_⟩) ?_ ?_
              rotate_left
              · intro w'
                go_simp
                with_reducible rfl
              rotate_left
              · simp only [Act.put, List.setIfInBounds_toArray, List.set_cons_zero, List.set_cons_succ, i64_w, i32_w]
                rfl
              refine done_ (by kernel_rfl) ?_
              go_wp2
              go_roundg (65 - (kk + 1))
              case measure => have := HLT.out; have := HG.out; omega
              case rel => exact ⟨kk + 1, Y5, false, by have := HLT.out; omega, by omega, by first | exact congrArg _ EW | simp [EW], rfl, rfl, XN, BN, XNL, ⟨below_step B2.out Ewd.out⟩⟩
            | true =>
              cases hm : okN m with
              | false =>
                go_upto_region 18 with (fail)
                refine start_ (n := 23) (S := fun w' => w'.cell? ⟨F, 10, none⟩ = some (.slice (some ad) tasks.length cT) ∧ w'.cell? (ad.add (ii.toNat * 2)) = some (.int .i64 m) ∧ w'.cell? ⟨(ad.add (ii.toNat * 2)).block, (ad.add (ii.toNat * 2)).off + 1, none⟩ = some (.int .i64 c)) (ds := []) #[false, false, false, false, false, false, false, false, false, false, false, false, false, false, false, false, false, false, false, false, false, false, false] (by kernel_rfl) rfl rfl ⟨((blk_cell (blk_below F6.out (below_drew Ewb.out)) 10).trans rfl), (((below_drew Ewb.out).cell UB.out).trans U0.out), ((Below.cell (p := ⟨(ad.add (ii.toNat * 2)).block, (ad.add (ii.toNat * 2)).off + 1, none⟩) (below_drew Ewb.out) UC.out).trans U1.out)⟩ (fun hHeld => ?_)
                refine pure_ (i := 0) (N := some 109) (v := ?_) (a' := ?_) #[true, false, false, false, false, false, false, false, false, false, false, false, false, false, false, false, false, false, false, false, false, false, false] rfl rfl (by kernel_rfl) (fun _ _ _ h => h) (Or.inl ⟨by rfl, ?_⟩) ?_ ?_
                rotate_left
                · intro w'
                  go_simp
                  with_reducible rfl
                rotate_left
                · simp only [Act.put, List.setIfInBounds_toArray, List.set_cons_zero, List.set_cons_succ, i64_w, i32_w]
                  rfl
                refine pure_ (i := 1) (N := some 110) (v := ?_) (a' := ?_) #[true, true, false, false, false, false, false, false, false, false, false, false, false, false, false, false, false, false, false, false, false, false, false] rfl rfl (by kernel_rfl) (fun _ _ _ h => h) (Or.inl ⟨by rfl, ?_⟩) ?_ ?_
                rotate_left
                · intro w'
                  go_simp
                  with_reducible rfl
                rotate_left
                · simp only [Act.put, List.setIfInBounds_toArray, List.set_cons_zero, List.set_cons_succ, i64_w, i32_w]
                  rfl
                refine pure_ (i := 2) (N := some 111) (v := ?_) (a' := ?_) #[true, true, true, false, false, false, false, false, false, false, false, false, false, false, false, false, false, false, false, false, false, false, false] rfl rfl (by kernel_rfl) (fun _ _ _ h => h) (Or.inl ⟨by rfl, ?_⟩) ?_ ?_
                rotate_left
                · intro w'
                  go_simp
                  with_reducible rfl
                rotate_left
                · simp only [Act.put, List.setIfInBounds_toArray, List.set_cons_zero, List.set_cons_succ, i64_w, i32_w]
                  rfl
                refine pure_ (i := 4) (N := some 113) (v := ?_) (a' := ?_) #[true, true, true, false, true, false, false, false, false, false, false, false, false, false, false, false, false, false, false, false, false, false, false] rfl rfl (by kernel_rfl) (fun _ _ _ h => h) (Or.inl ⟨by rfl, ?_⟩) ?_ ?_
                rotate_left
                · intro w'
                  go_simp
                  with_reducible rfl
                rotate_left
                · simp only [Act.put, List.setIfInBounds_toArray, List.set_cons_zero, List.set_cons_succ, i64_w, i32_w]
                  rfl
                refine pure_ (i := 12) (N := some 121) (v := ?_) (a' := ?_) #[true, true, true, false, true, false, false, false, false, false, false, false, true, false, false, false, false, false, false, false, false, false, false] rfl rfl (by kernel_rfl) (fun _ _ _ h => h) (Or.inl ⟨by rfl, ?_⟩) ?_ ?_
                rotate_left
                · intro w'
                  go_simp
                  with_reducible rfl
                rotate_left
                · simp only [Act.put, List.setIfInBounds_toArray, List.set_cons_zero, List.set_cons_succ, i64_w, i32_w]
                  rfl
                refine pure_ (i := 14) (N := some 123) (v := ?_) (a' := ?_) #[true, true, true, false, true, false, false, false, false, false, false, false, true, false, true, false, false, false, false, false, false, false, false] rfl rfl (by kernel_rfl) (fun _ _ _ h => h) (Or.inl ⟨by rfl, ?_⟩) ?_ ?_
                rotate_left
                · intro w'
                  go_simp
                  with_reducible rfl
                rotate_left
                · simp only [Act.put, List.setIfInBounds_toArray, List.set_cons_zero, List.set_cons_succ, i64_w, i32_w]
                  rfl
                refine take_ (i := 3) (N := some 112) (v := ?_) (a' := ?_) #[true, true, true, true, true, false, false, false, false, false, false, false, true, false, true, false, false, false, false, false, false, false, false] rfl rfl (by kernel_rfl) (fun _ _ _ h => h) (Or.inl ⟨by rfl, ?_⟩) hHeld ?_ ?_
                rotate_left
                · rintro w' ⟨s0, s1, s2⟩
                  go_simp
                  with_reducible rfl
                rotate_left
                · simp only [Act.put, List.setIfInBounds_toArray, List.set_cons_zero, List.set_cons_succ, i64_w, i32_w]
                  rfl
                refine pure_ (i := 5) (N := some 114) (v := ?_) (a' := ?_) #[true, true, true, true, true, true, false, false, false, false, false, false, true, false, true, false, false, false, false, false, false, false, false] rfl rfl (by kernel_rfl) (fun _ _ _ h => h) (Or.inl ⟨by rfl, ?_⟩) ?_ ?_
                rotate_left
                · intro w'
                  go_simp
                  with_reducible rfl
                rotate_left
                · simp only [Act.put, List.setIfInBounds_toArray, List.set_cons_zero, List.set_cons_succ, i64_w, i32_w]
                  rfl
                refine pure_ (i := 6) (N := some 115) (v := ?_) (a' := ?_) #[true, true, true, true, true, true, true, false, false, false, false, false, true, false, true, false, false, false, false, false, false, false, false] rfl rfl (by kernel_rfl) (fun _ _ _ h => h) (Or.inl ⟨by rfl, ?_⟩) ?_ ?_
                rotate_left
                · intro w'
                  go_simp
                  with_reducible rfl
                rotate_left
                · simp only [Act.put, List.setIfInBounds_toArray, List.set_cons_zero, List.set_cons_succ, i64_w, i32_w]
                  rfl
                refine take_ (i := 7) (N := some 116) (v := ?_) (a' := ?_) #[true, true, true, true, true, true, true, true, false, false, false, false, true, false, true, false, false, false, false, false, false, false, false] rfl rfl (by kernel_rfl) (fun _ _ _ h => h) (Or.inl ⟨by rfl, ?_⟩) hHeld ?_ ?_
                rotate_left
                · rintro w' ⟨s0, s1, s2⟩
                  go_simp
                  with_reducible rfl
                rotate_left
                · simp only [Act.put, List.setIfInBounds_toArray, List.set_cons_zero, List.set_cons_succ, i64_w, i32_w]
                  rfl
                refine pure_ (i := 8) (N := some 117) (v := ?_) (a' := ?_) #[true, true, true, true, true, true, true, true, true, false, false, false, true, false, true, false, false, false, false, false, false, false, false] rfl rfl (by kernel_rfl) (fun _ _ _ h => h) (Or.inl ⟨by rfl, ?_⟩) ?_ ?_
                rotate_left
                · intro w'
                  go_simp
                  with_reducible rfl
                rotate_left
                · simp only [Act.put, List.setIfInBounds_toArray, List.set_cons_zero, List.set_cons_succ, i64_w, i32_w]
                  rfl
                refine take_ (i := 13) (N := some 122) (v := ?_) (a' := ?_) #[true, true, true, true, true, true, true, true, true, false, false, false, true, true, true, false, false, false, false, false, false, false, false] rfl rfl (by kernel_rfl) (fun _ _ _ h => h) (Or.inl ⟨by rfl, ?_⟩) hHeld ?_ ?_
                rotate_left
                · rintro w' ⟨s0, s1, s2⟩
                  go_simp
                  with_reducible rfl
                rotate_left
                · simp only [Act.put, List.setIfInBounds_toArray, List.set_cons_zero, List.set_cons_succ, i64_w, i32_w]
                  rfl
                refine pure_ (i := 15) (N := some 124) (v := ?_) (a' := ?_) #[true, true, true, true, true, true, true, true, true, false, false, false, true, true, true, true, false, false, false, false, false, false, false] rfl rfl (by kernel_rfl) (fun _ _ _ h => h) (Or.inl ⟨by rfl, ?_⟩) ?_ ?_
                rotate_left
                · intro w'
                  go_simp
                  with_reducible rfl
                rotate_left
                · simp only [Act.put, List.setIfInBounds_toArray, List.set_cons_zero, List.set_cons_succ, i64_w, i32_w]
                  rfl
                refine pure_ (i := 16) (N := some 125) (v := ?_) (a' := ?_) #[true, true, true, true, true, true, true, true, true, false, false, false, true, true, true, true, true, false, false, false, false, false, false] rfl rfl (by kernel_rfl) (fun _ _ _ h => h) (Or.inl ⟨by rfl, ?_⟩) ?_ ?_
                rotate_left
                · intro w'
                  go_simp
                  with_reducible rfl
                rotate_left
                · simp only [Act.put, List.setIfInBounds_toArray, List.set_cons_zero, List.set_cons_succ, i64_w, i32_w]
                  rfl
                refine take_ (i := 17) (N := some 126) (v := ?_) (a' := ?_) #[true, true, true, true, true, true, true, true, true, false, false, false, true, true, true, true, true, true, false, false, false, false, false] rfl rfl (by kernel_rfl) (fun _ _ _ h => h) (Or.inl ⟨by rfl, ?_⟩) hHeld ?_ ?_
                rotate_left
                · rintro w' ⟨s0, s1, s2⟩
                  go_simp
                  with_reducible rfl
                rotate_left
                · simp only [Act.put, List.setIfInBounds_toArray, List.set_cons_zero, List.set_cons_succ, i64_w, i32_w]
                  rfl
                refine pure_ (i := 18) (N := some 127) (v := ?_) (a' := ?_) #[true, true, true, true, true, true, true, true, true, false, false, false, true, true, true, true, true, true, true, false, false, false, false] rfl rfl (by kernel_rfl) (fun _ _ _ h => h) (Or.inl ⟨by rfl, ?_⟩) ?_ ?_
                rotate_left
                · intro w'
                  go_simp
                  with_reducible rfl
                rotate_left
                · simp only [Act.put, List.setIfInBounds_toArray, List.set_cons_zero, List.set_cons_succ, i64_w, i32_w]
                  rfl
                refine one_ (i := 9) (N := some 118) #[true, true, true, true, true, true, true, true, true, true, false, false, true, true, true, true, true, true, true, false, false, false, false] rfl rfl (by kernel_rfl) (by decide) (fun K hK => ?_)
                refine goes_ Tryd.func17 (by kernel_rfl) rfl #[.int .i64 mv] (by rfl) rfl rfl (by simp only [List.map_toArray, List.map_cons, List.map_nil]; rfl) ?_
                refine (text_m mv dm MV.out.1 MV.out.2 HDM.out _).mono ?_
                rintro e' wc ⟨rfl, hb⟩
                refine ⟨_, rfl, ?_⟩
                have Ewc := Aside0.mk (below_step (below_drew Ewb.out) hb)
                clear hb
                refine hK.out _ _ ⟨((blk_cell (blk_below F6.out Ewc.out) 10).trans rfl), ((Ewc.out.cell UB.out).trans U0.out), ((Below.cell (p := ⟨(ad.add (ii.toNat * 2)).block, (ad.add (ii.toNat * 2)).off + 1, none⟩) Ewc.out UC.out).trans U1.out)⟩ (fun hHeld => ?_)
                clear hK K
                refine norm_ (a' := ?_) ?_ ?_
                rotate_left
                · show Act.put _ (some 118) _ = _
                  simp only [Act.put, List.setIfInBounds_toArray, List.set_cons_zero, List.set_cons_succ, i64_w, i32_w]
                  rfl
                refine pure_ (i := 10) (N := some 119) (v := ?_) (a' := ?_) #[true, true, true, true, true, true, true, true, true, true, true, false, true, true, true, true, true, true, true, false, false, false, false] rfl rfl (by kernel_rfl) (fun _ _ _ h => h) (Or.inl ⟨by rfl, ?_⟩) ?_ ?_
                rotate_left
                · intro w'
                  go_simp
                  with_reducible rfl
                rotate_left
                · simp only [Act.put, List.setIfInBounds_toArray, List.set_cons_zero, List.set_cons_succ, i64_w, i32_w]
                  rfl
                refine pure_ (i := 11) (N := some 120) (v := ?_) (a' := ?_) #[true, true, true, true, true, true, true, true, true, true, true, true, true, true, true, true, true, true, true, false, false, false, false] rfl rfl (by kernel_rfl) (fun _ _ _ h => h) (Or.inl ⟨by rfl, ?_⟩) ?_ ?_
                rotate_left
                · intro w'
                  go_simp
                  with_reducible rfl
                rotate_left
                · simp only [Act.put, List.setIfInBounds_toArray, List.set_cons_zero, List.set_cons_succ, i64_w, i32_w]
                  rfl
                refine one_ (i := 19) (N := some 128) #[true, true, true, true, true, true, true, true, true, true, true, true, true, true, true, true, true, true, true, true, false, false, false] rfl rfl (by kernel_rfl) (by decide) (fun K hK => ?_)
                refine goes_ Tryd.func17 (by kernel_rfl) rfl #[.int .i64 cv] (by rfl) rfl rfl (by simp only [List.map_toArray, List.map_cons, List.map_nil]; rfl) ?_
                refine (text_m cv dc CV.out.1 CV.out.2 HDC.out _).mono ?_
                rintro e' wd ⟨rfl, hb⟩
                refine ⟨_, rfl, ?_⟩
                have Ewd := Aside0.mk (below_step Ewc.out hb)
                clear hb
                refine hK.out _ _ ⟨((blk_cell (blk_below F6.out Ewd.out) 10).trans rfl), ((Ewd.out.cell UB.out).trans U0.out), ((Below.cell (p := ⟨(ad.add (ii.toNat * 2)).block, (ad.add (ii.toNat * 2)).off + 1, none⟩) Ewd.out UC.out).trans U1.out)⟩ (fun hHeld => ?_)
                clear hK K
                refine norm_ (a' := ?_) ?_ ?_
                rotate_left
                · show Act.put _ (some 128) _ = _
                  simp only [Act.put, List.setIfInBounds_toArray, List.set_cons_zero, List.set_cons_succ, i64_w, i32_w]
                  rfl
                refine pure_ (i := 20) (N := some 129) (v := ?_) (a' := ?_) #[true, true, true, true, true, true, true, true, true, true, true, true, true, true, true, true, true, true, true, true, true, false, false] rfl rfl (by kernel_rfl) (fun _ _ _ h => h) (Or.inl ⟨by rfl, ?_⟩) ?_ ?_
                rotate_left
                · intro w'
                  go_simp
                  with_reducible rfl
                rotate_left
                · simp only [Act.put, List.setIfInBounds_toArray, List.set_cons_zero, List.set_cons_succ, i64_w, i32_w]
                  rfl
                refine pure_ (i := 21) (N := some 130) (v := ?_) (a' := ?_) #[true, true, true, true, true, true, true, true, true, true, true, true, true, true, true, true, true, true, true, true, true, true, false] rfl rfl (by kernel_rfl) (fun _ _ _ h => h) (Or.inl ⟨by rfl, ?_⟩) ?_ ?_
                rotate_left
                · intro w'
                  go_simp
                  with_reducible rfl
                rotate_left
                · simp only [Act.put, List.setIfInBounds_toArray, List.set_cons_zero, List.set_cons_succ, i64_w, i32_w]
                  rfl
                refine pure_ (i := 22) (N := some 7) (v := ?_) (a' := ?_) #[true, true, true, true, true, true, true, true, true, true, true, true, true, true, true, true, true, true, true, true, true, true, true] rfl rfl (by kernel_rfl) (fun _ _ _ h => h) (Or.inl ⟨by rfl, ?_⟩) ?_ ?_
                rotate_left
                · intro w'
                  go_simp
                  with_reducible rfl
                rotate_left
                · simp only [Act.put, List.setIfInBounds_toArray, List.set_cons_zero, List.set_cons_succ, i64_w, i32_w]
                  rfl
                refine done_ (by kernel_rfl) ?_
                go_wp2
                go_roundg (65 - (kk + 1))
                case measure => have := HLT.out; have := HG.out; omega
                case rel => exact ⟨kk + 1, Y5, false, by have := HLT.out; omega, by omega, by first | exact congrArg _ EW | simp [EW], rfl, rfl, XN, ⟨by have h := BN.out; rw [hm] at h; exact h⟩, XNL, ⟨below_step B2.out Ewd.out⟩⟩
              | true =>
                go_upto_region 18 with (fail)
                refine start_ (n := 23) (S := fun w' => w'.cell? ⟨F, 10, none⟩ = some (.slice (some ad) tasks.length cT) ∧ w'.cell? (ad.add (ii.toNat * 2)) = some (.int .i64 m) ∧ w'.cell? ⟨(ad.add (ii.toNat * 2)).block, (ad.add (ii.toNat * 2)).off + 1, none⟩ = some (.int .i64 c)) (ds := []) #[false, false, false, false, false, false, false, false, false, false, false, false, false, false, false, false, false, false, false, false, false, false, false] (by kernel_rfl) rfl rfl ⟨((blk_cell (blk_below F6.out (below_drew Ewb.out)) 10).trans rfl), (((below_drew Ewb.out).cell UB.out).trans U0.out), ((Below.cell (p := ⟨(ad.add (ii.toNat * 2)).block, (ad.add (ii.toNat * 2)).off + 1, none⟩) (below_drew Ewb.out) UC.out).trans U1.out)⟩ (fun hHeld => ?_)
                refine pure_ (i := 0) (N := some 109) (v := ?_) (a' := ?_) #[true, false, false, false, false, false, false, false, false, false, false, false, false, false, false, false, false, false, false, false, false, false, false] rfl rfl (by kernel_rfl) (fun _ _ _ h => h) (Or.inl ⟨by rfl, ?_⟩) ?_ ?_
                rotate_left
                · intro w'
                  go_simp
                  with_reducible rfl
                rotate_left
                · simp only [Act.put, List.setIfInBounds_toArray, List.set_cons_zero, List.set_cons_succ, i64_w, i32_w]
                  rfl
                refine pure_ (i := 1) (N := some 110) (v := ?_) (a' := ?_) #[true, true, false, false, false, false, false, false, false, false, false, false, false, false, false, false, false, false, false, false, false, false, false] rfl rfl (by kernel_rfl) (fun _ _ _ h => h) (Or.inl ⟨by rfl, ?_⟩) ?_ ?_
                rotate_left
                · intro w'
                  go_simp
                  with_reducible rfl
                rotate_left
                · simp only [Act.put, List.setIfInBounds_toArray, List.set_cons_zero, List.set_cons_succ, i64_w, i32_w]
                  rfl
                refine pure_ (i := 2) (N := some 111) (v := ?_) (a' := ?_) #[true, true, true, false, false, false, false, false, false, false, false, false, false, false, false, false, false, false, false, false, false, false, false] rfl rfl (by kernel_rfl) (fun _ _ _ h => h) (Or.inl ⟨by rfl, ?_⟩) ?_ ?_
                rotate_left
                · intro w'
                  go_simp
                  with_reducible rfl
                rotate_left
                · simp only [Act.put, List.setIfInBounds_toArray, List.set_cons_zero, List.set_cons_succ, i64_w, i32_w]
                  rfl
                refine pure_ (i := 4) (N := some 113) (v := ?_) (a' := ?_) #[true, true, true, false, true, false, false, false, false, false, false, false, false, false, false, false, false, false, false, false, false, false, false] rfl rfl (by kernel_rfl) (fun _ _ _ h => h) (Or.inl ⟨by rfl, ?_⟩) ?_ ?_
                rotate_left
                · intro w'
                  go_simp
                  with_reducible rfl
                rotate_left
                · simp only [Act.put, List.setIfInBounds_toArray, List.set_cons_zero, List.set_cons_succ, i64_w, i32_w]
                  rfl
                refine pure_ (i := 12) (N := some 121) (v := ?_) (a' := ?_) #[true, true, true, false, true, false, false, false, false, false, false, false, true, false, false, false, false, false, false, false, false, false, false] rfl rfl (by kernel_rfl) (fun _ _ _ h => h) (Or.inl ⟨by rfl, ?_⟩) ?_ ?_
                rotate_left
                · intro w'
                  go_simp
                  with_reducible rfl
                rotate_left
                · simp only [Act.put, List.setIfInBounds_toArray, List.set_cons_zero, List.set_cons_succ, i64_w, i32_w]
                  rfl
                refine pure_ (i := 14) (N := some 123) (v := ?_) (a' := ?_) #[true, true, true, false, true, false, false, false, false, false, false, false, true, false, true, false, false, false, false, false, false, false, false] rfl rfl (by kernel_rfl) (fun _ _ _ h => h) (Or.inl ⟨by rfl, ?_⟩) ?_ ?_
                rotate_left
                · intro w'
                  go_simp
                  with_reducible rfl
                rotate_left
                · simp only [Act.put, List.setIfInBounds_toArray, List.set_cons_zero, List.set_cons_succ, i64_w, i32_w]
                  rfl
                refine take_ (i := 3) (N := some 112) (v := ?_) (a' := ?_) #[true, true, true, true, true, false, false, false, false, false, false, false, true, false, true, false, false, false, false, false, false, false, false] rfl rfl (by kernel_rfl) (fun _ _ _ h => h) (Or.inl ⟨by rfl, ?_⟩) hHeld ?_ ?_
                rotate_left
                · rintro w' ⟨s0, s1, s2⟩
                  go_simp
                  with_reducible rfl
                rotate_left
                · simp only [Act.put, List.setIfInBounds_toArray, List.set_cons_zero, List.set_cons_succ, i64_w, i32_w]
                  rfl
                refine pure_ (i := 5) (N := some 114) (v := ?_) (a' := ?_) #[true, true, true, true, true, true, false, false, false, false, false, false, true, false, true, false, false, false, false, false, false, false, false] rfl rfl (by kernel_rfl) (fun _ _ _ h => h) (Or.inl ⟨by rfl, ?_⟩) ?_ ?_
                rotate_left
                · intro w'
                  go_simp
                  with_reducible rfl
                rotate_left
                · simp only [Act.put, List.setIfInBounds_toArray, List.set_cons_zero, List.set_cons_succ, i64_w, i32_w]
                  rfl
                refine pure_ (i := 6) (N := some 115) (v := ?_) (a' := ?_) #[true, true, true, true, true, true, true, false, false, false, false, false, true, false, true, false, false, false, false, false, false, false, false] rfl rfl (by kernel_rfl) (fun _ _ _ h => h) (Or.inl ⟨by rfl, ?_⟩) ?_ ?_
                rotate_left
                · intro w'
                  go_simp
                  with_reducible rfl
                rotate_left
                · simp only [Act.put, List.setIfInBounds_toArray, List.set_cons_zero, List.set_cons_succ, i64_w, i32_w]
                  rfl
                refine take_ (i := 7) (N := some 116) (v := ?_) (a' := ?_) #[true, true, true, true, true, true, true, true, false, false, false, false, true, false, true, false, false, false, false, false, false, false, false] rfl rfl (by kernel_rfl) (fun _ _ _ h => h) (Or.inl ⟨by rfl, ?_⟩) hHeld ?_ ?_
                rotate_left
                · rintro w' ⟨s0, s1, s2⟩
                  go_simp
                  with_reducible rfl
                rotate_left
                · simp only [Act.put, List.setIfInBounds_toArray, List.set_cons_zero, List.set_cons_succ, i64_w, i32_w]
                  rfl
                refine pure_ (i := 8) (N := some 117) (v := ?_) (a' := ?_) #[true, true, true, true, true, true, true, true, true, false, false, false, true, false, true, false, false, false, false, false, false, false, false] rfl rfl (by kernel_rfl) (fun _ _ _ h => h) (Or.inl ⟨by rfl, ?_⟩) ?_ ?_
                rotate_left
                · intro w'
                  go_simp
                  with_reducible rfl
                rotate_left
                · simp only [Act.put, List.setIfInBounds_toArray, List.set_cons_zero, List.set_cons_succ, i64_w, i32_w]
                  rfl
                refine take_ (i := 13) (N := some 122) (v := ?_) (a' := ?_) #[true, true, true, true, true, true, true, true, true, false, false, false, true, true, true, false, false, false, false, false, false, false, false] rfl rfl (by kernel_rfl) (fun _ _ _ h => h) (Or.inl ⟨by rfl, ?_⟩) hHeld ?_ ?_
                rotate_left
                · rintro w' ⟨s0, s1, s2⟩
                  go_simp
                  with_reducible rfl
                rotate_left
                · simp only [Act.put, List.setIfInBounds_toArray, List.set_cons_zero, List.set_cons_succ, i64_w, i32_w]
                  rfl
                refine pure_ (i := 15) (N := some 124) (v := ?_) (a' := ?_) #[true, true, true, true, true, true, true, true, true, false, false, false, true, true, true, true, false, false, false, false, false, false, false] rfl rfl (by kernel_rfl) (fun _ _ _ h => h) (Or.inl ⟨by rfl, ?_⟩) ?_ ?_
                rotate_left
                · intro w'
                  go_simp
                  with_reducible rfl
                rotate_left
                · simp only [Act.put, List.setIfInBounds_toArray, List.set_cons_zero, List.set_cons_succ, i64_w, i32_w]
                  rfl
                refine pure_ (i := 16) (N := some 125) (v := ?_) (a' := ?_) #[true, true, true, true, true, true, true, true, true, false, false, false, true, true, true, true, true, false, false, false, false, false, false] rfl rfl (by kernel_rfl) (fun _ _ _ h => h) (Or.inl ⟨by rfl, ?_⟩) ?_ ?_
                rotate_left
                · intro w'
                  go_simp
                  with_reducible rfl
                rotate_left
                · simp only [Act.put, List.setIfInBounds_toArray, List.set_cons_zero, List.set_cons_succ, i64_w, i32_w]
                  rfl
                refine take_ (i := 17) (N := some 126) (v := ?_) (a' := ?_) #[true, true, true, true, true, true, true, true, true, false, false, false, true, true, true, true, true, true, false, false, false, false, false] rfl rfl (by kernel_rfl) (fun _ _ _ h => h) (Or.inl ⟨by rfl, ?_⟩) hHeld ?_ ?_
                rotate_left
                · rintro w' ⟨s0, s1, s2⟩
                  go_simp
                  with_reducible rfl
                rotate_left
                · simp only [Act.put, List.setIfInBounds_toArray, List.set_cons_zero, List.set_cons_succ, i64_w, i32_w]
                  rfl
                refine pure_ (i := 18) (N := some 127) (v := ?_) (a' := ?_) #[true, true, true, true, true, true, true, true, true, false, false, false, true, true, true, true, true, true, true, false, false, false, false] rfl rfl (by kernel_rfl) (fun _ _ _ h => h) (Or.inl ⟨by rfl, ?_⟩) ?_ ?_
                rotate_left
                · intro w'
                  go_simp
                  with_reducible rfl
                rotate_left
                · simp only [Act.put, List.setIfInBounds_toArray, List.set_cons_zero, List.set_cons_succ, i64_w, i32_w]
                  rfl
                refine one_ (i := 9) (N := some 118) #[true, true, true, true, true, true, true, true, true, true, false, false, true, true, true, true, true, true, true, false, false, false, false] rfl rfl (by kernel_rfl) (by decide) (fun K hK => ?_)
                refine goes_ Tryd.func17 (by kernel_rfl) rfl #[.int .i64 mv] (by rfl) rfl rfl (by simp only [List.map_toArray, List.map_cons, List.map_nil]; rfl) ?_
                refine (text_m mv dm MV.out.1 MV.out.2 HDM.out _).mono ?_
                rintro e' wc ⟨rfl, hb⟩
                refine ⟨_, rfl, ?_⟩
                have Ewc := Aside0.mk (below_step (below_drew Ewb.out) hb)
                clear hb
                refine hK.out _ _ ⟨((blk_cell (blk_below F6.out Ewc.out) 10).trans rfl), ((Ewc.out.cell UB.out).trans U0.out), ((Below.cell (p := ⟨(ad.add (ii.toNat * 2)).block, (ad.add (ii.toNat * 2)).off + 1, none⟩) Ewc.out UC.out).trans U1.out)⟩ (fun hHeld => ?_)
                clear hK K
                refine norm_ (a' := ?_) ?_ ?_
                rotate_left
                · show Act.put _ (some 118) _ = _
                  simp only [Act.put, List.setIfInBounds_toArray, List.set_cons_zero, List.set_cons_succ, i64_w, i32_w]
                  rfl
                refine pure_ (i := 10) (N := some 119) (v := ?_) (a' := ?_) #[true, true, true, true, true, true, true, true, true, true, true, false, true, true, true, true, true, true, true, false, false, false, false] rfl rfl (by kernel_rfl) (fun _ _ _ h => h) (Or.inl ⟨by rfl, ?_⟩) ?_ ?_
                rotate_left
                · intro w'
                  go_simp
                  with_reducible rfl
                rotate_left
                · simp only [Act.put, List.setIfInBounds_toArray, List.set_cons_zero, List.set_cons_succ, i64_w, i32_w]
                  rfl
                refine pure_ (i := 11) (N := some 120) (v := ?_) (a' := ?_) #[true, true, true, true, true, true, true, true, true, true, true, true, true, true, true, true, true, true, true, false, false, false, false] rfl rfl (by kernel_rfl) (fun _ _ _ h => h) (Or.inl ⟨by rfl, ?_⟩) ?_ ?_
                rotate_left
                · intro w'
                  go_simp
                  with_reducible rfl
                rotate_left
                · simp only [Act.put, List.setIfInBounds_toArray, List.set_cons_zero, List.set_cons_succ, i64_w, i32_w]
                  rfl
                refine one_ (i := 19) (N := some 128) #[true, true, true, true, true, true, true, true, true, true, true, true, true, true, true, true, true, true, true, true, false, false, false] rfl rfl (by kernel_rfl) (by decide) (fun K hK => ?_)
                refine goes_ Tryd.func17 (by kernel_rfl) rfl #[.int .i64 cv] (by rfl) rfl rfl (by simp only [List.map_toArray, List.map_cons, List.map_nil]; rfl) ?_
                refine (text_m cv dc CV.out.1 CV.out.2 HDC.out _).mono ?_
                rintro e' wd ⟨rfl, hb⟩
                refine ⟨_, rfl, ?_⟩
                have Ewd := Aside0.mk (below_step Ewc.out hb)
                clear hb
                refine hK.out _ _ ⟨((blk_cell (blk_below F6.out Ewd.out) 10).trans rfl), ((Ewd.out.cell UB.out).trans U0.out), ((Below.cell (p := ⟨(ad.add (ii.toNat * 2)).block, (ad.add (ii.toNat * 2)).off + 1, none⟩) Ewd.out UC.out).trans U1.out)⟩ (fun hHeld => ?_)
                clear hK K
                refine norm_ (a' := ?_) ?_ ?_
                rotate_left
                · show Act.put _ (some 128) _ = _
                  simp only [Act.put, List.setIfInBounds_toArray, List.set_cons_zero, List.set_cons_succ, i64_w, i32_w]
                  rfl
                refine pure_ (i := 20) (N := some 129) (v := ?_) (a' := ?_) #[true, true, true, true, true, true, true, true, true, true, true, true, true, true, true, true, true, true, true, true, true, false, false] rfl rfl (by kernel_rfl) (fun _ _ _ h => h) (Or.inl ⟨by rfl, ?_⟩) ?_ ?_
                rotate_left
                · intro w'
                  go_simp
                  with_reducible rfl
                rotate_left
                · simp only [Act.put, List.setIfInBounds_toArray, List.set_cons_zero, List.set_cons_succ, i64_w, i32_w]
                  rfl
                refine pure_ (i := 21) (N := some 130) (v := ?_) (a' := ?_) #[true, true, true, true, true, true, true, true, true, true, true, true, true, true, true, true, true, true, true, true, true, true, false] rfl rfl (by kernel_rfl) (fun _ _ _ h => h) (Or.inl ⟨by rfl, ?_⟩) ?_ ?_
                rotate_left
                · intro w'
                  go_simp
                  with_reducible rfl
                rotate_left
                · simp only [Act.put, List.setIfInBounds_toArray, List.set_cons_zero, List.set_cons_succ, i64_w, i32_w]
                  rfl
                refine pure_ (i := 22) (N := some 7) (v := ?_) (a' := ?_) #[true, true, true, true, true, true, true, true, true, true, true, true, true, true, true, true, true, true, true, true, true, true, true] rfl rfl (by kernel_rfl) (fun _ _ _ h => h) (Or.inl ⟨by rfl, ?_⟩) ?_ ?_
                rotate_left
                · intro w'
                  go_simp
                  with_reducible rfl
                rotate_left
                · simp only [Act.put, List.setIfInBounds_toArray, List.set_cons_zero, List.set_cons_succ, i64_w, i32_w]
                  rfl
                refine done_ (by kernel_rfl) ?_
                go_wp2
                go_roundg (65 - (kk + 1))
                case measure => have := HLT.out; have := HG.out; omega
                case rel => exact ⟨kk + 1, Y5, okN c, by have := HLT.out; omega, by omega, by first | exact congrArg _ EW | simp [EW], rfl, by first | rfl | simp, XN, ⟨by have h := BN.out; rw [hm] at h; exact h⟩, XNL, ⟨below_step B2.out Ewd.out⟩⟩
          · have htk : tasks.take kk = tasks.take 65 := by
              by_cases h1 : kk < tasks.length
              · rw [show kk = 65 by omega]
              · rw [List.take_of_length_le (by omega), List.take_of_length_le (by omega)]
            rw [htk] at HY HD
            have HYL2 := Aside0.mk (show Y.length ≤ 4400 by have := HYL.out; omega)
            have p1 : decide (ii < (tasks.length : Int)) = decide (kk < tasks.length) := by rw [hii]; simp
            by_cases h1 : kk < tasks.length
            · have c1 : decide (ii < (tasks.length : Int)) = true := decide_eq_true (by omega)
              have p_ : decide (ii < 65) = false := decide_eq_false (by omega)
              clear hkk hg hlt hii htk p1 h1
              go_upto_region 20 with (fail)
              clear c1 p_ x10 x11
              go_loopg [6, 7, 13] ops.length (fun gg s6 s7 s13 wr => ∃ (kk : Nat) (Z : List UInt8) (e : Bool), kk ≤ ops.length ∧ ops.length - kk ≤ gg ∧ s13 = .int .i64 kk ∧ s7 = .string ⟨Z.toArray⟩ ∧ s6 = .bool e ∧ Aside0 (Z = Y ++ opsU (ops.take kk)) ∧ Aside0 (e = (d && (ops.take kk).all (fun o => (lineP o).2))) ∧ Aside0 (Z.length ≤ 4400 + 200 * kk) ∧ Aside0 (Below w.heap.size w wr) ∧ Aside0 (wr.heap[F]? = some (.cells #[.int .i64 c0, .int .i64 c1, .int .i64 c2, .int .i64 c3, .int .i64 c4, .int .i64 c5, .int .i64 c6, .int .i64 c7, .int .i64 c8, .int .i64 c9, .slice AT tasks.length cT, .slice AO ops.length cO] 33 (0, 0))))
              case atStart => exact ⟨0, Y, d, by omega, by omega, rfl, rfl, rfl, ⟨by simp [opsU]⟩, ⟨by simp⟩, ⟨by have := HYL2.out; omega⟩, B6, F6⟩
              case round =>
                obtain ⟨kk, Z, e, hkk, hg, rfl, rfl, rfl, HZ, HE, HZL, B7, F7⟩ := hrel
                obtain ⟨ii, hii⟩ : ∃ n : Int, n = (kk : Int) := ⟨_, rfl⟩
                rw [← hii]
                obtain ⟨-, -, -, -, -, -, -, -, -, -, x10, x11, -, -, -, -, -, -, -, -, -, -, -, -⟩ := cells12 F7.out
                by_cases hlt : kk < ops.length
                · have c1 : decide (ii < (ops.length : Int)) = true := decide_eq_true (by omega)
                  have c2 : decide (ii < 4097) = true := decide_eq_true (by have := H70.out; omega)
                  have p1 := eq_true (show (0 : Int) ≤ ii by omega)
                  have q1 := eq_true (show ii < (ops.length : Int) by omega)
                  obtain ⟨ad, ead, u0, u1, u2, u3, u4⟩ := op_get (Kd.C_below HO.out B7.out) kk hlt
                  subst ead
                  obtain ⟨⟨xk, xa, xb, xc, xd⟩, hv⟩ : ∃ v, ops.getD kk ⟨0, 0, 0, 0, 0⟩ = v := ⟨_, rfl⟩
                  have HV := Aside0.mk hv
                  rw [hv, show kk = ii.toNat by omega] at u0 u1 u2 u3 u4
                  simp only at u0 u1 u2 u3 u4
                  obtain ⟨⟨lt, lb⟩, hl⟩ : ∃ r, lineP ⟨xk, xa, xb, xc, xd⟩ = r := ⟨_, rfl⟩
                  have HL := Aside0.mk hl
                  have hll : lt.length ≤ 200 := by
                    have h := line_len ⟨xk, xa, xb, xc, xd⟩
                    rw [hl] at h
                    exact h
                  have hzl := HZL.out
                  have HII := Aside0.mk hii
                  have HLT := Aside0.mk hlt
                  have HG := Aside0.mk hg
                  obtain ⟨Z1, hZ1⟩ : ∃ X_, X_ = Z ++ lt := ⟨_, rfl⟩
                  have a1 : ∀ W : World, (Op.stringOp .add (⟨Z.toArray⟩ : ByteArray) ⟨lt.toArray⟩).run Tryd.prog W = .ok (.string ⟨Z1.toArray⟩) W := by rw [hZ1]; exact add_lit _ _ (by have := H70.out; omega)
                  have XN := Aside0.mk (show Z1 = Y ++ opsU (ops.take (kk + 1)) by rw [hZ1, HZ.out, take_snoc ops kk ⟨0, 0, 0, 0, 0⟩ hlt, hv]; simp only [opsU, List.flatMap_append, List.flatMap_cons, List.flatMap_nil, List.append_nil, hl]; simp)
                  have XNL := Aside0.mk (show Z1.length ≤ 4400 + 200 * (kk + 1) by rw [hZ1, List.length_append]; omega)
                  have BN := Aside0.mk (show (e && lb) = (d && (ops.take (kk + 1)).all (fun o => (lineP o).2)) by rw [HE.out, take_snoc ops kk ⟨0, 0, 0, 0, 0⟩ hlt, hv, List.all_append]; simp [Bool.and_assoc, hl])
                  have EW : wrap64 (ii + 1) = ((kk + 1 : Nat) : Int) := by have := H70.out; unfold wrap64; omega
                  clear hZ1 hii hlt hg hkk hv hl hll hzl
                  go_upto_region 23 with (first
                    | (go_at_call 31; refine (line_calls xk xa xb xc xd _ (lt, lb) HL.out).mono ?_; rintro e' wa ⟨rfl, hb⟩; have Ewa := Aside0.mk (below_step B7.out hb); have Fwa := Aside0.mk (blk_below F7.out hb); clear hb))
                  clear u0 u1 u2 u3 u4 x10 x11
                  cases e with
                  | false =>
                    go_wp2
                    go_roundg (ops.length - (kk + 1))
                    case measure => have := HLT.out; have := HG.out; omega
                    case rel => exact ⟨kk + 1, Z1, false, by have := HLT.out; omega, by omega, by first | exact congrArg _ EW | simp [EW], rfl, rfl, XN, BN, XNL, Ewa, Fwa⟩
                  | true =>
                    go_wp2
                    go_roundg (ops.length - (kk + 1))
                    case measure => have := HLT.out; have := HG.out; omega
                    case rel => exact ⟨kk + 1, Z1, lb, by have := HLT.out; omega, by omega, by first | exact congrArg _ EW | simp [EW], rfl, by first | rfl | simp, XN, BN, XNL, Ewa, Fwa⟩
                · have c1 : decide (ii < (ops.length : Int)) = false := decide_eq_false (by omega)
                  have hfull : ops.take kk = ops := List.take_of_length_le (by omega)
                  rw [hfull] at HZ HE
                  have HOK := Aside0.mk (show okU ⟨vs, tasks, ops⟩ = e by
                    have h1 : decide (ops.length ≤ 4096) = true := decide_eq_true (by have := H70.out; omega)
                    have h2 : decide (tasks.length ≤ 64) = true := decide_eq_true H64.out
                    rw [HE.out, HD.out, HB_.out]
                    show ((((decide (tasks.length ≤ 64) && decide (ops.length ≤ 4096)) && _) && _) && _) = _
                    rw [h1, h2]
                    simp)
                  have HRT := Aside0.mk (show r = if e = true then (Z, 0) else ([], 1) by
                    rw [← HRV.out]
                    unfold refT
                    rw [HOK.out, HZ.out, HY.out, HX1.out])
                  clear hkk hg hlt hii hfull
                  cases e with
                  | false =>
                    obtain rfl : r = ([], 1) := HRT.out
                    clear HRT
                    go_wp2
                    first | go_ret | go_ret2
                    exact ⟨by first | rfl | simp, B7.out⟩
                  | true =>
                    obtain rfl : r = (Z, 0) := HRT.out
                    clear HRT
                    go_wp2
                    first | go_ret | go_ret2
                    exact ⟨by first | rfl | simp, B7.out⟩
            · have c1 : decide (ii < (tasks.length : Int)) = false := decide_eq_false (by omega)
              have p_ := True.intro
              clear hkk hg hlt hii htk p1 h1
              go_upto_region 20 with (fail)
              clear c1 p_ x10 x11
              go_loopg [6, 7, 13] ops.length (fun gg s6 s7 s13 wr => ∃ (kk : Nat) (Z : List UInt8) (e : Bool), kk ≤ ops.length ∧ ops.length - kk ≤ gg ∧ s13 = .int .i64 kk ∧ s7 = .string ⟨Z.toArray⟩ ∧ s6 = .bool e ∧ Aside0 (Z = Y ++ opsU (ops.take kk)) ∧ Aside0 (e = (d && (ops.take kk).all (fun o => (lineP o).2))) ∧ Aside0 (Z.length ≤ 4400 + 200 * kk) ∧ Aside0 (Below w.heap.size w wr) ∧ Aside0 (wr.heap[F]? = some (.cells #[.int .i64 c0, .int .i64 c1, .int .i64 c2, .int .i64 c3, .int .i64 c4, .int .i64 c5, .int .i64 c6, .int .i64 c7, .int .i64 c8, .int .i64 c9, .slice AT tasks.length cT, .slice AO ops.length cO] 33 (0, 0))))
              case atStart => exact ⟨0, Y, d, by omega, by omega, rfl, rfl, rfl, ⟨by simp [opsU]⟩, ⟨by simp⟩, ⟨by have := HYL2.out; omega⟩, B6, F6⟩
              case round =>
                obtain ⟨kk, Z, e, hkk, hg, rfl, rfl, rfl, HZ, HE, HZL, B7, F7⟩ := hrel
                obtain ⟨ii, hii⟩ : ∃ n : Int, n = (kk : Int) := ⟨_, rfl⟩
                rw [← hii]
                obtain ⟨-, -, -, -, -, -, -, -, -, -, x10, x11, -, -, -, -, -, -, -, -, -, -, -, -⟩ := cells12 F7.out
                by_cases hlt : kk < ops.length
                · have c1 : decide (ii < (ops.length : Int)) = true := decide_eq_true (by omega)
                  have c2 : decide (ii < 4097) = true := decide_eq_true (by have := H70.out; omega)
                  have p1 := eq_true (show (0 : Int) ≤ ii by omega)
                  have q1 := eq_true (show ii < (ops.length : Int) by omega)
                  obtain ⟨ad, ead, u0, u1, u2, u3, u4⟩ := op_get (Kd.C_below HO.out B7.out) kk hlt
                  subst ead
                  obtain ⟨⟨xk, xa, xb, xc, xd⟩, hv⟩ : ∃ v, ops.getD kk ⟨0, 0, 0, 0, 0⟩ = v := ⟨_, rfl⟩
                  have HV := Aside0.mk hv
                  rw [hv, show kk = ii.toNat by omega] at u0 u1 u2 u3 u4
                  simp only at u0 u1 u2 u3 u4
                  obtain ⟨⟨lt, lb⟩, hl⟩ : ∃ r, lineP ⟨xk, xa, xb, xc, xd⟩ = r := ⟨_, rfl⟩
                  have HL := Aside0.mk hl
                  have hll : lt.length ≤ 200 := by
                    have h := line_len ⟨xk, xa, xb, xc, xd⟩
                    rw [hl] at h
                    exact h
                  have hzl := HZL.out
                  have HII := Aside0.mk hii
                  have HLT := Aside0.mk hlt
                  have HG := Aside0.mk hg
                  obtain ⟨Z1, hZ1⟩ : ∃ X_, X_ = Z ++ lt := ⟨_, rfl⟩
                  have a1 : ∀ W : World, (Op.stringOp .add (⟨Z.toArray⟩ : ByteArray) ⟨lt.toArray⟩).run Tryd.prog W = .ok (.string ⟨Z1.toArray⟩) W := by rw [hZ1]; exact add_lit _ _ (by have := H70.out; omega)
                  have XN := Aside0.mk (show Z1 = Y ++ opsU (ops.take (kk + 1)) by rw [hZ1, HZ.out, take_snoc ops kk ⟨0, 0, 0, 0, 0⟩ hlt, hv]; simp only [opsU, List.flatMap_append, List.flatMap_cons, List.flatMap_nil, List.append_nil, hl]; simp)
                  have XNL := Aside0.mk (show Z1.length ≤ 4400 + 200 * (kk + 1) by rw [hZ1, List.length_append]; omega)
                  have BN := Aside0.mk (show (e && lb) = (d && (ops.take (kk + 1)).all (fun o => (lineP o).2)) by rw [HE.out, take_snoc ops kk ⟨0, 0, 0, 0, 0⟩ hlt, hv, List.all_append]; simp [Bool.and_assoc, hl])
                  have EW : wrap64 (ii + 1) = ((kk + 1 : Nat) : Int) := by have := H70.out; unfold wrap64; omega
                  clear hZ1 hii hlt hg hkk hv hl hll hzl
                  go_upto_region 23 with (first
                    | (go_at_call 31; refine (line_calls xk xa xb xc xd _ (lt, lb) HL.out).mono ?_; rintro e' wa ⟨rfl, hb⟩; have Ewa := Aside0.mk (below_step B7.out hb); have Fwa := Aside0.mk (blk_below F7.out hb); clear hb))
                  clear u0 u1 u2 u3 u4 x10 x11
                  cases e with
                  | false =>
                    go_wp2
                    go_roundg (ops.length - (kk + 1))
                    case measure => have := HLT.out; have := HG.out; omega
                    case rel => exact ⟨kk + 1, Z1, false, by have := HLT.out; omega, by omega, by first | exact congrArg _ EW | simp [EW], rfl, rfl, XN, BN, XNL, Ewa, Fwa⟩
                  | true =>
                    go_wp2
                    go_roundg (ops.length - (kk + 1))
                    case measure => have := HLT.out; have := HG.out; omega
                    case rel => exact ⟨kk + 1, Z1, lb, by have := HLT.out; omega, by omega, by first | exact congrArg _ EW | simp [EW], rfl, by first | rfl | simp, XN, BN, XNL, Ewa, Fwa⟩
                · have c1 : decide (ii < (ops.length : Int)) = false := decide_eq_false (by omega)
                  have hfull : ops.take kk = ops := List.take_of_length_le (by omega)
                  rw [hfull] at HZ HE
                  have HOK := Aside0.mk (show okU ⟨vs, tasks, ops⟩ = e by
                    have h1 : decide (ops.length ≤ 4096) = true := decide_eq_true (by have := H70.out; omega)
                    have h2 : decide (tasks.length ≤ 64) = true := decide_eq_true H64.out
                    rw [HE.out, HD.out, HB_.out]
                    show ((((decide (tasks.length ≤ 64) && decide (ops.length ≤ 4096)) && _) && _) && _) = _
                    rw [h1, h2]
                    simp)
                  have HRT := Aside0.mk (show r = if e = true then (Z, 0) else ([], 1) by
                    rw [← HRV.out]
                    unfold refT
                    rw [HOK.out, HZ.out, HY.out, HX1.out])
                  clear hkk hg hlt hii hfull
                  cases e with
                  | false =>
                    obtain rfl : r = ([], 1) := HRT.out
                    clear HRT
                    go_wp2
                    first | go_ret | go_ret2
                    exact ⟨by first | rfl | simp, B7.out⟩
                  | true =>
                    obtain rfl : r = (Z, 0) := HRT.out
                    clear HRT
                    go_wp2
                    first | go_ret | go_ret2
                    exact ⟨by first | rfl | simp, B7.out⟩
  · have kt : decide (tasks.length ≤ 64) = false := decide_eq_false h64
    have kt2 : decide ((tasks.length : Int) ≤ 64) = false := decide_eq_false (by omega)
    have H64 := Aside0.mk h64
    clear h64
    go_upto_region 6 with (fail)
    clear kt kt2 ko ko2 x10 x11
    have hc0 : configB.length = 6 := rfl
    go_loopg [6, 7, 8] 10 (fun gg s6 s7 s8 wr => ∃ (kk : Nat) (X : List UInt8) (b : Bool), kk ≤ 10 ∧ 10 - kk ≤ gg ∧ s8 = .int .i64 kk ∧ s7 = .string ⟨X.toArray⟩ ∧ s6 = .bool b ∧ Aside0 (X = configB ++ cfgU 0 (vs.take kk)) ∧ Aside0 (b = (false && (vs.take kk).all okN)) ∧ Aside0 (X.length ≤ 6 + 40 * kk) ∧ Aside0 (Below w4.heap.size w4 wr))
    case atStart => exact ⟨0, configB, false, by omega, by omega, rfl, rfl, rfl, ⟨by simp [cfgU]⟩, ⟨by simp⟩, ⟨by omega⟩, ⟨Below.refl _ _⟩⟩
    case round =>
      clear hc0
      obtain ⟨kk, X, b, hkk, hg, rfl, rfl, rfl, HX, HB_, HXL, BR⟩ := hrel
      obtain ⟨ii, hii⟩ : ∃ n : Int, n = (kk : Int) := ⟨_, rfl⟩
      rw [← hii]
      by_cases hlt : kk < 10
      · have e7 : decide (ii < 10) = true := decide_eq_true (by omega)
        have p1 := eq_true (show (0 : Int) ≤ ii by omega)
        have q1 := eq_true (show ii < 10 by omega)
        obtain ⟨ad, ead, u0⟩ := int_get (Kd.R_below LR4.out BR.out) kk (by rw [VL.out]; exact hlt)
        subst ead
        obtain ⟨v, hv⟩ : ∃ v, vs.getD kk 0 = v := ⟨_, rfl⟩
        have HV := Aside0.mk hv
        have VIN := Aside0.mk (show PaP.inI v by rw [← hv]; exact HIV.out _ (getD_mem vs kk 0 (by rw [VL.out]; exact hlt)))
        have UB := Aside0.mk (show (ad.add ii.toNat).block < wr.heap.size by
          have h1 : wr.cell? (ad.add kk) = some (.int .i64 v) := by rw [← hv]; exact u0
          have h2 : (ad.add ii.toNat) = ad.add kk := by rw [hii, Int.toNat_natCast]
          rw [h2]
          unfold World.cell? at h1
          cases hh : wr.heap[(ad.add kk).block]? with
          | none => rw [hh] at h1; simp at h1
          | some ob => exact blk_lt hh)
        rw [hv, show kk = ii.toNat by omega] at u0
        have U0 := Aside0.mk u0
        obtain ⟨nm, hnm⟩ : ∃ l, namesT.getD kk [] = l := ⟨_, rfl⟩
        have NML := Aside0.mk (show nm.length ≤ 8 by rw [← hnm]; exact name_len kk)
        obtain ⟨mv, hmv⟩ : ∃ m, (if v < 0 then 0 else v) = m := ⟨_, rfl⟩
        obtain ⟨dg, hdg⟩ : ∃ l, dig mv = l := ⟨_, rfl⟩
        have MV := Aside0.mk (show 0 ≤ mv ∧ mv ≤ 9223372036854775807 by rw [← hmv]; exact mx0_in v VIN.out)
        have DGL := Aside0.mk (show dg.length ≤ 21 by rw [← hdg, ← hmv]; exact dig_len v VIN.out)
        have PU := Aside0.mk (show pieceU kk v = (([32] ++ nm) ++ [32]) ++ dg by rw [← hnm, ← hdg, ← hmv]; rfl)
        have HDG := Aside0.mk hdg
        have HNM := Aside0.mk hnm
        have HII := Aside0.mk hii
        have HLT := Aside0.mk hlt
        have HG := Aside0.mk hg
        have hxl := HXL.out
        have hnl := NML.out
        have hdl := DGL.out
        have h32 : ([32] : List UInt8).length = 1 := rfl
        obtain ⟨Y1, hY1⟩ : ∃ X_, X_ = (X : List UInt8) ++ [32] := ⟨_, rfl⟩
        have hl1 : Y1.length = X.length + ([32] : List UInt8).length := by rw [hY1, List.length_append]
        have a1 : ∀ W : World, (Op.stringOp .add (⟨(X : List UInt8).toArray⟩ : ByteArray) ⟨([32] : List UInt8).toArray⟩).run Tryd.prog W = .ok (.string ⟨Y1.toArray⟩) W := by rw [hY1]; exact add_lit _ _ (by omega)
        obtain ⟨Y2, hY2⟩ : ∃ X_, X_ = (Y1 : List UInt8) ++ nm := ⟨_, rfl⟩
        have hl2 : Y2.length = Y1.length + (nm : List UInt8).length := by rw [hY2, List.length_append]
        have a2 : ∀ W : World, (Op.stringOp .add (⟨(Y1 : List UInt8).toArray⟩ : ByteArray) ⟨(nm : List UInt8).toArray⟩).run Tryd.prog W = .ok (.string ⟨Y2.toArray⟩) W := by rw [hY2]; exact add_lit _ _ (by omega)
        obtain ⟨Y3, hY3⟩ : ∃ X_, X_ = (Y2 : List UInt8) ++ [32] := ⟨_, rfl⟩
        have hl3 : Y3.length = Y2.length + ([32] : List UInt8).length := by rw [hY3, List.length_append]
        have a3 : ∀ W : World, (Op.stringOp .add (⟨(Y2 : List UInt8).toArray⟩ : ByteArray) ⟨([32] : List UInt8).toArray⟩).run Tryd.prog W = .ok (.string ⟨Y3.toArray⟩) W := by rw [hY3]; exact add_lit _ _ (by omega)
        obtain ⟨Y4, hY4⟩ : ∃ X_, X_ = (Y3 : List UInt8) ++ dg := ⟨_, rfl⟩
        have hl4 : Y4.length = Y3.length + (dg : List UInt8).length := by rw [hY4, List.length_append]
        have a4 : ∀ W : World, (Op.stringOp .add (⟨(Y3 : List UInt8).toArray⟩ : ByteArray) ⟨(dg : List UInt8).toArray⟩).run Tryd.prog W = .ok (.string ⟨Y4.toArray⟩) W := by rw [hY4]; exact add_lit _ _ (by omega)
        have XN := Aside0.mk (show Y4 = configB ++ cfgU 0 (vs.take (kk + 1)) by rw [hY4, hY3, hY2, hY1, HX.out, take_snoc vs kk 0 (by rw [VL.out]; exact hlt), hv, cfgU_snoc, List.length_take, VL.out, Nat.min_eq_left hkk, Nat.zero_add, PU.out]; simp)
        have XNL := Aside0.mk (show Y4.length ≤ 6 + 40 * (kk + 1) by omega)
        have BN := Aside0.mk (show (b && okN v) = (false && (vs.take (kk + 1)).all okN) by rw [HB_.out, take_snoc vs kk 0 (by rw [VL.out]; exact hlt), hv, List.all_append]; simp [Bool.and_assoc])
        have EW : wrap64 (ii + 1) = ((kk + 1 : Nat) : Int) := by unfold wrap64; omega
        clear hY1 hY2 hY3 hY4 hl1 hl2 hl3 hl4 hxl hnl hdl h32 hdg hnm hii hlt hg hkk hv
        go_upto_region 9 with (first
          | (go_at_call 29; refine (right_ref v _).mono ?_; rintro e' wa ⟨rfl, hb⟩; have Ewa := Aside0.mk (below_step (Below.refl _ _) hb); clear hb))
        clear u0
        cases b with
        | false =>
          go_upto_region 10 with (fail)
          refine start_ (n := 14) (S := fun w' => w'.cell? (ad.add ii.toNat) = some (.int .i64 v)) (ds := []) #[false, false, false, false, false, false, false, false, false, false, false, false, false, false] (by kernel_rfl) rfl rfl ((((below_drew Ewa.out).cell UB.out).trans U0.out)) (fun hHeld => ?_)
          refine pure_ (i := 0) (N := some 62) (v := ?_) (a' := ?_) #[true, false, false, false, false, false, false, false, false, false, false, false, false, false] rfl rfl (by kernel_rfl) (fun _ _ _ h => h) (Or.inl ⟨by rfl, ?_⟩) ?_ ?_
          rotate_left
          · intro w'
            go_simp
            with_reducible rfl
          rotate_left
          · simp only [Act.put, List.setIfInBounds_toArray, List.set_cons_zero, List.set_cons_succ, i64_w, i32_w]
            rfl
          refine pure_ (i := 1) (N := some 63) (v := ?_) (a' := ?_) #[true, true, false, false, false, false, false, false, false, false, false, false, false, false] rfl rfl (by kernel_rfl) (fun _ _ _ h => h) (Or.inl ⟨by rfl, ?_⟩) ?_ ?_
          rotate_left
          · intro w'
            go_simp
            with_reducible rfl
          rotate_left
          · simp only [Act.put, List.setIfInBounds_toArray, List.set_cons_zero, List.set_cons_succ, i64_w, i32_w]
            rfl
          refine pure_ (i := 2) (N := some 64) (v := ?_) (a' := ?_) #[true, true, true, false, false, false, false, false, false, false, false, false, false, false] rfl rfl (by kernel_rfl) (fun _ _ _ h => h) (Or.inl ⟨by rfl, ?_⟩) ?_ ?_
          rotate_left
          · intro w'
            go_simp
            with_reducible rfl
          rotate_left
          · simp only [Act.put, List.setIfInBounds_toArray, List.set_cons_zero, List.set_cons_succ, i64_w, i32_w]
            rfl
          refine pure_ (i := 6) (N := some 68) (v := ?_) (a' := ?_) #[true, true, true, false, false, false, true, false, false, false, false, false, false, false] rfl rfl (by kernel_rfl) (fun _ _ _ h => h) (Or.inl ⟨by rfl, ?_⟩) ?_ ?_
          rotate_left
          · intro w'
            go_simp
            with_reducible rfl
          rotate_left
          · simp only [Act.put, List.setIfInBounds_toArray, List.set_cons_zero, List.set_cons_succ, i64_w, i32_w]
            rfl
          refine pure_ (i := 7) (N := some 69) (v := ?_) (a' := ?_) #[true, true, true, false, false, false, true, true, false, false, false, false, false, false] rfl rfl (by kernel_rfl) (fun _ _ _ h => h) (Or.inl ⟨by rfl, ?_⟩) ?_ ?_
          rotate_left
          · intro w'
            go_simp
            with_reducible rfl
          rotate_left
          · simp only [Act.put, List.setIfInBounds_toArray, List.set_cons_zero, List.set_cons_succ, i64_w, i32_w]
            rfl
          refine pure_ (i := 8) (N := some 70) (v := ?_) (a' := ?_) #[true, true, true, false, false, false, true, true, true, false, false, false, false, false] rfl rfl (by kernel_rfl) (fun _ _ _ h => h) (Or.inl ⟨by rfl, ?_⟩) ?_ ?_
          rotate_left
          · intro w'
            go_simp
            with_reducible rfl
          rotate_left
          · simp only [Act.put, List.setIfInBounds_toArray, List.set_cons_zero, List.set_cons_succ, i64_w, i32_w]
            rfl
          refine take_ (i := 9) (N := some 71) (v := ?_) (a' := ?_) #[true, true, true, false, false, false, true, true, true, true, false, false, false, false] rfl rfl (by kernel_rfl) (fun _ _ _ h => h) (Or.inl ⟨by rfl, ?_⟩) hHeld ?_ ?_
          rotate_left
          · intro w' s0
            go_simp
            with_reducible rfl
          rotate_left
          · simp only [Act.put, List.setIfInBounds_toArray, List.set_cons_zero, List.set_cons_succ, i64_w, i32_w]
            rfl
          refine pure_ (i := 10) (N := some 72) (v := ?_) (a' := ?_) #[true, true, true, false, false, false, true, true, true, true, true, false, false, false] rfl rfl (by kernel_rfl) (fun _ _ _ h => h) (Or.inl ⟨by rfl, ?_⟩) ?_ ?_
          rotate_left
          · intro w'
            go_simp
            with_reducible rfl
          rotate_left
          · simp only [Act.put, List.setIfInBounds_toArray, List.set_cons_zero, List.set_cons_succ, i64_w, i32_w]
            rfl
          refine one_ (i := 3) (N := some 65) #[true, true, true, true, false, false, true, true, true, true, true, false, false, false] rfl rfl (by kernel_rfl) (by decide) (fun K hK => ?_)
          refine goes_ Tryd.func30 (by kernel_rfl) rfl #[.int .i64 ii] (by rfl) rfl rfl (by simp only [List.map_toArray, List.map_cons, List.map_nil]; rfl) ?_
          refine (name_i ii kk nm HII.out HLT.out HNM.out _).mono ?_
          rintro e' wb ⟨rfl, hb⟩
          refine ⟨_, rfl, ?_⟩
          have Ewb := Aside0.mk (below_step (below_drew Ewa.out) hb)
          clear hb
          refine hK.out _ _ (((Ewb.out.cell UB.out).trans U0.out)) (fun hHeld => ?_)
          clear hK K
          refine norm_ (a' := ?_) ?_ ?_
          rotate_left
          · show Act.put _ (some 65) _ = _
            simp only [Act.put, List.setIfInBounds_toArray, List.set_cons_zero, List.set_cons_succ, i64_w, i32_w]
            rfl
          refine pure_ (i := 4) (N := some 66) (v := ?_) (a' := ?_) #[true, true, true, true, true, false, true, true, true, true, true, false, false, false] rfl rfl (by kernel_rfl) (fun _ _ _ h => h) (Or.inl ⟨by rfl, ?_⟩) ?_ ?_
          rotate_left
          · intro w'
            go_simp
            with_reducible rfl
          rotate_left
          · simp only [Act.put, List.setIfInBounds_toArray, List.set_cons_zero, List.set_cons_succ, i64_w, i32_w]
            rfl
          refine pure_ (i := 5) (N := some 67) (v := ?_) (a' := ?_) #[true, true, true, true, true, true, true, true, true, true, true, false, false, false] rfl rfl (by kernel_rfl) (fun _ _ _ h => h) (Or.inl ⟨by rfl, ?_⟩) ?_ ?_
          rotate_left
          · intro w'
            go_simp
            with_reducible rfl
          rotate_left
          · simp only [Act.put, List.setIfInBounds_toArray, List.set_cons_zero, List.set_cons_succ, i64_w, i32_w]
            rfl
          refine one_ (i := 11) (N := some 73) #[true, true, true, true, true, true, true, true, true, true, true, true, false, false] rfl rfl (by kernel_rfl) (by decide) (fun K hK => ?_)
          refine goes_ Tryd.func17 (by kernel_rfl) rfl #[.int .i64 mv] (by rfl) rfl rfl (by simp only [List.map_toArray, List.map_cons, List.map_nil]; rfl) ?_
          refine (text_m mv dg MV.out.1 MV.out.2 HDG.out _).mono ?_
          rintro e' wc ⟨rfl, hb⟩
          refine ⟨_, rfl, ?_⟩
          have Ewc := Aside0.mk (below_step Ewb.out hb)
          clear hb
          refine hK.out _ _ (((Ewc.out.cell UB.out).trans U0.out)) (fun hHeld => ?_)
          clear hK K
          refine norm_ (a' := ?_) ?_ ?_
          rotate_left
          · show Act.put _ (some 73) _ = _
            simp only [Act.put, List.setIfInBounds_toArray, List.set_cons_zero, List.set_cons_succ, i64_w, i32_w]
            rfl
          refine pure_ (i := 12) (N := some 74) (v := ?_) (a' := ?_) #[true, true, true, true, true, true, true, true, true, true, true, true, true, false] rfl rfl (by kernel_rfl) (fun _ _ _ h => h) (Or.inl ⟨by rfl, ?_⟩) ?_ ?_
          rotate_left
          · intro w'
            go_simp
            with_reducible rfl
          rotate_left
          · simp only [Act.put, List.setIfInBounds_toArray, List.set_cons_zero, List.set_cons_succ, i64_w, i32_w]
            rfl
          refine pure_ (i := 13) (N := some 7) (v := ?_) (a' := ?_) #[true, true, true, true, true, true, true, true, true, true, true, true, true, true] rfl rfl (by kernel_rfl) (fun _ _ _ h => h) (Or.inl ⟨by rfl, ?_⟩) ?_ ?_
          rotate_left
          · intro w'
            go_simp
            with_reducible rfl
          rotate_left
          · simp only [Act.put, List.setIfInBounds_toArray, List.set_cons_zero, List.set_cons_succ, i64_w, i32_w]
            rfl
          refine done_ (by kernel_rfl) ?_
          go_wp2
          go_roundg (10 - (kk + 1))
          case measure => have := HLT.out; have := HG.out; omega
          case rel => exact ⟨kk + 1, Y4, false, by have := HLT.out; omega, by omega, by first | exact congrArg _ EW | simp [EW], rfl, rfl, XN, BN, XNL, ⟨below_step BR.out Ewc.out⟩⟩
        | true =>
          go_upto_region 10 with (fail)
          refine start_ (n := 14) (S := fun w' => w'.cell? (ad.add ii.toNat) = some (.int .i64 v)) (ds := []) #[false, false, false, false, false, false, false, false, false, false, false, false, false, false] (by kernel_rfl) rfl rfl ((((below_drew Ewa.out).cell UB.out).trans U0.out)) (fun hHeld => ?_)
          refine pure_ (i := 0) (N := some 62) (v := ?_) (a' := ?_) #[true, false, false, false, false, false, false, false, false, false, false, false, false, false] rfl rfl (by kernel_rfl) (fun _ _ _ h => h) (Or.inl ⟨by rfl, ?_⟩) ?_ ?_
          rotate_left
          · intro w'
            go_simp
            with_reducible rfl
          rotate_left
          · simp only [Act.put, List.setIfInBounds_toArray, List.set_cons_zero, List.set_cons_succ, i64_w, i32_w]
            rfl
          refine pure_ (i := 1) (N := some 63) (v := ?_) (a' := ?_) #[true, true, false, false, false, false, false, false, false, false, false, false, false, false] rfl rfl (by kernel_rfl) (fun _ _ _ h => h) (Or.inl ⟨by rfl, ?_⟩) ?_ ?_
          rotate_left
          · intro w'
            go_simp
            with_reducible rfl
          rotate_left
          · simp only [Act.put, List.setIfInBounds_toArray, List.set_cons_zero, List.set_cons_succ, i64_w, i32_w]
            rfl
          refine pure_ (i := 2) (N := some 64) (v := ?_) (a' := ?_) #[true, true, true, false, false, false, false, false, false, false, false, false, false, false] rfl rfl (by kernel_rfl) (fun _ _ _ h => h) (Or.inl ⟨by rfl, ?_⟩) ?_ ?_
          rotate_left
          · intro w'
            go_simp
            with_reducible rfl
          rotate_left
          · simp only [Act.put, List.setIfInBounds_toArray, List.set_cons_zero, List.set_cons_succ, i64_w, i32_w]
            rfl
          refine pure_ (i := 6) (N := some 68) (v := ?_) (a' := ?_) #[true, true, true, false, false, false, true, false, false, false, false, false, false, false] rfl rfl (by kernel_rfl) (fun _ _ _ h => h) (Or.inl ⟨by rfl, ?_⟩) ?_ ?_
          rotate_left
          · intro w'
            go_simp
            with_reducible rfl
          rotate_left
          · simp only [Act.put, List.setIfInBounds_toArray, List.set_cons_zero, List.set_cons_succ, i64_w, i32_w]
            rfl
          refine pure_ (i := 7) (N := some 69) (v := ?_) (a' := ?_) #[true, true, true, false, false, false, true, true, false, false, false, false, false, false] rfl rfl (by kernel_rfl) (fun _ _ _ h => h) (Or.inl ⟨by rfl, ?_⟩) ?_ ?_
          rotate_left
          · intro w'
            go_simp
            with_reducible rfl
          rotate_left
          · simp only [Act.put, List.setIfInBounds_toArray, List.set_cons_zero, List.set_cons_succ, i64_w, i32_w]
            rfl
          refine pure_ (i := 8) (N := some 70) (v := ?_) (a' := ?_) #[true, true, true, false, false, false, true, true, true, false, false, false, false, false] rfl rfl (by kernel_rfl) (fun _ _ _ h => h) (Or.inl ⟨by rfl, ?_⟩) ?_ ?_
          rotate_left
          · intro w'
            go_simp
            with_reducible rfl
          rotate_left
          · simp only [Act.put, List.setIfInBounds_toArray, List.set_cons_zero, List.set_cons_succ, i64_w, i32_w]
            rfl
          refine take_ (i := 9) (N := some 71) (v := ?_) (a' := ?_) #[true, true, true, false, false, false, true, true, true, true, false, false, false, false] rfl rfl (by kernel_rfl) (fun _ _ _ h => h) (Or.inl ⟨by rfl, ?_⟩) hHeld ?_ ?_
          rotate_left
          · intro w' s0
            go_simp
            with_reducible rfl
          rotate_left
          · simp only [Act.put, List.setIfInBounds_toArray, List.set_cons_zero, List.set_cons_succ, i64_w, i32_w]
            rfl
          refine pure_ (i := 10) (N := some 72) (v := ?_) (a' := ?_) #[true, true, true, false, false, false, true, true, true, true, true, false, false, false] rfl rfl (by kernel_rfl) (fun _ _ _ h => h) (Or.inl ⟨by rfl, ?_⟩) ?_ ?_
          rotate_left
          · intro w'
            go_simp
            with_reducible rfl
          rotate_left
          · simp only [Act.put, List.setIfInBounds_toArray, List.set_cons_zero, List.set_cons_succ, i64_w, i32_w]
            rfl
          refine one_ (i := 3) (N := some 65) #[true, true, true, true, false, false, true, true, true, true, true, false, false, false] rfl rfl (by kernel_rfl) (by decide) (fun K hK => ?_)
          refine goes_ Tryd.func30 (by kernel_rfl) rfl #[.int .i64 ii] (by rfl) rfl rfl (by simp only [List.map_toArray, List.map_cons, List.map_nil]; rfl) ?_
          refine (name_i ii kk nm HII.out HLT.out HNM.out _).mono ?_
          rintro e' wb ⟨rfl, hb⟩
          refine ⟨_, rfl, ?_⟩
          have Ewb := Aside0.mk (below_step (below_drew Ewa.out) hb)
          clear hb
          refine hK.out _ _ (((Ewb.out.cell UB.out).trans U0.out)) (fun hHeld => ?_)
          clear hK K
          refine norm_ (a' := ?_) ?_ ?_
          rotate_left
          · show Act.put _ (some 65) _ = _
            simp only [Act.put, List.setIfInBounds_toArray, List.set_cons_zero, List.set_cons_succ, i64_w, i32_w]
            rfl
          refine pure_ (i := 4) (N := some 66) (v := ?_) (a' := ?_) #[true, true, true, true, true, false, true, true, true, true, true, false, false, false] rfl rfl (by kernel_rfl) (fun _ _ _ h => h) (Or.inl ⟨by rfl, ?_⟩) ?_ ?_
          rotate_left
          · intro w'
            go_simp
            with_reducible rfl
          rotate_left
          · simp only [Act.put, List.setIfInBounds_toArray, List.set_cons_zero, List.set_cons_succ, i64_w, i32_w]
            rfl
          refine pure_ (i := 5) (N := some 67) (v := ?_) (a' := ?_) #[true, true, true, true, true, true, true, true, true, true, true, false, false, false] rfl rfl (by kernel_rfl) (fun _ _ _ h => h) (Or.inl ⟨by rfl, ?_⟩) ?_ ?_
          rotate_left
          · intro w'
            go_simp
            with_reducible rfl
          rotate_left
          · simp only [Act.put, List.setIfInBounds_toArray, List.set_cons_zero, List.set_cons_succ, i64_w, i32_w]
            rfl
          refine one_ (i := 11) (N := some 73) #[true, true, true, true, true, true, true, true, true, true, true, true, false, false] rfl rfl (by kernel_rfl) (by decide) (fun K hK => ?_)
          refine goes_ Tryd.func17 (by kernel_rfl) rfl #[.int .i64 mv] (by rfl) rfl rfl (by simp only [List.map_toArray, List.map_cons, List.map_nil]; rfl) ?_
          refine (text_m mv dg MV.out.1 MV.out.2 HDG.out _).mono ?_
          rintro e' wc ⟨rfl, hb⟩
          refine ⟨_, rfl, ?_⟩
          have Ewc := Aside0.mk (below_step Ewb.out hb)
          clear hb
          refine hK.out _ _ (((Ewc.out.cell UB.out).trans U0.out)) (fun hHeld => ?_)
          clear hK K
          refine norm_ (a' := ?_) ?_ ?_
          rotate_left
          · show Act.put _ (some 73) _ = _
            simp only [Act.put, List.setIfInBounds_toArray, List.set_cons_zero, List.set_cons_succ, i64_w, i32_w]
            rfl
          refine pure_ (i := 12) (N := some 74) (v := ?_) (a' := ?_) #[true, true, true, true, true, true, true, true, true, true, true, true, true, false] rfl rfl (by kernel_rfl) (fun _ _ _ h => h) (Or.inl ⟨by rfl, ?_⟩) ?_ ?_
          rotate_left
          · intro w'
            go_simp
            with_reducible rfl
          rotate_left
          · simp only [Act.put, List.setIfInBounds_toArray, List.set_cons_zero, List.set_cons_succ, i64_w, i32_w]
            rfl
          refine pure_ (i := 13) (N := some 7) (v := ?_) (a' := ?_) #[true, true, true, true, true, true, true, true, true, true, true, true, true, true] rfl rfl (by kernel_rfl) (fun _ _ _ h => h) (Or.inl ⟨by rfl, ?_⟩) ?_ ?_
          rotate_left
          · intro w'
            go_simp
            with_reducible rfl
          rotate_left
          · simp only [Act.put, List.setIfInBounds_toArray, List.set_cons_zero, List.set_cons_succ, i64_w, i32_w]
            rfl
          refine done_ (by kernel_rfl) ?_
          go_wp2
          go_roundg (10 - (kk + 1))
          case measure => have := HLT.out; have := HG.out; omega
          case rel => exact ⟨kk + 1, Y4, okN v, by have := HLT.out; omega, by omega, by first | exact congrArg _ EW | simp [EW], rfl, by first | rfl | simp, XN, BN, XNL, ⟨below_step BR.out Ewc.out⟩⟩
      · obtain rfl : kk = 10 := by omega
        have e7 : decide (ii < 10) = false := decide_eq_false (by omega)
        have hfull : vs.take 10 = vs := List.take_of_length_le (by rw [VL.out]; exact Nat.le_refl _)
        rw [hfull] at HX HB_
        clear hkk hg hlt hfull hii
        obtain ⟨X1, hX1⟩ : ∃ X_, X_ = X ++ [10] := ⟨_, rfl⟩
        have a1 : ∀ W : World, (Op.stringOp .add (⟨X.toArray⟩ : ByteArray) ⟨([10] : List UInt8).toArray⟩).run Tryd.prog W = .ok (.string ⟨X1.toArray⟩) W := by rw [hX1]; exact add_lit _ _ (by have := HXL.out; simp only [List.length_cons, List.length_nil]; omega)
        have HX1 := Aside0.mk (show X1 = (configB ++ cfgU 0 vs) ++ [10] by rw [hX1, HX.out])
        have HX1L := Aside0.mk (show X1.length ≤ 407 by rw [hX1, List.length_append]; have := HXL.out; simp only [List.length_cons, List.length_nil]; omega)
        have F5 := Aside0.mk (blk_below F4.out BR.out)
        have B5 := Aside0.mk (below_step B4.out BR.out)
        clear hX1 HX HXL
        go_upto_region 13 with (fail)
        clear a1
        have HAT := Aside0.mk (show True from trivial)
        go_loopg [6, 7, 10] 65 (fun gg s6 s7 s10 wq => ∃ (kk : Nat) (Y : List UInt8) (d : Bool), (kk ≤ tasks.length ∧ kk ≤ 65) ∧ 65 - kk ≤ gg ∧ s10 = .int .i64 kk ∧ s7 = .string ⟨Y.toArray⟩ ∧ s6 = .bool d ∧ Aside0 (Y = X1 ++ tasksU (tasks.take kk)) ∧ Aside0 (d = (b && (tasks.take kk).all okTk)) ∧ Aside0 (Y.length ≤ 407 + 60 * kk) ∧ Aside0 (Below wr.heap.size wr wq))
        case atStart => exact ⟨0, X1, b, by omega, by omega, rfl, rfl, rfl, ⟨by simp [tasksU]⟩, ⟨by simp⟩, ⟨by have := HX1L.out; omega⟩, ⟨Below.refl _ _⟩⟩
        case round =>
          obtain ⟨kk, Y, d, hkk, hg, rfl, rfl, rfl, HY, HD, HYL, B2⟩ := hrel
          obtain ⟨ii, hii⟩ : ∃ n : Int, n = (kk : Int) := ⟨_, rfl⟩
          rw [← hii]
          have F6 := Aside0.mk (blk_below F5.out B2.out)
          have B6 := Aside0.mk (below_step B5.out B2.out)
          obtain ⟨-, -, -, -, -, -, -, -, -, -, x10, x11, -, -, -, -, -, -, -, -, -, -, -, -⟩ := cells12 F6.out
          by_cases hlt : kk < tasks.length ∧ kk < 65
          · have c1 : decide (ii < (tasks.length : Int)) = true := decide_eq_true (by omega)
            have c2 : decide (ii < 65) = true := decide_eq_true (by omega)
            have p1 := eq_true (show (0 : Int) ≤ ii by omega)
            have q1 := eq_true (show ii < (tasks.length : Int) by omega)
            obtain ⟨ad, ead, u0, u1⟩ := tk_get (Kd.C_below HT.out B6.out) kk hlt.1
            subst ead
            obtain ⟨⟨m, c⟩, hv⟩ : ∃ v, tasks.getD kk ⟨0, 0⟩ = v := ⟨_, rfl⟩
            have HV := Aside0.mk hv
            have VIN := Aside0.mk (show PaP.inI m ∧ PaP.inI c by
              have h := HI.out.tasks _ (getD_mem tasks kk ⟨0, 0⟩ hlt.1)
              rw [hv] at h
              exact h)
            rw [hv, show kk = ii.toNat by omega] at u0 u1
            simp only at u0 u1
            have UB := Aside0.mk (show (ad.add (ii.toNat * 2)).block < wr.heap.size by
              have h1 := u0
              unfold World.cell? at h1
              cases hh : wr.heap[(ad.add (ii.toNat * 2)).block]? with
              | none => rw [hh] at h1; simp at h1
              | some ob => exact blk_lt hh)
            have U0 := Aside0.mk u0
            have U1 := Aside0.mk u1
            have UC := Aside0.mk (show (⟨(ad.add (ii.toNat * 2)).block, (ad.add (ii.toNat * 2)).off + 1, none⟩ : Addr).block < wr.heap.size from UB.out)
            obtain ⟨mv, hmv⟩ : ∃ x, (if m < 0 then 0 else m) = x := ⟨_, rfl⟩
            obtain ⟨cv, hcv⟩ : ∃ x, (if c < 0 then 0 else c) = x := ⟨_, rfl⟩
            obtain ⟨dm, hdm⟩ : ∃ l, dig mv = l := ⟨_, rfl⟩
            obtain ⟨dc, hdc⟩ : ∃ l, dig cv = l := ⟨_, rfl⟩
            have MV := Aside0.mk (show 0 ≤ mv ∧ mv ≤ 9223372036854775807 by rw [← hmv]; exact mx0_in m VIN.out.1)
            have CV := Aside0.mk (show 0 ≤ cv ∧ cv ≤ 9223372036854775807 by rw [← hcv]; exact mx0_in c VIN.out.2)
            have hml : dm.length ≤ 21 := by rw [← hdm, ← hmv]; exact dig_len m VIN.out.1
            have hcl : dc.length ≤ 21 := by rw [← hdc, ← hcv]; exact dig_len c VIN.out.2
            have PU := Aside0.mk (show taskU ⟨m, c⟩ = (((([116, 97, 115, 107, 32] ++ dm) ++ [32]) ++ dc) ++ [10]) by rw [← hdm, ← hdc, ← hmv, ← hcv]; rfl)
            have HDM := Aside0.mk hdm
            have HDC := Aside0.mk hdc
            have HII := Aside0.mk hii
            have HLT := Aside0.mk hlt
            have HG := Aside0.mk hg
            have hyl := HYL.out
            have h32 : ([32] : List UInt8).length = 1 := rfl
            have h10 : ([10] : List UInt8).length = 1 := rfl
            have h5 : ([116, 97, 115, 107, 32] : List UInt8).length = 5 := rfl
            obtain ⟨Y1, hY1⟩ : ∃ X_, X_ = (Y : List UInt8) ++ [116, 97, 115, 107, 32] := ⟨_, rfl⟩
            have hl1 : Y1.length = Y.length + ([116, 97, 115, 107, 32] : List UInt8).length := by rw [hY1, List.length_append]
            have a1 : ∀ W : World, (Op.stringOp .add (⟨(Y : List UInt8).toArray⟩ : ByteArray) ⟨([116, 97, 115, 107, 32] : List UInt8).toArray⟩).run Tryd.prog W = .ok (.string ⟨Y1.toArray⟩) W := by rw [hY1]; exact add_lit _ _ (by omega)
            obtain ⟨Y2, hY2⟩ : ∃ X_, X_ = (Y1 : List UInt8) ++ dm := ⟨_, rfl⟩
            have hl2 : Y2.length = Y1.length + (dm : List UInt8).length := by rw [hY2, List.length_append]
            have a2 : ∀ W : World, (Op.stringOp .add (⟨(Y1 : List UInt8).toArray⟩ : ByteArray) ⟨(dm : List UInt8).toArray⟩).run Tryd.prog W = .ok (.string ⟨Y2.toArray⟩) W := by rw [hY2]; exact add_lit _ _ (by omega)
            obtain ⟨Y3, hY3⟩ : ∃ X_, X_ = (Y2 : List UInt8) ++ [32] := ⟨_, rfl⟩
            have hl3 : Y3.length = Y2.length + ([32] : List UInt8).length := by rw [hY3, List.length_append]
            have a3 : ∀ W : World, (Op.stringOp .add (⟨(Y2 : List UInt8).toArray⟩ : ByteArray) ⟨([32] : List UInt8).toArray⟩).run Tryd.prog W = .ok (.string ⟨Y3.toArray⟩) W := by rw [hY3]; exact add_lit _ _ (by omega)
            obtain ⟨Y4, hY4⟩ : ∃ X_, X_ = (Y3 : List UInt8) ++ dc := ⟨_, rfl⟩
            have hl4 : Y4.length = Y3.length + (dc : List UInt8).length := by rw [hY4, List.length_append]
            have a4 : ∀ W : World, (Op.stringOp .add (⟨(Y3 : List UInt8).toArray⟩ : ByteArray) ⟨(dc : List UInt8).toArray⟩).run Tryd.prog W = .ok (.string ⟨Y4.toArray⟩) W := by rw [hY4]; exact add_lit _ _ (by omega)
            obtain ⟨Y5, hY5⟩ : ∃ X_, X_ = (Y4 : List UInt8) ++ [10] := ⟨_, rfl⟩
            have hl5 : Y5.length = Y4.length + ([10] : List UInt8).length := by rw [hY5, List.length_append]
            have a5 : ∀ W : World, (Op.stringOp .add (⟨(Y4 : List UInt8).toArray⟩ : ByteArray) ⟨([10] : List UInt8).toArray⟩).run Tryd.prog W = .ok (.string ⟨Y5.toArray⟩) W := by rw [hY5]; exact add_lit _ _ (by omega)
            have XN := Aside0.mk (show Y5 = X1 ++ tasksU (tasks.take (kk + 1)) by rw [hY5, hY4, hY3, hY2, hY1, HY.out, take_snoc tasks kk ⟨0, 0⟩ hlt.1, hv]; simp only [tasksU, List.flatMap_append, List.flatMap_cons, List.flatMap_nil, List.append_nil, PU.out]; simp)
            have XNL := Aside0.mk (show Y5.length ≤ 407 + 60 * (kk + 1) by omega)
            have BN := Aside0.mk (show (d && (okN m && okN c)) = (b && (tasks.take (kk + 1)).all okTk) by rw [HD.out, take_snoc tasks kk ⟨0, 0⟩ hlt.1, hv, List.all_append]; simp [Bool.and_assoc, okTk])
            have EW : wrap64 (ii + 1) = ((kk + 1 : Nat) : Int) := by unfold wrap64; omega
            clear hY1 hY2 hY3 hY4 hY5 hl1 hl2 hl3 hl4 hl5 hyl hml hcl h32 h10 h5 hdm hdc hii hlt hg hkk hv
            go_upto_region 16 with (first
              | (go_at_call 29; refine (right_ref m _).mono ?_; rintro e' wa ⟨rfl, hb⟩; have Ewa := Aside0.mk (below_step (Below.refl _ _) hb); clear hb))
            clear u0 u1 x10 x11
            have x10 : wa.cell? ⟨F, 10, none⟩ = some (.slice (some ad) tasks.length cT) := (blk_cell (blk_below F6.out Ewa.out) 10).trans rfl
            have u1 : wa.cell? ⟨(ad.add (ii.toNat * 2)).block, (ad.add (ii.toNat * 2)).off + 1, none⟩ = some (.int .i64 c) := (Below.cell (p := ⟨(ad.add (ii.toNat * 2)).block, (ad.add (ii.toNat * 2)).off + 1, none⟩) Ewa.out UC.out).trans U1.out
            go_upto_region 17 with (first
              | (go_at_call 29; refine (right_ref c _).mono ?_; rintro e' wb ⟨rfl, hb⟩; have Ewb := Aside0.mk (below_step Ewa.out hb); clear hb))
            clear u1 x10
            cases d with
            | false =>
              go_upto_region 18 with (fail)
              refine start_ (n := 23) (S := fun w' => w'.cell? ⟨F, 10, none⟩ = some (.slice (some ad) tasks.length cT) ∧ w'.cell? (ad.add (ii.toNat * 2)) = some (.int .i64 m) ∧ w'.cell? ⟨(ad.add (ii.toNat * 2)).block, (ad.add (ii.toNat * 2)).off + 1, none⟩ = some (.int .i64 c)) (ds := []) #[false, false, false, false, false, false, false, false, false, false, false, false, false, false, false, false, false, false, false, false, false, false, false] (by kernel_rfl) rfl rfl ⟨((blk_cell (blk_below F6.out (below_drew Ewb.out)) 10).trans rfl), (((below_drew Ewb.out).cell UB.out).trans U0.out), ((Below.cell (p := ⟨(ad.add (ii.toNat * 2)).block, (ad.add (ii.toNat * 2)).off + 1, none⟩) (below_drew Ewb.out) UC.out).trans U1.out)⟩ (fun hHeld => ?_)
              refine pure_ (i := 0) (N := some 109) (v := ?_) (a' := ?_) #[true, false, false, false, false, false, false, false, false, false, false, false, false, false, false, false, false, false, false, false, false, false, false] rfl rfl (by kernel_rfl) (fun _ _ _ h => h) (Or.inl ⟨by rfl, ?_⟩) ?_ ?_
              rotate_left
              · intro w'
                go_simp
                with_reducible rfl
              rotate_left
              · simp only [Act.put, List.setIfInBounds_toArray, List.set_cons_zero, List.set_cons_succ, i64_w, i32_w]
                rfl
              refine pure_ (i := 1) (N := some 110) (v := ?_) (a' := ?_) #[true, true, false, false, false, false, false, false, false, false, false, false, false, false, false, false, false, false, false, false, false, false, false] rfl rfl (by kernel_rfl) (fun _ _ _ h => h) (Or.inl ⟨by rfl, ?_⟩) ?_ ?_
              rotate_left
              · intro w'
                go_simp
                with_reducible rfl
              rotate_left
              · simp only [Act.put, List.setIfInBounds_toArray, List.set_cons_zero, List.set_cons_succ, i64_w, i32_w]
                rfl
              refine pure_ (i := 2) (N := some 111) (v := ?_) (a' := ?_) #[true, true, true, false, false, false, false, false, false, false, false, false, false, false, false, false, false, false, false, false, false, false, false] rfl rfl (by kernel_rfl) (fun _ _ _ h => h) (Or.inl ⟨by rfl, ?_⟩) ?_ ?_
              rotate_left
              · intro w'
                go_simp
                with_reducible rfl
              rotate_left
              · simp only [Act.put, List.setIfInBounds_toArray, List.set_cons_zero, List.set_cons_succ, i64_w, i32_w]
                rfl
              refine pure_ (i := 4) (N := some 113) (v := ?_) (a' := ?_) #[true, true, true, false, true, false, false, false, false, false, false, false, false, false, false, false, false, false, false, false, false, false, false] rfl rfl (by kernel_rfl) (fun _ _ _ h => h) (Or.inl ⟨by rfl, ?_⟩) ?_ ?_
              rotate_left
              · intro w'
                go_simp
                with_reducible rfl
              rotate_left
              · simp only [Act.put, List.setIfInBounds_toArray, List.set_cons_zero, List.set_cons_succ, i64_w, i32_w]
                rfl
              refine pure_ (i := 12) (N := some 121) (v := ?_) (a' := ?_) #[true, true, true, false, true, false, false, false, false, false, false, false, true, false, false, false, false, false, false, false, false, false, false] rfl rfl (by kernel_rfl) (fun _ _ _ h => h) (Or.inl ⟨by rfl, ?_⟩) ?_ ?_
              rotate_left
              · intro w'
                go_simp
                with_reducible rfl
              rotate_left
              · simp only [Act.put, List.setIfInBounds_toArray, List.set_cons_zero, List.set_cons_succ, i64_w, i32_w]
                rfl
              refine pure_ (i := 14) (N := some 123) (v := ?_) (a' := ?_) #[true, true, true, false, true, false, false, false, false, false, false, false, true, false, true, false, false, false, false, false, false, false, false] rfl rfl (by kernel_rfl) (fun _ _ _ h => h) (Or.inl ⟨by rfl, ?_⟩) ?_ ?_
              rotate_left
              · intro w'
                go_simp
                with_reducible rfl
              rotate_left
              · simp only [Act.put, List.setIfInBounds_toArray, List.set_cons_zero, List.set_cons_succ, i64_w, i32_w]
                rfl
              refine take_ (i := 3) (N := some 112) (v := ?_) (a' := ?_) #[true, true, true, true, true, false, false, false, false, false, false, false, true, false, true, false, false, false, false, false, false, false, false] rfl rfl (by kernel_rfl) (fun _ _ _ h => h) (Or.inl ⟨by rfl, ?_⟩) hHeld ?_ ?_
              rotate_left
              · rintro w' ⟨s0, s1, s2⟩
                go_simp
                with_reducible rfl
              rotate_left
              · simp only [Act.put, List.setIfInBounds_toArray, List.set_cons_zero, List.set_cons_succ, i64_w, i32_w]
                rfl
              refine pure_ (i := 5) (N := some 114) (v := ?_) (a' := ?_) #[true, true, true, true, true, true, false, false, false, false, false, false, true, false, true, false, false, false, false, false, false, false, false] rfl rfl (by kernel_rfl) (fun _ _ _ h => h) (Or.inl ⟨by rfl, ?_⟩) ?_ ?_
              rotate_left
              · intro w'
                go_simp
                with_reducible rfl
              rotate_left
              · simp only [Act.put, List.setIfInBounds_toArray, List.set_cons_zero, List.set_cons_succ, i64_w, i32_w]
                rfl
              refine pure_ (i := 6) (N := some 115) (v := ?_) (a' := ?_) #[true, true, true, true, true, true, true, false, false, false, false, false, true, false, true, false, false, false, false, false, false, false, false] rfl rfl (by kernel_rfl) (fun _ _ _ h => h) (Or.inl ⟨by rfl, ?_⟩) ?_ ?_
              rotate_left
              · intro w'
                go_simp
                with_reducible rfl
              rotate_left
              · simp only [Act.put, List.setIfInBounds_toArray, List.set_cons_zero, List.set_cons_succ, i64_w, i32_w]
                rfl
              refine take_ (i := 7) (N := some 116) (v := ?_) (a' := ?_) #[true, true, true, true, true, true, true, true, false, false, false, false, true, false, true, false, false, false, false, false, false, false, false] rfl rfl (by kernel_rfl) (fun _ _ _ h => h) (Or.inl ⟨by rfl, ?_⟩) hHeld ?_ ?_
              rotate_left
              · rintro w' ⟨s0, s1, s2⟩
                go_simp
                with_reducible rfl
              rotate_left
              · simp only [Act.put, List.setIfInBounds_toArray, List.set_cons_zero, List.set_cons_succ, i64_w, i32_w]
                rfl
              refine pure_ (i := 8) (N := some 117) (v := ?_) (a' := ?_) #[true, true, true, true, true, true, true, true, true, false, false, false, true, false, true, false, false, false, false, false, false, false, false] rfl rfl (by kernel_rfl) (fun _ _ _ h => h) (Or.inl ⟨by rfl, ?_⟩) ?_ ?_
              rotate_left
              · intro w'
                go_simp
                with_reducible rfl
              rotate_left
              · simp only [Act.put, List.setIfInBounds_toArray, List.set_cons_zero, List.set_cons_succ, i64_w, i32_w]
                rfl
              refine take_ (i := 13) (N := some 122) (v := ?_) (a' := ?_) #[true, true, true, true, true, true, true, true, true, false, false, false, true, true, true, false, false, false, false, false, false, false, false] rfl rfl (by kernel_rfl) (fun _ _ _ h => h) (Or.inl ⟨by rfl, ?_⟩) hHeld ?_ ?_
              rotate_left
              · rintro w' ⟨s0, s1, s2⟩
                go_simp
                with_reducible rfl
              rotate_left
              · simp only [Act.put, List.setIfInBounds_toArray, List.set_cons_zero, List.set_cons_succ, i64_w, i32_w]
                rfl
              refine pure_ (i := 15) (N := some 124) (v := ?_) (a' := ?_) #[true, true, true, true, true, true, true, true, true, false, false, false, true, true, true, true, false, false, false, false, false, false, false] rfl rfl (by kernel_rfl) (fun _ _ _ h => h) (Or.inl ⟨by rfl, ?_⟩) ?_ ?_
              rotate_left
              · intro w'
                go_simp
                with_reducible rfl
              rotate_left
              · simp only [Act.put, List.setIfInBounds_toArray, List.set_cons_zero, List.set_cons_succ, i64_w, i32_w]
                rfl
              refine pure_ (i := 16) (N := some 125) (v := ?_) (a' := ?_) #[true, true, true, true, true, true, true, true, true, false, false, false, true, true, true, true, true, false, false, false, false, false, false] rfl rfl (by kernel_rfl) (fun _ _ _ h => h) (Or.inl ⟨by rfl, ?_⟩) ?_ ?_
              rotate_left
              · intro w'
                go_simp
                with_reducible rfl
              rotate_left
              · simp only [Act.put, List.setIfInBounds_toArray, List.set_cons_zero, List.set_cons_succ, i64_w, i32_w]
                rfl
              refine take_ (i := 17) (N := some 126) (v := ?_) (a' := ?_) #[true, true, true, true, true, true, true, true, true, false, false, false, true, true, true, true, true, true, false, false, false, false, false] rfl rfl (by kernel_rfl) (fun _ _ _ h => h) (Or.inl ⟨by rfl, ?_⟩) hHeld ?_ ?_
              rotate_left
              · rintro w' ⟨s0, s1, s2⟩
                go_simp
                with_reducible rfl
              rotate_left
              · simp only [Act.put, List.setIfInBounds_toArray, List.set_cons_zero, List.set_cons_succ, i64_w, i32_w]
                rfl
              refine pure_ (i := 18) (N := some 127) (v := ?_) (a' := ?_) #[true, true, true, true, true, true, true, true, true, false, false, false, true, true, true, true, true, true, true, false, false, false, false] rfl rfl (by kernel_rfl) (fun _ _ _ h => h) (Or.inl ⟨by rfl, ?_⟩) ?_ ?_
              rotate_left
              · intro w'
                go_simp
                with_reducible rfl
              rotate_left
              · simp only [Act.put, List.setIfInBounds_toArray, List.set_cons_zero, List.set_cons_succ, i64_w, i32_w]
                rfl
              refine one_ (i := 9) (N := some 118) #[true, true, true, true, true, true, true, true, true, true, false, false, true, true, true, true, true, true, true, false, false, false, false] rfl rfl (by kernel_rfl) (by decide) (fun K hK => ?_)
              refine goes_ Tryd.func17 (by kernel_rfl) rfl #[.int .i64 mv] (by rfl) rfl rfl (by simp only [List.map_toArray, List.map_cons, List.map_nil]; rfl) ?_
              refine (text_m mv dm MV.out.1 MV.out.2 HDM.out _).mono ?_
              rintro e' wc ⟨rfl, hb⟩
              refine ⟨_, rfl, ?_⟩
              have Ewc := Aside0.mk (below_step (below_drew Ewb.out) hb)
              clear hb
              refine hK.out _ _ ⟨((blk_cell (blk_below F6.out Ewc.out) 10).trans rfl), ((Ewc.out.cell UB.out).trans U0.out), ((Below.cell (p := ⟨(ad.add (ii.toNat * 2)).block, (ad.add (ii.toNat * 2)).off + 1, none⟩) Ewc.out UC.out).trans U1.out)⟩ (fun hHeld => ?_)
              clear hK K
              refine norm_ (a' := ?_) ?_ ?_
              rotate_left
              · show Act.put _ (some 118) _ = _
                simp only [Act.put, List.setIfInBounds_toArray, List.set_cons_zero, List.set_cons_succ, i64_w, i32_w]
                rfl
              refine pure_ (i := 10) (N := some 119) (v := ?_) (a' := ?_) #[true, true, true, true, true, true, true, true, true, true, true, false, true, true, true, true, true, true, true, false, false, false, false] rfl rfl (by kernel_rfl) (fun _ _ _ h => h) (Or.inl ⟨by rfl, ?_⟩) ?_ ?_
              rotate_left
              · intro w'
                go_simp
                with_reducible rfl
              rotate_left
              · simp only [Act.put, List.setIfInBounds_toArray, List.set_cons_zero, List.set_cons_succ, i64_w, i32_w]
                rfl
              refine pure_ (i := 11) (N := some 120) (v := ?_) (a' := ?_) #[true, true, true, true, true, true, true, true, true, true, true, true, true, true, true, true, true, true, true, false, false, false, false] rfl rfl (by kernel_rfl) (fun _ _ _ h => h) (Or.inl ⟨by rfl, ?_⟩) ?_ ?_
              rotate_left
              · intro w'
                go_simp
                with_reducible rfl
              rotate_left
              · simp only [Act.put, List.setIfInBounds_toArray, List.set_cons_zero, List.set_cons_succ, i64_w, i32_w]
                rfl
              refine one_ (i := 19) (N := some 128) #[true, true, true, true, true, true, true, true, true, true, true, true, true, true, true, true, true, true, true, true, false, false, false] rfl rfl (by kernel_rfl) (by decide) (fun K hK => ?_)
              refine goes_ Tryd.func17 (by kernel_rfl) rfl #[.int .i64 cv] (by rfl) rfl rfl (by simp only [List.map_toArray, List.map_cons, List.map_nil]; rfl) ?_
              refine (text_m cv dc CV.out.1 CV.out.2 HDC.out _).mono ?_
              rintro e' wd ⟨rfl, hb⟩
              refine ⟨_, rfl, ?_⟩
              have Ewd := Aside0.mk (below_step Ewc.out hb)
              clear hb
              refine hK.out _ _ ⟨((blk_cell (blk_below F6.out Ewd.out) 10).trans rfl), ((Ewd.out.cell UB.out).trans U0.out), ((Below.cell (p := ⟨(ad.add (ii.toNat * 2)).block, (ad.add (ii.toNat * 2)).off + 1, none⟩) Ewd.out UC.out).trans U1.out)⟩ (fun hHeld => ?_)
              clear hK K
              refine norm_ (a' := ?_) ?_ ?_
              rotate_left
              · show Act.put _ (some 128) _ = _
                simp only [Act.put, List.setIfInBounds_toArray, List.set_cons_zero, List.set_cons_succ, i64_w, i32_w]
                rfl
              refine pure_ (i := 20) (N := some 129) (v := ?_) (a' := ?_) #[true, true, true, true, true, true, true, true, true, true, true, true, true, true, true, true, true, true, true, true, true, false, false] rfl rfl (by kernel_rfl) (fun _ _ _ h => h) (Or.inl ⟨by rfl, ?_⟩) ?_ ?_
              rotate_left
              · intro w'
                go_simp
                with_reducible rfl
              rotate_left
              · simp only [Act.put, List.setIfInBounds_toArray, List.set_cons_zero, List.set_cons_succ, i64_w, i32_w]
                rfl
              refine pure_ (i := 21) (N := some 130) (v := ?_) (a' := ?_) #[true, true, true, true, true, true, true, true, true, true, true, true, true, true, true, true, true, true, true, true, true, true, false] rfl rfl (by kernel_rfl) (fun _ _ _ h => h) (Or.inl ⟨by rfl, ?_⟩) ?_ ?_
              rotate_left
              · intro w'
                go_simp
                with_reducible rfl
              rotate_left
              · simp only [Act.put, List.setIfInBounds_toArray, List.set_cons_zero, List.set_cons_succ, i64_w, i32_w]
                rfl
              refine pure_ (i := 22) (N := some 7) (v := ?_) (a' := ?_) #[true, true, true, true, true, true, true, true, true, true, true, true, true, true, true, true, true, true, true, true, true, true, true] rfl rfl (by kernel_rfl) (fun _ _ _ h => h) (Or.inl ⟨by rfl, ?_⟩) ?_ ?_
              rotate_left
              · intro w'
                go_simp
                with_reducible rfl
              rotate_left
              · simp only [Act.put, List.setIfInBounds_toArray, List.set_cons_zero, List.set_cons_succ, i64_w, i32_w]
                rfl
              refine done_ (by kernel_rfl) ?_
              go_wp2
              go_roundg (65 - (kk + 1))
              case measure => have := HLT.out; have := HG.out; omega
              case rel => exact ⟨kk + 1, Y5, false, by have := HLT.out; omega, by omega, by first | exact congrArg _ EW | simp [EW], rfl, rfl, XN, BN, XNL, ⟨below_step B2.out Ewd.out⟩⟩
            | true =>
              cases hm : okN m with
              | false =>
                go_upto_region 18 with (fail)
                refine start_ (n := 23) (S := fun w' => w'.cell? ⟨F, 10, none⟩ = some (.slice (some ad) tasks.length cT) ∧ w'.cell? (ad.add (ii.toNat * 2)) = some (.int .i64 m) ∧ w'.cell? ⟨(ad.add (ii.toNat * 2)).block, (ad.add (ii.toNat * 2)).off + 1, none⟩ = some (.int .i64 c)) (ds := []) #[false, false, false, false, false, false, false, false, false, false, false, false, false, false, false, false, false, false, false, false, false, false, false] (by kernel_rfl) rfl rfl ⟨((blk_cell (blk_below F6.out (below_drew Ewb.out)) 10).trans rfl), (((below_drew Ewb.out).cell UB.out).trans U0.out), ((Below.cell (p := ⟨(ad.add (ii.toNat * 2)).block, (ad.add (ii.toNat * 2)).off + 1, none⟩) (below_drew Ewb.out) UC.out).trans U1.out)⟩ (fun hHeld => ?_)
                refine pure_ (i := 0) (N := some 109) (v := ?_) (a' := ?_) #[true, false, false, false, false, false, false, false, false, false, false, false, false, false, false, false, false, false, false, false, false, false, false] rfl rfl (by kernel_rfl) (fun _ _ _ h => h) (Or.inl ⟨by rfl, ?_⟩) ?_ ?_
                rotate_left
                · intro w'
                  go_simp
                  with_reducible rfl
                rotate_left
                · simp only [Act.put, List.setIfInBounds_toArray, List.set_cons_zero, List.set_cons_succ, i64_w, i32_w]
                  rfl
                refine pure_ (i := 1) (N := some 110) (v := ?_) (a' := ?_) #[true, true, false, false, false, false, false, false, false, false, false, false, false, false, false, false, false, false, false, false, false, false, false] rfl rfl (by kernel_rfl) (fun _ _ _ h => h) (Or.inl ⟨by rfl, ?_⟩) ?_ ?_
                rotate_left
                · intro w'
                  go_simp
                  with_reducible rfl
                rotate_left
                · simp only [Act.put, List.setIfInBounds_toArray, List.set_cons_zero, List.set_cons_succ, i64_w, i32_w]
                  rfl
                refine pure_ (i := 2) (N := some 111) (v := ?_) (a' := ?_) #[true, true, true, false, false, false, false, false, false, false, false, false, false, false, false, false, false, false, false, false, false, false, false] rfl rfl (by kernel_rfl) (fun _ _ _ h => h) (Or.inl ⟨by rfl, ?_⟩) ?_ ?_
                rotate_left
                · intro w'
                  go_simp
                  with_reducible rfl
                rotate_left
                · simp only [Act.put, List.setIfInBounds_toArray, List.set_cons_zero, List.set_cons_succ, i64_w, i32_w]
                  rfl
                refine pure_ (i := 4) (N := some 113) (v := ?_) (a' := ?_) #[true, true, true, false, true, false, false, false, false, false, false, false, false, false, false, false, false, false, false, false, false, false, false] rfl rfl (by kernel_rfl) (fun _ _ _ h => h) (Or.inl ⟨by rfl, ?_⟩) ?_ ?_
                rotate_left
                · intro w'
                  go_simp
                  with_reducible rfl
                rotate_left
                · simp only [Act.put, List.setIfInBounds_toArray, List.set_cons_zero, List.set_cons_succ, i64_w, i32_w]
                  rfl
                refine pure_ (i := 12) (N := some 121) (v := ?_) (a' := ?_) #[true, true, true, false, true, false, false, false, false, false, false, false, true, false, false, false, false, false, false, false, false, false, false] rfl rfl (by kernel_rfl) (fun _ _ _ h => h) (Or.inl ⟨by rfl, ?_⟩) ?_ ?_
                rotate_left
                · intro w'
                  go_simp
                  with_reducible rfl
                rotate_left
                · simp only [Act.put, List.setIfInBounds_toArray, List.set_cons_zero, List.set_cons_succ, i64_w, i32_w]
                  rfl
                refine pure_ (i := 14) (N := some 123) (v := ?_) (a' := ?_) #[true, true, true, false, true, false, false, false, false, false, false, false, true, false, true, false, false, false, false, false, false, false, false] rfl rfl (by kernel_rfl) (fun _ _ _ h => h) (Or.inl ⟨by rfl, ?_⟩) ?_ ?_
                rotate_left
                · intro w'
                  go_simp
                  with_reducible rfl
                rotate_left
                · simp only [Act.put, List.setIfInBounds_toArray, List.set_cons_zero, List.set_cons_succ, i64_w, i32_w]
                  rfl
                refine take_ (i := 3) (N := some 112) (v := ?_) (a' := ?_) #[true, true, true, true, true, false, false, false, false, false, false, false, true, false, true, false, false, false, false, false, false, false, false] rfl rfl (by kernel_rfl) (fun _ _ _ h => h) (Or.inl ⟨by rfl, ?_⟩) hHeld ?_ ?_
                rotate_left
                · rintro w' ⟨s0, s1, s2⟩
                  go_simp
                  with_reducible rfl
                rotate_left
                · simp only [Act.put, List.setIfInBounds_toArray, List.set_cons_zero, List.set_cons_succ, i64_w, i32_w]
                  rfl
                refine pure_ (i := 5) (N := some 114) (v := ?_) (a' := ?_) #[true, true, true, true, true, true, false, false, false, false, false, false, true, false, true, false, false, false, false, false, false, false, false] rfl rfl (by kernel_rfl) (fun _ _ _ h => h) (Or.inl ⟨by rfl, ?_⟩) ?_ ?_
                rotate_left
                · intro w'
                  go_simp
                  with_reducible rfl
                rotate_left
                · simp only [Act.put, List.setIfInBounds_toArray, List.set_cons_zero, List.set_cons_succ, i64_w, i32_w]
                  rfl
                refine pure_ (i := 6) (N := some 115) (v := ?_) (a' := ?_) #[true, true, true, true, true, true, true, false, false, false, false, false, true, false, true, false, false, false, false, false, false, false, false] rfl rfl (by kernel_rfl) (fun _ _ _ h => h) (Or.inl ⟨by rfl, ?_⟩) ?_ ?_
                rotate_left
                · intro w'
                  go_simp
                  with_reducible rfl
                rotate_left
                · simp only [Act.put, List.setIfInBounds_toArray, List.set_cons_zero, List.set_cons_succ, i64_w, i32_w]
                  rfl
                refine take_ (i := 7) (N := some 116) (v := ?_) (a' := ?_) #[true, true, true, true, true, true, true, true, false, false, false, false, true, false, true, false, false, false, false, false, false, false, false] rfl rfl (by kernel_rfl) (fun _ _ _ h => h) (Or.inl ⟨by rfl, ?_⟩) hHeld ?_ ?_
                rotate_left
                · rintro w' ⟨s0, s1, s2⟩
                  go_simp
                  with_reducible rfl
                rotate_left
                · simp only [Act.put, List.setIfInBounds_toArray, List.set_cons_zero, List.set_cons_succ, i64_w, i32_w]
                  rfl
                refine pure_ (i := 8) (N := some 117) (v := ?_) (a' := ?_) #[true, true, true, true, true, true, true, true, true, false, false, false, true, false, true, false, false, false, false, false, false, false, false] rfl rfl (by kernel_rfl) (fun _ _ _ h => h) (Or.inl ⟨by rfl, ?_⟩) ?_ ?_
                rotate_left
                · intro w'
                  go_simp
                  with_reducible rfl
                rotate_left
                · simp only [Act.put, List.setIfInBounds_toArray, List.set_cons_zero, List.set_cons_succ, i64_w, i32_w]
                  rfl
                refine take_ (i := 13) (N := some 122) (v := ?_) (a' := ?_) #[true, true, true, true, true, true, true, true, true, false, false, false, true, true, true, false, false, false, false, false, false, false, false] rfl rfl (by kernel_rfl) (fun _ _ _ h => h) (Or.inl ⟨by rfl, ?_⟩) hHeld ?_ ?_
                rotate_left
                · rintro w' ⟨s0, s1, s2⟩
                  go_simp
                  with_reducible rfl
                rotate_left
                · simp only [Act.put, List.setIfInBounds_toArray, List.set_cons_zero, List.set_cons_succ, i64_w, i32_w]
                  rfl
                refine pure_ (i := 15) (N := some 124) (v := ?_) (a' := ?_) #[true, true, true, true, true, true, true, true, true, false, false, false, true, true, true, true, false, false, false, false, false, false, false] rfl rfl (by kernel_rfl) (fun _ _ _ h => h) (Or.inl ⟨by rfl, ?_⟩) ?_ ?_
                rotate_left
                · intro w'
                  go_simp
                  with_reducible rfl
                rotate_left
                · simp only [Act.put, List.setIfInBounds_toArray, List.set_cons_zero, List.set_cons_succ, i64_w, i32_w]
                  rfl
                refine pure_ (i := 16) (N := some 125) (v := ?_) (a' := ?_) #[true, true, true, true, true, true, true, true, true, false, false, false, true, true, true, true, true, false, false, false, false, false, false] rfl rfl (by kernel_rfl) (fun _ _ _ h => h) (Or.inl ⟨by rfl, ?_⟩) ?_ ?_
                rotate_left
                · intro w'
                  go_simp
                  with_reducible rfl
                rotate_left
                · simp only [Act.put, List.setIfInBounds_toArray, List.set_cons_zero, List.set_cons_succ, i64_w, i32_w]
                  rfl
                refine take_ (i := 17) (N := some 126) (v := ?_) (a' := ?_) #[true, true, true, true, true, true, true, true, true, false, false, false, true, true, true, true, true, true, false, false, false, false, false] rfl rfl (by kernel_rfl) (fun _ _ _ h => h) (Or.inl ⟨by rfl, ?_⟩) hHeld ?_ ?_
                rotate_left
                · rintro w' ⟨s0, s1, s2⟩
                  go_simp
                  with_reducible rfl
                rotate_left
                · simp only [Act.put, List.setIfInBounds_toArray, List.set_cons_zero, List.set_cons_succ, i64_w, i32_w]
                  rfl
                refine pure_ (i := 18) (N := some 127) (v := ?_) (a' := ?_) #[true, true, true, true, true, true, true, true, true, false, false, false, true, true, true, true, true, true, true, false, false, false, false] rfl rfl (by kernel_rfl) (fun _ _ _ h => h) (Or.inl ⟨by rfl, ?_⟩) ?_ ?_
                rotate_left
                · intro w'
                  go_simp
                  with_reducible rfl
                rotate_left
                · simp only [Act.put, List.setIfInBounds_toArray, List.set_cons_zero, List.set_cons_succ, i64_w, i32_w]
                  rfl
                refine one_ (i := 9) (N := some 118) #[true, true, true, true, true, true, true, true, true, true, false, false, true, true, true, true, true, true, true, false, false, false, false] rfl rfl (by kernel_rfl) (by decide) (fun K hK => ?_)
                refine goes_ Tryd.func17 (by kernel_rfl) rfl #[.int .i64 mv] (by rfl) rfl rfl (by simp only [List.map_toArray, List.map_cons, List.map_nil]; rfl) ?_
                refine (text_m mv dm MV.out.1 MV.out.2 HDM.out _).mono ?_
                rintro e' wc ⟨rfl, hb⟩
                refine ⟨_, rfl, ?_⟩
                have Ewc := Aside0.mk (below_step (below_drew Ewb.out) hb)
                clear hb
                refine hK.out _ _ ⟨((blk_cell (blk_below F6.out Ewc.out) 10).trans rfl), ((Ewc.out.cell UB.out).trans U0.out), ((Below.cell (p := ⟨(ad.add (ii.toNat * 2)).block, (ad.add (ii.toNat * 2)).off + 1, none⟩) Ewc.out UC.out).trans U1.out)⟩ (fun hHeld => ?_)
                clear hK K
                refine norm_ (a' := ?_) ?_ ?_
                rotate_left
                · show Act.put _ (some 118) _ = _
                  simp only [Act.put, List.setIfInBounds_toArray, List.set_cons_zero, List.set_cons_succ, i64_w, i32_w]
                  rfl
                refine pure_ (i := 10) (N := some 119) (v := ?_) (a' := ?_) #[true, true, true, true, true, true, true, true, true, true, true, false, true, true, true, true, true, true, true, false, false, false, false] rfl rfl (by kernel_rfl) (fun _ _ _ h => h) (Or.inl ⟨by rfl, ?_⟩) ?_ ?_
                rotate_left
                · intro w'
                  go_simp
                  with_reducible rfl
                rotate_left
                · simp only [Act.put, List.setIfInBounds_toArray, List.set_cons_zero, List.set_cons_succ, i64_w, i32_w]
                  rfl
                refine pure_ (i := 11) (N := some 120) (v := ?_) (a' := ?_) #[true, true, true, true, true, true, true, true, true, true, true, true, true, true, true, true, true, true, true, false, false, false, false] rfl rfl (by kernel_rfl) (fun _ _ _ h => h) (Or.inl ⟨by rfl, ?_⟩) ?_ ?_
                rotate_left
                · intro w'
                  go_simp
                  with_reducible rfl
                rotate_left
                · simp only [Act.put, List.setIfInBounds_toArray, List.set_cons_zero, List.set_cons_succ, i64_w, i32_w]
                  rfl
                refine one_ (i := 19) (N := some 128) #[true, true, true, true, true, true, true, true, true, true, true, true, true, true, true, true, true, true, true, true, false, false, false] rfl rfl (by kernel_rfl) (by decide) (fun K hK => ?_)
                refine goes_ Tryd.func17 (by kernel_rfl) rfl #[.int .i64 cv] (by rfl) rfl rfl (by simp only [List.map_toArray, List.map_cons, List.map_nil]; rfl) ?_
                refine (text_m cv dc CV.out.1 CV.out.2 HDC.out _).mono ?_
                rintro e' wd ⟨rfl, hb⟩
                refine ⟨_, rfl, ?_⟩
                have Ewd := Aside0.mk (below_step Ewc.out hb)
                clear hb
                refine hK.out _ _ ⟨((blk_cell (blk_below F6.out Ewd.out) 10).trans rfl), ((Ewd.out.cell UB.out).trans U0.out), ((Below.cell (p := ⟨(ad.add (ii.toNat * 2)).block, (ad.add (ii.toNat * 2)).off + 1, none⟩) Ewd.out UC.out).trans U1.out)⟩ (fun hHeld => ?_)
                clear hK K
                refine norm_ (a' := ?_) ?_ ?_
                rotate_left
                · show Act.put _ (some 128) _ = _
                  simp only [Act.put, List.setIfInBounds_toArray, List.set_cons_zero, List.set_cons_succ, i64_w, i32_w]
                  rfl
                refine pure_ (i := 20) (N := some 129) (v := ?_) (a' := ?_) #[true, true, true, true, true, true, true, true, true, true, true, true, true, true, true, true, true, true, true, true, true, false, false] rfl rfl (by kernel_rfl) (fun _ _ _ h => h) (Or.inl ⟨by rfl, ?_⟩) ?_ ?_
                rotate_left
                · intro w'
                  go_simp
                  with_reducible rfl
                rotate_left
                · simp only [Act.put, List.setIfInBounds_toArray, List.set_cons_zero, List.set_cons_succ, i64_w, i32_w]
                  rfl
                refine pure_ (i := 21) (N := some 130) (v := ?_) (a' := ?_) #[true, true, true, true, true, true, true, true, true, true, true, true, true, true, true, true, true, true, true, true, true, true, false] rfl rfl (by kernel_rfl) (fun _ _ _ h => h) (Or.inl ⟨by rfl, ?_⟩) ?_ ?_
                rotate_left
                · intro w'
                  go_simp
                  with_reducible rfl
                rotate_left
                · simp only [Act.put, List.setIfInBounds_toArray, List.set_cons_zero, List.set_cons_succ, i64_w, i32_w]
                  rfl
                refine pure_ (i := 22) (N := some 7) (v := ?_) (a' := ?_) #[true, true, true, true, true, true, true, true, true, true, true, true, true, true, true, true, true, true, true, true, true, true, true] rfl rfl (by kernel_rfl) (fun _ _ _ h => h) (Or.inl ⟨by rfl, ?_⟩) ?_ ?_
                rotate_left
                · intro w'
                  go_simp
                  with_reducible rfl
                rotate_left
                · simp only [Act.put, List.setIfInBounds_toArray, List.set_cons_zero, List.set_cons_succ, i64_w, i32_w]
                  rfl
                refine done_ (by kernel_rfl) ?_
                go_wp2
                go_roundg (65 - (kk + 1))
                case measure => have := HLT.out; have := HG.out; omega
                case rel => exact ⟨kk + 1, Y5, false, by have := HLT.out; omega, by omega, by first | exact congrArg _ EW | simp [EW], rfl, rfl, XN, ⟨by have h := BN.out; rw [hm] at h; exact h⟩, XNL, ⟨below_step B2.out Ewd.out⟩⟩
              | true =>
                go_upto_region 18 with (fail)
                refine start_ (n := 23) (S := fun w' => w'.cell? ⟨F, 10, none⟩ = some (.slice (some ad) tasks.length cT) ∧ w'.cell? (ad.add (ii.toNat * 2)) = some (.int .i64 m) ∧ w'.cell? ⟨(ad.add (ii.toNat * 2)).block, (ad.add (ii.toNat * 2)).off + 1, none⟩ = some (.int .i64 c)) (ds := []) #[false, false, false, false, false, false, false, false, false, false, false, false, false, false, false, false, false, false, false, false, false, false, false] (by kernel_rfl) rfl rfl ⟨((blk_cell (blk_below F6.out (below_drew Ewb.out)) 10).trans rfl), (((below_drew Ewb.out).cell UB.out).trans U0.out), ((Below.cell (p := ⟨(ad.add (ii.toNat * 2)).block, (ad.add (ii.toNat * 2)).off + 1, none⟩) (below_drew Ewb.out) UC.out).trans U1.out)⟩ (fun hHeld => ?_)
                refine pure_ (i := 0) (N := some 109) (v := ?_) (a' := ?_) #[true, false, false, false, false, false, false, false, false, false, false, false, false, false, false, false, false, false, false, false, false, false, false] rfl rfl (by kernel_rfl) (fun _ _ _ h => h) (Or.inl ⟨by rfl, ?_⟩) ?_ ?_
                rotate_left
                · intro w'
                  go_simp
                  with_reducible rfl
                rotate_left
                · simp only [Act.put, List.setIfInBounds_toArray, List.set_cons_zero, List.set_cons_succ, i64_w, i32_w]
                  rfl
                refine pure_ (i := 1) (N := some 110) (v := ?_) (a' := ?_) #[true, true, false, false, false, false, false, false, false, false, false, false, false, false, false, false, false, false, false, false, false, false, false] rfl rfl (by kernel_rfl) (fun _ _ _ h => h) (Or.inl ⟨by rfl, ?_⟩) ?_ ?_
                rotate_left
                · intro w'
                  go_simp
                  with_reducible rfl
                rotate_left
                · simp only [Act.put, List.setIfInBounds_toArray, List.set_cons_zero, List.set_cons_succ, i64_w, i32_w]
                  rfl
                refine pure_ (i := 2) (N := some 111) (v := ?_) (a' := ?_) #[true, true, true, false, false, false, false, false, false, false, false, false, false, false, false, false, false, false, false, false, false, false, false] rfl rfl (by kernel_rfl) (fun _ _ _ h => h) (Or.inl ⟨by rfl, ?_⟩) ?_ ?_
                rotate_left
                · intro w'
                  go_simp
                  with_reducible rfl
                rotate_left
                · simp only [Act.put, List.setIfInBounds_toArray, List.set_cons_zero, List.set_cons_succ, i64_w, i32_w]
                  rfl
                refine pure_ (i := 4) (N := some 113) (v := ?_) (a' := ?_) #[true, true, true, false, true, false, false, false, false, false, false, false, false, false, false, false, false, false, false, false, false, false, false] rfl rfl (by kernel_rfl) (fun _ _ _ h => h) (Or.inl ⟨by rfl, ?_⟩) ?_ ?_
                rotate_left
                · intro w'
                  go_simp
                  with_reducible rfl
                rotate_left
                · simp only [Act.put, List.setIfInBounds_toArray, List.set_cons_zero, List.set_cons_succ, i64_w, i32_w]
                  rfl
                refine pure_ (i := 12) (N := some 121) (v := ?_) (a' := ?_) #[true, true, true, false, true, false, false, false, false, false, false, false, true, false, false, false, false, false, false, false, false, false, false] rfl rfl (by kernel_rfl) (fun _ _ _ h => h) (Or.inl ⟨by rfl, ?_⟩) ?_ ?_
                rotate_left
                · intro w'
                  go_simp
                  with_reducible rfl
                rotate_left
                · simp only [Act.put, List.setIfInBounds_toArray, List.set_cons_zero, List.set_cons_succ, i64_w, i32_w]
                  rfl
                refine pure_ (i := 14) (N := some 123) (v := ?_) (a' := ?_) #[true, true, true, false, true, false, false, false, false, false, false, false, true, false, true, false, false, false, false, false, false, false, false] rfl rfl (by kernel_rfl) (fun _ _ _ h => h) (Or.inl ⟨by rfl, ?_⟩) ?_ ?_
                rotate_left
                · intro w'
                  go_simp
                  with_reducible rfl
                rotate_left
                · simp only [Act.put, List.setIfInBounds_toArray, List.set_cons_zero, List.set_cons_succ, i64_w, i32_w]
                  rfl
                refine take_ (i := 3) (N := some 112) (v := ?_) (a' := ?_) #[true, true, true, true, true, false, false, false, false, false, false, false, true, false, true, false, false, false, false, false, false, false, false] rfl rfl (by kernel_rfl) (fun _ _ _ h => h) (Or.inl ⟨by rfl, ?_⟩) hHeld ?_ ?_
                rotate_left
                · rintro w' ⟨s0, s1, s2⟩
                  go_simp
                  with_reducible rfl
                rotate_left
                · simp only [Act.put, List.setIfInBounds_toArray, List.set_cons_zero, List.set_cons_succ, i64_w, i32_w]
                  rfl
                refine pure_ (i := 5) (N := some 114) (v := ?_) (a' := ?_) #[true, true, true, true, true, true, false, false, false, false, false, false, true, false, true, false, false, false, false, false, false, false, false] rfl rfl (by kernel_rfl) (fun _ _ _ h => h) (Or.inl ⟨by rfl, ?_⟩) ?_ ?_
                rotate_left
                · intro w'
                  go_simp
                  with_reducible rfl
                rotate_left
                · simp only [Act.put, List.setIfInBounds_toArray, List.set_cons_zero, List.set_cons_succ, i64_w, i32_w]
                  rfl
                refine pure_ (i := 6) (N := some 115) (v := ?_) (a' := ?_) #[true, true, true, true, true, true, true, false, false, false, false, false, true, false, true, false, false, false, false, false, false, false, false] rfl rfl (by kernel_rfl) (fun _ _ _ h => h) (Or.inl ⟨by rfl, ?_⟩) ?_ ?_
                rotate_left
                · intro w'
                  go_simp
                  with_reducible rfl
                rotate_left
                · simp only [Act.put, List.setIfInBounds_toArray, List.set_cons_zero, List.set_cons_succ, i64_w, i32_w]
                  rfl
                refine take_ (i := 7) (N := some 116) (v := ?_) (a' := ?_) #[true, true, true, true, true, true, true, true, false, false, false, false, true, false, true, false, false, false, false, false, false, false, false] rfl rfl (by kernel_rfl) (fun _ _ _ h => h) (Or.inl ⟨by rfl, ?_⟩) hHeld ?_ ?_
                rotate_left
                · rintro w' ⟨s0, s1, s2⟩
                  go_simp
                  with_reducible rfl
                rotate_left
                · simp only [Act.put, List.setIfInBounds_toArray, List.set_cons_zero, List.set_cons_succ, i64_w, i32_w]
                  rfl
                refine pure_ (i := 8) (N := some 117) (v := ?_) (a' := ?_) #[true, true, true, true, true, true, true, true, true, false, false, false, true, false, true, false, false, false, false, false, false, false, false] rfl rfl (by kernel_rfl) (fun _ _ _ h => h) (Or.inl ⟨by rfl, ?_⟩) ?_ ?_
                rotate_left
                · intro w'
                  go_simp
                  with_reducible rfl
                rotate_left
                · simp only [Act.put, List.setIfInBounds_toArray, List.set_cons_zero, List.set_cons_succ, i64_w, i32_w]
                  rfl
                refine take_ (i := 13) (N := some 122) (v := ?_) (a' := ?_) #[true, true, true, true, true, true, true, true, true, false, false, false, true, true, true, false, false, false, false, false, false, false, false] rfl rfl (by kernel_rfl) (fun _ _ _ h => h) (Or.inl ⟨by rfl, ?_⟩) hHeld ?_ ?_
                rotate_left
                · rintro w' ⟨s0, s1, s2⟩
                  go_simp
                  with_reducible rfl
                rotate_left
                · simp only [Act.put, List.setIfInBounds_toArray, List.set_cons_zero, List.set_cons_succ, i64_w, i32_w]
                  rfl
                refine pure_ (i := 15) (N := some 124) (v := ?_) (a' := ?_) #[true, true, true, true, true, true, true, true, true, false, false, false, true, true, true, true, false, false, false, false, false, false, false] rfl rfl (by kernel_rfl) (fun _ _ _ h => h) (Or.inl ⟨by rfl, ?_⟩) ?_ ?_
                rotate_left
                · intro w'
                  go_simp
                  with_reducible rfl
                rotate_left
                · simp only [Act.put, List.setIfInBounds_toArray, List.set_cons_zero, List.set_cons_succ, i64_w, i32_w]
                  rfl
                refine pure_ (i := 16) (N := some 125) (v := ?_) (a' := ?_) #[true, true, true, true, true, true, true, true, true, false, false, false, true, true, true, true, true, false, false, false, false, false, false] rfl rfl (by kernel_rfl) (fun _ _ _ h => h) (Or.inl ⟨by rfl, ?_⟩) ?_ ?_
                rotate_left
                · intro w'
                  go_simp
                  with_reducible rfl
                rotate_left
                · simp only [Act.put, List.setIfInBounds_toArray, List.set_cons_zero, List.set_cons_succ, i64_w, i32_w]
                  rfl
                refine take_ (i := 17) (N := some 126) (v := ?_) (a' := ?_) #[true, true, true, true, true, true, true, true, true, false, false, false, true, true, true, true, true, true, false, false, false, false, false] rfl rfl (by kernel_rfl) (fun _ _ _ h => h) (Or.inl ⟨by rfl, ?_⟩) hHeld ?_ ?_
                rotate_left
                · rintro w' ⟨s0, s1, s2⟩
                  go_simp
                  with_reducible rfl
                rotate_left
                · simp only [Act.put, List.setIfInBounds_toArray, List.set_cons_zero, List.set_cons_succ, i64_w, i32_w]
                  rfl
                refine pure_ (i := 18) (N := some 127) (v := ?_) (a' := ?_) #[true, true, true, true, true, true, true, true, true, false, false, false, true, true, true, true, true, true, true, false, false, false, false] rfl rfl (by kernel_rfl) (fun _ _ _ h => h) (Or.inl ⟨by rfl, ?_⟩) ?_ ?_
                rotate_left
                · intro w'
                  go_simp
                  with_reducible rfl
                rotate_left
                · simp only [Act.put, List.setIfInBounds_toArray, List.set_cons_zero, List.set_cons_succ, i64_w, i32_w]
                  rfl
                refine one_ (i := 9) (N := some 118) #[true, true, true, true, true, true, true, true, true, true, false, false, true, true, true, true, true, true, true, false, false, false, false] rfl rfl (by kernel_rfl) (by decide) (fun K hK => ?_)
                refine goes_ Tryd.func17 (by kernel_rfl) rfl #[.int .i64 mv] (by rfl) rfl rfl (by simp only [List.map_toArray, List.map_cons, List.map_nil]; rfl) ?_
                refine (text_m mv dm MV.out.1 MV.out.2 HDM.out _).mono ?_
                rintro e' wc ⟨rfl, hb⟩
                refine ⟨_, rfl, ?_⟩
                have Ewc := Aside0.mk (below_step (below_drew Ewb.out) hb)
                clear hb
                refine hK.out _ _ ⟨((blk_cell (blk_below F6.out Ewc.out) 10).trans rfl), ((Ewc.out.cell UB.out).trans U0.out), ((Below.cell (p := ⟨(ad.add (ii.toNat * 2)).block, (ad.add (ii.toNat * 2)).off + 1, none⟩) Ewc.out UC.out).trans U1.out)⟩ (fun hHeld => ?_)
                clear hK K
                refine norm_ (a' := ?_) ?_ ?_
                rotate_left
                · show Act.put _ (some 118) _ = _
                  simp only [Act.put, List.setIfInBounds_toArray, List.set_cons_zero, List.set_cons_succ, i64_w, i32_w]
                  rfl
                refine pure_ (i := 10) (N := some 119) (v := ?_) (a' := ?_) #[true, true, true, true, true, true, true, true, true, true, true, false, true, true, true, true, true, true, true, false, false, false, false] rfl rfl (by kernel_rfl) (fun _ _ _ h => h) (Or.inl ⟨by rfl, ?_⟩) ?_ ?_
                rotate_left
                · intro w'
                  go_simp
                  with_reducible rfl
                rotate_left
                · simp only [Act.put, List.setIfInBounds_toArray, List.set_cons_zero, List.set_cons_succ, i64_w, i32_w]
                  rfl
                refine pure_ (i := 11) (N := some 120) (v := ?_) (a' := ?_) #[true, true, true, true, true, true, true, true, true, true, true, true, true, true, true, true, true, true, true, false, false, false, false] rfl rfl (by kernel_rfl) (fun _ _ _ h => h) (Or.inl ⟨by rfl, ?_⟩) ?_ ?_
                rotate_left
                · intro w'
                  go_simp
                  with_reducible rfl
                rotate_left
                · simp only [Act.put, List.setIfInBounds_toArray, List.set_cons_zero, List.set_cons_succ, i64_w, i32_w]
                  rfl
                refine one_ (i := 19) (N := some 128) #[true, true, true, true, true, true, true, true, true, true, true, true, true, true, true, true, true, true, true, true, false, false, false] rfl rfl (by kernel_rfl) (by decide) (fun K hK => ?_)
                refine goes_ Tryd.func17 (by kernel_rfl) rfl #[.int .i64 cv] (by rfl) rfl rfl (by simp only [List.map_toArray, List.map_cons, List.map_nil]; rfl) ?_
                refine (text_m cv dc CV.out.1 CV.out.2 HDC.out _).mono ?_
                rintro e' wd ⟨rfl, hb⟩
                refine ⟨_, rfl, ?_⟩
                have Ewd := Aside0.mk (below_step Ewc.out hb)
                clear hb
                refine hK.out _ _ ⟨((blk_cell (blk_below F6.out Ewd.out) 10).trans rfl), ((Ewd.out.cell UB.out).trans U0.out), ((Below.cell (p := ⟨(ad.add (ii.toNat * 2)).block, (ad.add (ii.toNat * 2)).off + 1, none⟩) Ewd.out UC.out).trans U1.out)⟩ (fun hHeld => ?_)
                clear hK K
                refine norm_ (a' := ?_) ?_ ?_
                rotate_left
                · show Act.put _ (some 128) _ = _
                  simp only [Act.put, List.setIfInBounds_toArray, List.set_cons_zero, List.set_cons_succ, i64_w, i32_w]
                  rfl
                refine pure_ (i := 20) (N := some 129) (v := ?_) (a' := ?_) #[true, true, true, true, true, true, true, true, true, true, true, true, true, true, true, true, true, true, true, true, true, false, false] rfl rfl (by kernel_rfl) (fun _ _ _ h => h) (Or.inl ⟨by rfl, ?_⟩) ?_ ?_
                rotate_left
                · intro w'
                  go_simp
                  with_reducible rfl
                rotate_left
                · simp only [Act.put, List.setIfInBounds_toArray, List.set_cons_zero, List.set_cons_succ, i64_w, i32_w]
                  rfl
                refine pure_ (i := 21) (N := some 130) (v := ?_) (a' := ?_) #[true, true, true, true, true, true, true, true, true, true, true, true, true, true, true, true, true, true, true, true, true, true, false] rfl rfl (by kernel_rfl) (fun _ _ _ h => h) (Or.inl ⟨by rfl, ?_⟩) ?_ ?_
                rotate_left
                · intro w'
                  go_simp
                  with_reducible rfl
                rotate_left
                · simp only [Act.put, List.setIfInBounds_toArray, List.set_cons_zero, List.set_cons_succ, i64_w, i32_w]
                  rfl
                refine pure_ (i := 22) (N := some 7) (v := ?_) (a' := ?_) #[true, true, true, true, true, true, true, true, true, true, true, true, true, true, true, true, true, true, true, true, true, true, true] rfl rfl (by kernel_rfl) (fun _ _ _ h => h) (Or.inl ⟨by rfl, ?_⟩) ?_ ?_
                rotate_left
                · intro w'
                  go_simp
                  with_reducible rfl
                rotate_left
                · simp only [Act.put, List.setIfInBounds_toArray, List.set_cons_zero, List.set_cons_succ, i64_w, i32_w]
                  rfl
                refine done_ (by kernel_rfl) ?_
                go_wp2
                go_roundg (65 - (kk + 1))
                case measure => have := HLT.out; have := HG.out; omega
                case rel => exact ⟨kk + 1, Y5, okN c, by have := HLT.out; omega, by omega, by first | exact congrArg _ EW | simp [EW], rfl, by first | rfl | simp, XN, ⟨by have h := BN.out; rw [hm] at h; exact h⟩, XNL, ⟨below_step B2.out Ewd.out⟩⟩
          · have htk : tasks.take kk = tasks.take 65 := by
              by_cases h1 : kk < tasks.length
              · rw [show kk = 65 by omega]
              · rw [List.take_of_length_le (by omega), List.take_of_length_le (by omega)]
            rw [htk] at HY HD
            have HYL2 := Aside0.mk (show Y.length ≤ 4400 by have := HYL.out; omega)
            have p1 : decide (ii < (tasks.length : Int)) = decide (kk < tasks.length) := by rw [hii]; simp
            by_cases h1 : kk < tasks.length
            · have c1 : decide (ii < (tasks.length : Int)) = true := decide_eq_true (by omega)
              have p_ : decide (ii < 65) = false := decide_eq_false (by omega)
              clear hkk hg hlt hii htk p1 h1
              go_upto_region 20 with (fail)
              clear c1 p_ x10 x11
              go_loopg [6, 7, 13] ops.length (fun gg s6 s7 s13 wr => ∃ (kk : Nat) (Z : List UInt8) (e : Bool), kk ≤ ops.length ∧ ops.length - kk ≤ gg ∧ s13 = .int .i64 kk ∧ s7 = .string ⟨Z.toArray⟩ ∧ s6 = .bool e ∧ Aside0 (Z = Y ++ opsU (ops.take kk)) ∧ Aside0 (e = (d && (ops.take kk).all (fun o => (lineP o).2))) ∧ Aside0 (Z.length ≤ 4400 + 200 * kk) ∧ Aside0 (Below w.heap.size w wr) ∧ Aside0 (wr.heap[F]? = some (.cells #[.int .i64 c0, .int .i64 c1, .int .i64 c2, .int .i64 c3, .int .i64 c4, .int .i64 c5, .int .i64 c6, .int .i64 c7, .int .i64 c8, .int .i64 c9, .slice AT tasks.length cT, .slice AO ops.length cO] 33 (0, 0))))
              case atStart => exact ⟨0, Y, d, by omega, by omega, rfl, rfl, rfl, ⟨by simp [opsU]⟩, ⟨by simp⟩, ⟨by have := HYL2.out; omega⟩, B6, F6⟩
              case round =>
                obtain ⟨kk, Z, e, hkk, hg, rfl, rfl, rfl, HZ, HE, HZL, B7, F7⟩ := hrel
                obtain ⟨ii, hii⟩ : ∃ n : Int, n = (kk : Int) := ⟨_, rfl⟩
                rw [← hii]
                obtain ⟨-, -, -, -, -, -, -, -, -, -, x10, x11, -, -, -, -, -, -, -, -, -, -, -, -⟩ := cells12 F7.out
                by_cases hlt : kk < ops.length
                · have c1 : decide (ii < (ops.length : Int)) = true := decide_eq_true (by omega)
                  have c2 : decide (ii < 4097) = true := decide_eq_true (by have := H70.out; omega)
                  have p1 := eq_true (show (0 : Int) ≤ ii by omega)
                  have q1 := eq_true (show ii < (ops.length : Int) by omega)
                  obtain ⟨ad, ead, u0, u1, u2, u3, u4⟩ := op_get (Kd.C_below HO.out B7.out) kk hlt
                  subst ead
                  obtain ⟨⟨xk, xa, xb, xc, xd⟩, hv⟩ : ∃ v, ops.getD kk ⟨0, 0, 0, 0, 0⟩ = v := ⟨_, rfl⟩
                  have HV := Aside0.mk hv
                  rw [hv, show kk = ii.toNat by omega] at u0 u1 u2 u3 u4
                  simp only at u0 u1 u2 u3 u4
                  obtain ⟨⟨lt, lb⟩, hl⟩ : ∃ r, lineP ⟨xk, xa, xb, xc, xd⟩ = r := ⟨_, rfl⟩
                  have HL := Aside0.mk hl
                  have hll : lt.length ≤ 200 := by
                    have h := line_len ⟨xk, xa, xb, xc, xd⟩
                    rw [hl] at h
                    exact h
                  have hzl := HZL.out
                  have HII := Aside0.mk hii
                  have HLT := Aside0.mk hlt
                  have HG := Aside0.mk hg
                  obtain ⟨Z1, hZ1⟩ : ∃ X_, X_ = Z ++ lt := ⟨_, rfl⟩
                  have a1 : ∀ W : World, (Op.stringOp .add (⟨Z.toArray⟩ : ByteArray) ⟨lt.toArray⟩).run Tryd.prog W = .ok (.string ⟨Z1.toArray⟩) W := by rw [hZ1]; exact add_lit _ _ (by have := H70.out; omega)
                  have XN := Aside0.mk (show Z1 = Y ++ opsU (ops.take (kk + 1)) by rw [hZ1, HZ.out, take_snoc ops kk ⟨0, 0, 0, 0, 0⟩ hlt, hv]; simp only [opsU, List.flatMap_append, List.flatMap_cons, List.flatMap_nil, List.append_nil, hl]; simp)
                  have XNL := Aside0.mk (show Z1.length ≤ 4400 + 200 * (kk + 1) by rw [hZ1, List.length_append]; omega)
                  have BN := Aside0.mk (show (e && lb) = (d && (ops.take (kk + 1)).all (fun o => (lineP o).2)) by rw [HE.out, take_snoc ops kk ⟨0, 0, 0, 0, 0⟩ hlt, hv, List.all_append]; simp [Bool.and_assoc, hl])
                  have EW : wrap64 (ii + 1) = ((kk + 1 : Nat) : Int) := by have := H70.out; unfold wrap64; omega
                  clear hZ1 hii hlt hg hkk hv hl hll hzl
                  go_upto_region 23 with (first
                    | (go_at_call 31; refine (line_calls xk xa xb xc xd _ (lt, lb) HL.out).mono ?_; rintro e' wa ⟨rfl, hb⟩; have Ewa := Aside0.mk (below_step B7.out hb); have Fwa := Aside0.mk (blk_below F7.out hb); clear hb))
                  clear u0 u1 u2 u3 u4 x10 x11
                  cases e with
                  | false =>
                    go_wp2
                    go_roundg (ops.length - (kk + 1))
                    case measure => have := HLT.out; have := HG.out; omega
                    case rel => exact ⟨kk + 1, Z1, false, by have := HLT.out; omega, by omega, by first | exact congrArg _ EW | simp [EW], rfl, rfl, XN, BN, XNL, Ewa, Fwa⟩
                  | true =>
                    go_wp2
                    go_roundg (ops.length - (kk + 1))
                    case measure => have := HLT.out; have := HG.out; omega
                    case rel => exact ⟨kk + 1, Z1, lb, by have := HLT.out; omega, by omega, by first | exact congrArg _ EW | simp [EW], rfl, by first | rfl | simp, XN, BN, XNL, Ewa, Fwa⟩
                · have c1 : decide (ii < (ops.length : Int)) = false := decide_eq_false (by omega)
                  have hfull : ops.take kk = ops := List.take_of_length_le (by omega)
                  rw [hfull] at HZ HE
                  have HOK := Aside0.mk (show okU ⟨vs, tasks, ops⟩ = e by
                    have h1 : decide (ops.length ≤ 4096) = true := decide_eq_true (by have := H70.out; omega)
                    have h2 : decide (tasks.length ≤ 64) = false := decide_eq_false H64.out
                    rw [HE.out, HD.out, HB_.out]
                    show ((((decide (tasks.length ≤ 64) && decide (ops.length ≤ 4096)) && _) && _) && _) = _
                    rw [h1, h2]
                    simp)
                  have HRT := Aside0.mk (show r = if e = true then (Z, 0) else ([], 1) by
                    rw [← HRV.out]
                    unfold refT
                    rw [HOK.out, HZ.out, HY.out, HX1.out])
                  clear hkk hg hlt hii hfull
                  cases e with
                  | false =>
                    obtain rfl : r = ([], 1) := HRT.out
                    clear HRT
                    go_wp2
                    first | go_ret | go_ret2
                    exact ⟨by first | rfl | simp, B7.out⟩
                  | true =>
                    obtain rfl : r = (Z, 0) := HRT.out
                    clear HRT
                    go_wp2
                    first | go_ret | go_ret2
                    exact ⟨by first | rfl | simp, B7.out⟩
            · have c1 : decide (ii < (tasks.length : Int)) = false := decide_eq_false (by omega)
              have p_ := True.intro
              clear hkk hg hlt hii htk p1 h1
              go_upto_region 20 with (fail)
              clear c1 p_ x10 x11
              go_loopg [6, 7, 13] ops.length (fun gg s6 s7 s13 wr => ∃ (kk : Nat) (Z : List UInt8) (e : Bool), kk ≤ ops.length ∧ ops.length - kk ≤ gg ∧ s13 = .int .i64 kk ∧ s7 = .string ⟨Z.toArray⟩ ∧ s6 = .bool e ∧ Aside0 (Z = Y ++ opsU (ops.take kk)) ∧ Aside0 (e = (d && (ops.take kk).all (fun o => (lineP o).2))) ∧ Aside0 (Z.length ≤ 4400 + 200 * kk) ∧ Aside0 (Below w.heap.size w wr) ∧ Aside0 (wr.heap[F]? = some (.cells #[.int .i64 c0, .int .i64 c1, .int .i64 c2, .int .i64 c3, .int .i64 c4, .int .i64 c5, .int .i64 c6, .int .i64 c7, .int .i64 c8, .int .i64 c9, .slice AT tasks.length cT, .slice AO ops.length cO] 33 (0, 0))))
              case atStart => exact ⟨0, Y, d, by omega, by omega, rfl, rfl, rfl, ⟨by simp [opsU]⟩, ⟨by simp⟩, ⟨by have := HYL2.out; omega⟩, B6, F6⟩
              case round =>
                obtain ⟨kk, Z, e, hkk, hg, rfl, rfl, rfl, HZ, HE, HZL, B7, F7⟩ := hrel
                obtain ⟨ii, hii⟩ : ∃ n : Int, n = (kk : Int) := ⟨_, rfl⟩
                rw [← hii]
                obtain ⟨-, -, -, -, -, -, -, -, -, -, x10, x11, -, -, -, -, -, -, -, -, -, -, -, -⟩ := cells12 F7.out
                by_cases hlt : kk < ops.length
                · have c1 : decide (ii < (ops.length : Int)) = true := decide_eq_true (by omega)
                  have c2 : decide (ii < 4097) = true := decide_eq_true (by have := H70.out; omega)
                  have p1 := eq_true (show (0 : Int) ≤ ii by omega)
                  have q1 := eq_true (show ii < (ops.length : Int) by omega)
                  obtain ⟨ad, ead, u0, u1, u2, u3, u4⟩ := op_get (Kd.C_below HO.out B7.out) kk hlt
                  subst ead
                  obtain ⟨⟨xk, xa, xb, xc, xd⟩, hv⟩ : ∃ v, ops.getD kk ⟨0, 0, 0, 0, 0⟩ = v := ⟨_, rfl⟩
                  have HV := Aside0.mk hv
                  rw [hv, show kk = ii.toNat by omega] at u0 u1 u2 u3 u4
                  simp only at u0 u1 u2 u3 u4
                  obtain ⟨⟨lt, lb⟩, hl⟩ : ∃ r, lineP ⟨xk, xa, xb, xc, xd⟩ = r := ⟨_, rfl⟩
                  have HL := Aside0.mk hl
                  have hll : lt.length ≤ 200 := by
                    have h := line_len ⟨xk, xa, xb, xc, xd⟩
                    rw [hl] at h
                    exact h
                  have hzl := HZL.out
                  have HII := Aside0.mk hii
                  have HLT := Aside0.mk hlt
                  have HG := Aside0.mk hg
                  obtain ⟨Z1, hZ1⟩ : ∃ X_, X_ = Z ++ lt := ⟨_, rfl⟩
                  have a1 : ∀ W : World, (Op.stringOp .add (⟨Z.toArray⟩ : ByteArray) ⟨lt.toArray⟩).run Tryd.prog W = .ok (.string ⟨Z1.toArray⟩) W := by rw [hZ1]; exact add_lit _ _ (by have := H70.out; omega)
                  have XN := Aside0.mk (show Z1 = Y ++ opsU (ops.take (kk + 1)) by rw [hZ1, HZ.out, take_snoc ops kk ⟨0, 0, 0, 0, 0⟩ hlt, hv]; simp only [opsU, List.flatMap_append, List.flatMap_cons, List.flatMap_nil, List.append_nil, hl]; simp)
                  have XNL := Aside0.mk (show Z1.length ≤ 4400 + 200 * (kk + 1) by rw [hZ1, List.length_append]; omega)
                  have BN := Aside0.mk (show (e && lb) = (d && (ops.take (kk + 1)).all (fun o => (lineP o).2)) by rw [HE.out, take_snoc ops kk ⟨0, 0, 0, 0, 0⟩ hlt, hv, List.all_append]; simp [Bool.and_assoc, hl])
                  have EW : wrap64 (ii + 1) = ((kk + 1 : Nat) : Int) := by have := H70.out; unfold wrap64; omega
                  clear hZ1 hii hlt hg hkk hv hl hll hzl
                  go_upto_region 23 with (first
                    | (go_at_call 31; refine (line_calls xk xa xb xc xd _ (lt, lb) HL.out).mono ?_; rintro e' wa ⟨rfl, hb⟩; have Ewa := Aside0.mk (below_step B7.out hb); have Fwa := Aside0.mk (blk_below F7.out hb); clear hb))
                  clear u0 u1 u2 u3 u4 x10 x11
                  cases e with
                  | false =>
                    go_wp2
                    go_roundg (ops.length - (kk + 1))
                    case measure => have := HLT.out; have := HG.out; omega
                    case rel => exact ⟨kk + 1, Z1, false, by have := HLT.out; omega, by omega, by first | exact congrArg _ EW | simp [EW], rfl, rfl, XN, BN, XNL, Ewa, Fwa⟩
                  | true =>
                    go_wp2
                    go_roundg (ops.length - (kk + 1))
                    case measure => have := HLT.out; have := HG.out; omega
                    case rel => exact ⟨kk + 1, Z1, lb, by have := HLT.out; omega, by omega, by first | exact congrArg _ EW | simp [EW], rfl, by first | rfl | simp, XN, BN, XNL, Ewa, Fwa⟩
                · have c1 : decide (ii < (ops.length : Int)) = false := decide_eq_false (by omega)
                  have hfull : ops.take kk = ops := List.take_of_length_le (by omega)
                  rw [hfull] at HZ HE
                  have HOK := Aside0.mk (show okU ⟨vs, tasks, ops⟩ = e by
                    have h1 : decide (ops.length ≤ 4096) = true := decide_eq_true (by have := H70.out; omega)
                    have h2 : decide (tasks.length ≤ 64) = false := decide_eq_false H64.out
                    rw [HE.out, HD.out, HB_.out]
                    show ((((decide (tasks.length ≤ 64) && decide (ops.length ≤ 4096)) && _) && _) && _) = _
                    rw [h1, h2]
                    simp)
                  have HRT := Aside0.mk (show r = if e = true then (Z, 0) else ([], 1) by
                    rw [← HRV.out]
                    unfold refT
                    rw [HOK.out, HZ.out, HY.out, HX1.out])
                  clear hkk hg hlt hii hfull
                  cases e with
                  | false =>
                    obtain rfl : r = ([], 1) := HRT.out
                    clear HRT
                    go_wp2
                    first | go_ret | go_ret2
                    exact ⟨by first | rfl | simp, B7.out⟩
                  | true =>
                    obtain rfl : r = (Z, 0) := HRT.out
                    clear HRT
                    go_wp2
                    first | go_ret | go_ret2
                    exact ⟨by first | rfl | simp, B7.out⟩
end Go.Proofs.YtegbfimfpkendaaDoor.PbP
namespace Go.Proofs.YtegbfimfpkendaaDoor.PbTx
open Go.RowKit Go.Proofs.YtegbfimfpkendaaDoorW.PrintWords Go.Proofs.YtegbfimfpkendaaDoorW.PrintLast Go.Proofs.YtegbfimfpkendaaDoorW.PrintMore LexS LexB PaA LexBox PaC PaD PaB PaE PaF PaG PaH PaL PaM PaN PaQ PaS PaT PaU PaV PaW PaX PaY PaZ PbA PbB PbC PbJ PbP
set_option linter.unusedVariables false
set_option linter.unusedSimpArgs false
set_option maxHeartbeats 2000000 in
set_option maxRecDepth 100000 in
theorem texts_calls (v0 v1 v2 v3 v4 v5 v6 v7 v8 v9 : Int) (tasks : List Tk) (ops : List Opn) (AT AO : Option Addr) (cT cO : Nat) (w : World) (hT : kTk.C w AT tasks.length tasks) (hTc : tasks.length ≤ cT) (hO : kOp.C w AO ops.length ops) (hOc : ops.length ≤ cO) (h : Laid w) (hI : FIn ⟨[v0, v1, v2, v3, v4, v5, v6, v7, v8, v9], tasks, ops⟩) :
    Calls Tryd.prog 4 #[.agg #[.int .i64 v0, .int .i64 v1, .int .i64 v2, .int .i64 v3, .int .i64 v4, .int .i64 v5, .int .i64 v6, .int .i64 v7, .int .i64 v8, .int .i64 v9, .slice AT tasks.length cT, .slice AO ops.length cO]] w fun e w' => e = .returned (.bool true) ∧ Below w.heap.size w w' := by
  have HL := Aside0.mk h
  have HT := Aside0.mk hT
  have HO := Aside0.mk hO
  have HTC := Aside0.mk hTc
  have HOC := Aside0.mk hOc
  have HI := Aside0.mk hI
  clear h hT hO hTc hOc hI
  go_enter Tryd.func4, Tryd.ntmps4
  go_upto_region 1 with (first
    | ((with_reducible refine gate_dst (N := 1) rfl ?_); (try (refine gate_guard (by rfl) ?_; dsimp only)); refine box_event ?hg (N := 1) ?hd (cs := #[.int .i64 v0, .int .i64 v1, .int .i64 v2, .int .i64 v3, .int .i64 v4, .int .i64 v5, .int .i64 v6, .int .i64 v7, .int .i64 v8, .int .i64 v9, .slice AT tasks.length cT, .slice AO ops.length cO]) (t := 29) ?hr ?_; (case hd => rfl); (case hg => rfl); (case hr => first | (go_simp; done) | (go_simp; rfl)); intro F hg w1 hbox hb; have FX := Aside0.mk hbox; have FB := Aside0.mk hb; have FG := Aside0.mk (Nat.le_of_eq hg.symm); clear hbox hb hg))
  obtain ⟨q0, q1, q2, q3, q4, q5, q6, q7, q8, q9, q10, q11, -, -, -, -, -, -, -, -, -, -, -, -⟩ := cells12 FX.out
  go_upto_region 2 with (first
    | (go_at_call 9; refine (shown_calls _ (HL.out.below FB.out)).mono ?_; rintro e' w2 ⟨rfl, hb⟩; have SB := Aside0.mk hb; clear hb))
  clear q0 q1 q2 q3 q4 q5 q6 q7 q8 q9 q10 q11
  have FX2 := Aside0.mk (blk_below FX.out SB.out)
  obtain ⟨q0, q1, q2, q3, q4, q5, q6, q7, q8, q9, q10, q11, -, -, -, -, -, -, -, -, -, -, -, -⟩ := cells12 FX2.out
  go_upto_region 3 with (first
    | (go_at_call 13; refine (few_calls v0 v1 v2 v3 v4 v5 v6 v7 v8 v9 AT AO tasks.length ops.length cT cO _ HTC.out HOC.out).mono ?_; rintro e' w3 ⟨rfl, hb⟩; have FW := Aside0.mk hb; have F3 := Aside0.mk (blk_below (blk_below FX.out SB.out) hb); clear hb; obtain ⟨z0, z1, z2, z3, z4, z5, z6, z7, z8, z9, z10, z11, g0, g1, g2, g3, g4, g5, g6, g7, g8, g9, g10, g11⟩ := cells12 F3.out))
  obtain ⟨w4, hw, hX, hBx⟩ := put12 (.int .i64 v0) (.int .i64 v1) (.int .i64 v2) (.int .i64 v3) (.int .i64 v4) (.int .i64 v5) (.int .i64 v6) (.int .i64 v7) (.int .i64 v8) (.int .i64 v9) (.slice AT (min tasks.length 70) cT) (.slice AO (min ops.length 200) cO) F3.out (below_step (below_step FB.out SB.out) FW.out) FG.out
  rw [← hw]
  have F4 := Aside0.mk hX
  have B4 := Aside0.mk hBx
  clear hw hX hBx F3 FW FX FX2 SB FB z0 z1 z2 z3 z4 z5 z6 z7 z8 z9 z10 z11 g0 g1 g2 g3 g4 g5 g6 g7 g8 g9 g10 g11 q0 q1 q2 q3 q4 q5 q6 q7 q8 q9 q10 q11
  obtain ⟨tk, htk⟩ : ∃ t, t = tasks.take 70 := ⟨_, rfl⟩
  obtain ⟨ok, hok⟩ : ∃ t, t = ops.take 200 := ⟨_, rfl⟩
  have ltk : tk.length = min tasks.length 70 := by rw [htk, List.length_take, Nat.min_comm]
  have lok : ok.length = min ops.length 200 := by rw [hok, List.length_take, Nat.min_comm]
  have HT4 := Aside0.mk (show kTk.C w4 AT tk.length tk by rw [htk]; exact C_takes (Kd.C_below HT.out B4.out) 70)
  have HO4 := Aside0.mk (show kOp.C w4 AO ok.length ok by rw [hok]; exact C_takes (Kd.C_below HO.out B4.out) 200)
  have TC4 := Aside0.mk (show tk.length ≤ cT by have := HTC.out; omega)
  have OC4 := Aside0.mk (show ok.length ≤ cO by have := HOC.out; omega)
  have HI4 := Aside0.mk (show FIn ⟨[v0, v1, v2, v3, v4, v5, v6, v7, v8, v9], tk, ok⟩ by rw [htk, hok]; exact ⟨HI.out.cfg, fun t ht => HI.out.tasks t (List.mem_of_mem_take ht), fun t ht => HI.out.ops t (List.mem_of_mem_take ht)⟩)
  have TK70 := Aside0.mk (show tk.length ≤ 70 ∧ ok.length ≤ 200 by omega)
  have LTK := Aside0.mk ltk
  have LOK := Aside0.mk lok
  clear htk hok ltk lok HT HO HI
  rw [← LTK.out, ← LOK.out] at F4
  obtain ⟨s, er, htx⟩ : ∃ s er, textP ⟨[v0, v1, v2, v3, v4, v5, v6, v7, v8, v9], tk, ok⟩ = (s, er) := ⟨_, _, rfl⟩
  have HTX := Aside0.mk htx
  clear htx
  obtain ⟨q0, q1, q2, q3, q4, q5, q6, q7, q8, q9, q10, q11, -, -, -, -, -, -, -, -, -, -, -, -⟩ := cells12 F4.out
  go_upto_region 4 with (first
    | (go_at_call 14; refine (text_l v0 v1 v2 v3 v4 v5 v6 v7 v8 v9 tk ok AT AO _ _ cT cO _ s er HTX.out rfl rfl HT4.out TC4.out HO4.out OC4.out (HL.out.below B4.out) HI4.out (by have := TK70.out; omega) (by have := TK70.out; omega)).mono ?_; rintro e' w5 ⟨rfl, hb⟩; have B5 := Aside0.mk (below_step B4.out hb); have F5 := Aside0.mk (blk_below F4.out hb); have HT5 := Aside0.mk (Kd.C_below HT4.out hb); have HO5 := Aside0.mk (Kd.C_below HO4.out hb); clear hb))
  clear q0 q1 q2 q3 q4 q5 q6 q7 q8 q9 q10 q11 F4 B4 HT4 HO4
  obtain ⟨q0, q1, q2, q3, q4, q5, q6, q7, q8, q9, q10, q11, -, -, -, -, -, -, -, -, -, -, -, -⟩ := cells12 F5.out
  go_upto_region 5 with (first
    | (go_at_call 15; refine (reft_calls v0 v1 v2 v3 v4 v5 v6 v7 v8 v9 tk ok AT AO cT cO _ HT5.out TC4.out HO5.out OC4.out HI4.out TK70.out (s, er) ((refT_eq _).trans HTX.out)).mono ?_; rintro e' w6 ⟨rfl, hb⟩; have B6 := Aside0.mk (below_step B5.out hb); clear hb))
  clear q0 q1 q2 q3 q4 q5 q6 q7 q8 q9 q10 q11
  have es : ((⟨s.toArray⟩ : ByteArray).toList == (⟨s.toArray⟩ : ByteArray).toList) = true := by simp
  have ee : (er == er) = true := by simp
  go_wp2
  first | go_ret | go_ret2
  exact ⟨by first | rfl | simp, B6.out⟩
end Go.Proofs.YtegbfimfpkendaaDoor.PbTx
