/- The walk of the reference's Parse. No condition but lengths. -/
import Derived.Test.YtegbfimfpkendaaDoorMg47
import Derived.Test.YtegbfimfpkendaaDoorPcF
import Derived.Test.YtegbfimfpkendaaDoorPaN
import Derived.Test.YtegbfimfpkendaaDoorPbE
namespace Go.Proofs.YtegbfimfpkendaaDoor.PcI
open Go.RowKit Go.Proofs.YtegbfimfpkendaaDoor.PParseTells Go.Proofs.YtegbfimfpkendaaDoorW.PrintWords Go.Proofs.YtegbfimfpkendaaDoorW.PrintLast Go.Proofs.YtegbfimfpkendaaDoorW.PrintMore LexS LexB PaA LexBox PaC PaD PaE PaF PaG PaJ PaK PaL PaN PcA PcB PcC PcD PcE PcF PcG PcHa PcH
set_option linter.unusedVariables false
set_option linter.unusedSimpArgs false
theorem takeR_bad {st : FileS} {a0 : Bool} {ts : List Tok} {e : Int} (h : takeR st a0 ts = .bad e) : e ≠ 0 := by
  cases ts with
  | nil => cases h; decide
  | cons t0 r =>
    rw [takeR] at h
    by_cases h1 : ¬ t0.kind = 1 ∨ formR (strOfNums t0.text) (fourth (t0 :: r)) = [] ∨ ((strOfNums t0.text).toList == configB) ≠ a0 ∨ ((strOfNums t0.text).toList = taskB ∧ 0 < st.ops.length)
    · rw [if_pos h1] at h; cases h; decide
    rw [if_neg h1] at h
    by_cases h2 : ((strOfNums t0.text).toList = taskB ∧ 64 ≤ st.tasks.length) ∨ (¬ (strOfNums t0.text).toList = taskB ∧ 4096 ≤ st.ops.length)
    · rw [if_pos h2] at h; cases h; decide
    rw [if_neg h2] at h
    by_cases h3 : ¬ (numsR (t0 :: r) (formR (strOfNums t0.text) (fourth (t0 :: r))) []).2 = 0
    · rw [if_pos h3] at h
      exact Rt.bad.inj h ▸ h3
    rw [if_neg h3] at h
    by_cases h4 : (strOfNums t0.text).toList = configB
    · rw [if_pos h4] at h; cases h
    rw [if_neg h4] at h
    by_cases h5 : (strOfNums t0.text).toList = taskB
    · rw [if_pos h5] at h; cases h
    · rw [if_neg h5] at h; cases h
theorem tok_at {w : World} {A : Option Addr} {ts : List Tok} (h : k68.C w A ts.length (ts.map f48)) (kk : Nat) (hk : kk < ts.length) : ∃ ad, A = some ad ∧ w.cell? (ad.add (kk * 3)) = some (.int .i64 (getTok ts kk).kind) ∧ w.cell? ⟨(ad.add (kk * 3)).block, (ad.add (kk * 3)).off + 2, none⟩ = some (.int .i64 (getTok ts kk).line) := by
  obtain ⟨ad, ea, k0, -, k2⟩ := at_T68 h (kk : Int) (by omega) (by omega)
  have hg : ts[kk]? = some (getTok ts kk) := by simp [getTok, List.getD_eq_getElem?_getD, hk]
  have e0 : rd_T68 (ts.map f48) (kk : Int) = f48 (getTok ts kk) := rd_f48 ts kk _ hg
  rw [e0] at k0 k2
  simp only [Int.toNat_natCast] at k0 k2
  exact ⟨ad, ea, k0, k2⟩
theorem cur_C68 {w : World} {A : Option Addr} {c : Nat} {ts : List Tok} (h : k68.C w A ts.length (ts.map f48)) (hc : ts.length ≤ c) (f k : Nat) (hk : k ≤ ts.length) (hf : f ≤ k) : k68.C w (if c = f then A else A.map (·.add (f * 3))) ((ts.take k).drop f).length (((ts.take k).drop f).map f48) := by
  have hl : (ts.map f48).length = ts.length := List.length_map _
  have h1 := Kd.C_drop (m := f) (c := c) (Kd.C_take (m := k) (by rw [hl]; exact h : k68.C w A (ts.map f48).length (ts.map f48)) (by rw [hl]; exact hk)) (by simp; omega) (by simp; omega)
  have e : (((ts.map f48).take k).drop f) = ((ts.take k).drop f).map f48 := by rw [List.map_drop, List.map_take]
  rw [e, List.length_map] at h1
  exact h1
theorem add_block' (a : Addr) (n : Nat) : (a.add n).block = a.block := by
  first
  | rfl
  | (cases a; rfl)
  | (unfold Addr.add; split <;> rfl)
theorem cell_heap {w w' : World} {p : Addr} (h : w'.heap[p.block]? = w.heap[p.block]?) : w'.cell? p = w.cell? p := by
  unfold World.cell?
  rw [h]
theorem ButF.to {w2 w3 w : World} {F : Nat} (h : ButF w3 w F) (hb : Below w2.heap.size w2 w3) (hF : w2.heap.size ≤ F) : Below w2.heap.size w2 w :=
  ⟨h.os.trans hb.os, h.tape.trans hb.tape, h.output.trans hb.output, Nat.le_trans hb.size h.size, fun k hk => (h.block k (Nat.lt_of_lt_of_le hk hb.size) (by omega)).trans (hb.block k hk)⟩
theorem R_one {α : Type} {d : Kd α} {e base : Nat} {wr W : World} {v : Value} {xs : List α} {F : Nat} {c1 : Array Value} (h : d.R e wr base (fun _ => True) v xs) (hE : d.E = []) (hF : wr.heap[F]? = some (.cells c1 33 (0, 0))) (h1 : e ≠ 33) (hk : ∀ k, k ≠ F → W.heap[k]? = wr.heap[k]?) : d.R e W base (fun _ => True) v xs := by
  refine Kd.R_mono (Kd.R_step (Kd.R_bound h) (fun k hk' hlt => ?_)) (fun _ _ => trivial)
  obtain ⟨_, _, _, q, hq, cells, hc⟩ := hk'
  have hq' : q = e := by simpa [hE] using hq
  subst hq'
  exact hk k (blk_ne hc hF h1)
theorem okk_ne : ∀ (ts : List Tok) (kk f : Nat), kk < ts.length → f ≤ kk → LexT.Okk (decide (f < kk)) (ts.drop kk) → ((getTok ts kk).kind = 3 → f < kk ∧ LexT.Okk (decide (kk + 1 < kk + 1)) (ts.drop (kk + 1))) ∧ (¬ (getTok ts kk).kind = 3 → LexT.Okk (decide (f < kk + 1)) (ts.drop (kk + 1))) := by
  intro ts kk f hk hf h
  have hd : ts.drop kk = getTok ts kk :: ts.drop (kk + 1) := by
    rw [List.drop_eq_getElem_cons hk]
    simp [getTok, List.getD_eq_getElem?_getD, hk]
  rw [hd] at h
  rw [decide_eq_false (by omega : ¬ kk + 1 < kk + 1), decide_eq_true (by omega : f < kk + 1)]
  rcases h with ⟨h1, h2⟩ | ⟨h1, h2, h3, h4⟩
  · exact ⟨fun h3 => absurd h3 (by have := h1.1; omega), fun _ => h2⟩
  · exact ⟨fun _ => ⟨of_decide_eq_true h1, h4⟩, fun h => absurd h2 h⟩
theorem takeR_len {st st' : FileS} {a0 : Bool} {ts : List Tok} (hne : ts ≠ []) (hst : a0 = true → st.ops = []) (h : takeR st a0 ts = .ok st') : st'.ops.length ≤ st.ops.length + 1 ∧ st'.tasks.length ≤ st.tasks.length + 1 :=
  takesP_len ((take_eq st a0 ts hne hst).symm.trans h)
theorem TPost.elim {w0 w' : World} {F : Nat} {st : FileS} {r : Rt} {x : Ending} (h : TPost w0 F st r x w') : (∃ st', r = .ok st' ∧ x = .returned (.int .i64 0) ∧ FilAt w0 w' F st') ∨ (∃ e, r = .bad e ∧ x = .returned (.int .i64 e) ∧ FilAt w0 w' F st) := by
  cases r with
  | ok st' => exact .inl ⟨st', rfl, h.1, h.2⟩
  | bad e => exact .inr ⟨e, rfl, h.1, h.2⟩
theorem runG_end {ts : List Tok} {f kk : Nat} {st : FileS} {b : Bool} (hk : kk < ts.length) (hf : f ≤ kk) (h3 : (getTok ts kk).kind = 3) : runP (rowsG ((ts.take kk).drop f) (ts.drop kk)) b st = (match takesP st b ((ts.take kk).drop f) with
    | .bad e => (zeroF, (getTok ts kk).line, e)
    | .ok st' => runP (rowsG ((ts.take (kk + 1)).drop (kk + 1)) (ts.drop (kk + 1))) false st') := by
  rw [rows_end ts f kk hk hf h3, runP]
  rfl
def PPost (w : World) (r : FileS × Int × Int) (e : Ending) (w' : World) : Prop :=
  ∃ vT vO, e = .returned (.tuple #[.agg (r.1.cfg.map (Value.int .i64) ++ [vT, vO]).toArray, .int .i64 r.2.1, .int .i64 r.2.2]) ∧ kTk.R 51 w' w.heap.size (fun _ => True) vT r.1.tasks ∧ kOp.R 46 w' w.heap.size (fun _ => True) vO r.1.ops ∧ Below w.heap.size w w'
theorem below_R {w w5 : World} {R : Nat} (hb : Below w.heap.size w w5) (hR : w.heap.size ≤ R) (u0 u1 u2 u3 u4 u5 u6 u7 u8 u9 u10 u11 : Value) : Below w.heap.size w ((((((((((((w5.setCell ⟨R, 0, none⟩ u0).setCell ⟨R, 1, none⟩ u1).setCell ⟨R, 2, none⟩ u2).setCell ⟨R, 3, none⟩ u3).setCell ⟨R, 4, none⟩ u4).setCell ⟨R, 5, none⟩ u5).setCell ⟨R, 6, none⟩ u6).setCell ⟨R, 7, none⟩ u7).setCell ⟨R, 8, none⟩ u8).setCell ⟨R, 9, none⟩ u9).setCell ⟨R, 10, none⟩ u10).setCell ⟨R, 11, none⟩ u11) :=
  (((((((((((hb.setCell hR u0).setCell hR u1).setCell hR u2).setCell hR u3).setCell hR u4).setCell hR u5).setCell hR u6).setCell hR u7).setCell hR u8).setCell hR u9).setCell hR u10).setCell hR u11
theorem fin_ret {wz : World} {R : Nat} {t : Array Value} {cs : List Value} {line err : Int} (h2 : t[2]? = some (.pointer (some ⟨R, 0, none⟩))) (h3 : t[3]? = some (.int .i64 line)) (h4 : t[4]? = some (.int .i64 err)) (hn : cs.length = 12) (hF : wz.heap[R]? = some (.cells cs.toArray 33 (0, 0))) :
    (results Tryd.f11 t).run Tryd.prog wz = .ok (.tuple #[.agg cs.toArray, .int .i64 line, .int .i64 err]) wz := by
  obtain ⟨a, b, c, d, e, f, g, i, j, k, l, m, rfl⟩ := PaK.twelve hn
  obtain ⟨c0, c1, c2, c3, c4, c5, c6, c7, c8, c9, c10, c11, -⟩ := cells12 hF
  simp [results, Tryd.results11, go_sem, h2, h3, h4, c0, c1, c2, c3, c4, c5, c6, c7, c8, c9, c10, c11]
set_option maxHeartbeats 40000000 in
set_option maxRecDepth 100000 in
theorem refParse_calls (X : List Int) (hX : Str.Bytes X) (hl : X.length ≤ 65536) (w : World) :
    Calls Tryd.prog 11 #[.string (strOfNums X)] w (PPost w (parseP X)) := by
  obtain ⟨K, hK⟩ := lex_f hX hl
  have hLX := hK K (Nat.le_refl _)
  obtain ⟨ts, ln, er, hT⟩ : ∃ ts ln er, lexF X = (ts, ln, er) := ⟨_, _, _, rfl⟩
  rw [hT] at hLX
  have hTL : ts.length ≤ 100000 ∧ (∀ t ∈ ts, t.text.length ≤ 100000) := by
    have h1 := LexR.lexF_len X
    have h2 := lexF_ok X
    rw [hT] at h1 h2
    refine ⟨by simp at h1; omega, fun t ht => ?_⟩
    have h3 : ∀ t ∈ ts, t.text.length ≤ 65536 := by
      have h4 := lexB_text 65536 (X.length + 1) X 1 false [] (by simp) (by omega)
      have h5 : lexF X = lexB (X.length + 1) X 1 false [] := by unfold lexF; rw [if_neg (by omega)]
      rw [← h5, hT] at h4
      exact h4
    have := h3 t ht
    omega
  have hOK : er = 0 → LexT.Okk false ts := by
    intro h0
    rcases LexT.lexF_inv X hl with ⟨l, h1, h2⟩ | ⟨toks, h1, h2, h3⟩
    · rw [hT] at h2; cases h2; cases h0
    · rw [hT] at h1; cases h1; exact h2
  obtain ⟨i0, hi, hz0, hz1, hz2⟩ := info_parts info68
  have HCUT := Aside0.mk (fun (A : Option Addr) (c : Nat) (hc : ts.length ≤ c) (lo k : Nat) (h1 : lo ≤ k) (h2 : k ≤ ts.length) => cut_mid 63 68 .i64 .i64 Tryd.underlying63 hi 3 hz1 A ts.length c lo k (by omega) (by omega) (by omega) hc)
  have HLX := Aside0.mk hLX
  have HT := Aside0.mk hT
  have HTL := Aside0.mk hTL
  have HOK := Aside0.mk hOK
  have hlen48 : (ts.map f48).length = ts.length := List.length_map _
  have HLL := Aside0.mk hlen48
  clear hX hl hK hLX hT hTL hOK hi hz0 hz1 hz2 hlen48
  go_enter Tryd.func11, Tryd.ntmps11
  go_upto_region 2 with (first
    | ((with_reducible refine gate_dst (N := 2) rfl ?_); (try (refine gate_guard (by rfl) ?_; dsimp only)); refine box_event ?hg (N := 2) ?hd (cs := #[.int .i64 0, .int .i64 0, .int .i64 0, .int .i64 0, .int .i64 0, .int .i64 0, .int .i64 0, .int .i64 0, .int .i64 0, .int .i64 0, .slice none 0 0, .slice none 0 0]) (t := 33) ?hr ?_; (case hd => rfl); (case hg => rfl); (case hr => first | (go_simp; done) | (go_simp; rfl)); intro R hg w1 hbox hb; have RX := Aside0.mk hbox; have RB := Aside0.mk hb; have RG := Aside0.mk (Nat.le_of_eq hg.symm); clear hbox hb hg)
    | (go_at_call 22; refine (millwrightref02_Lex.calls K (strOfNums X) _ _ _ _ HLX.out).mono ?_; rintro e' w2 ⟨v, rfl, hR, hB⟩; obtain ⟨AT, cT, rfl⟩ := Kd.R_slice hR; have TR := Aside0.mk hR; have B2 := Aside0.mk hB; clear hR hB))
  try rw [HLL.out]
  have RX2 := Aside0.mk (blk_below RX.out B2.out)
  have RB2 := Aside0.mk (below_step RB.out B2.out)
  obtain ⟨r0, r1, r2, r3, r4, r5, r6, r7, r8, r9, r10, r11, q0, q1, q2, q3, q4, q5, q6, q7, q8, q9, q10, q11⟩ := cells12 RX2.out
  by_cases he : er = 0
  rotate_left
  · have heb : (er != 0) = true := bne_iff_ne.2 he
    have hpp : parseP X = (zeroF, ln, er) := by
      have := parseP_err (bs := X) (by rw [HT.out]; exact he)
      rw [HT.out] at this
      exact this
    go_wp2
    rw [hpp]
    refine bodyPost_ret (fin_ret rfl rfl rfl (by rfl) (set12 (.int .i64 0) (.int .i64 0) (.int .i64 0) (.int .i64 0) (.int .i64 0) (.int .i64 0) (.int .i64 0) (.int .i64 0) (.int .i64 0) (.int .i64 0) (.slice none 0 0) (.slice none 0 0) RX2.out)) rfl ?_
    exact ⟨.slice none 0 0, .slice none 0 0, rfl, Kd.R_nil _ _ _ _ _, Kd.R_nil _ _ _ _ _, below_R RB2.out RG.out (.int .i64 0) (.int .i64 0) (.int .i64 0) (.int .i64 0) (.int .i64 0) (.int .i64 0) (.int .i64 0) (.int .i64 0) (.int .i64 0) (.int .i64 0) (.slice none 0 0) (.slice none 0 0)⟩
  have heb : (er != 0) = false := by rw [he]; rfl
  obtain rfl := he
  have OK := Aside0.mk (HOK.out rfl)
  clear r0 r1 r2 r3 r4 r5 r6 r7 r8 r9 r10 r11 q0 q1 q2 q3 q4 q5 q6 q7 q8 q9 q10 q11
  go_upto_region 5 with (first
    | ((with_reducible refine gate_dst (N := 25) rfl ?_); (try (refine gate_guard (by rfl) ?_; dsimp only)); refine box_event ?hg (N := 25) ?hd (cs := #[.int .i64 0, .int .i64 0, .int .i64 0, .int .i64 0, .int .i64 0, .int .i64 0, .int .i64 0, .int .i64 0, .int .i64 0, .int .i64 0, .slice none 0 0, .slice none 0 0]) (t := 33) ?hr ?_; (case hd => rfl); (case hg => rfl); (case hr => first | (go_simp; done) | (go_simp; rfl)); intro F hg w3 hbox hb; have FX := Aside0.mk hbox; have FB := Aside0.mk hb; have FG := Aside0.mk (Nat.le_of_eq hg.symm); clear hbox hb hg))
  have RX3 := Aside0.mk (blk_below RX2.out FB.out)
  have HRF := Aside0.mk (show R < F by have := blk_lt RX2.out; have := FG.out; omega)
  have TC := Aside0.mk (show k68.C w2 AT ts.length (ts.map f48) by have := (Kd.R_reads' TR.out).2.2; rw [HLL.out] at this; exact this)
  have TCC := Aside0.mk (show ts.length ≤ cT by have := (Kd.R_reads' TR.out).2.1; rw [HLL.out] at this; exact this)
  have HCUT2 := Aside0.mk (HCUT.out AT cT TCC.out)
  have HFZ := Aside0.mk (show FilAt w3 w3 F zeroF from ⟨ButF.of_below (Below.refl _ _) F, rfl, .slice none 0 0, .slice none 0 0, FX.out, Kd.R_nil _ _ _ _ _, Kd.R_nil _ _ _ _ _⟩)
  have HSF := Aside0.mk (show w.heap.size ≤ w3.heap.size by have := RB2.out.size; have := FB.out.size; omega)
  have RF3 := Aside0.mk (show R < w3.heap.size from blk_lt RX3.out)
  go_wp2
  go_loopg [9, 10, 11] ts.length (fun gg s9 s10 s11 wr => ∃ (kk f n : Nat) (st : FileS), kk ≤ ts.length ∧ ts.length - kk ≤ gg ∧ s9 = .int .i64 f ∧ s10 = .int .i64 n ∧ s11 = .int .i64 kk ∧ f ≤ kk ∧ Aside0 (FilAt w3 wr F st) ∧ Aside0 (n ≤ kk ∧ st.ops.length ≤ n ∧ st.tasks.length ≤ n ∧ (n = 0 → st = zeroF)) ∧ Aside0 (LexT.Okk (decide (f < kk)) (ts.drop kk)) ∧ Aside0 (runP (rowsF ts) true zeroF = runP (rowsG ((ts.take kk).drop f) (ts.drop kk)) (n == 0) st) ∧ Aside0 ((rowsF ts).length = n + (rowsG ((ts.take kk).drop f) (ts.drop kk)).length))
  case atStart => exact ⟨0, 0, 0, zeroF, by omega, by omega, rfl, rfl, rfl, by omega, HFZ, ⟨by omega, by simp [zeroF], by simp [zeroF], fun _ => rfl⟩, ⟨OK.out⟩, ⟨by simp [rowsF]⟩, ⟨by simp [rowsF]⟩⟩
  case round =>
    obtain ⟨kk, f, n, st, hkk, hg, rfl, rfl, rfl, hf, FA, HN, HO, A1, A2⟩ := hrel
    have BW := Aside0.mk (ButF.to FA.out.but FB.out (by have := FG.out; omega))
    by_cases hlt : kk < ts.length
    · have hltz : (kk : Int) < (ts.length : Int) := by omega
      have hk0 : (0 : Int) ≤ (kk : Int) := by omega
      obtain ⟨ld, el, hx0, hx2⟩ := tok_at (Kd.C_below TC.out BW.out) kk hlt
      obtain rfl := el
      have p1 := eq_true hk0
      have q1 := eq_true hltz
      have Hlt := Aside0.mk hlt
      have Hg := Aside0.mk hg
      have Hf := Aside0.mk hf
      have OK2 := Aside0.mk (okk_ne ts kk f hlt hf HO.out)
      clear hk0 hlt hltz hg hkk hf
      by_cases h3 : (getTok ts kk).kind = 3
      rotate_left
      · have h3b : ((getTok ts kk).kind != 3) = true := bne_iff_ne.2 h3
        have H3 := Aside0.mk h3
        clear h3
        go_wp2
        go_roundg (ts.length - (kk + 1))
        case measure => have := Hlt.out; have := Hg.out; omega
        case rel =>
          have hlt := Hlt.out
          have e : wrap64 ((kk : Int) + 1) = ((kk + 1 : Nat) : Int) := by have := HTL.out.1; unfold wrap64; omega
          exact ⟨kk + 1, f, n, st, by omega, by omega, rfl, rfl, by first | (rw [e]) | (simp [e]), by have := Hf.out; omega, FA, ⟨by have := HN.out; omega, HN.out.2⟩, ⟨OK2.out.2 H3.out⟩, ⟨by rw [A1.out, rows_on ts f kk hlt Hf.out H3.out]⟩, ⟨by rw [A2.out, rows_on ts f kk hlt Hf.out H3.out]⟩⟩
      have h3b : ((getTok ts kk).kind != 3) = false := bne_eq_false_iff_eq.2 h3
      have H3 := Aside0.mk h3
      have H4 := Aside0.mk (OK2.out.1 h3)
      clear h3
      obtain ⟨cur, hcur⟩ : ∃ cur, cur = (ts.take kk).drop f := ⟨_, rfl⟩
      obtain ⟨A', hcut, hcu⟩ : ∃ A', (∀ W : World, (Instr.slice 63 (.slice (some ld) ts.length cT) (some (.int .i64 f)) (some (.int .i64 kk)) none).run Tryd.prog W = .ok (.slice A' cur.length (cT - f)) W) ∧ cur ≠ [] ∧ cur.length ≤ cT - f ∧ k68.C w2 A' cur.length (cur.map f48) := by
        have h1 := Hf.out
        have h2 := Hlt.out
        have h3 := TCC.out
        have hl := cur_len ts f kk (by omega) h1
        have h4 := H4.out.1
        refine ⟨(if cT = f then some ld else (some ld).map (·.add (f * 3))), fun W => ?_, ?_, ?_, ?_⟩
        rotate_left
        · intro h; rw [← hcur, h] at hl; simp at hl; omega
        · rw [hcur, hl]; omega
        · have hC := cur_C68 TC.out h3 f kk (by omega) h1
          rw [hcur]
          exact hC
        · have := HCUT2.out f kk h1 (by omega) W
          simp only [Int.toNat_natCast] at this
          rw [this, hcur, hl]
      have HCU := Aside0.mk hcu
      have HCR := Aside0.mk hcur
      have HCL := Aside0.mk (show cur.length ≤ 100000 ∧ ∀ t ∈ cur, t.text.length ≤ 100000 by
        rw [hcur]
        exact ⟨by have := cur_len ts f kk (by have := Hlt.out; omega) Hf.out; have := HTL.out.1; have := Hlt.out; omega, fun t ht => HTL.out.2 t (List.mem_of_mem_take (List.mem_of_mem_drop ht))⟩)
      have f0 : (0 : Int) ≤ (f : Int) := by omega
      have f1 : (f : Int) ≤ (kk : Int) := by have := Hf.out; omega
      have p2 := eq_true f0
      have q2 := eq_true f1
      have HST := Aside0.mk (show (n == 0) = true → st.ops = [] from fun h => by rw [HN.out.2.2.2 (by simpa using h)]; rfl)
      have TE := Aside0.mk (take_eq st (n == 0) cur hcu.1 HST.out)
      have A3 := Aside0.mk (A1.out.trans (runG_end (st := st) (b := n == 0) Hlt.out Hf.out H3.out))
      have hn0 : ((n : Int) == 0) = (n == 0) := by
        by_cases h : n = 0
        · subst h; rfl
        · rw [beq_eq_false_iff_ne.2 h, beq_eq_false_iff_ne.2 (by omega)]
      have hb1 : st.ops.length ≤ 4398046511104 ∧ st.tasks.length ≤ 4398046511104 := by have := HN.out; have := Hlt.out; have := HTL.out.1; omega
      have hcuN := Aside0.mk hcu.1
      have TCL := Aside0.mk (take_calls F st cur A' cur.length (cT - f) n (n == 0) w3 wr hn0 rfl (Kd.C_below HCU.out.2.2 BW.out) HCU.out.2.1 HCU.out.1 HCL.out FA.out hb1.1 hb1.2 _ rfl)
      clear hcu hcur f0 f1 hn0 hb1
      go_upto_region 12 with (
        (go_at_call 23; refine TCL.out.mono ?_; intro e' w7 hp; rcases TPost.elim hp with ⟨st', hk1, rfl, hf1⟩ | ⟨ee, hk1, rfl, hf1⟩ <;> (have K1 := Aside0.mk hk1; have F7 := Aside0.mk hf1; clear hk1 hf1 hp)))
      rotate_left
      · have HEE := Aside0.mk (takeR_bad K1.out)
        have eeb : (ee != 0) = true := bne_iff_ne.2 HEE.out
        have BW7 := Aside0.mk (ButF.to F7.out.but FB.out (by have := FG.out; omega))
        have RX7 := Aside0.mk ((F7.out.but.block R RF3.out (by have := HRF.out; omega)).trans RX3.out)
        have BWW := Aside0.mk (below_step RB2.out BW7.out)
        have HLN := Aside0.mk (show (ld.add (kk * 3)).block ≠ R by rw [add_block']; have h1 := (R_ownAt TR.out ld.block rfl).1; have h2 := blk_lt RX.out; omega)
        obtain ⟨ld', el', -, hy2⟩ := tok_at (Kd.C_below TC.out BW7.out) kk Hlt.out
        obtain rfl := Option.some.inj el'
        obtain ⟨lnk, hlnk⟩ : ∃ v, v = (getTok ts kk).line := ⟨_, rfl⟩
        rw [← hlnk] at hy2
        have HY := Aside0.mk hy2
        have HLK := Aside0.mk hlnk
        have hpp : parseP X = (zeroF, lnk, ee) := by
          have h1 := parseP_run (bs := X) (by rw [HT.out]) (by rw [HT.out]; show ¬ (rowsF ts).length = 0; rw [A2.out, rows_end ts f kk Hlt.out Hf.out H3.out]; simp)
          rw [HT.out] at h1
          rw [h1, A3.out, ← HCR.out, ← TE.out, K1.out, HLK.out]
        have HPP := Aside0.mk hpp
        clear hx0 hx2 hy2 hlnk hpp hcut h3b
        obtain ⟨r0, r1, r2, r3, r4, r5, r6, r7, r8, r9, r10, r11, q0, q1, q2, q3, q4, q5, q6, q7, q8, q9, q10, q11⟩ := cells12 RX7.out
        go_upto_region 13 with (fail)
        refine start_ (n := 10) (S := fun w' => w'.cell? ⟨(ld.add (kk * 3)).block, (ld.add (kk * 3)).off + 2, none⟩ = some (.int .i64 lnk)) (ds := []) #[false, false, false, false, false, false, false, false, false, false] (by kernel_rfl) rfl rfl (HY.out) (fun hHeld => ?_)
        refine pure_ (i := 0) (N := some 47) (v := ?_) (a' := ?_) #[true, false, false, false, false, false, false, false, false, false] rfl rfl (by kernel_rfl) (fun _ _ _ h => h) (Or.inl ⟨by rfl, ?_⟩) ?_ ?_
        rotate_left
        · intro w'
          go_simp
          with_reducible rfl
        rotate_left
        · simp only [Act.put, List.setIfInBounds_toArray, List.set_cons_zero, List.set_cons_succ, i64_w, i32_w]
          rfl
        refine pure_ (i := 1) (N := some 48) (v := ?_) (a' := ?_) #[true, true, false, false, false, false, false, false, false, false] rfl rfl (by kernel_rfl) (fun _ _ _ h => h) (Or.inl ⟨by rfl, ?_⟩) ?_ ?_
        rotate_left
        · intro w'
          go_simp
          with_reducible rfl
        rotate_left
        · simp only [Act.put, List.setIfInBounds_toArray, List.set_cons_zero, List.set_cons_succ, i64_w, i32_w]
          rfl
        refine pure_ (i := 2) (N := some 49) (v := ?_) (a' := ?_) #[true, true, true, false, false, false, false, false, false, false] rfl rfl (by kernel_rfl) (fun _ _ _ h => h) (Or.inl ⟨by rfl, ?_⟩) ?_ ?_
        rotate_left
        · intro w'
          go_simp
          with_reducible rfl
        rotate_left
        · simp only [Act.put, List.setIfInBounds_toArray, List.set_cons_zero, List.set_cons_succ, i64_w, i32_w]
          rfl
        refine pure_ (i := 3) (N := some 50) (v := ?_) (a' := ?_) #[true, true, true, true, false, false, false, false, false, false] rfl rfl (by kernel_rfl) (fun _ _ _ h => h) (Or.inl ⟨by rfl, ?_⟩) ?_ ?_
        rotate_left
        · intro w'
          go_simp
          with_reducible rfl
        rotate_left
        · simp only [Act.put, List.setIfInBounds_toArray, List.set_cons_zero, List.set_cons_succ, i64_w, i32_w]
          rfl
        refine pure_ (i := 4) (N := some 51) (v := ?_) (a' := ?_) #[true, true, true, true, true, false, false, false, false, false] rfl rfl (by kernel_rfl) (fun _ _ _ h => h) (Or.inl ⟨by rfl, ?_⟩) ?_ ?_
        rotate_left
        · intro w'
          go_simp
          with_reducible rfl
        rotate_left
        · simp only [Act.put, List.setIfInBounds_toArray, List.set_cons_zero, List.set_cons_succ, i64_w, i32_w]
          rfl
        refine pure_ (i := 6) (N := some 53) (v := ?_) (a' := ?_) #[true, true, true, true, true, false, true, false, false, false] rfl rfl (by kernel_rfl) (fun _ _ _ h => h) (Or.inl ⟨by rfl, ?_⟩) ?_ ?_
        rotate_left
        · intro w'
          go_simp
          with_reducible rfl
        rotate_left
        · simp only [Act.put, List.setIfInBounds_toArray, List.set_cons_zero, List.set_cons_succ, i64_w, i32_w]
          rfl
        refine join_ (σ := Unit) 2 #[true, true, true, true, true, true, true, true, false, false] (fun _ => [(52, .int .i64 lnk)]) (fun _ w' => Aside0 (w'.heap[R]? = some (.cells #[.int .i64 0, .int .i64 0, .int .i64 0, .int .i64 0, .int .i64 0, .int .i64 0, .int .i64 0, .int .i64 0, .int .i64 0, .int .i64 0, .slice none 0 0, .slice none 0 0] 33 (0, 0))) ∧ Aside0 (Below w.heap.size w w') ∧ Aside0 (w'.cell? ⟨(ld.add (kk * 3)).block, (ld.add (kk * 3)).off + 2, none⟩ = some (.int .i64 lnk))) ?_ ?_
        rotate_left
        · intro hCont
          refine two_ (i := 5) (j := 7) (Ni := some 52) (Nj := none) #[true, true, true, true, true, true, true, false, false, false] #[true, true, true, true, true, false, true, true, false, false] rfl rfl rfl rfl (by kernel_rfl) (by decide) (by decide) (fun K hK => ?_) (fun K hK => ?_)
          · skip
            have hy3 : w7.drew.cell? ⟨(ld.add (kk * 3)).block, (ld.add (kk * 3)).off + 2, none⟩ = some (.int .i64 lnk) := HY.out
            refine value_ (w1 := ?_) (v := ?_) (by rfl) rfl ?_ ?_
            rotate_left 2
            · go_simp
              constructor
              · rfl
              · rfl
            refine hK.out _ _ (HY.out) (fun hHeld => ?_)
            clear hK K
            refine norm_ (a' := ?_) ?_ ?_
            rotate_left
            · show Act.put _ (some 52) _ = _
              simp only [Act.put, List.setIfInBounds_toArray, List.set_cons_zero, List.set_cons_succ, i64_w, i32_w]
              rfl
            refine one_ (i := 7) (N := none) #[true, true, true, true, true, true, true, true, false, false] rfl rfl (by kernel_rfl) (by decide) (fun K hK => ?_)
            obtain ⟨r0, r1, r2, r3, r4, r5, r6, r7, r8, r9, r10, r11, q0, q1, q2, q3, q4, q5, q6, q7, q8, q9, q10, q11⟩ := cells12 RX7.out
            refine skip_ (w1 := ?_) (by rfl) rfl ?_ ?_
            rotate_left
            · go_simp
              rfl
            obtain ⟨wa, hwa, aR, aK, aB⟩ : ∃ W, W = ((((((((((((w7.setCell ⟨R, 0, none⟩ (.int .i64 0)).setCell ⟨R, 1, none⟩ (.int .i64 0)).setCell ⟨R, 2, none⟩ (.int .i64 0)).setCell ⟨R, 3, none⟩ (.int .i64 0)).setCell ⟨R, 4, none⟩ (.int .i64 0)).setCell ⟨R, 5, none⟩ (.int .i64 0)).setCell ⟨R, 6, none⟩ (.int .i64 0)).setCell ⟨R, 7, none⟩ (.int .i64 0)).setCell ⟨R, 8, none⟩ (.int .i64 0)).setCell ⟨R, 9, none⟩ (.int .i64 0)).setCell ⟨R, 10, none⟩ (.slice none 0 0)).setCell ⟨R, 11, none⟩ (.slice none 0 0)).drew ∧ W.heap[R]? = some (.cells #[.int .i64 0, .int .i64 0, .int .i64 0, .int .i64 0, .int .i64 0, .int .i64 0, .int .i64 0, .int .i64 0, .int .i64 0, .int .i64 0, .slice none 0 0, .slice none 0 0] 33 (0, 0)) ∧ (∀ k, k ≠ R → W.heap[k]? = w7.heap[k]?) ∧ Below w.heap.size w W := ⟨_, rfl, blk_drew (set12 (.int .i64 0) (.int .i64 0) (.int .i64 0) (.int .i64 0) (.int .i64 0) (.int .i64 0) (.int .i64 0) (.int .i64 0) (.int .i64 0) (.int .i64 0) (.slice none 0 0) (.slice none 0 0) RX7.out), fun k hk => (drew_heap _ k).trans (heap_set12 _ R k hk (.int .i64 0) (.int .i64 0) (.int .i64 0) (.int .i64 0) (.int .i64 0) (.int .i64 0) (.int .i64 0) (.int .i64 0) (.int .i64 0) (.int .i64 0) (.slice none 0 0) (.slice none 0 0)), below_step (below_R BWW.out RG.out (.int .i64 0) (.int .i64 0) (.int .i64 0) (.int .i64 0) (.int .i64 0) (.int .i64 0) (.int .i64 0) (.int .i64 0) (.int .i64 0) (.int .i64 0) (.slice none 0 0) (.slice none 0 0)) (below_drew (Below.refl _ _))⟩
            rw [← hwa]
            have AR := Aside0.mk aR
            have AK := Aside0.mk aK
            have AB := Aside0.mk aB
            clear hwa aR aK aB r0 r1 r2 r3 r4 r5 r6 r7 r8 r9 r10 r11 q0 q1 q2 q3 q4 q5 q6 q7 q8 q9 q10 q11
            refine hK.out _ _ (((cell_heap (p := ⟨(ld.add (kk * 3)).block, (ld.add (kk * 3)).off + 2, none⟩) (AK.out _ HLN.out)).trans HY.out)) (fun hHeld => ?_)
            clear hK K
            exact norm_ (by simp only [putAll, Act.put, List.setIfInBounds_toArray, List.set_cons_zero, List.set_cons_succ]) (hCont () _ ⟨AR, AB, ⟨((cell_heap (p := ⟨(ld.add (kk * 3)).block, (ld.add (kk * 3)).off + 2, none⟩) (AK.out _ HLN.out)).trans HY.out)⟩⟩)
          · skip
            obtain ⟨r0, r1, r2, r3, r4, r5, r6, r7, r8, r9, r10, r11, q0, q1, q2, q3, q4, q5, q6, q7, q8, q9, q10, q11⟩ := cells12 RX7.out
            refine skip_ (w1 := ?_) (by rfl) rfl ?_ ?_
            rotate_left
            · go_simp
              rfl
            obtain ⟨wa, hwa, aR, aK, aB⟩ : ∃ W, W = ((((((((((((w7.setCell ⟨R, 0, none⟩ (.int .i64 0)).setCell ⟨R, 1, none⟩ (.int .i64 0)).setCell ⟨R, 2, none⟩ (.int .i64 0)).setCell ⟨R, 3, none⟩ (.int .i64 0)).setCell ⟨R, 4, none⟩ (.int .i64 0)).setCell ⟨R, 5, none⟩ (.int .i64 0)).setCell ⟨R, 6, none⟩ (.int .i64 0)).setCell ⟨R, 7, none⟩ (.int .i64 0)).setCell ⟨R, 8, none⟩ (.int .i64 0)).setCell ⟨R, 9, none⟩ (.int .i64 0)).setCell ⟨R, 10, none⟩ (.slice none 0 0)).setCell ⟨R, 11, none⟩ (.slice none 0 0)).drew ∧ W.heap[R]? = some (.cells #[.int .i64 0, .int .i64 0, .int .i64 0, .int .i64 0, .int .i64 0, .int .i64 0, .int .i64 0, .int .i64 0, .int .i64 0, .int .i64 0, .slice none 0 0, .slice none 0 0] 33 (0, 0)) ∧ (∀ k, k ≠ R → W.heap[k]? = w7.heap[k]?) ∧ Below w.heap.size w W := ⟨_, rfl, blk_drew (set12 (.int .i64 0) (.int .i64 0) (.int .i64 0) (.int .i64 0) (.int .i64 0) (.int .i64 0) (.int .i64 0) (.int .i64 0) (.int .i64 0) (.int .i64 0) (.slice none 0 0) (.slice none 0 0) RX7.out), fun k hk => (drew_heap _ k).trans (heap_set12 _ R k hk (.int .i64 0) (.int .i64 0) (.int .i64 0) (.int .i64 0) (.int .i64 0) (.int .i64 0) (.int .i64 0) (.int .i64 0) (.int .i64 0) (.int .i64 0) (.slice none 0 0) (.slice none 0 0)), below_step (below_R BWW.out RG.out (.int .i64 0) (.int .i64 0) (.int .i64 0) (.int .i64 0) (.int .i64 0) (.int .i64 0) (.int .i64 0) (.int .i64 0) (.int .i64 0) (.int .i64 0) (.slice none 0 0) (.slice none 0 0)) (below_drew (Below.refl _ _))⟩
            rw [← hwa]
            have AR := Aside0.mk aR
            have AK := Aside0.mk aK
            have AB := Aside0.mk aB
            clear hwa aR aK aB r0 r1 r2 r3 r4 r5 r6 r7 r8 r9 r10 r11 q0 q1 q2 q3 q4 q5 q6 q7 q8 q9 q10 q11
            refine hK.out _ _ (((cell_heap (p := ⟨(ld.add (kk * 3)).block, (ld.add (kk * 3)).off + 2, none⟩) (AK.out _ HLN.out)).trans HY.out)) (fun hHeld => ?_)
            clear hK K
            refine one_ (i := 5) (N := some 52) #[true, true, true, true, true, true, true, true, false, false] rfl rfl (by kernel_rfl) (by decide) (fun K hK => ?_)
            have hy3 : wa.cell? ⟨(ld.add (kk * 3)).block, (ld.add (kk * 3)).off + 2, none⟩ = some (.int .i64 lnk) := ((cell_heap (p := ⟨(ld.add (kk * 3)).block, (ld.add (kk * 3)).off + 2, none⟩) (AK.out _ HLN.out)).trans HY.out)
            refine value_ (w1 := ?_) (v := ?_) (by rfl) rfl ?_ ?_
            rotate_left 2
            · go_simp
              constructor
              · rfl
              · rfl
            refine hK.out _ _ (((cell_heap (p := ⟨(ld.add (kk * 3)).block, (ld.add (kk * 3)).off + 2, none⟩) (AK.out _ HLN.out)).trans HY.out)) (fun hHeld => ?_)
            clear hK K
            refine norm_ (a' := ?_) ?_ ?_
            rotate_left
            · show Act.put _ (some 52) _ = _
              simp only [Act.put, List.setIfInBounds_toArray, List.set_cons_zero, List.set_cons_succ, i64_w, i32_w]
              rfl
            exact norm_ (by simp only [putAll, Act.put, List.setIfInBounds_toArray, List.set_cons_zero, List.set_cons_succ]) (hCont () _ ⟨AR, AB, ⟨((cell_heap (p := ⟨(ld.add (kk * 3)).block, (ld.add (kk * 3)).off + 2, none⟩) (AK.out _ HLN.out)).trans HY.out)⟩⟩)
        rintro ⟨⟩ wz ⟨AR, AB, HYZ⟩
        have hHeld := HYZ.out
        refine norm_ (a' := ?_) ?_ ?_
        rotate_left
        · simp only [putAll, Act.put, List.setIfInBounds_toArray, List.set_cons_zero, List.set_cons_succ]
          rfl
        refine pure_ (i := 8) (N := some 3) (v := ?_) (a' := ?_) #[true, true, true, true, true, true, true, true, true, false] rfl rfl (by kernel_rfl) (fun _ _ _ h => h) (Or.inl ⟨by rfl, ?_⟩) ?_ ?_
        rotate_left
        · intro w'
          go_simp
          with_reducible rfl
        rotate_left
        · simp only [Act.put, List.setIfInBounds_toArray, List.set_cons_zero, List.set_cons_succ, i64_w, i32_w]
          rfl
        refine pure_ (i := 9) (N := some 4) (v := ?_) (a' := ?_) #[true, true, true, true, true, true, true, true, true, true] rfl rfl (by kernel_rfl) (fun _ _ _ h => h) (Or.inl ⟨by rfl, ?_⟩) ?_ ?_
        rotate_left
        · intro w'
          go_simp
          with_reducible rfl
        rotate_left
        · simp only [Act.put, List.setIfInBounds_toArray, List.set_cons_zero, List.set_cons_succ, i64_w, i32_w]
          rfl
        refine done_ (by kernel_rfl) ?_
        go_wp2
        rw [HPP.out]
        refine bodyPost_ret (fin_ret rfl rfl rfl (by rfl) AR.out) rfl ?_
        exact ⟨.slice none 0 0, .slice none 0 0, rfl, Kd.R_nil _ _ _ _ _, Kd.R_nil _ _ _ _ _, AB.out⟩
      · go_wp2
        go_roundg (ts.length - (kk + 1))
        case measure => have := Hlt.out; have := Hg.out; omega
        case rel =>
          have hlt := Hlt.out
          have e : wrap64 ((kk : Int) + 1) = ((kk + 1 : Nat) : Int) := by have := HTL.out.1; unfold wrap64; omega
          have e2 : wrap64 ((n : Int) + 1) = ((n + 1 : Nat) : Int) := by have := HTL.out.1; have := HN.out.1; unfold wrap64; omega
          have hL := takeR_len hcuN.out HST.out K1.out
          exact ⟨kk + 1, kk + 1, n + 1, st', by omega, by omega, by first | (rw [e]) | (simp [e]), by first | (rw [e2]) | (simp [e2]), by first | (rw [e]) | (simp [e]), by omega, F7, ⟨by have := HN.out; omega, by have := HN.out; omega, by have := HN.out; omega, fun h => absurd h (by omega)⟩, ⟨H4.out.2⟩, ⟨by rw [A3.out, ← HCR.out, ← TE.out, K1.out]; rfl⟩, ⟨by rw [A2.out, rows_end ts f kk hlt Hf.out H3.out]; simp; omega⟩⟩
    · have hltz : ¬ (kk : Int) < (ts.length : Int) := by omega
      obtain rfl : kk = ts.length := by omega
      have HN0 := Aside0.mk (show (rowsF ts).length = n by rw [A2.out, List.drop_length]; rfl)
      have HRU := Aside0.mk (show runP (rowsF ts) true zeroF = (st, 0, 0) by rw [A1.out, List.drop_length]; rfl)
      have RXZ := Aside0.mk ((FA.out.but.block R RF3.out (by have := HRF.out; omega)).trans RX3.out)
      have BWW := Aside0.mk (below_step RB2.out BW.out)
      clear hg hkk hlt hf
      obtain ⟨r0, r1, r2, r3, r4, r5, r6, r7, r8, r9, r10, r11, q0, q1, q2, q3, q4, q5, q6, q7, q8, q9, q10, q11⟩ := cells12 RXZ.out
      by_cases hn : n = 0
      · have hpp : parseP X = (zeroF, 0, 2) := parseP_none (by rw [HT.out]) (by rw [HT.out]; exact HN0.out.trans hn)
        have hnb : ((n : Int) == 0) = true := by rw [hn]; rfl
        have hnb2 : (n == 0) = true := by rw [hn]; rfl
        have HPP := Aside0.mk hpp
        clear hpp hn
        go_wp2
        rw [HPP.out]
        refine bodyPost_ret (fin_ret rfl rfl rfl (by rfl) (set12 (.int .i64 0) (.int .i64 0) (.int .i64 0) (.int .i64 0) (.int .i64 0) (.int .i64 0) (.int .i64 0) (.int .i64 0) (.int .i64 0) (.int .i64 0) (.slice none 0 0) (.slice none 0 0) RXZ.out)) rfl ?_
        exact ⟨.slice none 0 0, .slice none 0 0, rfl, Kd.R_nil _ _ _ _ _, Kd.R_nil _ _ _ _ _, below_R BWW.out RG.out (.int .i64 0) (.int .i64 0) (.int .i64 0) (.int .i64 0) (.int .i64 0) (.int .i64 0) (.int .i64 0) (.int .i64 0) (.int .i64 0) (.int .i64 0) (.slice none 0 0) (.slice none 0 0)⟩
      · have hnb : ((n : Int) == 0) = false := beq_eq_false_iff_ne.2 (by omega)
        have hnb2 : (n == 0) = false := beq_eq_false_iff_ne.2 hn
        have hpp : parseP X = (st, 0, 0) := by
          have h1 := parseP_run (bs := X) (by rw [HT.out]) (by rw [HT.out]; show ¬ (rowsF ts).length = 0; rw [HN0.out]; exact hn)
          rw [HT.out] at h1
          exact h1.trans HRU.out
        have HPP := Aside0.mk hpp
        clear hpp hn
        obtain ⟨cfg, tasks, ops⟩ := st
        obtain ⟨vT, vO, hV⟩ := FA.out.vals
        obtain ⟨ATT, cTT, hvT⟩ := Kd.R_slice hV.rT
        obtain ⟨AOO, cOO, hvO⟩ := Kd.R_slice hV.rO
        obtain ⟨o0, o1, o2, o3, o4, o5, o6, o7, o8, o9, hcf⟩ := PaE.ten hV.len
        dsimp only at hvT hvO hcf
        subst hcf
        have VV := Aside0.mk hV
        clear hV
        generalize List.length _ = LT at hvT
        generalize List.length _ = LO at hvO
        subst hvT
        subst hvO
        have FXZ := Aside0.mk (show wr.heap[F]? = some (.cells #[.int .i64 o0, .int .i64 o1, .int .i64 o2, .int .i64 o3, .int .i64 o4, .int .i64 o5, .int .i64 o6, .int .i64 o7, .int .i64 o8, .int .i64 o9, .slice ATT LT cTT, .slice AOO LO cOO] 33 (0, 0)) from VV.out.box)
        obtain ⟨z0, z1, z2, z3, z4, z5, z6, z7, z8, z9, z10, z11, g0, g1, g2, g3, g4, g5, g6, g7, g8, g9, g10, g11⟩ := cells12 FXZ.out
        go_wp2
        rw [HPP.out]
        refine bodyPost_ret (fin_ret rfl rfl rfl (by rfl) (set12 (.int .i64 o0) (.int .i64 o1) (.int .i64 o2) (.int .i64 o3) (.int .i64 o4) (.int .i64 o5) (.int .i64 o6) (.int .i64 o7) (.int .i64 o8) (.int .i64 o9) (.slice ATT LT cTT) (.slice AOO LO cOO) RXZ.out)) rfl ?_
        exact ⟨.slice ATT LT cTT, .slice AOO LO cOO, rfl, Kd.R_lower (R_one VV.out.rT rfl RXZ.out (by decide) (fun k hk => heap_set12 _ R k hk (.int .i64 o0) (.int .i64 o1) (.int .i64 o2) (.int .i64 o3) (.int .i64 o4) (.int .i64 o5) (.int .i64 o6) (.int .i64 o7) (.int .i64 o8) (.int .i64 o9) (.slice ATT LT cTT) (.slice AOO LO cOO))) HSF.out, Kd.R_lower (R_one VV.out.rO rfl RXZ.out (by decide) (fun k hk => heap_set12 _ R k hk (.int .i64 o0) (.int .i64 o1) (.int .i64 o2) (.int .i64 o3) (.int .i64 o4) (.int .i64 o5) (.int .i64 o6) (.int .i64 o7) (.int .i64 o8) (.int .i64 o9) (.slice ATT LT cTT) (.slice AOO LO cOO))) HSF.out, below_R BWW.out RG.out (.int .i64 o0) (.int .i64 o1) (.int .i64 o2) (.int .i64 o3) (.int .i64 o4) (.int .i64 o5) (.int .i64 o6) (.int .i64 o7) (.int .i64 o8) (.int .i64 o9) (.slice ATT LT cTT) (.slice AOO LO cOO)⟩
end Go.Proofs.YtegbfimfpkendaaDoor.PcI
