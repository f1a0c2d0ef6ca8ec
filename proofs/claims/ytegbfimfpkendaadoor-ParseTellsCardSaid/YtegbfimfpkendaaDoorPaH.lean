/- The walk of parse's takes at a first line. Condition: the table names is laid. -/
import Derived.Test.YtegbfimfpkendaaDoorPaG
namespace Go.Proofs.YtegbfimfpkendaaDoor.PaH
open Go.RowKit Go.Proofs.YtegbfimfpkendaaDoorW.PrintWords Go.Proofs.YtegbfimfpkendaaDoorW.PrintLast Go.Proofs.YtegbfimfpkendaaDoorW.PrintMore LexS LexB PaA LexBox PaC PaD PaB PaE PaF PaG
set_option linter.unusedVariables false
set_option linter.unusedSimpArgs false
theorem RowAt.same {w0 w : World} {g : Nat} {line : Int} {ts : List Tok} (h : RowAt w0 w g line ts) {F : Nat} (hF : F < w0.heap.size) : w0.heap[F]? = w.heap[F]? := (h.below.block F hF).symm
theorem RowAt.set {w0 w w' : World} {g : Nat} {line : Int} {ts : List Tok} (h : RowAt w0 w g line ts) (hb : w'.heap[g]? = w.heap[g]?) : ∃ A c, w'.cell? ⟨g, 1, none⟩ = some (.slice A ts.length c) ∧ w'.cell? ⟨g, 0, none⟩ = some (.int .i64 line) := by
  obtain ⟨_, _, _, A, c, _, _, h6⟩ := h
  have h7 : RowIs w' g line A ts.length c := hb.trans h6
  exact ⟨A, c, (blk_cell h7 1).trans rfl, (blk_cell h7 0).trans rfl⟩
theorem heap_far (w : World) (F j i : Nat) (v : Value) (h : i ≠ F) : (w.setCell ⟨F, j, none⟩ v).heap[i]? = w.heap[i]? := Below.heap_setCell w ⟨F, j, none⟩ v i h
theorem cfgF_len : ∀ (n k : Nat) (vs : List Int) (ts : List Tok) (us : List Int) (t : List Tok), cfgF n k vs ts = .ok us t → us.length = vs.length
  | 0, _, _, _, _, _, h => by simp only [cfgF, Rs.ok.injEq] at h; rw [h.1]
  | n + 1, k, vs, ts, us, t, h => by
    simp only [cfgF] at h
    split at h
    · cases h
    · split at h
      · split at h
        · cases h
        · have := cfgF_len n _ _ _ _ _ h
          simpa using this
      · cases h
theorem configP_len {ts t : List Tok} {vs : List Int} (h : configP ts = .ok vs t) : vs.length = 10 := cfgF_len _ _ _ _ _ _ h
set_option maxHeartbeats 400000 in
set_option maxRecDepth 100000 in
theorem takes_first (g : Nat) (line : Int) (F : Nat) (st : FileS) (ts : List Tok) (w0 w : World) (hR : RowAt w0 w g line ts) (hF : FileAt w0 w F st) (hlt : F < w0.heap.size) (hN : NamesIs w0) :
    Calls Tryd.prog 21 #[.pointer (some ⟨F, 0, none⟩), .pointer (some ⟨g, 0, none⟩), .bool true] w (TakesPost w0 w g line F (takesP st true ts)) := by
  obtain ⟨cfg0, tasks, ops⟩ := st
  obtain ⟨o0, o1, o2, o3, o4, o5, o6, o7, o8, o9, rfl⟩ := ten hF.len
  have HR := Aside0.mk hR
  have HF := Aside0.mk hF
  have HL := Aside0.mk hlt
  have HN := Aside0.mk hN
  have NE := Aside0.mk (FileAt.ne hF (RowAt.typed hR))
  clear hR hF hlt hN
  go_enter Tryd.func21, Tryd.ntmps21
  go_upto_region 11 with (first
    | (go_at_call 35; refine (word_r g line ts w0 _ HR.out).mono ?_; intro e' w1 hp; rcases RPost.elim hp with ⟨sv, t1, hw, rfl, hr, hkp⟩ | ⟨e, hw, rfl, hb⟩; rotate_left; (exact ⟨rfl, TakesPost.row (tk_bad0 hw) HL.out (RowAt.same HR.out HL.out) HF.out hb⟩); have W1 := Aside0.mk hw; have R1 := Aside0.mk hr; have K1 := Aside0.mk hkp; clear hw hr hkp; have F1 := Aside0.mk (FileAt.keep HF.out (RowAt.typed HR.out) K1.out (ButF.of_below R1.out.below F) NE.out))
    | (go_at_call 36; refine (must_any g _ line 2 w1 (RowAt.line R1.out)).mono ?_; intro e' w2' hp; obtain ⟨rfl, hp⟩ := hp; rcases hp with ⟨hb, rfl⟩ | ⟨hb, rfl⟩; rotate_left; (exact ⟨rfl, TakesPost.must (tk_bad1 W1.out (by simpa [configB] using hb)) F1.out⟩); have E1 : Aside0 ((true == (sv.toList == configB)) = true) := ⟨by simpa [configB] using hb⟩; clear hb)
    | (go_at_call 37; refine (config_r g line t1 w0 _ R1.out HN.out).mono ?_; intro e' w3 hp; rcases RPost.elim hp with ⟨cfg, t2, hn, rfl, hr, hkp⟩ | ⟨e, hn, rfl, hb⟩; rotate_left; (exact ⟨rfl, TakesPost.row (tk_cfgb W1.out E1.out hn) HL.out (RowAt.same R1.out HL.out) F1.out hb⟩); obtain ⟨a', b', c', d', e', f', g', i', j', k', rfl⟩ := ten (configP_len hn); unfold cfgV; simp only [List.map_cons, List.map_nil]; have C3 := Aside0.mk hn; have R3 := Aside0.mk hr; have F3 := Aside0.mk (FileAt.keep F1.out (RowAt.typed R1.out) hkp (ButF.of_below hr.below F) NE.out); have K3 := Aside0.mk (KeepT.trans (KeepT.of_keep K1.out F) (KeepT.of_keep hkp F)); clear hn hr hkp; obtain ⟨vT, vO, hbx, hT, hO⟩ := F3.out.mem; have HT := Aside0.mk hT; have HO := Aside0.mk hO; simp only [List.map_cons, List.map_nil, List.cons_append, List.nil_append] at hbx; have HBX := Aside0.mk hbx; obtain ⟨c0, c1, c2, c3, c4, c5, c6, c7, c8, c9, c10, c11, f0, f1, f2, f3, f4, f5, f6, f7, f8, f9, f10, f11⟩ := cells12 hbx; clear hbx hT hO))
  obtain ⟨w4, hw4, hb4, hu4, hk4, hT4, hO4, hg4⟩ : ∃ W, W = ((((((((((w3.setCell ⟨F, 0, none⟩ (.int .i64 a')).setCell ⟨F, 1, none⟩ (.int .i64 b')).setCell ⟨F, 2, none⟩ (.int .i64 c')).setCell ⟨F, 3, none⟩ (.int .i64 d')).setCell ⟨F, 4, none⟩ (.int .i64 e')).setCell ⟨F, 5, none⟩ (.int .i64 f')).setCell ⟨F, 6, none⟩ (.int .i64 g')).setCell ⟨F, 7, none⟩ (.int .i64 i')).setCell ⟨F, 8, none⟩ (.int .i64 j')).setCell ⟨F, 9, none⟩ (.int .i64 k')) ∧ W.heap[F]? = some (.cells (([a', b', c', d', e', f', g', i', j', k'] : List Int).map (Value.int .i64) ++ [vT, vO]).toArray 29 (0, 0)) ∧ ButF w0 W F ∧ KeepT w W g F ∧ kTk.R 51 W w0.heap.size (fun _ => True) vT tasks ∧ kOp.R 46 W w0.heap.size (fun _ => True) vO ops ∧ W.heap[g]? = w3.heap[g]? := by
    refine ⟨_, rfl, ?_, ButF.set10 (ButF.of_below R3.out.below F) (.int .i64 a') (.int .i64 b') (.int .i64 c') (.int .i64 d') (.int .i64 e') (.int .i64 f') (.int .i64 g') (.int .i64 i') (.int .i64 j') (.int .i64 k'), KeepT.set10 K3.out (.int .i64 a') (.int .i64 b') (.int .i64 c') (.int .i64 d') (.int .i64 e') (.int .i64 f') (.int .i64 g') (.int .i64 i') (.int .i64 j') (.int .i64 k'), Kd.R_mono (R.set10 (Kd.R_types HT.out HBX.out (by decide)) (.int .i64 a') (.int .i64 b') (.int .i64 c') (.int .i64 d') (.int .i64 e') (.int .i64 f') (.int .i64 g') (.int .i64 i') (.int .i64 j') (.int .i64 k')) (fun _ h => h.1), Kd.R_mono (R.set10 (Kd.R_types HO.out HBX.out (by decide)) (.int .i64 a') (.int .i64 b') (.int .i64 c') (.int .i64 d') (.int .i64 e') (.int .i64 f') (.int .i64 g') (.int .i64 i') (.int .i64 j') (.int .i64 k')) (fun _ h => h.1), ?_⟩
    · simp only [List.map_cons, List.map_nil, List.cons_append, List.nil_append]
      exact setP12 (.int .i64 a') (.int .i64 b') (.int .i64 c') (.int .i64 d') (.int .i64 e') (.int .i64 f') (.int .i64 g') (.int .i64 i') (.int .i64 j') (.int .i64 k') HBX.out
    · have hne := Ne.symm NE.out
      simp only [heap_far _ _ _ _ _ hne]
  rw [← hw4]
  obtain ⟨Ar, cr, hr1, hr0⟩ := RowAt.set R3.out hg4
  have F4 : Aside0 (FileAt w0 w4 F ⟨[a', b', c', d', e', f', g', i', j', k'], tasks, ops⟩) := ⟨⟨hu4, rfl, vT, vO, hb4, hT4, hO4⟩⟩
  have K4 := Aside0.mk hk4
  clear hw4 hb4 hu4 hk4 hT4 hO4 hg4 c0 f0 c1 f1 c2 f2 c3 f3 c4 f4 c5 f5 c6 f6 c7 f7 c8 f8 c9 f9 c10 f10 c11 f11
  by_cases hz : t2.length = 0
  · have hzb : ((t2.length : Int) == 0) = true := by simp [hz]
    have HZ := Aside0.mk hz
    clear hz
    go_wp2_with (first | (go_at_call 36; refine (must_any g _ line 2 w4 hr0).mono ?_; intro e' w5' hp; obtain ⟨rfl, hp⟩ := hp; rcases hp with ⟨hb, rfl⟩ | ⟨hb, rfl⟩; rotate_left; (exact absurd hb (by simp [HZ.out])); clear hb))
    first | go_end0 | ((try simp only [Exit.inBlock, Exit.then]); refine bodyPost_ret (results_none rfl _ _ _) rfl ?_)
    exact TakesPost.ok ((tk_cfg W1.out E1.out C3.out).trans (fin_ok HZ.out)) F4.out K4.out
  · have hzb : ((t2.length : Int) == 0) = false := beq_eq_false_iff_ne.2 (by omega)
    have HZ := Aside0.mk hz
    clear hz
    go_wp2_with (first | (go_at_call 36; refine (must_any g _ line 2 w4 hr0).mono ?_; intro e' w5' hp; obtain ⟨rfl, hp⟩ := hp; rcases hp with ⟨hb, rfl⟩ | ⟨hb, rfl⟩; (exact absurd hb (by simp [HZ.out]))))
    exact ⟨rfl, TakesPost.must ((tk_cfg W1.out E1.out C3.out).trans (fin_bad HZ.out)) F4.out⟩
end Go.Proofs.YtegbfimfpkendaaDoor.PaH
