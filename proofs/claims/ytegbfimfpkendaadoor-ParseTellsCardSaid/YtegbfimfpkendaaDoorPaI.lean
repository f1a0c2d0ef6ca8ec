/- The walk of parse's takes at a line that is not the first. Conditions: the tables forms and answers are laid. -/
import Derived.Test.YtegbfimfpkendaaDoorPaH
namespace Go.Proofs.YtegbfimfpkendaaDoor.PaI
open Go.RowKit Go.Proofs.YtegbfimfpkendaaDoorW.PrintWords Go.Proofs.YtegbfimfpkendaaDoorW.PrintLast Go.Proofs.YtegbfimfpkendaaDoorW.PrintMore LexS LexB PaA LexBox PaC PaD PaB PaE PaF PaG PaH
set_option linter.unusedVariables false
set_option linter.unusedSimpArgs false
theorem FindPost.elim {w w' : World} {line : Int} {r : Option Fm} {x : Ending} (h : FindPost w line r x w') : (∃ f, r = some f ∧ x = .returned f.v ∧ Below w.heap.size w w') ∨ (r = none ∧ x = .panicked (wrongC line 2) ∧ Below w.heap.size w w') := by
  obtain ⟨hb, hp⟩ := h
  cases r with
  | none => exact .inr ⟨rfl, hp, hb⟩
  | some f => exact .inl ⟨f, rfl, hp, hb⟩
set_option maxHeartbeats 1000000 in
set_option maxRecDepth 100000 in
theorem takes_rest (g : Nat) (line : Int) (F : Nat) (st : FileS) (ts : List Tok) (w0 w : World) (hR : RowAt w0 w g line ts) (hF : FileAt w0 w F st) (hlt : F < w0.heap.size) (hM : FormsIs w0) (hA : AnswersIs w0) (hol : st.ops.length ≤ 4398046511104) (htl : st.tasks.length ≤ 4398046511104) :
    Calls Tryd.prog 21 #[.pointer (some ⟨F, 0, none⟩), .pointer (some ⟨g, 0, none⟩), .bool false] w (TakesPost w0 w g line F (takesP st false ts)) := by
  obtain ⟨cfg, tasks, ops⟩ := st
  have HR := Aside0.mk hR
  obtain ⟨vT, vO, hV⟩ := hF.vals
  obtain ⟨AT, cT, rfl⟩ := Kd.R_slice hV.rT
  obtain ⟨AO, cO, rfl⟩ := Kd.R_slice hV.rO
  have HF := Aside0.mk hV
  have HL := Aside0.mk hlt
  have HM := Aside0.mk hM
  have HA := Aside0.mk hA
  have HOL := Aside0.mk hol
  have HTL := Aside0.mk htl
  have NE := Aside0.mk (FileAt.ne hF (RowAt.typed hR))
  clear hR hF hlt hM hA hV hol htl
  go_enter Tryd.func21, Tryd.ntmps21
  go_upto_region 7 with (first
    | (go_at_call 35; refine (word_r g line ts w0 _ HR.out).mono ?_; intro e' w1 hp; rcases RPost.elim hp with ⟨sv, t1, hw, rfl, hr, hkp⟩ | ⟨e, hw, rfl, hb⟩; rotate_left; (exact ⟨rfl, TakesPost.row (tk_bad0 hw) HL.out (RowAt.same HR.out HL.out) HF.out.at hb⟩); have W1 := Aside0.mk hw; have R1 := Aside0.mk hr; have K1 := Aside0.mk hkp; clear hw hr hkp; have F1 := Aside0.mk (FileV.keep HF.out (RowAt.typed HR.out) K1.out (ButF.of_below R1.out.below F) NE.out))
    | (go_at_call 36; refine (must_any g _ line 2 w1 (RowAt.line R1.out)).mono ?_; intro e' w2' hp; obtain ⟨rfl, hp⟩ := hp; rcases hp with ⟨hb, rfl⟩ | ⟨hb, rfl⟩; rotate_left; (exact ⟨rfl, TakesPost.must (tk_bad1 W1.out (by simpa [configB] using hb)) F1.out.at⟩); have E1 : Aside0 ((false == (sv.toList == configB)) = true) := ⟨by simpa [configB] using hb⟩; clear hb))
  by_cases hs : sv.toList = taskB
  · have hsb : (sv.toList == [116, 97, 115, 107]) = true := beq_iff_eq.2 hs
    have T0 := Aside0.mk (tk_task0 (st := ⟨cfg, tasks, ops⟩) W1.out E1.out hs)
    clear hs
    obtain ⟨c10, c11, f10, f11⟩ := F1.out.cells
    by_cases ho : ops.length = 0
    rotate_left
    · have hob : ((ops.length : Int) == 0) = false := beq_eq_false_iff_ne.2 (by omega)
      have HO0 := Aside0.mk ho
      clear ho
      go_upto_region 9 with (first | (go_at_call 36; refine (must_any g _ line _ w1 (RowAt.line R1.out)).mono ?_; intro e' w' hp; obtain ⟨rfl, hp⟩ := hp; rcases hp with ⟨hb, rfl⟩ | ⟨hb, rfl⟩; (first | (· (exfalso; simp at hb; done)) | (rotate_left; · (exfalso; simp at hb; done))); clear hb))
      exact ⟨rfl, TakesPost.must (by rw [T0.out, if_neg HO0.out]) F1.out.at⟩
    have hob : ((ops.length : Int) == 0) = true := by simp [ho]
    have HO0 := Aside0.mk ho
    clear ho
    by_cases ht : tasks.length < 64
    rotate_left
    · have htb : decide ((tasks.length : Int) < 64) = false := decide_eq_false (by omega)
      have HT0 := Aside0.mk ht
      clear ht
      go_upto_region 10 with (first | (go_at_call 36; refine (must_any g _ line _ w1 (RowAt.line R1.out)).mono ?_; intro e' w' hp; obtain ⟨rfl, hp⟩ := hp; rcases hp with ⟨hb, rfl⟩ | ⟨hb, rfl⟩; (first | (· (exfalso; simp at hb; done)) | (rotate_left; · (exfalso; simp at hb; done))); clear hb))
      exact ⟨rfl, TakesPost.must (by rw [T0.out, if_pos HO0.out, if_neg HT0.out]) F1.out.at⟩
    have htb : decide ((tasks.length : Int) < 64) = true := decide_eq_true (by omega)
    have HT0 := Aside0.mk ht
    clear ht
    · go_upto_region 10 with (first | (go_at_call 36; refine (must_any g _ line _ w1 (RowAt.line R1.out)).mono ?_; intro e' w' hp; obtain ⟨rfl, hp⟩ := hp; rcases hp with ⟨hb, rfl⟩ | ⟨hb, rfl⟩; (first | (· (exfalso; simp at hb; done)) | (rotate_left; · (exfalso; simp at hb; done))); clear hb))
      refine start_ (n := 15) (S := fun w' => w'.cell? ⟨F, 10, none⟩ = some (.slice AT tasks.length cT)) (ds := [14]) #[false, false, false, false, false, false, false, false, false, false, false, false, false, false, false] (by kernel_rfl) rfl rfl (c10) (fun hHeld => ?_)
      refine pure_ (i := 0) (N := some 66) (v := ?_) (a' := ?_) #[true, false, false, false, false, false, false, false, false, false, false, false, false, false, false] rfl rfl (by kernel_rfl) (fun _ _ _ h => h) (Or.inl ⟨by rfl, ?_⟩) ?_ ?_
      rotate_left
      · intro w'
        go_simp
        with_reducible rfl
      rotate_left
      · simp only [Act.put, List.setIfInBounds_toArray, List.set_cons_zero, List.set_cons_succ, i64_w, i32_w]
        rfl
      refine pure_ (i := 1) (N := some 67) (v := ?_) (a' := ?_) #[true, true, false, false, false, false, false, false, false, false, false, false, false, false, false] rfl rfl (by kernel_rfl) (fun _ _ _ h => h) (Or.inl ⟨by rfl, ?_⟩) ?_ ?_
      rotate_left
      · intro w'
        go_simp
        with_reducible rfl
      rotate_left
      · simp only [Act.put, List.setIfInBounds_toArray, List.set_cons_zero, List.set_cons_succ, i64_w, i32_w]
        rfl
      refine pure_ (i := 2) (N := some 68) (v := ?_) (a' := ?_) #[true, true, true, false, false, false, false, false, false, false, false, false, false, false, false] rfl rfl (by kernel_rfl) (fun _ _ _ h => h) (Or.inl ⟨by rfl, ?_⟩) ?_ ?_
      rotate_left
      · intro w'
        go_simp
        with_reducible rfl
      rotate_left
      · simp only [Act.put, List.setIfInBounds_toArray, List.set_cons_zero, List.set_cons_succ, i64_w, i32_w]
        rfl
      refine pure_ (i := 3) (N := some 69) (v := ?_) (a' := ?_) #[true, true, true, true, false, false, false, false, false, false, false, false, false, false, false] rfl rfl (by kernel_rfl) (fun _ _ _ h => h) (Or.inl ⟨by rfl, ?_⟩) ?_ ?_
      rotate_left
      · intro w'
        go_simp
        with_reducible rfl
      rotate_left
      · simp only [Act.put, List.setIfInBounds_toArray, List.set_cons_zero, List.set_cons_succ, i64_w, i32_w]
        rfl
      refine pure_ (i := 5) (N := some 71) (v := ?_) (a' := ?_) #[true, true, true, true, false, true, false, false, false, false, false, false, false, false, false] rfl rfl (by kernel_rfl) (fun _ _ _ h => h) (Or.inl ⟨by rfl, ?_⟩) ?_ ?_
      rotate_left
      · intro w'
        go_simp
        with_reducible rfl
      rotate_left
      · simp only [Act.put, List.setIfInBounds_toArray, List.set_cons_zero, List.set_cons_succ, i64_w, i32_w]
        rfl
      refine pure_ (i := 7) (N := some 73) (v := ?_) (a' := ?_) #[true, true, true, true, false, true, false, true, false, false, false, false, false, false, false] rfl rfl (by kernel_rfl) (fun _ _ _ h => h) (Or.inl ⟨by rfl, ?_⟩) ?_ ?_
      rotate_left
      · intro w'
        go_simp
        with_reducible rfl
      rotate_left
      · simp only [Act.put, List.setIfInBounds_toArray, List.set_cons_zero, List.set_cons_succ, i64_w, i32_w]
        rfl
      refine take_ (i := 4) (N := some 70) (v := ?_) (a' := ?_) #[true, true, true, true, true, true, false, true, false, false, false, false, false, false, false] rfl rfl (by kernel_rfl) (fun _ _ _ h => h) (Or.inl ⟨by rfl, ?_⟩) hHeld ?_ ?_
      rotate_left
      · intro w' s0
        go_simp
        with_reducible rfl
      rotate_left
      · simp only [Act.put, List.setIfInBounds_toArray, List.set_cons_zero, List.set_cons_succ, i64_w, i32_w]
        rfl
      refine one_ (i := 6) (N := some 72) #[true, true, true, true, true, true, true, true, false, false, false, false, false, false, false] rfl rfl (by kernel_rfl) (by decide) (fun K hK => ?_)
      refine goesP_ Tryd.func38 (by kernel_rfl) rfl #[.pointer (some ⟨g, 0, none⟩)] (by rfl) rfl rfl (by simp only [List.map_toArray, List.map_cons, List.map_nil]; rfl) ?_
      refine (number_r g line t1 w0 _ (row_drew R1.out)).mono ?_
      intro e' w5 hp
      rcases RPost.elim hp with ⟨m1, t2, hn, rfl, hr, hkp⟩ | ⟨e, hn, rfl, hb⟩
      rotate_left
      · exact .inr ⟨_, rfl, ⟨rfl, TakesPost.row (by rw [T0.out, if_pos HO0.out, if_pos HT0.out, hn]) HL.out (RowAt.same R1.out HL.out) F1.out.at hb⟩⟩
      refine .inl ⟨_, rfl, ?_⟩
      have N2 := Aside0.mk hn
      have R2 := Aside0.mk hr
      have K2 := Aside0.mk (show KeepBut w1 w5 g none from hkp)
      clear hn hr hkp
      have F2 := Aside0.mk (FileV.keep F1.out (RowAt.typed R1.out) K2.out (ButF.of_below R2.out.below F) NE.out)
      have hc5 : w5.cell? ⟨F, 10, none⟩ = some (.slice AT tasks.length cT) := F2.out.cells.1
      refine hK.out _ _ (hc5) (fun hHeld => ?_)
      clear hK K
      refine norm_ (a' := ?_) ?_ ?_
      rotate_left
      · show Act.put _ (some 72) _ = _
        simp only [Act.put, List.setIfInBounds_toArray, List.set_cons_zero, List.set_cons_succ, i64_w, i32_w]
        rfl
      refine one_ (i := 8) (N := some 74) #[true, true, true, true, true, true, true, true, true, false, false, false, false, false, false] rfl rfl (by kernel_rfl) (by decide) (fun K hK => ?_)
      refine goesP_ Tryd.func38 (by kernel_rfl) rfl #[.pointer (some ⟨g, 0, none⟩)] (by rfl) rfl rfl (by simp only [List.map_toArray, List.map_cons, List.map_nil]; rfl) ?_
      refine (number_r g line t2 w0 _ R2.out).mono ?_
      intro e' w6 hp
      rcases RPost.elim hp with ⟨m2, t3, hn, rfl, hr, hkp⟩ | ⟨e, hn, rfl, hb⟩
      rotate_left
      · exact .inr ⟨_, rfl, ⟨rfl, TakesPost.row (by rw [T0.out, if_pos HO0.out, if_pos HT0.out, N2.out]; simp only [hn]) HL.out (RowAt.same R2.out HL.out) F2.out.at hb⟩⟩
      refine .inl ⟨_, rfl, ?_⟩
      have N3 := Aside0.mk hn
      have R3 := Aside0.mk hr
      have K3 := Aside0.mk hkp
      clear hn hr hkp
      have F3 := Aside0.mk (FileV.keep F2.out (RowAt.typed R2.out) K3.out (ButF.of_below R3.out.below F) NE.out)
      have hc6 : w6.cell? ⟨F, 10, none⟩ = some (.slice AT tasks.length cT) := F3.out.cells.1
      refine hK.out _ _ (hc6) (fun hHeld => ?_)
      clear hK K
      refine norm_ (a' := ?_) ?_ ?_
      rotate_left
      · show Act.put _ (some 74) _ = _
        simp only [Act.put, List.setIfInBounds_toArray, List.set_cons_zero, List.set_cons_succ, i64_w, i32_w]
        rfl
      refine pure_ (i := 9) (N := some 75) (v := ?_) (a' := ?_) #[true, true, true, true, true, true, true, true, true, true, false, false, false, false, false] rfl rfl (by kernel_rfl) (fun _ _ _ h => h) (Or.inl ⟨by rfl, ?_⟩) ?_ ?_
      rotate_left
      · intro w'
        go_simp
        with_reducible rfl
      rotate_left
      · simp only [Act.put, List.setIfInBounds_toArray, List.set_cons_zero, List.set_cons_succ, i64_w, i32_w]
        rfl
      refine one_ (i := 10) (N := some 76) #[true, true, true, true, true, true, true, true, true, true, true, false, false, false, false] rfl rfl (by kernel_rfl) (by decide) (fun K hK => ?_)
      refine value_ (w1 := ?_) (v := ?_) (by rfl) rfl ?_ ?_
      rotate_left 2
      · go_simp
        constructor
        · rfl
        · rfl
      refine hK.out _ _ ((F3.out.below (below_alloc (Below.refl _ _) _)).cells.1) (fun hHeld => ?_)
      clear hK K
      refine norm_ (a' := ?_) ?_ ?_
      rotate_left
      · show Act.put _ (some 76) _ = _
        simp only [Act.put, List.setIfInBounds_toArray, List.set_cons_zero, List.set_cons_succ, i64_w, i32_w]
        rfl
      refine one_ (i := 11) (N := some 77) #[true, true, true, true, true, true, true, true, true, true, true, true, false, false, false] rfl rfl (by kernel_rfl) (by decide) (fun K hK => ?_)
      refine Kd.R_append_step kTk (w0 := w6) w0.heap.size (by rfl) (.tmp 70) (.tmp 76) 26 51 (.agg #[(.int .i64 0), (.int .i64 0)]) 16 rfl Tryd.underlying26 infoTk rfl (by decide) (by decide) (.slice AT tasks.length cT) tasks ⟨m1, m2⟩ [.int .i64 m1, .int .i64 m2] (fun _ => True) (fun _ => False) rfl rfl (kTk_mkM _ _ _ _) (fun _ h => h.elim) (fun _ _ => trivial) F3.out.rT (Below.refl _ _) F3.out.but.size (by have := HT0.out; omega) ?_
      intro v1 w7 ho7 hB7 hg7 hat7
      obtain ⟨A7, c7, hv7⟩ := Kd.R_slice ho7
      have F7 := Aside0.mk (F3.out.grownT hg7 ho7)
      have K7 := Aside0.mk (F3.out.keepT hg7 g)
      have hr7 : w7.heap[g]? = w6.heap[g]? := hg7.block g (RowAt.lt R3.out) (fun e => by obtain ⟨_, cells, hc⟩ := R_ownAt F3.out.rT g e.symm; obtain ⟨cs, hcs⟩ := RowAt.typed R3.out; exact blk_ne hcs hc (by decide) rfl)
      have HG7 := Aside0.mk hr7
      clear ho7 hB7 hg7 hat7 hr7
      have hc7 : w7.cell? ⟨F, 10, none⟩ = some (.slice AT tasks.length cT) := (blk_cell F7.out.2 10).trans (by simp [List.getElem?_append, F3.out.len])
      have hf7 : w7.frozen? ⟨F, 10, none⟩ = false := blk_frozen F7.out.2 10
      generalize List.length _ = L at hv7
      subst hv7
      refine hK.out _ _ (hc7) (fun hHeld => ?_)
      clear hK K
      refine norm_ (a' := ?_) ?_ ?_
      rotate_left
      · show Act.put _ (some 77) _ = _
        simp only [Act.put, List.setIfInBounds_toArray, List.set_cons_zero, List.set_cons_succ, i64_w, i32_w]
        rfl
      refine pure_ (i := 12) (N := some 78) (v := ?_) (a' := ?_) #[true, true, true, true, true, true, true, true, true, true, true, true, true, false, false] rfl rfl (by kernel_rfl) (fun _ _ _ h => h) (Or.inl ⟨by rfl, ?_⟩) ?_ ?_
      rotate_left
      · intro w'
        go_simp
        with_reducible rfl
      rotate_left
      · simp only [Act.put, List.setIfInBounds_toArray, List.set_cons_zero, List.set_cons_succ, i64_w, i32_w]
        rfl
      refine pure_ (i := 13) (N := some 79) (v := ?_) (a' := ?_) #[true, true, true, true, true, true, true, true, true, true, true, true, true, true, false] rfl rfl (by kernel_rfl) (fun _ _ _ h => h) (Or.inl ⟨by rfl, ?_⟩) ?_ ?_
      rotate_left
      · intro w'
        go_simp
        with_reducible rfl
      rotate_left
      · simp only [Act.put, List.setIfInBounds_toArray, List.set_cons_zero, List.set_cons_succ, i64_w, i32_w]
        rfl
      refine last_ (i := 14) (N := none) #[true, true, true, true, true, true, true, true, true, true, true, true, true, true, true] rfl rfl (by kernel_rfl) (by decide) (fun K hK => ?_)
      refine skip_ (w1 := ?_) (by rfl) rfl ?_ ?_
      rotate_left
      · go_simp
        rfl
      refine hK.out _ _ ?_
      clear hK K
      refine done_ (by kernel_rfl) ?_
      clear hc7 hf7 hc6 hc5 c10 c11 f10 f11 hob htb
      obtain ⟨w8, hw8, F8, K8, hr8⟩ : ∃ W, W = w7.setCell ⟨F, 10, none⟩ (.slice A7 L c7) ∧ Aside0 (FileAt w0 W F ⟨cfg, tasks ++ [⟨m1, m2⟩], ops⟩) ∧ Aside0 (KeepT w W g F) ∧ W.heap[g]? = w6.heap[g]? := ⟨_, rfl, ⟨F7.out.1.at⟩, ⟨KeepT.setF (KeepT.trans (KeepT.trans (KeepT.trans (KeepT.of_keep K1.out F) (KeepT.of_keep K2.out F)) (KeepT.of_keep K3.out F)) K7.out) _ _⟩, (heap_far _ _ _ _ _ (Ne.symm NE.out)).trans HG7.out⟩
      rw [← hw8]
      obtain ⟨Ar, cr, hr1, hr0⟩ := RowAt.set R3.out hr8
      clear hw8 hr8
      by_cases hz : t3.length = 0
      · have hzb : ((t3.length : Int) == 0) = true := by simp [hz]
        have HZ := Aside0.mk hz
        clear hz
        go_wp2_with (first | (go_at_call 36; refine (must_any g _ line 2 w8 hr0).mono ?_; intro e' w5' hp; obtain ⟨rfl, hp⟩ := hp; rcases hp with ⟨hb, rfl⟩ | ⟨hb, rfl⟩; rotate_left; (exact absurd hb (by simp [HZ.out])); clear hb))
        first | go_end0 | ((try simp only [Exit.inBlock, Exit.then]); refine bodyPost_ret (results_none rfl _ _ _) rfl ?_)
        exact TakesPost.ok (by rw [T0.out, if_pos HO0.out, if_pos HT0.out, N2.out]; simp only [N3.out]; exact fin_ok HZ.out) F8.out K8.out
      · have hzb : ((t3.length : Int) == 0) = false := beq_eq_false_iff_ne.2 (by omega)
        have HZ := Aside0.mk hz
        clear hz
        go_wp2_with (first | (go_at_call 36; refine (must_any g _ line 2 w8 hr0).mono ?_; intro e' w5' hp; obtain ⟨rfl, hp⟩ := hp; rcases hp with ⟨hb, rfl⟩ | ⟨hb, rfl⟩; (exact absurd hb (by simp [HZ.out]))))
        exact ⟨rfl, TakesPost.must (by rw [T0.out, if_pos HO0.out, if_pos HT0.out, N2.out]; simp only [N3.out]; exact fin_bad HZ.out) F8.out⟩

  · have hsb : (sv.toList == [116, 97, 115, 107]) = false := beq_eq_false_iff_ne.2 hs
    have T0 := Aside0.mk (tk_op0 (st := ⟨cfg, tasks, ops⟩) W1.out E1.out hs)
    clear hs
    go_upto_region 3 with (first
      | (go_at_call 39; refine (find_calls g line formsT (some ⟨1, 0, none⟩) 6 sv w1 (Kd.C_below HM.out.2 R1.out.below) (by decide) (RowAt.line R1.out) (RowAt.lt R1.out)).mono ?_; intro e' wx hp; rcases FindPost.elim hp with ⟨x, hf, rfl, hb⟩ | ⟨hf, rfl, hb⟩; rotate_left; (exact ⟨rfl, TakesPost.must (by rw [T0.out, hf]) (F1.out.below hb).at⟩); obtain ⟨xo, xk, xn'⟩ := x; obtain ⟨xn, hxn, hx3⟩ := forms_n hf; dsimp only at hxn; subst hxn; unfold Fm.v; dsimp only; have FX := Aside0.mk hf; have HX3 := Aside0.mk hx3; have FB0 := Aside0.mk hb; clear hf hx3 hb)
      | ((with_reducible refine gate_dst (N := 7) rfl ?_); (try (refine gate_guard (by rfl) ?_; dsimp only)); refine box_event ?hg (N := 7) ?hd (cs := #[.string ⟨#[]⟩, .int .i64 0, .int .i64 0]) (t := 102) ?hr ?_; (case hd => rfl); (case hg => rfl); (case hr => first | (go_simp; done) | (go_simp; rfl)); intro gb hg wy hbox hb; obtain ⟨z0, z1, z2, y0, y1, y2⟩ := cells3 hbox; have BX := Aside0.mk hbox; have BB := Aside0.mk (below_step FB0.out hb); have BG := Aside0.mk (show w1.heap.size ≤ gb by have := FB0.out.size; omega); clear hbox hb hg))
    obtain ⟨w2, hw2, hX, hW⟩ := set3 (.string xo) (.int .i64 xk) (.int .i64 (xn : Int)) BX.out BB.out BG.out
    rw [← hw2]
    have XB := Aside0.mk hX
    have B2 := Aside0.mk hW
    have F2 := Aside0.mk (F1.out.below hW)
    have R2 := Aside0.mk (row_below R1.out hW)
    have NG := Aside0.mk (show g ≠ gb by have := RowAt.lt R1.out; have := BG.out; omega)
    clear hw2 hX hW z0 z1 z2 y0 y1 y2
    obtain ⟨c10, c11, f10, f11⟩ := F2.out.cells
    obtain ⟨x0, x1, x2, -, -, -⟩ := cells3 XB.out
    by_cases ho : ops.length < 4096
    rotate_left
    · have hob : decide ((ops.length : Int) < 4096) = false := decide_eq_false (by omega)
      have HO0 := Aside0.mk ho
      clear ho
      go_upto_region 4 with (first | (go_at_call 36; refine (must_any g _ line _ w2 (RowAt.line R2.out)).mono ?_; intro e' w' hp; obtain ⟨rfl, hp⟩ := hp; rcases hp with ⟨hb, rfl⟩ | ⟨hb, rfl⟩; (first | (· (exfalso; simp at hb; done)) | (rotate_left; · (exfalso; simp at hb; done))); clear hb))
      exact ⟨rfl, TakesPost.must (by rw [T0.out, FX.out]; simp only []; rw [if_neg HO0.out]) F2.out.at⟩
    have hob : decide ((ops.length : Int) < 4096) = true := decide_eq_true (by omega)
    have HO0 := Aside0.mk ho
    clear ho
    · go_upto_region 4 with (first | (go_at_call 36; refine (must_any g _ line _ w2 (RowAt.line R2.out)).mono ?_; intro e' w' hp; obtain ⟨rfl, hp⟩ := hp; rcases hp with ⟨hb, rfl⟩ | ⟨hb, rfl⟩; (first | (· (exfalso; simp at hb; done)) | (rotate_left; · (exfalso; simp at hb; done))); clear hb))
      refine start_ (n := 13) (S := fun w' => w'.cell? ⟨F, 11, none⟩ = some (.slice AO ops.length cO) ∧ w'.cell? ⟨gb, 0, none⟩ = some (.string xo) ∧ w'.cell? ⟨gb, 1, none⟩ = some (.int .i64 xk) ∧ w'.cell? ⟨gb, 2, none⟩ = some (.int .i64 (xn : Int))) (ds := [12]) #[false, false, false, false, false, false, false, false, false, false, false, false, false] (by kernel_rfl) rfl rfl ⟨c11, x0, x1, x2⟩ (fun hHeld => ?_)
      refine pure_ (i := 0) (N := some 28) (v := ?_) (a' := ?_) #[true, false, false, false, false, false, false, false, false, false, false, false, false] rfl rfl (by kernel_rfl) (fun _ _ _ h => h) (Or.inl ⟨by rfl, ?_⟩) ?_ ?_
      rotate_left
      · intro w'
        go_simp
        with_reducible rfl
      rotate_left
      · simp only [Act.put, List.setIfInBounds_toArray, List.set_cons_zero, List.set_cons_succ, i64_w, i32_w]
        rfl
      refine pure_ (i := 1) (N := some 29) (v := ?_) (a' := ?_) #[true, true, false, false, false, false, false, false, false, false, false, false, false] rfl rfl (by kernel_rfl) (fun _ _ _ h => h) (Or.inl ⟨by rfl, ?_⟩) ?_ ?_
      rotate_left
      · intro w'
        go_simp
        with_reducible rfl
      rotate_left
      · simp only [Act.put, List.setIfInBounds_toArray, List.set_cons_zero, List.set_cons_succ, i64_w, i32_w]
        rfl
      refine pure_ (i := 2) (N := some 30) (v := ?_) (a' := ?_) #[true, true, true, false, false, false, false, false, false, false, false, false, false] rfl rfl (by kernel_rfl) (fun _ _ _ h => h) (Or.inl ⟨by rfl, ?_⟩) ?_ ?_
      rotate_left
      · intro w'
        go_simp
        with_reducible rfl
      rotate_left
      · simp only [Act.put, List.setIfInBounds_toArray, List.set_cons_zero, List.set_cons_succ, i64_w, i32_w]
        rfl
      refine pure_ (i := 3) (N := some 31) (v := ?_) (a' := ?_) #[true, true, true, true, false, false, false, false, false, false, false, false, false] rfl rfl (by kernel_rfl) (fun _ _ _ h => h) (Or.inl ⟨by rfl, ?_⟩) ?_ ?_
      rotate_left
      · intro w'
        go_simp
        with_reducible rfl
      rotate_left
      · simp only [Act.put, List.setIfInBounds_toArray, List.set_cons_zero, List.set_cons_succ, i64_w, i32_w]
        rfl
      refine pure_ (i := 5) (N := some 33) (v := ?_) (a' := ?_) #[true, true, true, true, false, true, false, false, false, false, false, false, false] rfl rfl (by kernel_rfl) (fun _ _ _ h => h) (Or.inl ⟨by rfl, ?_⟩) ?_ ?_
      rotate_left
      · intro w'
        go_simp
        with_reducible rfl
      rotate_left
      · simp only [Act.put, List.setIfInBounds_toArray, List.set_cons_zero, List.set_cons_succ, i64_w, i32_w]
        rfl
      refine take_ (i := 4) (N := some 32) (v := ?_) (a' := ?_) #[true, true, true, true, true, true, false, false, false, false, false, false, false] rfl rfl (by kernel_rfl) (fun _ _ _ h => h) (Or.inl ⟨by rfl, ?_⟩) hHeld ?_ ?_
      rotate_left
      · rintro w' ⟨s0, s1, s2, s3⟩
        go_simp
        with_reducible rfl
      rotate_left
      · simp only [Act.put, List.setIfInBounds_toArray, List.set_cons_zero, List.set_cons_succ, i64_w, i32_w]
        rfl
      refine take_ (i := 6) (N := some 34) (v := ?_) (a' := ?_) #[true, true, true, true, true, true, true, false, false, false, false, false, false] rfl rfl (by kernel_rfl) (fun _ _ _ h => h) (Or.inl ⟨by rfl, ?_⟩) hHeld ?_ ?_
      rotate_left
      · rintro w' ⟨s0, s1, s2, s3⟩
        go_simp
        with_reducible rfl
      rotate_left
      · simp only [Act.put, List.setIfInBounds_toArray, List.set_cons_zero, List.set_cons_succ, i64_w, i32_w]
        rfl
      refine one_ (i := 7) (N := some 35) #[true, true, true, true, true, true, true, true, false, false, false, false, false] rfl rfl (by kernel_rfl) (by decide) (fun K hK => ?_)
      refine goesP_ Tryd.func40 (by kernel_rfl) rfl #[.pointer (some ⟨g, 0, none⟩), .agg #[.string xo, .int .i64 xk, .int .i64 (xn : Int)]] (by rfl) rfl rfl (by simp only [List.map_toArray, List.map_cons, List.map_nil]; rfl) ?_
      refine (op_r g line xo xk xn t1 w0 _ (row_drew R2.out) HA.out HX3.out).mono ?_
      intro e' w5 hp
      rcases RPost.elim hp with ⟨vs, t2, hn, rfl, hr, hkp⟩ | ⟨e, hn, rfl, hb⟩
      rotate_left
      · exact .inr ⟨_, rfl, ⟨rfl, TakesPost.row (by rw [T0.out, FX.out]; simp only []; rw [if_pos HO0.out]; simp only [Int.toNat_natCast, hn]) HL.out (RowAt.same R2.out HL.out) F2.out.at hb⟩⟩
      refine .inl ⟨_, rfl, ?_⟩
      obtain ⟨va, vb, vc, vd, rfl⟩ := four (opP_len hn)
      have N2 := Aside0.mk hn
      have R3 := Aside0.mk hr
      have K3 := Aside0.mk (show KeepBut w2 w5 g none from hkp)
      clear hn hr hkp
      have F3 := Aside0.mk (FileV.keep F2.out (RowAt.typed R2.out) K3.out (ButF.of_below R3.out.below F) NE.out)
      have hc5 : w5.cell? ⟨F, 11, none⟩ = some (.slice AO ops.length cO) := F3.out.cells.2.1
      have XB5 := Aside0.mk (keep_blk K3.out XB.out (Ne.symm NG.out))
      unfold opV
      simp only [List.map_cons, List.map_nil]
      refine hK.out _ _ ⟨hc5, (cells3 XB5.out).1, (cells3 XB5.out).2.1, (cells3 XB5.out).2.2.1⟩ (fun hHeld => ?_)
      clear hK K
      refine norm_ (a' := ?_) ?_ ?_
      rotate_left
      · show Act.put _ (some 35) _ = _
        simp only [Act.put, List.setIfInBounds_toArray, List.set_cons_zero, List.set_cons_succ, i64_w, i32_w]
        rfl
      refine one_ (i := 8) (N := some 36) #[true, true, true, true, true, true, true, true, true, false, false, false, false] rfl rfl (by kernel_rfl) (by decide) (fun K hK => ?_)
      refine value_ (w1 := ?_) (v := ?_) (by rfl) rfl ?_ ?_
      rotate_left 2
      · go_simp
        constructor
        · rfl
        · rfl
      refine hK.out _ _ ⟨(F3.out.below (below_alloc (Below.refl _ _) _)).cells.2.1, (cells3 (blk_alloc XB5.out _)).1, (cells3 (blk_alloc XB5.out _)).2.1, (cells3 (blk_alloc XB5.out _)).2.2.1⟩ (fun hHeld => ?_)
      clear hK K
      refine norm_ (a' := ?_) ?_ ?_
      rotate_left
      · show Act.put _ (some 36) _ = _
        simp only [Act.put, List.setIfInBounds_toArray, List.set_cons_zero, List.set_cons_succ, i64_w, i32_w]
        rfl
      refine one_ (i := 9) (N := some 37) #[true, true, true, true, true, true, true, true, true, true, false, false, false] rfl rfl (by kernel_rfl) (by decide) (fun K hK => ?_)
      refine Kd.R_append_step kOp (w0 := w5) w0.heap.size (by rfl) (.tmp 32) (.tmp 36) 27 46 (.agg #[(.int .i64 0), (.int .i64 0), (.int .i64 0), (.int .i64 0), (.int .i64 0)]) 40 rfl Tryd.underlying27 infoOp rfl (by decide) (by decide) (.slice AO ops.length cO) ops ⟨xk, va, vb, vc, vd⟩ [.int .i64 xk, .int .i64 va, .int .i64 vb, .int .i64 vc, .int .i64 vd] (fun _ => True) (fun _ => False) rfl rfl (kOp_mkM _ _ _ _) (fun _ h => h.elim) (fun _ _ => trivial) F3.out.rO (Below.refl _ _) F3.out.but.size (by have := HO0.out; omega) ?_
      intro v1 w7 ho7 hB7 hg7 hat7
      obtain ⟨A7, c7, hv7⟩ := Kd.R_slice ho7
      have F7 := Aside0.mk (F3.out.grownO hg7 ho7)
      have K7 := Aside0.mk (F3.out.keepO hg7 g)
      have hr7 : w7.heap[g]? = w5.heap[g]? := hg7.block g (RowAt.lt R3.out) (fun e => by obtain ⟨_, cells, hc⟩ := R_ownAt F3.out.rO g e.symm; obtain ⟨cs, hcs⟩ := RowAt.typed R3.out; exact blk_ne hcs hc (by decide) rfl)
      have XB7 := Aside0.mk (blk_grown XB5.out hg7 (fun e => by obtain ⟨_, cells, hc⟩ := R_ownAt F3.out.rO gb e.symm; exact blk_ne XB5.out hc (by decide) rfl))
      have HG7 := Aside0.mk hr7
      clear ho7 hB7 hg7 hat7 hr7
      have hc7 : w7.cell? ⟨F, 11, none⟩ = some (.slice AO ops.length cO) := (blk_cell F7.out.2 11).trans (by simp [List.getElem?_append, F3.out.len])
      have hf7 : w7.frozen? ⟨F, 11, none⟩ = false := blk_frozen F7.out.2 11
      generalize List.length _ = L at hv7
      subst hv7
      refine hK.out _ _ ⟨hc7, (cells3 XB7.out).1, (cells3 XB7.out).2.1, (cells3 XB7.out).2.2.1⟩ (fun hHeld => ?_)
      clear hK K
      refine norm_ (a' := ?_) ?_ ?_
      rotate_left
      · show Act.put _ (some 37) _ = _
        simp only [Act.put, List.setIfInBounds_toArray, List.set_cons_zero, List.set_cons_succ, i64_w, i32_w]
        rfl
      refine pure_ (i := 10) (N := some 38) (v := ?_) (a' := ?_) #[true, true, true, true, true, true, true, true, true, true, true, false, false] rfl rfl (by kernel_rfl) (fun _ _ _ h => h) (Or.inl ⟨by rfl, ?_⟩) ?_ ?_
      rotate_left
      · intro w'
        go_simp
        with_reducible rfl
      rotate_left
      · simp only [Act.put, List.setIfInBounds_toArray, List.set_cons_zero, List.set_cons_succ, i64_w, i32_w]
        rfl
      refine pure_ (i := 11) (N := some 39) (v := ?_) (a' := ?_) #[true, true, true, true, true, true, true, true, true, true, true, true, false] rfl rfl (by kernel_rfl) (fun _ _ _ h => h) (Or.inl ⟨by rfl, ?_⟩) ?_ ?_
      rotate_left
      · intro w'
        go_simp
        with_reducible rfl
      rotate_left
      · simp only [Act.put, List.setIfInBounds_toArray, List.set_cons_zero, List.set_cons_succ, i64_w, i32_w]
        rfl
      refine last_ (i := 12) (N := none) #[true, true, true, true, true, true, true, true, true, true, true, true, true] rfl rfl (by kernel_rfl) (by decide) (fun K hK => ?_)
      refine skip_ (w1 := ?_) (by rfl) rfl ?_ ?_
      rotate_left
      · go_simp
        rfl
      refine hK.out _ _ ?_
      clear hK K
      refine done_ (by kernel_rfl) ?_
      clear hc7 hf7 hc5 c10 c11 f10 f11 hob x0 x1 x2
      obtain ⟨w8, hw8, F8, K8, hr8⟩ : ∃ W, W = w7.setCell ⟨F, 11, none⟩ (.slice A7 L c7) ∧ Aside0 (FileAt w0 W F ⟨cfg, tasks, ops ++ [⟨xk, va, vb, vc, vd⟩]⟩) ∧ Aside0 (KeepT w W g F) ∧ W.heap[g]? = w5.heap[g]? := ⟨_, rfl, ⟨F7.out.1.at⟩, ⟨KeepT.setF (KeepT.trans (KeepT.trans (KeepT.trans (KeepT.of_keep K1.out F) (KeepT.of_below B2.out g F)) (KeepT.of_keep K3.out F)) K7.out) _ _⟩, (heap_far _ _ _ _ _ (Ne.symm NE.out)).trans HG7.out⟩
      rw [← hw8]
      obtain ⟨Ar, cr, hr1, hr0⟩ := RowAt.set R3.out hr8
      clear hw8 hr8
      by_cases hz : t2.length = 0
      · have hzb : ((t2.length : Int) == 0) = true := by simp [hz]
        have HZ := Aside0.mk hz
        clear hz
        go_wp2_with (first | (go_at_call 36; refine (must_any g _ line 2 w8 hr0).mono ?_; intro e' w5' hp; obtain ⟨rfl, hp⟩ := hp; rcases hp with ⟨hb, rfl⟩ | ⟨hb, rfl⟩; rotate_left; (exact absurd hb (by simp [HZ.out])); clear hb))
        first | go_end0 | ((try simp only [Exit.inBlock, Exit.then]); refine bodyPost_ret (results_none rfl _ _ _) rfl ?_)
        exact TakesPost.ok (by rw [T0.out, FX.out]; simp only []; rw [if_pos HO0.out]; simp only [Int.toNat_natCast, N2.out]; exact fin_ok HZ.out) F8.out K8.out
      · have hzb : ((t2.length : Int) == 0) = false := beq_eq_false_iff_ne.2 (by omega)
        have HZ := Aside0.mk hz
        clear hz
        go_wp2_with (first | (go_at_call 36; refine (must_any g _ line 2 w8 hr0).mono ?_; intro e' w5' hp; obtain ⟨rfl, hp⟩ := hp; rcases hp with ⟨hb, rfl⟩ | ⟨hb, rfl⟩; (exact absurd hb (by simp [HZ.out]))))
        exact ⟨rfl, TakesPost.must (by rw [T0.out, FX.out]; simp only []; rw [if_pos HO0.out]; simp only [Int.toNat_natCast, N2.out]; exact fin_bad HZ.out) F8.out⟩
end Go.Proofs.YtegbfimfpkendaaDoor.PaI
