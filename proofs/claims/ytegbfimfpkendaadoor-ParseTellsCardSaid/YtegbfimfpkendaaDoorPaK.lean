/- parse's Parse: its deferred closure. No condition. -/
import Derived.Test.YtegbfimfpkendaaDoorPaJ
import Derived.Recover
import Derived.Defers
namespace Go.Proofs.YtegbfimfpkendaaDoor.PaK
open Go.RowKit Go.Proofs.YtegbfimfpkendaaDoorW.PrintWords Go.Proofs.YtegbfimfpkendaaDoorW.PrintLast Go.Proofs.YtegbfimfpkendaaDoorW.PrintMore LexS LexB PaA LexBox PaC PaD PaB PaE PaF PaG PaH PaJ
set_option linter.unusedVariables false
set_option linter.unusedSimpArgs false
structure Caught (w : World) (F L E : Nat) (line err : Int) (w' : World) : Prop where
  os : w'.os = w.os
  tape : w'.tape = w.tape
  output : w'.output = w.output
  size : w.heap.size ≤ w'.heap.size
  block : ∀ k, k < w.heap.size → k ≠ F → k ≠ L → k ≠ E → w'.heap[k]? = w.heap[k]?
  file : w'.heap[F]? = some (.cells #[.int .i64 0, .int .i64 0, .int .i64 0, .int .i64 0, .int .i64 0, .int .i64 0, .int .i64 0, .int .i64 0, .int .i64 0, .int .i64 0, .slice none 0 0, .slice none 0 0] 29 (0, 0))
  line : w'.heap[L]? = some (.cells #[.int .i64 line] 3 (0, 0))
  err : w'.heap[E]? = some (.cells #[.int .i64 err] 30 (0, 0))
structure SameW (w W : World) : Prop where
  os : W.os = w.os
  tape : W.tape = w.tape
  output : W.output = w.output
  size : W.heap.size = w.heap.size
theorem SameW.set {w W : World} (h : SameW w W) (p : Addr) (v : Value) : SameW w (W.setCell p v) := ⟨h.os, h.tape, h.output, by simpa [World.setCell] using h.size⟩
theorem SameW.drew {w W : World} (h : SameW w W) : SameW w W.drew := ⟨h.os, h.tape, h.output, h.size⟩
theorem same_set12 (w : World) (F : Nat) (u0 u1 u2 u3 u4 u5 u6 u7 u8 u9 u10 u11 : Value) : SameW w ((((((((((((w.setCell ⟨F, 0, none⟩ u0).setCell ⟨F, 1, none⟩ u1).setCell ⟨F, 2, none⟩ u2).setCell ⟨F, 3, none⟩ u3).setCell ⟨F, 4, none⟩ u4).setCell ⟨F, 5, none⟩ u5).setCell ⟨F, 6, none⟩ u6).setCell ⟨F, 7, none⟩ u7).setCell ⟨F, 8, none⟩ u8).setCell ⟨F, 9, none⟩ u9).setCell ⟨F, 10, none⟩ u10).setCell ⟨F, 11, none⟩ u11).drew := SameW.drew (SameW.set (SameW.set (SameW.set (SameW.set (SameW.set (SameW.set (SameW.set (SameW.set (SameW.set (SameW.set (SameW.set (SameW.set ((⟨rfl, rfl, rfl, rfl⟩ : SameW w w)) _ _) _ _) _ _) _ _) _ _) _ _) _ _) _ _) _ _) _ _) _ _) _ _)
theorem drew_heap (w : World) (k : Nat) : w.drew.heap[k]? = w.heap[k]? := rfl
theorem heap_set12 (w : World) (F k : Nat) (hk : k ≠ F) (u0 u1 u2 u3 u4 u5 u6 u7 u8 u9 u10 u11 : Value) : ((((((((((((w.setCell ⟨F, 0, none⟩ u0).setCell ⟨F, 1, none⟩ u1).setCell ⟨F, 2, none⟩ u2).setCell ⟨F, 3, none⟩ u3).setCell ⟨F, 4, none⟩ u4).setCell ⟨F, 5, none⟩ u5).setCell ⟨F, 6, none⟩ u6).setCell ⟨F, 7, none⟩ u7).setCell ⟨F, 8, none⟩ u8).setCell ⟨F, 9, none⟩ u9).setCell ⟨F, 10, none⟩ u10).setCell ⟨F, 11, none⟩ u11).heap[k]? = w.heap[k]? := by
  simp only [heap_far _ _ _ _ _ hk]
theorem twelve {vs : List Value} (h : vs.length = 12) : ∃ a b c d e f g i j k l m : Value, vs = [a, b, c, d, e, f, g, i, j, k, l, m] := by
  match vs, h with
  | [a, b, c, d, e, f, g, i, j, k, l, m], _ => exact ⟨a, b, c, d, e, f, g, i, j, k, l, m, rfl⟩
set_option maxHeartbeats 1000000 in
set_option maxRecDepth 100000 in
theorem catch_panicking (F L E : Nat) (line err : Int) (zs : List Value) (l0 e0 : Int) (w : World) (hF : w.heap[F]? = some (.cells zs.toArray 29 (0, 0))) (hn : zs.length = 12) (hL : w.heap[L]? = some (.cells #[.int .i64 l0] 3 (0, 0))) (hE : w.heap[E]? = some (.cells #[.int .i64 e0] 30 (0, 0))) :
    CallsD Tryd.prog 19 #[.pointer (some ⟨F, 0, none⟩), .pointer (some ⟨L, 0, none⟩), .pointer (some ⟨E, 0, none⟩)] (.panicking [{ v := wrongV line err, recovered := false }]) w fun e u' w' =>
      e = .returned (.tuple #[]) ∧ u' = .panicking [{ v := wrongV line err, recovered := true }] ∧ Caught w F L E line err w' := by
  unfold wrongV
  obtain ⟨z0', z1', z2', z3', z4', z5', z6', z7', z8', z9', z10', z11', rfl⟩ := twelve hn
  have hFL : F ≠ L := by rintro rfl; exact blk_ne hF hL (by decide) rfl
  have hFE : F ≠ E := by rintro rfl; exact blk_ne hF hE (by decide) rfl
  have hLE : L ≠ E := by rintro rfl; exact blk_ne hL hE (by decide) rfl
  have bF := blk_lt hF
  have bL := blk_lt hL
  have bE := blk_lt hE
  refine callsD_of_wpS Tryd.func19 rfl fun c₀ cs hu => ?_
  apply wpS_seq
  apply wpS_region
  change wpOpsS _ _ _ [0, 1] _ _ _
  simp [wpOpsS, go_sem, recoverD, hu, Tryd.ntmps19, Exit.thenS]
  simp only [show Array.replicate 19 undef = #[undef, undef, undef, undef, undef, undef, undef, undef, undef, undef, undef, undef, undef, undef, undef, undef, undef, undef, undef] from rfl, List.setIfInBounds_toArray, List.set_cons_zero, List.set_cons_succ, List.append_toArray, List.cons_append, List.nil_append]
  refine wpS_of_wp (wp_mono (Q := fun e a' w' => e = .normal ∧ a'.defers = [] ∧ Caught w F L E line err w') ?_ ?_)
  rotate_left
  · rintro e a' w' ⟨rfl, hd, hc⟩
    exact ⟨hd, _, rfl, .tuple #[], results_none rfl _ _ _, rfl, rfl, hc⟩
  have hta : ∀ W : World, (Instr.typeAssert (.iface 57 (.agg #[.int .i64 line, .int .i64 err])) 20 57 true).run Tryd.prog W = .ok (.tuple #[.agg #[.int .i64 line, .int .i64 err], .bool true]) W := fun _ => rfl
  have HF := Aside0.mk hF
  have HL := Aside0.mk hL
  have HE := Aside0.mk hE
  clear hF hL hE
  go_upto_region 5 with (first | ((with_reducible refine gate_dst (N := 4) rfl ?_); (try (refine gate_guard (by rfl) ?_; dsimp only)); refine box_event ?hg (N := 4) ?hd (cs := #[.int .i64 0, .int .i64 0]) (t := 57) ?hr ?_; (case hd => rfl); (case hg => rfl); (case hr => first | (go_simp; done) | (go_simp; rfl)); intro gb hg wy hbox hb; have z0 : wy.cell? ⟨gb, 0, none⟩ = some (.int .i64 0) := (blk_cell hbox 0).trans rfl; have z1 : wy.cell? ⟨gb, 1, none⟩ = some (.int .i64 0) := (blk_cell hbox 1).trans rfl; have y0 := blk_frozen hbox 0; have y1 := blk_frozen hbox 1; have BX := Aside0.mk hbox; have BB := Aside0.mk hb; have BG := Aside0.mk (Nat.le_of_eq hg.symm); clear hbox hb hg))
  obtain ⟨wz, hwz, hX, hW⟩ : ∃ W, W = (wy.setCell ⟨gb, 0, none⟩ (.int .i64 line)).setCell ⟨gb, 1, none⟩ (.int .i64 err) ∧ W.heap[gb]? = some (.cells #[.int .i64 line, .int .i64 err] 57 (0, 0)) ∧ Below w.heap.size w W :=
    ⟨_, rfl, blk_put (blk_put BX.out 0 _ (cs' := #[.int .i64 line, .int .i64 0]) rfl) 1 _ rfl, below_set (below_set BB.out BG.out) BG.out⟩
  rw [← hwz]
  have BZ := Aside0.mk hX
  have WZ := Aside0.mk hW
  have FZ := Aside0.mk (blk_below HF.out hW)
  have LZ := Aside0.mk (blk_below HL.out hW)
  have EZ := Aside0.mk (blk_below HE.out hW)
  have NGF := Aside0.mk (show gb ≠ F by have := BG.out; omega)
  have NGL := Aside0.mk (show gb ≠ L by have := BG.out; omega)
  have NGE := Aside0.mk (show gb ≠ E by have := BG.out; omega)
  clear hwz hX hW z0 z1 y0 y1 bF bL bE
  obtain ⟨c0, c1, c2, c3, c4, c5, c6, c7, c8, c9, c10, c11, f0, f1, f2, f3, f4, f5, f6, f7, f8, f9, f10, f11⟩ := cells12 FZ.out
  have l0c : wz.cell? ⟨L, 0, none⟩ = some (.int .i64 l0) := (blk_cell LZ.out 0).trans rfl
  have l0f := blk_frozen LZ.out 0
  have e0c : wz.cell? ⟨E, 0, none⟩ = some (.int .i64 e0) := (blk_cell EZ.out 0).trans rfl
  have e0f := blk_frozen EZ.out 0
  have hLF : L ≠ F := Ne.symm hFL
  have hEF : E ≠ F := Ne.symm hFE
  have hEL : E ≠ L := Ne.symm hLE
  refine start_ (n := 8) (S := fun w' => w'.cell? ⟨gb, 0, none⟩ = some (.int .i64 line) ∧ w'.cell? ⟨gb, 1, none⟩ = some (.int .i64 err)) (ds := []) #[false, false, false, false, false, false, false, false] (by kernel_rfl) rfl rfl ⟨((blk_cell (blk_drew BZ.out) 0).trans rfl), ((blk_cell (blk_drew BZ.out) 1).trans rfl)⟩ (fun hHeld => ?_)
  refine pure_ (i := 0) (N := some 17) (v := ?_) (a' := ?_) #[true, false, false, false, false, false, false, false] rfl rfl (by kernel_rfl) (fun _ _ _ h => h) (Or.inl ⟨by rfl, ?_⟩) ?_ ?_
  rotate_left
  · intro w'
    go_simp
    with_reducible rfl
  rotate_left
  · simp only [Act.put, List.setIfInBounds_toArray, List.set_cons_zero, List.set_cons_succ, i64_w, i32_w]
    rfl
  refine pure_ (i := 1) (N := some 18) (v := ?_) (a' := ?_) #[true, true, false, false, false, false, false, false] rfl rfl (by kernel_rfl) (fun _ _ _ h => h) (Or.inl ⟨by rfl, ?_⟩) ?_ ?_
  rotate_left
  · intro w'
    go_simp
    with_reducible rfl
  rotate_left
  · simp only [Act.put, List.setIfInBounds_toArray, List.set_cons_zero, List.set_cons_succ, i64_w, i32_w]
    rfl
  refine pure_ (i := 3) (N := some 20) (v := ?_) (a' := ?_) #[true, true, false, true, false, false, false, false] rfl rfl (by kernel_rfl) (fun _ _ _ h => h) (Or.inl ⟨by rfl, ?_⟩) ?_ ?_
  rotate_left
  · intro w'
    go_simp
    with_reducible rfl
  rotate_left
  · simp only [Act.put, List.setIfInBounds_toArray, List.set_cons_zero, List.set_cons_succ, i64_w, i32_w]
    rfl
  refine take_ (i := 2) (N := some 19) (v := ?_) (a' := ?_) #[true, true, true, true, false, false, false, false] rfl rfl (by kernel_rfl) (fun _ _ _ h => h) (Or.inl ⟨by rfl, ?_⟩) hHeld ?_ ?_
  rotate_left
  · rintro w' ⟨s0, s1⟩
    go_simp
    with_reducible rfl
  rotate_left
  · simp only [Act.put, List.setIfInBounds_toArray, List.set_cons_zero, List.set_cons_succ, i64_w, i32_w]
    rfl
  refine take_ (i := 4) (N := some 21) (v := ?_) (a' := ?_) #[true, true, true, true, true, false, false, false] rfl rfl (by kernel_rfl) (fun _ _ _ h => h) (Or.inl ⟨by rfl, ?_⟩) hHeld ?_ ?_
  rotate_left
  · rintro w' ⟨s0, s1⟩
    go_simp
    with_reducible rfl
  rotate_left
  · simp only [Act.put, List.setIfInBounds_toArray, List.set_cons_zero, List.set_cons_succ, i64_w, i32_w]
    rfl
  refine one_ (i := 5) (N := none) #[true, true, true, true, true, true, false, false] rfl rfl (by kernel_rfl) (by decide) (fun K hK => ?_)
  refine skip_ (w1 := ?_) (by rfl) rfl ?_ ?_
  rotate_left
  · go_simp
    rfl
  obtain ⟨wa, hwa, aF, aK, aS⟩ : ∃ W, W = ((((((((((((wz.setCell ⟨F, 0, none⟩ (.int .i64 0)).setCell ⟨F, 1, none⟩ (.int .i64 0)).setCell ⟨F, 2, none⟩ (.int .i64 0)).setCell ⟨F, 3, none⟩ (.int .i64 0)).setCell ⟨F, 4, none⟩ (.int .i64 0)).setCell ⟨F, 5, none⟩ (.int .i64 0)).setCell ⟨F, 6, none⟩ (.int .i64 0)).setCell ⟨F, 7, none⟩ (.int .i64 0)).setCell ⟨F, 8, none⟩ (.int .i64 0)).setCell ⟨F, 9, none⟩ (.int .i64 0)).setCell ⟨F, 10, none⟩ (.slice none 0 0)).setCell ⟨F, 11, none⟩ (.slice none 0 0)).drew ∧ W.heap[F]? = some (.cells #[(.int .i64 0), (.int .i64 0), (.int .i64 0), (.int .i64 0), (.int .i64 0), (.int .i64 0), (.int .i64 0), (.int .i64 0), (.int .i64 0), (.int .i64 0), (.slice none 0 0), (.slice none 0 0)] 29 (0, 0)) ∧ (∀ k, k ≠ F → W.heap[k]? = wz.heap[k]?) ∧ SameW wz W := ⟨_, rfl, blk_drew (set12 (.int .i64 0) (.int .i64 0) (.int .i64 0) (.int .i64 0) (.int .i64 0) (.int .i64 0) (.int .i64 0) (.int .i64 0) (.int .i64 0) (.int .i64 0) (.slice none 0 0) (.slice none 0 0) FZ.out), fun k hk => (drew_heap _ k).trans (heap_set12 _ F k hk (.int .i64 0) (.int .i64 0) (.int .i64 0) (.int .i64 0) (.int .i64 0) (.int .i64 0) (.int .i64 0) (.int .i64 0) (.int .i64 0) (.int .i64 0) (.slice none 0 0) (.slice none 0 0)), same_set12 wz F (.int .i64 0) (.int .i64 0) (.int .i64 0) (.int .i64 0) (.int .i64 0) (.int .i64 0) (.int .i64 0) (.int .i64 0) (.int .i64 0) (.int .i64 0) (.slice none 0 0) (.slice none 0 0)⟩
  rw [← hwa]
  have AF := Aside0.mk aF
  have AK := Aside0.mk aK
  have AS := Aside0.mk aS
  have BA := Aside0.mk ((aK gb NGF.out).trans BZ.out)
  have LA := Aside0.mk ((aK L hLF).trans LZ.out)
  have EA := Aside0.mk ((aK E hEF).trans EZ.out)
  clear hwa aF aK aS
  have l1c : wa.cell? ⟨L, 0, none⟩ = some (.int .i64 l0) := (blk_cell LA.out 0).trans rfl
  have l1f := blk_frozen LA.out 0
  have e1c : wa.cell? ⟨E, 0, none⟩ = some (.int .i64 e0) := (blk_cell EA.out 0).trans rfl
  have e1f := blk_frozen EA.out 0
  refine hK.out _ _ ⟨((blk_cell (BA.out) 0).trans rfl), ((blk_cell (BA.out) 1).trans rfl)⟩ (fun hHeld => ?_)
  clear hK K
  refine one_ (i := 6) (N := none) #[true, true, true, true, true, true, true, false] rfl rfl (by kernel_rfl) (by decide) (fun K hK => ?_)
  refine skip_ (w1 := ?_) (by rfl) rfl ?_ ?_
  rotate_left
  · go_simp
    rfl
  refine hK.out _ _ ⟨((blk_cell (blk_far BA.out NGL.out _) 0).trans rfl), ((blk_cell (blk_far BA.out NGL.out _) 1).trans rfl)⟩ (fun hHeld => ?_)
  clear hK K
  refine one_ (i := 7) (N := none) #[true, true, true, true, true, true, true, true] rfl rfl (by kernel_rfl) (by decide) (fun K hK => ?_)
  refine skip_ (w1 := ?_) (by rfl) rfl ?_ ?_
  rotate_left
  · go_simp
    rfl
  refine hK.out _ _ ⟨((blk_cell (blk_far (blk_far BA.out NGL.out _) NGE.out _) 0).trans rfl), ((blk_cell (blk_far (blk_far BA.out NGL.out _) NGE.out _) 1).trans rfl)⟩ (fun hHeld => ?_)
  clear hK K
  refine done_ (by kernel_rfl) ?_
  refine ⟨rfl, rfl, ?_⟩
  refine ⟨AS.out.os.trans WZ.out.os, AS.out.tape.trans WZ.out.tape, AS.out.output.trans WZ.out.output, by have h1 := AS.out.size; have h2 := WZ.out.size; simp [World.setCell]; omega, fun k hk h1 h2 h3 => ?_, ?_, ?_, ?_⟩
  · rw [heap_far _ _ _ _ _ h3, heap_far _ _ _ _ _ h2, AK.out k h1]
    exact WZ.out.block k hk
  · exact blk_far (blk_far AF.out hFL _) hFE _
  · exact blk_far (blk_put LA.out 0 _ rfl) hLE _
  · exact blk_put ((heap_far _ _ _ _ _ hEL).trans EA.out) 0 _ rfl
end Go.Proofs.YtegbfimfpkendaaDoor.PaK
