/- The walk of event: a line's tokens. Condition: the table of words is laid. -/
import Derived.Test.YtckcepmkfegkiaaDoorTrP
namespace Go.Proofs.YtckcepmkfegkiaaDoor.TrV
open Go.RowKit Go.Proofs.YtckcepmkfegkiaaDoorW.PrintWords Go.Proofs.YtckcepmkfegkiaaDoorW.PrintLast Go.Proofs.YtckcepmkfegkiaaDoorW.PrintMore LexS LexB TrS TrA TrB TrH TrX TrP
attribute [local go_sem] max2_int min2_int max_two min_two max_three min_three max_four min_four
set_option linter.unusedVariables false
set_option linter.unusedSimpArgs false
def setF (e : Ev) : Nat → Int → Ev
  | 0, n => { e with task := n }
  | 1, n => { e with slot := n }
  | 2, n => { e with epoch := n }
  | _, n => { e with tick := n }
def numsF : Nat → Nat → List Tok → Ev → Ev × Int
  | 0, _, [], e => (e, 0)
  | 0, _, _ :: _, e => (e, 2)
  | _ + 1, _, [], e => (e, 2)
  | r + 1, j, t :: ts, e => if t.kind = 2 then (if (NumS.parseF (strOfNums t.text)).2 = 0 then numsF r (j + 1) ts (setF e j (NumS.parseF (strOfNums t.text)).1) else (setF e j (NumS.parseF (strOfNums t.text)).1, (NumS.parseF (strOfNums t.text)).2)) else (e, 2)
def firstE (t : Tok) : Ev := ⟨mxI (wordAt (strOfNums t.text) wordsT 0) 0, 0, 0, 0, 0⟩
def eventF : List Tok → Ev × Int
  | [] => (ev0, 2)
  | t :: ts => if t.kind = 1 ∧ known (firstE t) = true then numsF 4 0 ts (firstE t) else (firstE t, 2)
theorem numsF_cons (r j : Nat) (t : Tok) (ts : List Tok) (e : Ev) : numsF (r + 1) j (t :: ts) e = if t.kind = 2 then (if (NumS.parseF (strOfNums t.text)).2 = 0 then numsF r (j + 1) ts (setF e j (NumS.parseF (strOfNums t.text)).1) else (setF e j (NumS.parseF (strOfNums t.text)).1, (NumS.parseF (strOfNums t.text)).2)) else (e, 2) := rfl
theorem size_str' (X : List Int) : (strOfNums X).size = X.length := by simp [strOfNums, ByteArray.size]
theorem parse_b (s : ByteArray) (w : World) (n er : Int) (h : NumS.parseF s = (n, er)) (hs : s.size < 4294967281) : Calls Tryd.prog 47 #[.string s] w fun e w' => e = .returned (.tuple #[.int .i64 n, .int .i64 er]) ∧ Below w.heap.size w w' := by
  have := NumA.parse_calls s w hs
  rw [h] at this
  exact this
theorem eventF_cons (t : Tok) (ts : List Tok) : eventF (t :: ts) = if t.kind = 1 ∧ known (firstE t) = true then numsF 4 0 ts (firstE t) else (firstE t, 2) := rfl
theorem drop1 (t : Tok) (ts : List Tok) (A : Option Addr) (cp : Nat) (hcp : ts.length + 1 ≤ cp) : ∃ A' : Option Addr, (∀ W : World, (Instr.slice 66 (.slice A (ts.length + 1) cp) (some (.int .i64 1)) none none).run Tryd.prog W = .ok (.slice A' ts.length (cp - 1)) W) ∧ (∀ w, Kd.C kTok w A (ts.length + 1) (t :: ts) → Kd.C kTok w A' ts.length ts) ∧ ts.length ≤ cp - 1 := by
  obtain ⟨i0, hi, hz0, hz1, hz2⟩ := info_parts infoTok
  refine ⟨_, fun W => cut_from 66 71 .i64 Tryd.underlying66 hi 3 hz1 A (ts.length + 1) cp 1 (by omega) (by omega) W, fun w h => ?_, by omega⟩
  exact Kd.C_drop (m := 1) (c := cp) h (by simp) hcp
theorem tok0_text {w : World} {ld : Addr} {t : Tok} {ts : List Tok} (h : Kd.C kTok w (some ld) (ts.length + 1) (t :: ts)) : w.cell? ⟨ld.block, ld.off + 1, none⟩ = some (.string (strOfNums t.text)) := by
  obtain ⟨ad, e, h0, h1, h2⟩ := at_Tok h 0 (by omega) (by omega)
  cases e
  have e0 : ld.add ((0 : Int).toNat * 3) = ld := by simp [Addr.add]
  rw [e0] at h1
  exact h1
theorem tok0_kind {w : World} {ld : Addr} {t : Tok} {ts : List Tok} (h : Kd.C kTok w (some ld) (ts.length + 1) (t :: ts)) : w.cell? ld = some (.int .i64 t.kind) := by
  obtain ⟨ad, e, h0, h1, h2⟩ := at_Tok h 0 (by omega) (by omega)
  cases e
  have e0 : ld.add ((0 : Int).toNat * 3) = ld := by simp [Addr.add]
  rw [e0] at h0
  exact h0
set_option maxHeartbeats 8000000 in
set_option maxRecDepth 100000 in
theorem event_calls (t : Tok) (ts : List Tok) (A : Option Addr) (cp : Nat) (w : World) (hC : Kd.C kTok w A (ts.length + 1) (t :: ts)) (hcp : ts.length + 1 ≤ cp) (hW : WordsIs w) (hn : ts.length ≤ 4398046511104) (ht : ∀ x ∈ t :: ts, x.text.length ≤ 1000000) : Calls Tryd.prog 28 #[.slice A (ts.length + 1) cp] w fun x w' => x = .returned (.tuple #[.agg (evC (eventF (t :: ts)).1).toArray, .int .i64 (eventF (t :: ts)).2]) ∧ Below w.heap.size w w' := by
  obtain ⟨ld, ea, hx0, hx1, hx2⟩ := at_Tok hC 0 (by omega) (by omega)
  subst ea
  have HC := Aside0.mk hC
  have HW := Aside0.mk hW
  have HN := Aside0.mk hn
  have HT := Aside0.mk ht
  have HCP := Aside0.mk hcp
  clear hC hW hn ht hcp hx0 hx1 hx2
  go_enter Tryd.func28, Tryd.ntmps28
  go_upto_region 1 with (first | ((with_reducible refine gate_dst (N := 2) rfl ?_); (try (refine gate_guard (by rfl) ?_; dsimp only)); refine box_event ?hg (N := 2) ?hd (cs := #[.int .i64 0, .int .i64 0, .int .i64 0, .int .i64 0, .int .i64 0]) (t := 42) ?hr ?_; (case hd => rfl); (case hg => rfl); (case hr => first | (go_simp; done) | (go_simp; rfl)); intro gb hg w1 hbox hb; have HX := Aside0.mk hbox; have HB := Aside0.mk hb; have GE := Aside0.mk (Nat.le_of_eq hg.symm); clear hbox hb hg))
  have HW1 := Aside0.mk (HW.out.below HB.out)
  have HC1 := Aside0.mk (Kd.C_below HC.out HB.out)
  have hx1 := tok0_text HC1.out
  refine start_ (n := 9) (S := fun w' => w'.cell? ⟨ld.block, ld.off + 1, none⟩ = some (.string (strOfNums t.text)) ∧ w'.heap[gb]? = some (.cells #[.int .i64 0, .int .i64 0, .int .i64 0, .int .i64 0, .int .i64 0] 42 (0, 0)) ∧ Below w.heap.size w w' ∧ WordsIs w' ∧ Kd.C kTok w' (some ld) (ts.length + 1) (t :: ts)) (ds := [8]) #[false, false, false, false, false, false, false, false, false] (by kernel_rfl) rfl rfl ⟨hx1, ⟨HX.out, below_drew HB.out, HW1.out, HC1.out⟩⟩ (fun hHeld => ?_)
  refine pure_ (i := 0) (N := some 6) (v := ?_) (a' := ?_) #[true, false, false, false, false, false, false, false, false] rfl rfl (by kernel_rfl) (fun _ _ _ h => h) (Or.inl ⟨by rfl, ?_⟩) ?_ ?_
  rotate_left
  · intro w'
    go_simp
    with_reducible rfl
  rotate_left
  · simp only [Act.put, List.setIfInBounds_toArray, List.set_cons_zero, List.set_cons_succ, i64_w, i32_w]
    rfl
  refine pure_ (i := 1) (N := some 7) (v := ?_) (a' := ?_) #[true, true, false, false, false, false, false, false, false] rfl rfl (by kernel_rfl) (fun _ _ _ h => h) (Or.inl ⟨by rfl, ?_⟩) ?_ ?_
  rotate_left
  · intro w'
    go_simp
    with_reducible rfl
  rotate_left
  · simp only [Act.put, List.setIfInBounds_toArray, List.set_cons_zero, List.set_cons_succ, i64_w, i32_w]
    rfl
  refine pure_ (i := 2) (N := some 8) (v := ?_) (a' := ?_) #[true, true, true, false, false, false, false, false, false] rfl rfl (by kernel_rfl) (fun _ _ _ h => h) (Or.inl ⟨by rfl, ?_⟩) ?_ ?_
  rotate_left
  · intro w'
    go_simp
    with_reducible rfl
  rotate_left
  · simp only [Act.put, List.setIfInBounds_toArray, List.set_cons_zero, List.set_cons_succ, i64_w, i32_w]
    rfl
  refine pure_ (i := 3) (N := some 9) (v := ?_) (a' := ?_) #[true, true, true, true, false, false, false, false, false] rfl rfl (by kernel_rfl) (fun _ _ _ h => h) (Or.inl ⟨by rfl, ?_⟩) ?_ ?_
  rotate_left
  · intro w'
    go_simp
    with_reducible rfl
  rotate_left
  · simp only [Act.put, List.setIfInBounds_toArray, List.set_cons_zero, List.set_cons_succ, i64_w, i32_w]
    rfl
  refine take_ (i := 4) (N := some 10) (v := ?_) (a' := ?_) #[true, true, true, true, true, false, false, false, false] rfl rfl (by kernel_rfl) (fun _ _ _ h => h) (Or.inl ⟨by rfl, ?_⟩) hHeld ?_ ?_
  rotate_left
  · rintro w' ⟨s0, s1⟩
    go_simp
    with_reducible rfl
  rotate_left
  · simp only [Act.put, List.setIfInBounds_toArray, List.set_cons_zero, List.set_cons_succ, i64_w, i32_w]
    rfl
  refine one_ (i := 5) (N := some 11) #[true, true, true, true, true, true, false, false, false] rfl rfl (by kernel_rfl) (by decide) (fun K hK => ?_)
  refine goes_ Tryd.func46 (by kernel_rfl) rfl #[.slice (some ⟨0, 0, none⟩) 7 7, .string (strOfNums t.text)] (by rfl) rfl rfl (by simp only [List.map_toArray, List.map_cons, List.map_nil]; rfl) ?_
  with_reducible refine (wordAt_calls (strOfNums t.text) _ hHeld.2.2.2.1).mono ?_
  rintro e' w3 ⟨rfl, hb⟩
  refine ⟨_, rfl, ?_⟩
  refine hK.out _ _ ⟨tok0_text (Kd.C_below hHeld.2.2.2.2 hb), ⟨(hb.block gb (lt' hHeld.2.1)).trans hHeld.2.1, below_step hHeld.2.2.1 hb, hHeld.2.2.2.1.below hb, Kd.C_below hHeld.2.2.2.2 hb⟩⟩ (fun hHeld => ?_)
  clear hK K
  refine norm_ (a' := ?_) ?_ ?_
  rotate_left
  · show Act.put _ (some 11) _ = _
    simp only [Act.put, List.setIfInBounds_toArray, List.set_cons_zero, List.set_cons_succ, i64_w, i32_w]
    rfl
  refine pure_ (i := 6) (N := some 12) (v := ?_) (a' := ?_) #[true, true, true, true, true, true, true, false, false] rfl rfl (by kernel_rfl) (fun _ _ _ h => h) (Or.inl ⟨by rfl, ?_⟩) ?_ ?_
  rotate_left
  · intro w'
    go_simp
    with_reducible rfl
  rotate_left
  · simp only [Act.put, List.setIfInBounds_toArray, List.set_cons_zero, List.set_cons_succ, i64_w, i32_w]
    rfl
  refine pure_ (i := 7) (N := some 13) (v := ?_) (a' := ?_) #[true, true, true, true, true, true, true, true, false] rfl rfl (by kernel_rfl) (fun _ _ _ h => h) (Or.inl ⟨by rfl, ?_⟩) ?_ ?_
  rotate_left
  · intro w'
    go_simp
    with_reducible rfl
  rotate_left
  · simp only [Act.put, List.setIfInBounds_toArray, List.set_cons_zero, List.set_cons_succ, i64_w, i32_w]
    rfl
  refine last_ (i := 8) (N := none) #[true, true, true, true, true, true, true, true, true] rfl rfl (by kernel_rfl) (by decide) (fun K hK => ?_)
  have hz0 : w3.cell? ⟨gb, 0, none⟩ = some (.int .i64 0) := (blk_cell hHeld.2.1 0).trans rfl
  have hf0 := blk_frozen hHeld.2.1 0
  have HH := Aside0.mk hHeld
  clear hHeld
  refine skip_ (w1 := ?_) (by rfl) rfl ?_ ?_
  rotate_left
  · go_simp
    rfl
  refine hK.out _ _ ?_
  clear hK K
  refine done_ (by kernel_rfl) ?_
  have hset : ∃ w4, w4 = w3.setCell ⟨gb, 0, none⟩ (.int .i64 (firstE t).kind) ∧ w4.heap[gb]? = some (.cells #[.int .i64 (firstE t).kind, .int .i64 (firstE t).task, .int .i64 (firstE t).slot, .int .i64 (firstE t).epoch, .int .i64 (firstE t).tick] 42 (0, 0)) ∧ Below w.heap.size w w4 :=
    ⟨_, rfl, blk_put HH.out.2.1 0 (.int .i64 (firstE t).kind) rfl, below_set HH.out.2.2.1 GE.out⟩
  obtain ⟨w4, hw4, hX4, hB4⟩ := hset
  change Exit.then _ _ Exit.normal _ (w3.setCell ⟨gb, 0, none⟩ (.int .i64 (firstE t).kind))
  rw [← hw4]
  have hfe : (if wordAt (strOfNums t.text) wordsT 0 < 0 then 0 else wordAt (strOfNums t.text) wordsT 0) = (firstE t).kind := rfl
  rw [hfe]
  clear hfe
  have HX4 := Aside0.mk hX4
  have HB4 := Aside0.mk hB4
  have hkd := tok0_kind (Kd.C_below HC.out hB4)
  clear hw4 hX4 hB4 HH hz0 hf0 hx1 hHeld HX HB HW1 HC1
  have hy0 : w4.cell? ⟨gb, 0, none⟩ = some (.int .i64 (firstE t).kind) := (blk_cell HX4.out 0).trans rfl
  have hf0 := blk_frozen HX4.out 0
  have hy1 : w4.cell? ⟨gb, 1, none⟩ = some (.int .i64 (firstE t).task) := (blk_cell HX4.out 1).trans rfl
  have hf1 := blk_frozen HX4.out 1
  have hy2 : w4.cell? ⟨gb, 2, none⟩ = some (.int .i64 (firstE t).slot) := (blk_cell HX4.out 2).trans rfl
  have hf2 := blk_frozen HX4.out 2
  have hy3 : w4.cell? ⟨gb, 3, none⟩ = some (.int .i64 (firstE t).epoch) := (blk_cell HX4.out 3).trans rfl
  have hf3 := blk_frozen HX4.out 3
  have hy4 : w4.cell? ⟨gb, 4, none⟩ = some (.int .i64 (firstE t).tick) := (blk_cell HX4.out 4).trans rfl
  have hf4 := blk_frozen HX4.out 4
  by_cases c1 : t.kind = 1
  · have c1b : (t.kind != 1) = false := bne_eq_false_iff_eq.mpr c1
    cases hkn : known (firstE t) with
    | false =>
      have HR : Aside0 (eventF (t :: ts) = (firstE t, 2)) := ⟨by rw [eventF_cons, if_neg (fun h => absurd (hkn.symm.trans h.2) (by decide))]⟩
      clear c1
      go_wp2_with fail
      refine (known_calls_b _ _ false hkn).mono ?_
      rintro e' w5 ⟨rfl, hb5⟩
      have HX5 := Aside0.mk ((hb5.block gb (lt' HX4.out)).trans HX4.out)
      have HB5 := Aside0.mk (below_step HB4.out hb5)
      clear hb5 hkd
      clear hy0 hy1 hy2 hy3 hy4 hf0 hf1 hf2 hf3 hf4
      have hy0 : w5.cell? ⟨gb, 0, none⟩ = some (.int .i64 (firstE t).kind) := (blk_cell HX5.out 0).trans rfl
      have hy1 : w5.cell? ⟨gb, 1, none⟩ = some (.int .i64 (firstE t).task) := (blk_cell HX5.out 1).trans rfl
      have hy2 : w5.cell? ⟨gb, 2, none⟩ = some (.int .i64 (firstE t).slot) := (blk_cell HX5.out 2).trans rfl
      have hy3 : w5.cell? ⟨gb, 3, none⟩ = some (.int .i64 (firstE t).epoch) := (blk_cell HX5.out 3).trans rfl
      have hy4 : w5.cell? ⟨gb, 4, none⟩ = some (.int .i64 (firstE t).tick) := (blk_cell HX5.out 4).trans rfl
      have hf0 := blk_frozen HX5.out 0
      have hf1 := blk_frozen HX5.out 1
      have hf2 := blk_frozen HX5.out 2
      have hf3 := blk_frozen HX5.out 3
      have hf4 := blk_frozen HX5.out 4
      go_wp2
      obtain ⟨wz, hwz, hXz, hBz⟩ := set5 (.int .i64 (firstE t).kind) (.int .i64 (firstE t).task) (.int .i64 (firstE t).slot) (.int .i64 (firstE t).epoch) (.int .i64 (firstE t).tick) HX5.out HB5.out GE.out
      rw [← hwz]
      clear hwz
      clear hy0 hy1 hy2 hy3 hy4 hf0 hf1 hf2 hf3 hf4
      have hy0 : wz.cell? ⟨gb, 0, none⟩ = some (.int .i64 (firstE t).kind) := (blk_cell hXz 0).trans rfl
      have hy1 : wz.cell? ⟨gb, 1, none⟩ = some (.int .i64 (firstE t).task) := (blk_cell hXz 1).trans rfl
      have hy2 : wz.cell? ⟨gb, 2, none⟩ = some (.int .i64 (firstE t).slot) := (blk_cell hXz 2).trans rfl
      have hy3 : wz.cell? ⟨gb, 3, none⟩ = some (.int .i64 (firstE t).epoch) := (blk_cell hXz 3).trans rfl
      have hy4 : wz.cell? ⟨gb, 4, none⟩ = some (.int .i64 (firstE t).tick) := (blk_cell hXz 4).trans rfl
      have hf0 := blk_frozen hXz 0
      have hf1 := blk_frozen hXz 1
      have hf2 := blk_frozen hXz 2
      have hf3 := blk_frozen hXz 3
      have hf4 := blk_frozen hXz 4
      (try simp only [Exit.inBlock, Exit.then])
      refine bodyPost_ret (v := .tuple #[.agg #[.int .i64 (firstE t).kind, .int .i64 (firstE t).task, .int .i64 (firstE t).slot, .int .i64 (firstE t).epoch, .int .i64 (firstE t).tick], .int .i64 2]) ?_ rfl ?_
      · simp only [results, show Tryd.f28.results = #[.cell 2 42, .tmp 3] from rfl]
        go_simp
      · exact ⟨by rw [HR.out]; rfl, hBz⟩
    | true =>
      obtain ⟨⟨ef, rf⟩, hfin⟩ : ∃ p_, numsF 4 0 ts (firstE t) = p_ := ⟨numsF 4 0 ts (firstE t), Eq.refl _⟩
      have HR : Aside0 (eventF (t :: ts) = (ef, rf)) := ⟨by rw [eventF_cons, if_pos ⟨c1, hkn⟩, hfin]⟩
      have HF := Aside0.mk hfin
      clear c1 hfin
      go_wp2_with fail
      refine (known_calls_b _ _ true hkn).mono ?_
      rintro e' w5 ⟨rfl, hb5⟩
      have HX5 := Aside0.mk ((hb5.block gb (lt' HX4.out)).trans HX4.out)
      have HB5 := Aside0.mk (below_step HB4.out hb5)
      clear hb5 hkd
      clear hy0 hy1 hy2 hy3 hy4 hf0 hf1 hf2 hf3 hf4
      obtain ⟨A1, hcut, hC1, hcp1⟩ := drop1 t ts (some ld) cp HCP.out
      have HC50 := hC1 _ HC.out
      have HCP1 := Aside0.mk hcp1
      have HC50_ := Aside0.mk HC50
      clear hC1 hcp1 HC50
      have hy0 : w5.cell? ⟨gb, 0, none⟩ = some (.int .i64 (firstE t).kind) := (blk_cell HX5.out 0).trans rfl
      have hy1 : w5.cell? ⟨gb, 1, none⟩ = some (.int .i64 (firstE t).task) := (blk_cell HX5.out 1).trans rfl
      have hy2 : w5.cell? ⟨gb, 2, none⟩ = some (.int .i64 (firstE t).slot) := (blk_cell HX5.out 2).trans rfl
      have hy3 : w5.cell? ⟨gb, 3, none⟩ = some (.int .i64 (firstE t).epoch) := (blk_cell HX5.out 3).trans rfl
      have hy4 : w5.cell? ⟨gb, 4, none⟩ = some (.int .i64 (firstE t).tick) := (blk_cell HX5.out 4).trans rfl
      have hf0 := blk_frozen HX5.out 0
      have hf1 := blk_frozen HX5.out 1
      have hf2 := blk_frozen HX5.out 2
      have hf3 := blk_frozen HX5.out 3
      have hf4 := blk_frozen HX5.out 4
      go_wp2_with fail
      clear hcut
      clear hy0 hy1 hy2 hy3 hy4 hf0 hf1 hf2 hf3 hf4
      go_loopg [0, 3, 33] 4 (fun gg s0 s3 s33 wr => ∃ (j : Nat) (A' : Option Addr) (cp' : Nat) (rest : List Tok) (e : Ev), j ≤ 4 ∧ 4 - j ≤ gg ∧ s0 = .slice A' rest.length cp' ∧ s3 = .int .i64 0 ∧ s33 = .int .i64 j ∧ Aside0 (rest.length ≤ cp') ∧ Aside0 (Kd.C kTok w A' rest.length rest) ∧ Aside0 (wr.heap[gb]? = some (.cells #[.int .i64 e.kind, .int .i64 e.task, .int .i64 e.slot, .int .i64 e.epoch, .int .i64 e.tick] 42 (0, 0))) ∧ Aside0 (wr.heap[w5.heap.size]? = some (.cells #[.pointer (some ⟨gb, 1, none⟩), .pointer (some ⟨gb, 2, none⟩), .pointer (some ⟨gb, 3, none⟩), .pointer (some ⟨gb, 4, none⟩)] 108 (0, 0))) ∧ Aside0 (Below w.heap.size w wr) ∧ Aside0 (numsF (4 - j) j rest e = (ef, rf)) ∧ Aside0 (∀ x ∈ rest, x.text.length ≤ 1000000))
      case atStart => exact ⟨0, A1, cp - 1, ts, firstE t, by omega, by omega, rfl, rfl, rfl, HCP1, HC50_, ⟨blk_alloc HX5.out _⟩, ⟨blk_new w5 _⟩, ⟨below_alloc HB5.out _⟩, HF, ⟨fun x hx => HT.out x (List.mem_cons_of_mem _ hx)⟩⟩
      case round =>
        obtain ⟨j, A', cp', rest, e, hj, hgi, rfl, rfl, hs33, HCPr, HCr, HXr, HPr, HBr, AN, HTr⟩ := hrel
        have HGI := Aside0.mk hgi
        clear hgi
        rcases (show j = 0 ∨ j = 1 ∨ j = 2 ∨ j = 3 ∨ j = 4 by omega) with rfl | rfl | rfl | rfl | rfl
        · replace hs33 : _ = Value.int .i64 0 := hs33
          subst hs33
          have hpt : wr.cell? ⟨w5.heap.size, 0, none⟩ = some (.pointer (some ⟨gb, 1, none⟩)) := (blk_cell HPr.out 0).trans rfl
          have hy0 : wr.cell? ⟨gb, 0, none⟩ = some (.int .i64 e.kind) := (blk_cell HXr.out 0).trans rfl
          have hy1 : wr.cell? ⟨gb, 1, none⟩ = some (.int .i64 e.task) := (blk_cell HXr.out 1).trans rfl
          have hy2 : wr.cell? ⟨gb, 2, none⟩ = some (.int .i64 e.slot) := (blk_cell HXr.out 2).trans rfl
          have hy3 : wr.cell? ⟨gb, 3, none⟩ = some (.int .i64 e.epoch) := (blk_cell HXr.out 3).trans rfl
          have hy4 : wr.cell? ⟨gb, 4, none⟩ = some (.int .i64 e.tick) := (blk_cell HXr.out 4).trans rfl
          have hf0 := blk_frozen HXr.out 0
          have hf1 := blk_frozen HXr.out 1
          have hf2 := blk_frozen HXr.out 2
          have hf3 := blk_frozen HXr.out 3
          have hf4 := blk_frozen HXr.out 4
          cases rest with
          | nil =>
            go_wp2
            obtain ⟨wz, hwz, hXz, hBz⟩ := set5 (.int .i64 e.kind) (.int .i64 e.task) (.int .i64 e.slot) (.int .i64 e.epoch) (.int .i64 e.tick) HXr.out HBr.out GE.out
            rw [← hwz]
            clear hwz
            clear hy0 hy1 hy2 hy3 hy4 hf0 hf1 hf2 hf3 hf4
            have hy0 : wz.cell? ⟨gb, 0, none⟩ = some (.int .i64 e.kind) := (blk_cell hXz 0).trans rfl
            have hy1 : wz.cell? ⟨gb, 1, none⟩ = some (.int .i64 e.task) := (blk_cell hXz 1).trans rfl
            have hy2 : wz.cell? ⟨gb, 2, none⟩ = some (.int .i64 e.slot) := (blk_cell hXz 2).trans rfl
            have hy3 : wz.cell? ⟨gb, 3, none⟩ = some (.int .i64 e.epoch) := (blk_cell hXz 3).trans rfl
            have hy4 : wz.cell? ⟨gb, 4, none⟩ = some (.int .i64 e.tick) := (blk_cell hXz 4).trans rfl
            have hf0 := blk_frozen hXz 0
            have hf1 := blk_frozen hXz 1
            have hf2 := blk_frozen hXz 2
            have hf3 := blk_frozen hXz 3
            have hf4 := blk_frozen hXz 4
            (try simp only [Exit.inBlock, Exit.then])
            refine bodyPost_ret (v := .tuple #[.agg #[.int .i64 e.kind, .int .i64 e.task, .int .i64 e.slot, .int .i64 e.epoch, .int .i64 e.tick], .int .i64 2]) ?_ rfl ?_
            · simp only [results, show Tryd.f28.results = #[.cell 2 42, .tmp 3] from rfl]
              go_simp
            · have hq := AN.out
              simp only [numsF, Prod.mk.injEq] at hq
              exact ⟨by rw [HR.out, ← hq.1, ← hq.2]; rfl, hBz⟩
          | cons t' ts' =>
            obtain ⟨lr, er_, hq0, hq1, hq2⟩ := at_Tok (Kd.C_below HCr.out HBr.out) 0 (by omega) (by simp)
            subst er_
            clear hq0 hq1 hq2
            have hc0 : Kd.C kTok wr (some lr) (ts'.length + 1) (t' :: ts') := Kd.C_below HCr.out HBr.out
            have hkd := tok0_kind hc0
            have htx := tok0_text hc0
            clear hc0
            have hl0 : (((t' :: ts').length : Int) == 0) = false := by simp; omega
            have hl1 : (t' :: ts').length = ts'.length + 1 := rfl
            rw [hl1]
            clear hl0 hl1
            have hl0 : (((ts'.length + 1 : Nat) : Int) == 0) = false := beq_eq_false_iff_ne.mpr (by omega)
            have hl2 : ((ts'.length : Int) + 1 == 0) = false := beq_eq_false_iff_ne.mpr (by omega)
            have hl3 : (0 < (ts'.length : Int) + 1) = True := eq_true (by omega)
            by_cases c2 : t'.kind = 2
            · have c2b : (t'.kind != 2) = false := bne_eq_false_iff_eq.mpr c2
              obtain ⟨⟨n, er⟩, hp⟩ : ∃ p_, NumS.parseF (strOfNums t'.text) = p_ := ⟨_, rfl⟩
              have A2 : (if er = 0 then numsF (4 - (0 + 1)) (0 + 1) ts' (setF e 0 n) else (setF e 0 n, er)) = (ef, rf) := by have := AN.out; rw [numsF_cons, if_pos c2, hp] at this; exact this
              have AN1 := Aside0.mk A2
              have HPF := Aside0.mk hp
              clear A2 hp c2
              go_wp2_with fail
              refine (parse_b (strOfNums t'.text) wr n er HPF.out (by have := HTr.out t' (by simp); rw [size_str']; omega)).mono ?_
              rintro e' w8 ⟨rfl, hb8⟩
              have HX8 := Aside0.mk ((hb8.block gb (lt' HXr.out)).trans HXr.out)
              have HP8 := Aside0.mk ((hb8.block _ (lt' HPr.out)).trans HPr.out)
              have HB8 := Aside0.mk (below_step HBr.out hb8)
              clear hb8 hpt hkd htx
              clear hy0 hy1 hy2 hy3 hy4 hf0 hf1 hf2 hf3 hf4
              have hy0 : w8.cell? ⟨gb, 0, none⟩ = some (.int .i64 e.kind) := (blk_cell HX8.out 0).trans rfl
              have hy1 : w8.cell? ⟨gb, 1, none⟩ = some (.int .i64 e.task) := (blk_cell HX8.out 1).trans rfl
              have hy2 : w8.cell? ⟨gb, 2, none⟩ = some (.int .i64 e.slot) := (blk_cell HX8.out 2).trans rfl
              have hy3 : w8.cell? ⟨gb, 3, none⟩ = some (.int .i64 e.epoch) := (blk_cell HX8.out 3).trans rfl
              have hy4 : w8.cell? ⟨gb, 4, none⟩ = some (.int .i64 e.tick) := (blk_cell HX8.out 4).trans rfl
              have hf0 := blk_frozen HX8.out 0
              have hf1 := blk_frozen HX8.out 1
              have hf2 := blk_frozen HX8.out 2
              have hf3 := blk_frozen HX8.out 3
              have hf4 := blk_frozen HX8.out 4
              go_upto_region 11 with fail
              obtain ⟨w9, hw9, hX9, hP9, hB9⟩ : ∃ w9, w9 = w8.setCell ⟨gb, 1, none⟩ (.int .i64 n) ∧ w9.heap[gb]? = some (.cells #[.int .i64 (setF e 0 n).kind, .int .i64 (setF e 0 n).task, .int .i64 (setF e 0 n).slot, .int .i64 (setF e 0 n).epoch, .int .i64 (setF e 0 n).tick] 42 (0, 0)) ∧ w9.heap[w5.heap.size]? = some (.cells #[.pointer (some ⟨gb, 1, none⟩), .pointer (some ⟨gb, 2, none⟩), .pointer (some ⟨gb, 3, none⟩), .pointer (some ⟨gb, 4, none⟩)] 108 (0, 0)) ∧ Below w.heap.size w w9 := ⟨_, rfl, blk_put HX8.out 1 (.int .i64 n) rfl, (Below.heap_setCell w8 ⟨gb, 1, none⟩ (.int .i64 n) _ (Nat.ne_of_gt (lt' HX5.out))).trans HP8.out, below_set HB8.out GE.out⟩
              rw [← hw9]
              have HX9 := Aside0.mk hX9
              have HP9 := Aside0.mk hP9
              have HB9 := Aside0.mk hB9
              clear hw9 hX9 hP9 hB9
              clear hy0 hy1 hy2 hy3 hy4 hf0 hf1 hf2 hf3 hf4
              have hy0 : w9.cell? ⟨gb, 0, none⟩ = some (.int .i64 (setF e 0 n).kind) := (blk_cell HX9.out 0).trans rfl
              have hy1 : w9.cell? ⟨gb, 1, none⟩ = some (.int .i64 (setF e 0 n).task) := (blk_cell HX9.out 1).trans rfl
              have hy2 : w9.cell? ⟨gb, 2, none⟩ = some (.int .i64 (setF e 0 n).slot) := (blk_cell HX9.out 2).trans rfl
              have hy3 : w9.cell? ⟨gb, 3, none⟩ = some (.int .i64 (setF e 0 n).epoch) := (blk_cell HX9.out 3).trans rfl
              have hy4 : w9.cell? ⟨gb, 4, none⟩ = some (.int .i64 (setF e 0 n).tick) := (blk_cell HX9.out 4).trans rfl
              have hf0 := blk_frozen HX9.out 0
              have hf1 := blk_frozen HX9.out 1
              have hf2 := blk_frozen HX9.out 2
              have hf3 := blk_frozen HX9.out 3
              have hf4 := blk_frozen HX9.out 4
              by_cases c3 : er = 0
              · have c3b : (er != 0) = false := bne_eq_false_iff_eq.mpr c3
                have AN2 := AN1.out
                rw [if_pos c3] at AN2
                have AN3 := Aside0.mk AN2
                clear AN2
                subst c3
                obtain ⟨A2, hcut, hC2, hcp2⟩ := drop1 t' ts' (some lr) cp' HCPr.out
                have HC2 := Aside0.mk (hC2 _ HCr.out)
                have HCP2 := Aside0.mk hcp2
                clear hC2 hcp2
                go_wp2
                go_roundg (4 - (0 + 1))
                case measure => have := HGI.out; omega
                case rel => exact ⟨1, A2, cp' - 1, ts', (setF e 0 n), by omega, by omega, rfl, rfl, by first | rfl | (simp; done), HCP2, HC2, HX9, HP9, HB9, AN3, ⟨fun x hx => HTr.out x (List.mem_cons_of_mem _ hx)⟩⟩
              · have c3b : (er != 0) = true := bne_iff_ne.mpr c3
                have AN2_ := AN1.out
                rw [if_neg c3] at AN2_
                have AN2 := Aside0.mk AN2_
                clear AN2_ c3
                go_wp2
                obtain ⟨wz, hwz, hXz, hBz⟩ := set5 (.int .i64 (setF e 0 n).kind) (.int .i64 (setF e 0 n).task) (.int .i64 (setF e 0 n).slot) (.int .i64 (setF e 0 n).epoch) (.int .i64 (setF e 0 n).tick) HX9.out HB9.out GE.out
                rw [← hwz]
                clear hwz
                clear hy0 hy1 hy2 hy3 hy4 hf0 hf1 hf2 hf3 hf4
                have hy0 : wz.cell? ⟨gb, 0, none⟩ = some (.int .i64 (setF e 0 n).kind) := (blk_cell hXz 0).trans rfl
                have hy1 : wz.cell? ⟨gb, 1, none⟩ = some (.int .i64 (setF e 0 n).task) := (blk_cell hXz 1).trans rfl
                have hy2 : wz.cell? ⟨gb, 2, none⟩ = some (.int .i64 (setF e 0 n).slot) := (blk_cell hXz 2).trans rfl
                have hy3 : wz.cell? ⟨gb, 3, none⟩ = some (.int .i64 (setF e 0 n).epoch) := (blk_cell hXz 3).trans rfl
                have hy4 : wz.cell? ⟨gb, 4, none⟩ = some (.int .i64 (setF e 0 n).tick) := (blk_cell hXz 4).trans rfl
                have hf0 := blk_frozen hXz 0
                have hf1 := blk_frozen hXz 1
                have hf2 := blk_frozen hXz 2
                have hf3 := blk_frozen hXz 3
                have hf4 := blk_frozen hXz 4
                (try simp only [Exit.inBlock, Exit.then])
                refine bodyPost_ret (v := .tuple #[.agg #[.int .i64 (setF e 0 n).kind, .int .i64 (setF e 0 n).task, .int .i64 (setF e 0 n).slot, .int .i64 (setF e 0 n).epoch, .int .i64 (setF e 0 n).tick], .int .i64 er]) ?_ rfl ?_
                · simp only [results, show Tryd.f28.results = #[.cell 2 42, .tmp 3] from rfl]
                  go_simp
                · obtain ⟨q1_, q2_⟩ := Prod.mk.inj AN2.out
                  exact ⟨by rw [HR.out, ← q1_, ← q2_]; rfl, hBz⟩
            · have c2b : (t'.kind != 2) = true := bne_iff_ne.mpr c2
              have AN2 : Aside0 ((e, (2 : Int)) = (ef, rf)) := ⟨by have := AN.out; rw [numsF_cons, if_neg c2] at this; exact this⟩
              clear c2
              go_wp2
              obtain ⟨wz, hwz, hXz, hBz⟩ := set5 (.int .i64 e.kind) (.int .i64 e.task) (.int .i64 e.slot) (.int .i64 e.epoch) (.int .i64 e.tick) HXr.out HBr.out GE.out
              rw [← hwz]
              clear hwz
              clear hy0 hy1 hy2 hy3 hy4 hf0 hf1 hf2 hf3 hf4
              have hy0 : wz.cell? ⟨gb, 0, none⟩ = some (.int .i64 e.kind) := (blk_cell hXz 0).trans rfl
              have hy1 : wz.cell? ⟨gb, 1, none⟩ = some (.int .i64 e.task) := (blk_cell hXz 1).trans rfl
              have hy2 : wz.cell? ⟨gb, 2, none⟩ = some (.int .i64 e.slot) := (blk_cell hXz 2).trans rfl
              have hy3 : wz.cell? ⟨gb, 3, none⟩ = some (.int .i64 e.epoch) := (blk_cell hXz 3).trans rfl
              have hy4 : wz.cell? ⟨gb, 4, none⟩ = some (.int .i64 e.tick) := (blk_cell hXz 4).trans rfl
              have hf0 := blk_frozen hXz 0
              have hf1 := blk_frozen hXz 1
              have hf2 := blk_frozen hXz 2
              have hf3 := blk_frozen hXz 3
              have hf4 := blk_frozen hXz 4
              (try simp only [Exit.inBlock, Exit.then])
              refine bodyPost_ret (v := .tuple #[.agg #[.int .i64 e.kind, .int .i64 e.task, .int .i64 e.slot, .int .i64 e.epoch, .int .i64 e.tick], .int .i64 2]) ?_ rfl ?_
              · simp only [results, show Tryd.f28.results = #[.cell 2 42, .tmp 3] from rfl]
                go_simp
              · obtain ⟨q1_, q2_⟩ := Prod.mk.inj AN2.out
                exact ⟨by rw [HR.out, ← q1_, ← q2_]; rfl, hBz⟩
        · replace hs33 : _ = Value.int .i64 1 := hs33
          subst hs33
          have hpt : wr.cell? ⟨w5.heap.size, 1, none⟩ = some (.pointer (some ⟨gb, 2, none⟩)) := (blk_cell HPr.out 1).trans rfl
          have hy0 : wr.cell? ⟨gb, 0, none⟩ = some (.int .i64 e.kind) := (blk_cell HXr.out 0).trans rfl
          have hy1 : wr.cell? ⟨gb, 1, none⟩ = some (.int .i64 e.task) := (blk_cell HXr.out 1).trans rfl
          have hy2 : wr.cell? ⟨gb, 2, none⟩ = some (.int .i64 e.slot) := (blk_cell HXr.out 2).trans rfl
          have hy3 : wr.cell? ⟨gb, 3, none⟩ = some (.int .i64 e.epoch) := (blk_cell HXr.out 3).trans rfl
          have hy4 : wr.cell? ⟨gb, 4, none⟩ = some (.int .i64 e.tick) := (blk_cell HXr.out 4).trans rfl
          have hf0 := blk_frozen HXr.out 0
          have hf1 := blk_frozen HXr.out 1
          have hf2 := blk_frozen HXr.out 2
          have hf3 := blk_frozen HXr.out 3
          have hf4 := blk_frozen HXr.out 4
          cases rest with
          | nil =>
            go_wp2
            obtain ⟨wz, hwz, hXz, hBz⟩ := set5 (.int .i64 e.kind) (.int .i64 e.task) (.int .i64 e.slot) (.int .i64 e.epoch) (.int .i64 e.tick) HXr.out HBr.out GE.out
            rw [← hwz]
            clear hwz
            clear hy0 hy1 hy2 hy3 hy4 hf0 hf1 hf2 hf3 hf4
            have hy0 : wz.cell? ⟨gb, 0, none⟩ = some (.int .i64 e.kind) := (blk_cell hXz 0).trans rfl
            have hy1 : wz.cell? ⟨gb, 1, none⟩ = some (.int .i64 e.task) := (blk_cell hXz 1).trans rfl
            have hy2 : wz.cell? ⟨gb, 2, none⟩ = some (.int .i64 e.slot) := (blk_cell hXz 2).trans rfl
            have hy3 : wz.cell? ⟨gb, 3, none⟩ = some (.int .i64 e.epoch) := (blk_cell hXz 3).trans rfl
            have hy4 : wz.cell? ⟨gb, 4, none⟩ = some (.int .i64 e.tick) := (blk_cell hXz 4).trans rfl
            have hf0 := blk_frozen hXz 0
            have hf1 := blk_frozen hXz 1
            have hf2 := blk_frozen hXz 2
            have hf3 := blk_frozen hXz 3
            have hf4 := blk_frozen hXz 4
            (try simp only [Exit.inBlock, Exit.then])
            refine bodyPost_ret (v := .tuple #[.agg #[.int .i64 e.kind, .int .i64 e.task, .int .i64 e.slot, .int .i64 e.epoch, .int .i64 e.tick], .int .i64 2]) ?_ rfl ?_
            · simp only [results, show Tryd.f28.results = #[.cell 2 42, .tmp 3] from rfl]
              go_simp
            · have hq := AN.out
              simp only [numsF, Prod.mk.injEq] at hq
              exact ⟨by rw [HR.out, ← hq.1, ← hq.2]; rfl, hBz⟩
          | cons t' ts' =>
            obtain ⟨lr, er_, hq0, hq1, hq2⟩ := at_Tok (Kd.C_below HCr.out HBr.out) 0 (by omega) (by simp)
            subst er_
            clear hq0 hq1 hq2
            have hc0 : Kd.C kTok wr (some lr) (ts'.length + 1) (t' :: ts') := Kd.C_below HCr.out HBr.out
            have hkd := tok0_kind hc0
            have htx := tok0_text hc0
            clear hc0
            have hl0 : (((t' :: ts').length : Int) == 0) = false := by simp; omega
            have hl1 : (t' :: ts').length = ts'.length + 1 := rfl
            rw [hl1]
            clear hl0 hl1
            have hl0 : (((ts'.length + 1 : Nat) : Int) == 0) = false := beq_eq_false_iff_ne.mpr (by omega)
            have hl2 : ((ts'.length : Int) + 1 == 0) = false := beq_eq_false_iff_ne.mpr (by omega)
            have hl3 : (0 < (ts'.length : Int) + 1) = True := eq_true (by omega)
            by_cases c2 : t'.kind = 2
            · have c2b : (t'.kind != 2) = false := bne_eq_false_iff_eq.mpr c2
              obtain ⟨⟨n, er⟩, hp⟩ : ∃ p_, NumS.parseF (strOfNums t'.text) = p_ := ⟨_, rfl⟩
              have A2 : (if er = 0 then numsF (4 - (1 + 1)) (1 + 1) ts' (setF e 1 n) else (setF e 1 n, er)) = (ef, rf) := by have := AN.out; rw [numsF_cons, if_pos c2, hp] at this; exact this
              have AN1 := Aside0.mk A2
              have HPF := Aside0.mk hp
              clear A2 hp c2
              go_wp2_with fail
              refine (parse_b (strOfNums t'.text) wr n er HPF.out (by have := HTr.out t' (by simp); rw [size_str']; omega)).mono ?_
              rintro e' w8 ⟨rfl, hb8⟩
              have HX8 := Aside0.mk ((hb8.block gb (lt' HXr.out)).trans HXr.out)
              have HP8 := Aside0.mk ((hb8.block _ (lt' HPr.out)).trans HPr.out)
              have HB8 := Aside0.mk (below_step HBr.out hb8)
              clear hb8 hpt hkd htx
              clear hy0 hy1 hy2 hy3 hy4 hf0 hf1 hf2 hf3 hf4
              have hy0 : w8.cell? ⟨gb, 0, none⟩ = some (.int .i64 e.kind) := (blk_cell HX8.out 0).trans rfl
              have hy1 : w8.cell? ⟨gb, 1, none⟩ = some (.int .i64 e.task) := (blk_cell HX8.out 1).trans rfl
              have hy2 : w8.cell? ⟨gb, 2, none⟩ = some (.int .i64 e.slot) := (blk_cell HX8.out 2).trans rfl
              have hy3 : w8.cell? ⟨gb, 3, none⟩ = some (.int .i64 e.epoch) := (blk_cell HX8.out 3).trans rfl
              have hy4 : w8.cell? ⟨gb, 4, none⟩ = some (.int .i64 e.tick) := (blk_cell HX8.out 4).trans rfl
              have hf0 := blk_frozen HX8.out 0
              have hf1 := blk_frozen HX8.out 1
              have hf2 := blk_frozen HX8.out 2
              have hf3 := blk_frozen HX8.out 3
              have hf4 := blk_frozen HX8.out 4
              go_upto_region 11 with fail
              obtain ⟨w9, hw9, hX9, hP9, hB9⟩ : ∃ w9, w9 = w8.setCell ⟨gb, 2, none⟩ (.int .i64 n) ∧ w9.heap[gb]? = some (.cells #[.int .i64 (setF e 1 n).kind, .int .i64 (setF e 1 n).task, .int .i64 (setF e 1 n).slot, .int .i64 (setF e 1 n).epoch, .int .i64 (setF e 1 n).tick] 42 (0, 0)) ∧ w9.heap[w5.heap.size]? = some (.cells #[.pointer (some ⟨gb, 1, none⟩), .pointer (some ⟨gb, 2, none⟩), .pointer (some ⟨gb, 3, none⟩), .pointer (some ⟨gb, 4, none⟩)] 108 (0, 0)) ∧ Below w.heap.size w w9 := ⟨_, rfl, blk_put HX8.out 2 (.int .i64 n) rfl, (Below.heap_setCell w8 ⟨gb, 2, none⟩ (.int .i64 n) _ (Nat.ne_of_gt (lt' HX5.out))).trans HP8.out, below_set HB8.out GE.out⟩
              rw [← hw9]
              have HX9 := Aside0.mk hX9
              have HP9 := Aside0.mk hP9
              have HB9 := Aside0.mk hB9
              clear hw9 hX9 hP9 hB9
              clear hy0 hy1 hy2 hy3 hy4 hf0 hf1 hf2 hf3 hf4
              have hy0 : w9.cell? ⟨gb, 0, none⟩ = some (.int .i64 (setF e 1 n).kind) := (blk_cell HX9.out 0).trans rfl
              have hy1 : w9.cell? ⟨gb, 1, none⟩ = some (.int .i64 (setF e 1 n).task) := (blk_cell HX9.out 1).trans rfl
              have hy2 : w9.cell? ⟨gb, 2, none⟩ = some (.int .i64 (setF e 1 n).slot) := (blk_cell HX9.out 2).trans rfl
              have hy3 : w9.cell? ⟨gb, 3, none⟩ = some (.int .i64 (setF e 1 n).epoch) := (blk_cell HX9.out 3).trans rfl
              have hy4 : w9.cell? ⟨gb, 4, none⟩ = some (.int .i64 (setF e 1 n).tick) := (blk_cell HX9.out 4).trans rfl
              have hf0 := blk_frozen HX9.out 0
              have hf1 := blk_frozen HX9.out 1
              have hf2 := blk_frozen HX9.out 2
              have hf3 := blk_frozen HX9.out 3
              have hf4 := blk_frozen HX9.out 4
              by_cases c3 : er = 0
              · have c3b : (er != 0) = false := bne_eq_false_iff_eq.mpr c3
                have AN2 := AN1.out
                rw [if_pos c3] at AN2
                have AN3 := Aside0.mk AN2
                clear AN2
                subst c3
                obtain ⟨A2, hcut, hC2, hcp2⟩ := drop1 t' ts' (some lr) cp' HCPr.out
                have HC2 := Aside0.mk (hC2 _ HCr.out)
                have HCP2 := Aside0.mk hcp2
                clear hC2 hcp2
                go_wp2
                go_roundg (4 - (1 + 1))
                case measure => have := HGI.out; omega
                case rel => exact ⟨2, A2, cp' - 1, ts', (setF e 1 n), by omega, by omega, rfl, rfl, by first | rfl | (simp; done), HCP2, HC2, HX9, HP9, HB9, AN3, ⟨fun x hx => HTr.out x (List.mem_cons_of_mem _ hx)⟩⟩
              · have c3b : (er != 0) = true := bne_iff_ne.mpr c3
                have AN2_ := AN1.out
                rw [if_neg c3] at AN2_
                have AN2 := Aside0.mk AN2_
                clear AN2_ c3
                go_wp2
                obtain ⟨wz, hwz, hXz, hBz⟩ := set5 (.int .i64 (setF e 1 n).kind) (.int .i64 (setF e 1 n).task) (.int .i64 (setF e 1 n).slot) (.int .i64 (setF e 1 n).epoch) (.int .i64 (setF e 1 n).tick) HX9.out HB9.out GE.out
                rw [← hwz]
                clear hwz
                clear hy0 hy1 hy2 hy3 hy4 hf0 hf1 hf2 hf3 hf4
                have hy0 : wz.cell? ⟨gb, 0, none⟩ = some (.int .i64 (setF e 1 n).kind) := (blk_cell hXz 0).trans rfl
                have hy1 : wz.cell? ⟨gb, 1, none⟩ = some (.int .i64 (setF e 1 n).task) := (blk_cell hXz 1).trans rfl
                have hy2 : wz.cell? ⟨gb, 2, none⟩ = some (.int .i64 (setF e 1 n).slot) := (blk_cell hXz 2).trans rfl
                have hy3 : wz.cell? ⟨gb, 3, none⟩ = some (.int .i64 (setF e 1 n).epoch) := (blk_cell hXz 3).trans rfl
                have hy4 : wz.cell? ⟨gb, 4, none⟩ = some (.int .i64 (setF e 1 n).tick) := (blk_cell hXz 4).trans rfl
                have hf0 := blk_frozen hXz 0
                have hf1 := blk_frozen hXz 1
                have hf2 := blk_frozen hXz 2
                have hf3 := blk_frozen hXz 3
                have hf4 := blk_frozen hXz 4
                (try simp only [Exit.inBlock, Exit.then])
                refine bodyPost_ret (v := .tuple #[.agg #[.int .i64 (setF e 1 n).kind, .int .i64 (setF e 1 n).task, .int .i64 (setF e 1 n).slot, .int .i64 (setF e 1 n).epoch, .int .i64 (setF e 1 n).tick], .int .i64 er]) ?_ rfl ?_
                · simp only [results, show Tryd.f28.results = #[.cell 2 42, .tmp 3] from rfl]
                  go_simp
                · obtain ⟨q1_, q2_⟩ := Prod.mk.inj AN2.out
                  exact ⟨by rw [HR.out, ← q1_, ← q2_]; rfl, hBz⟩
            · have c2b : (t'.kind != 2) = true := bne_iff_ne.mpr c2
              have AN2 : Aside0 ((e, (2 : Int)) = (ef, rf)) := ⟨by have := AN.out; rw [numsF_cons, if_neg c2] at this; exact this⟩
              clear c2
              go_wp2
              obtain ⟨wz, hwz, hXz, hBz⟩ := set5 (.int .i64 e.kind) (.int .i64 e.task) (.int .i64 e.slot) (.int .i64 e.epoch) (.int .i64 e.tick) HXr.out HBr.out GE.out
              rw [← hwz]
              clear hwz
              clear hy0 hy1 hy2 hy3 hy4 hf0 hf1 hf2 hf3 hf4
              have hy0 : wz.cell? ⟨gb, 0, none⟩ = some (.int .i64 e.kind) := (blk_cell hXz 0).trans rfl
              have hy1 : wz.cell? ⟨gb, 1, none⟩ = some (.int .i64 e.task) := (blk_cell hXz 1).trans rfl
              have hy2 : wz.cell? ⟨gb, 2, none⟩ = some (.int .i64 e.slot) := (blk_cell hXz 2).trans rfl
              have hy3 : wz.cell? ⟨gb, 3, none⟩ = some (.int .i64 e.epoch) := (blk_cell hXz 3).trans rfl
              have hy4 : wz.cell? ⟨gb, 4, none⟩ = some (.int .i64 e.tick) := (blk_cell hXz 4).trans rfl
              have hf0 := blk_frozen hXz 0
              have hf1 := blk_frozen hXz 1
              have hf2 := blk_frozen hXz 2
              have hf3 := blk_frozen hXz 3
              have hf4 := blk_frozen hXz 4
              (try simp only [Exit.inBlock, Exit.then])
              refine bodyPost_ret (v := .tuple #[.agg #[.int .i64 e.kind, .int .i64 e.task, .int .i64 e.slot, .int .i64 e.epoch, .int .i64 e.tick], .int .i64 2]) ?_ rfl ?_
              · simp only [results, show Tryd.f28.results = #[.cell 2 42, .tmp 3] from rfl]
                go_simp
              · obtain ⟨q1_, q2_⟩ := Prod.mk.inj AN2.out
                exact ⟨by rw [HR.out, ← q1_, ← q2_]; rfl, hBz⟩
        · replace hs33 : _ = Value.int .i64 2 := hs33
          subst hs33
          have hpt : wr.cell? ⟨w5.heap.size, 2, none⟩ = some (.pointer (some ⟨gb, 3, none⟩)) := (blk_cell HPr.out 2).trans rfl
          have hy0 : wr.cell? ⟨gb, 0, none⟩ = some (.int .i64 e.kind) := (blk_cell HXr.out 0).trans rfl
          have hy1 : wr.cell? ⟨gb, 1, none⟩ = some (.int .i64 e.task) := (blk_cell HXr.out 1).trans rfl
          have hy2 : wr.cell? ⟨gb, 2, none⟩ = some (.int .i64 e.slot) := (blk_cell HXr.out 2).trans rfl
          have hy3 : wr.cell? ⟨gb, 3, none⟩ = some (.int .i64 e.epoch) := (blk_cell HXr.out 3).trans rfl
          have hy4 : wr.cell? ⟨gb, 4, none⟩ = some (.int .i64 e.tick) := (blk_cell HXr.out 4).trans rfl
          have hf0 := blk_frozen HXr.out 0
          have hf1 := blk_frozen HXr.out 1
          have hf2 := blk_frozen HXr.out 2
          have hf3 := blk_frozen HXr.out 3
          have hf4 := blk_frozen HXr.out 4
          cases rest with
          | nil =>
            go_wp2
            obtain ⟨wz, hwz, hXz, hBz⟩ := set5 (.int .i64 e.kind) (.int .i64 e.task) (.int .i64 e.slot) (.int .i64 e.epoch) (.int .i64 e.tick) HXr.out HBr.out GE.out
            rw [← hwz]
            clear hwz
            clear hy0 hy1 hy2 hy3 hy4 hf0 hf1 hf2 hf3 hf4
            have hy0 : wz.cell? ⟨gb, 0, none⟩ = some (.int .i64 e.kind) := (blk_cell hXz 0).trans rfl
            have hy1 : wz.cell? ⟨gb, 1, none⟩ = some (.int .i64 e.task) := (blk_cell hXz 1).trans rfl
            have hy2 : wz.cell? ⟨gb, 2, none⟩ = some (.int .i64 e.slot) := (blk_cell hXz 2).trans rfl
            have hy3 : wz.cell? ⟨gb, 3, none⟩ = some (.int .i64 e.epoch) := (blk_cell hXz 3).trans rfl
            have hy4 : wz.cell? ⟨gb, 4, none⟩ = some (.int .i64 e.tick) := (blk_cell hXz 4).trans rfl
            have hf0 := blk_frozen hXz 0
            have hf1 := blk_frozen hXz 1
            have hf2 := blk_frozen hXz 2
            have hf3 := blk_frozen hXz 3
            have hf4 := blk_frozen hXz 4
            (try simp only [Exit.inBlock, Exit.then])
            refine bodyPost_ret (v := .tuple #[.agg #[.int .i64 e.kind, .int .i64 e.task, .int .i64 e.slot, .int .i64 e.epoch, .int .i64 e.tick], .int .i64 2]) ?_ rfl ?_
            · simp only [results, show Tryd.f28.results = #[.cell 2 42, .tmp 3] from rfl]
              go_simp
            · have hq := AN.out
              simp only [numsF, Prod.mk.injEq] at hq
              exact ⟨by rw [HR.out, ← hq.1, ← hq.2]; rfl, hBz⟩
          | cons t' ts' =>
            obtain ⟨lr, er_, hq0, hq1, hq2⟩ := at_Tok (Kd.C_below HCr.out HBr.out) 0 (by omega) (by simp)
            subst er_
            clear hq0 hq1 hq2
            have hc0 : Kd.C kTok wr (some lr) (ts'.length + 1) (t' :: ts') := Kd.C_below HCr.out HBr.out
            have hkd := tok0_kind hc0
            have htx := tok0_text hc0
            clear hc0
            have hl0 : (((t' :: ts').length : Int) == 0) = false := by simp; omega
            have hl1 : (t' :: ts').length = ts'.length + 1 := rfl
            rw [hl1]
            clear hl0 hl1
            have hl0 : (((ts'.length + 1 : Nat) : Int) == 0) = false := beq_eq_false_iff_ne.mpr (by omega)
            have hl2 : ((ts'.length : Int) + 1 == 0) = false := beq_eq_false_iff_ne.mpr (by omega)
            have hl3 : (0 < (ts'.length : Int) + 1) = True := eq_true (by omega)
            by_cases c2 : t'.kind = 2
            · have c2b : (t'.kind != 2) = false := bne_eq_false_iff_eq.mpr c2
              obtain ⟨⟨n, er⟩, hp⟩ : ∃ p_, NumS.parseF (strOfNums t'.text) = p_ := ⟨_, rfl⟩
              have A2 : (if er = 0 then numsF (4 - (2 + 1)) (2 + 1) ts' (setF e 2 n) else (setF e 2 n, er)) = (ef, rf) := by have := AN.out; rw [numsF_cons, if_pos c2, hp] at this; exact this
              have AN1 := Aside0.mk A2
              have HPF := Aside0.mk hp
              clear A2 hp c2
              go_wp2_with fail
              refine (parse_b (strOfNums t'.text) wr n er HPF.out (by have := HTr.out t' (by simp); rw [size_str']; omega)).mono ?_
              rintro e' w8 ⟨rfl, hb8⟩
              have HX8 := Aside0.mk ((hb8.block gb (lt' HXr.out)).trans HXr.out)
              have HP8 := Aside0.mk ((hb8.block _ (lt' HPr.out)).trans HPr.out)
              have HB8 := Aside0.mk (below_step HBr.out hb8)
              clear hb8 hpt hkd htx
              clear hy0 hy1 hy2 hy3 hy4 hf0 hf1 hf2 hf3 hf4
              have hy0 : w8.cell? ⟨gb, 0, none⟩ = some (.int .i64 e.kind) := (blk_cell HX8.out 0).trans rfl
              have hy1 : w8.cell? ⟨gb, 1, none⟩ = some (.int .i64 e.task) := (blk_cell HX8.out 1).trans rfl
              have hy2 : w8.cell? ⟨gb, 2, none⟩ = some (.int .i64 e.slot) := (blk_cell HX8.out 2).trans rfl
              have hy3 : w8.cell? ⟨gb, 3, none⟩ = some (.int .i64 e.epoch) := (blk_cell HX8.out 3).trans rfl
              have hy4 : w8.cell? ⟨gb, 4, none⟩ = some (.int .i64 e.tick) := (blk_cell HX8.out 4).trans rfl
              have hf0 := blk_frozen HX8.out 0
              have hf1 := blk_frozen HX8.out 1
              have hf2 := blk_frozen HX8.out 2
              have hf3 := blk_frozen HX8.out 3
              have hf4 := blk_frozen HX8.out 4
              go_upto_region 11 with fail
              obtain ⟨w9, hw9, hX9, hP9, hB9⟩ : ∃ w9, w9 = w8.setCell ⟨gb, 3, none⟩ (.int .i64 n) ∧ w9.heap[gb]? = some (.cells #[.int .i64 (setF e 2 n).kind, .int .i64 (setF e 2 n).task, .int .i64 (setF e 2 n).slot, .int .i64 (setF e 2 n).epoch, .int .i64 (setF e 2 n).tick] 42 (0, 0)) ∧ w9.heap[w5.heap.size]? = some (.cells #[.pointer (some ⟨gb, 1, none⟩), .pointer (some ⟨gb, 2, none⟩), .pointer (some ⟨gb, 3, none⟩), .pointer (some ⟨gb, 4, none⟩)] 108 (0, 0)) ∧ Below w.heap.size w w9 := ⟨_, rfl, blk_put HX8.out 3 (.int .i64 n) rfl, (Below.heap_setCell w8 ⟨gb, 3, none⟩ (.int .i64 n) _ (Nat.ne_of_gt (lt' HX5.out))).trans HP8.out, below_set HB8.out GE.out⟩
              rw [← hw9]
              have HX9 := Aside0.mk hX9
              have HP9 := Aside0.mk hP9
              have HB9 := Aside0.mk hB9
              clear hw9 hX9 hP9 hB9
              clear hy0 hy1 hy2 hy3 hy4 hf0 hf1 hf2 hf3 hf4
              have hy0 : w9.cell? ⟨gb, 0, none⟩ = some (.int .i64 (setF e 2 n).kind) := (blk_cell HX9.out 0).trans rfl
              have hy1 : w9.cell? ⟨gb, 1, none⟩ = some (.int .i64 (setF e 2 n).task) := (blk_cell HX9.out 1).trans rfl
              have hy2 : w9.cell? ⟨gb, 2, none⟩ = some (.int .i64 (setF e 2 n).slot) := (blk_cell HX9.out 2).trans rfl
              have hy3 : w9.cell? ⟨gb, 3, none⟩ = some (.int .i64 (setF e 2 n).epoch) := (blk_cell HX9.out 3).trans rfl
              have hy4 : w9.cell? ⟨gb, 4, none⟩ = some (.int .i64 (setF e 2 n).tick) := (blk_cell HX9.out 4).trans rfl
              have hf0 := blk_frozen HX9.out 0
              have hf1 := blk_frozen HX9.out 1
              have hf2 := blk_frozen HX9.out 2
              have hf3 := blk_frozen HX9.out 3
              have hf4 := blk_frozen HX9.out 4
              by_cases c3 : er = 0
              · have c3b : (er != 0) = false := bne_eq_false_iff_eq.mpr c3
                have AN2 := AN1.out
                rw [if_pos c3] at AN2
                have AN3 := Aside0.mk AN2
                clear AN2
                subst c3
                obtain ⟨A2, hcut, hC2, hcp2⟩ := drop1 t' ts' (some lr) cp' HCPr.out
                have HC2 := Aside0.mk (hC2 _ HCr.out)
                have HCP2 := Aside0.mk hcp2
                clear hC2 hcp2
                go_wp2
                go_roundg (4 - (2 + 1))
                case measure => have := HGI.out; omega
                case rel => exact ⟨3, A2, cp' - 1, ts', (setF e 2 n), by omega, by omega, rfl, rfl, by first | rfl | (simp; done), HCP2, HC2, HX9, HP9, HB9, AN3, ⟨fun x hx => HTr.out x (List.mem_cons_of_mem _ hx)⟩⟩
              · have c3b : (er != 0) = true := bne_iff_ne.mpr c3
                have AN2_ := AN1.out
                rw [if_neg c3] at AN2_
                have AN2 := Aside0.mk AN2_
                clear AN2_ c3
                go_wp2
                obtain ⟨wz, hwz, hXz, hBz⟩ := set5 (.int .i64 (setF e 2 n).kind) (.int .i64 (setF e 2 n).task) (.int .i64 (setF e 2 n).slot) (.int .i64 (setF e 2 n).epoch) (.int .i64 (setF e 2 n).tick) HX9.out HB9.out GE.out
                rw [← hwz]
                clear hwz
                clear hy0 hy1 hy2 hy3 hy4 hf0 hf1 hf2 hf3 hf4
                have hy0 : wz.cell? ⟨gb, 0, none⟩ = some (.int .i64 (setF e 2 n).kind) := (blk_cell hXz 0).trans rfl
                have hy1 : wz.cell? ⟨gb, 1, none⟩ = some (.int .i64 (setF e 2 n).task) := (blk_cell hXz 1).trans rfl
                have hy2 : wz.cell? ⟨gb, 2, none⟩ = some (.int .i64 (setF e 2 n).slot) := (blk_cell hXz 2).trans rfl
                have hy3 : wz.cell? ⟨gb, 3, none⟩ = some (.int .i64 (setF e 2 n).epoch) := (blk_cell hXz 3).trans rfl
                have hy4 : wz.cell? ⟨gb, 4, none⟩ = some (.int .i64 (setF e 2 n).tick) := (blk_cell hXz 4).trans rfl
                have hf0 := blk_frozen hXz 0
                have hf1 := blk_frozen hXz 1
                have hf2 := blk_frozen hXz 2
                have hf3 := blk_frozen hXz 3
                have hf4 := blk_frozen hXz 4
                (try simp only [Exit.inBlock, Exit.then])
                refine bodyPost_ret (v := .tuple #[.agg #[.int .i64 (setF e 2 n).kind, .int .i64 (setF e 2 n).task, .int .i64 (setF e 2 n).slot, .int .i64 (setF e 2 n).epoch, .int .i64 (setF e 2 n).tick], .int .i64 er]) ?_ rfl ?_
                · simp only [results, show Tryd.f28.results = #[.cell 2 42, .tmp 3] from rfl]
                  go_simp
                · obtain ⟨q1_, q2_⟩ := Prod.mk.inj AN2.out
                  exact ⟨by rw [HR.out, ← q1_, ← q2_]; rfl, hBz⟩
            · have c2b : (t'.kind != 2) = true := bne_iff_ne.mpr c2
              have AN2 : Aside0 ((e, (2 : Int)) = (ef, rf)) := ⟨by have := AN.out; rw [numsF_cons, if_neg c2] at this; exact this⟩
              clear c2
              go_wp2
              obtain ⟨wz, hwz, hXz, hBz⟩ := set5 (.int .i64 e.kind) (.int .i64 e.task) (.int .i64 e.slot) (.int .i64 e.epoch) (.int .i64 e.tick) HXr.out HBr.out GE.out
              rw [← hwz]
              clear hwz
              clear hy0 hy1 hy2 hy3 hy4 hf0 hf1 hf2 hf3 hf4
              have hy0 : wz.cell? ⟨gb, 0, none⟩ = some (.int .i64 e.kind) := (blk_cell hXz 0).trans rfl
              have hy1 : wz.cell? ⟨gb, 1, none⟩ = some (.int .i64 e.task) := (blk_cell hXz 1).trans rfl
              have hy2 : wz.cell? ⟨gb, 2, none⟩ = some (.int .i64 e.slot) := (blk_cell hXz 2).trans rfl
              have hy3 : wz.cell? ⟨gb, 3, none⟩ = some (.int .i64 e.epoch) := (blk_cell hXz 3).trans rfl
              have hy4 : wz.cell? ⟨gb, 4, none⟩ = some (.int .i64 e.tick) := (blk_cell hXz 4).trans rfl
              have hf0 := blk_frozen hXz 0
              have hf1 := blk_frozen hXz 1
              have hf2 := blk_frozen hXz 2
              have hf3 := blk_frozen hXz 3
              have hf4 := blk_frozen hXz 4
              (try simp only [Exit.inBlock, Exit.then])
              refine bodyPost_ret (v := .tuple #[.agg #[.int .i64 e.kind, .int .i64 e.task, .int .i64 e.slot, .int .i64 e.epoch, .int .i64 e.tick], .int .i64 2]) ?_ rfl ?_
              · simp only [results, show Tryd.f28.results = #[.cell 2 42, .tmp 3] from rfl]
                go_simp
              · obtain ⟨q1_, q2_⟩ := Prod.mk.inj AN2.out
                exact ⟨by rw [HR.out, ← q1_, ← q2_]; rfl, hBz⟩
        · replace hs33 : _ = Value.int .i64 3 := hs33
          subst hs33
          have hpt : wr.cell? ⟨w5.heap.size, 3, none⟩ = some (.pointer (some ⟨gb, 4, none⟩)) := (blk_cell HPr.out 3).trans rfl
          have hy0 : wr.cell? ⟨gb, 0, none⟩ = some (.int .i64 e.kind) := (blk_cell HXr.out 0).trans rfl
          have hy1 : wr.cell? ⟨gb, 1, none⟩ = some (.int .i64 e.task) := (blk_cell HXr.out 1).trans rfl
          have hy2 : wr.cell? ⟨gb, 2, none⟩ = some (.int .i64 e.slot) := (blk_cell HXr.out 2).trans rfl
          have hy3 : wr.cell? ⟨gb, 3, none⟩ = some (.int .i64 e.epoch) := (blk_cell HXr.out 3).trans rfl
          have hy4 : wr.cell? ⟨gb, 4, none⟩ = some (.int .i64 e.tick) := (blk_cell HXr.out 4).trans rfl
          have hf0 := blk_frozen HXr.out 0
          have hf1 := blk_frozen HXr.out 1
          have hf2 := blk_frozen HXr.out 2
          have hf3 := blk_frozen HXr.out 3
          have hf4 := blk_frozen HXr.out 4
          cases rest with
          | nil =>
            go_wp2
            obtain ⟨wz, hwz, hXz, hBz⟩ := set5 (.int .i64 e.kind) (.int .i64 e.task) (.int .i64 e.slot) (.int .i64 e.epoch) (.int .i64 e.tick) HXr.out HBr.out GE.out
            rw [← hwz]
            clear hwz
            clear hy0 hy1 hy2 hy3 hy4 hf0 hf1 hf2 hf3 hf4
            have hy0 : wz.cell? ⟨gb, 0, none⟩ = some (.int .i64 e.kind) := (blk_cell hXz 0).trans rfl
            have hy1 : wz.cell? ⟨gb, 1, none⟩ = some (.int .i64 e.task) := (blk_cell hXz 1).trans rfl
            have hy2 : wz.cell? ⟨gb, 2, none⟩ = some (.int .i64 e.slot) := (blk_cell hXz 2).trans rfl
            have hy3 : wz.cell? ⟨gb, 3, none⟩ = some (.int .i64 e.epoch) := (blk_cell hXz 3).trans rfl
            have hy4 : wz.cell? ⟨gb, 4, none⟩ = some (.int .i64 e.tick) := (blk_cell hXz 4).trans rfl
            have hf0 := blk_frozen hXz 0
            have hf1 := blk_frozen hXz 1
            have hf2 := blk_frozen hXz 2
            have hf3 := blk_frozen hXz 3
            have hf4 := blk_frozen hXz 4
            (try simp only [Exit.inBlock, Exit.then])
            refine bodyPost_ret (v := .tuple #[.agg #[.int .i64 e.kind, .int .i64 e.task, .int .i64 e.slot, .int .i64 e.epoch, .int .i64 e.tick], .int .i64 2]) ?_ rfl ?_
            · simp only [results, show Tryd.f28.results = #[.cell 2 42, .tmp 3] from rfl]
              go_simp
            · have hq := AN.out
              simp only [numsF, Prod.mk.injEq] at hq
              exact ⟨by rw [HR.out, ← hq.1, ← hq.2]; rfl, hBz⟩
          | cons t' ts' =>
            obtain ⟨lr, er_, hq0, hq1, hq2⟩ := at_Tok (Kd.C_below HCr.out HBr.out) 0 (by omega) (by simp)
            subst er_
            clear hq0 hq1 hq2
            have hc0 : Kd.C kTok wr (some lr) (ts'.length + 1) (t' :: ts') := Kd.C_below HCr.out HBr.out
            have hkd := tok0_kind hc0
            have htx := tok0_text hc0
            clear hc0
            have hl0 : (((t' :: ts').length : Int) == 0) = false := by simp; omega
            have hl1 : (t' :: ts').length = ts'.length + 1 := rfl
            rw [hl1]
            clear hl0 hl1
            have hl0 : (((ts'.length + 1 : Nat) : Int) == 0) = false := beq_eq_false_iff_ne.mpr (by omega)
            have hl2 : ((ts'.length : Int) + 1 == 0) = false := beq_eq_false_iff_ne.mpr (by omega)
            have hl3 : (0 < (ts'.length : Int) + 1) = True := eq_true (by omega)
            by_cases c2 : t'.kind = 2
            · have c2b : (t'.kind != 2) = false := bne_eq_false_iff_eq.mpr c2
              obtain ⟨⟨n, er⟩, hp⟩ : ∃ p_, NumS.parseF (strOfNums t'.text) = p_ := ⟨_, rfl⟩
              have A2 : (if er = 0 then numsF (4 - (3 + 1)) (3 + 1) ts' (setF e 3 n) else (setF e 3 n, er)) = (ef, rf) := by have := AN.out; rw [numsF_cons, if_pos c2, hp] at this; exact this
              have AN1 := Aside0.mk A2
              have HPF := Aside0.mk hp
              clear A2 hp c2
              go_wp2_with fail
              refine (parse_b (strOfNums t'.text) wr n er HPF.out (by have := HTr.out t' (by simp); rw [size_str']; omega)).mono ?_
              rintro e' w8 ⟨rfl, hb8⟩
              have HX8 := Aside0.mk ((hb8.block gb (lt' HXr.out)).trans HXr.out)
              have HP8 := Aside0.mk ((hb8.block _ (lt' HPr.out)).trans HPr.out)
              have HB8 := Aside0.mk (below_step HBr.out hb8)
              clear hb8 hpt hkd htx
              clear hy0 hy1 hy2 hy3 hy4 hf0 hf1 hf2 hf3 hf4
              have hy0 : w8.cell? ⟨gb, 0, none⟩ = some (.int .i64 e.kind) := (blk_cell HX8.out 0).trans rfl
              have hy1 : w8.cell? ⟨gb, 1, none⟩ = some (.int .i64 e.task) := (blk_cell HX8.out 1).trans rfl
              have hy2 : w8.cell? ⟨gb, 2, none⟩ = some (.int .i64 e.slot) := (blk_cell HX8.out 2).trans rfl
              have hy3 : w8.cell? ⟨gb, 3, none⟩ = some (.int .i64 e.epoch) := (blk_cell HX8.out 3).trans rfl
              have hy4 : w8.cell? ⟨gb, 4, none⟩ = some (.int .i64 e.tick) := (blk_cell HX8.out 4).trans rfl
              have hf0 := blk_frozen HX8.out 0
              have hf1 := blk_frozen HX8.out 1
              have hf2 := blk_frozen HX8.out 2
              have hf3 := blk_frozen HX8.out 3
              have hf4 := blk_frozen HX8.out 4
              go_upto_region 11 with fail
              obtain ⟨w9, hw9, hX9, hP9, hB9⟩ : ∃ w9, w9 = w8.setCell ⟨gb, 4, none⟩ (.int .i64 n) ∧ w9.heap[gb]? = some (.cells #[.int .i64 (setF e 3 n).kind, .int .i64 (setF e 3 n).task, .int .i64 (setF e 3 n).slot, .int .i64 (setF e 3 n).epoch, .int .i64 (setF e 3 n).tick] 42 (0, 0)) ∧ w9.heap[w5.heap.size]? = some (.cells #[.pointer (some ⟨gb, 1, none⟩), .pointer (some ⟨gb, 2, none⟩), .pointer (some ⟨gb, 3, none⟩), .pointer (some ⟨gb, 4, none⟩)] 108 (0, 0)) ∧ Below w.heap.size w w9 := ⟨_, rfl, blk_put HX8.out 4 (.int .i64 n) rfl, (Below.heap_setCell w8 ⟨gb, 4, none⟩ (.int .i64 n) _ (Nat.ne_of_gt (lt' HX5.out))).trans HP8.out, below_set HB8.out GE.out⟩
              rw [← hw9]
              have HX9 := Aside0.mk hX9
              have HP9 := Aside0.mk hP9
              have HB9 := Aside0.mk hB9
              clear hw9 hX9 hP9 hB9
              clear hy0 hy1 hy2 hy3 hy4 hf0 hf1 hf2 hf3 hf4
              have hy0 : w9.cell? ⟨gb, 0, none⟩ = some (.int .i64 (setF e 3 n).kind) := (blk_cell HX9.out 0).trans rfl
              have hy1 : w9.cell? ⟨gb, 1, none⟩ = some (.int .i64 (setF e 3 n).task) := (blk_cell HX9.out 1).trans rfl
              have hy2 : w9.cell? ⟨gb, 2, none⟩ = some (.int .i64 (setF e 3 n).slot) := (blk_cell HX9.out 2).trans rfl
              have hy3 : w9.cell? ⟨gb, 3, none⟩ = some (.int .i64 (setF e 3 n).epoch) := (blk_cell HX9.out 3).trans rfl
              have hy4 : w9.cell? ⟨gb, 4, none⟩ = some (.int .i64 (setF e 3 n).tick) := (blk_cell HX9.out 4).trans rfl
              have hf0 := blk_frozen HX9.out 0
              have hf1 := blk_frozen HX9.out 1
              have hf2 := blk_frozen HX9.out 2
              have hf3 := blk_frozen HX9.out 3
              have hf4 := blk_frozen HX9.out 4
              by_cases c3 : er = 0
              · have c3b : (er != 0) = false := bne_eq_false_iff_eq.mpr c3
                have AN2 := AN1.out
                rw [if_pos c3] at AN2
                have AN3 := Aside0.mk AN2
                clear AN2
                subst c3
                obtain ⟨A2, hcut, hC2, hcp2⟩ := drop1 t' ts' (some lr) cp' HCPr.out
                have HC2 := Aside0.mk (hC2 _ HCr.out)
                have HCP2 := Aside0.mk hcp2
                clear hC2 hcp2
                go_wp2
                go_roundg (4 - (3 + 1))
                case measure => have := HGI.out; omega
                case rel => exact ⟨4, A2, cp' - 1, ts', (setF e 3 n), by omega, by omega, rfl, rfl, by first | rfl | (simp; done), HCP2, HC2, HX9, HP9, HB9, AN3, ⟨fun x hx => HTr.out x (List.mem_cons_of_mem _ hx)⟩⟩
              · have c3b : (er != 0) = true := bne_iff_ne.mpr c3
                have AN2_ := AN1.out
                rw [if_neg c3] at AN2_
                have AN2 := Aside0.mk AN2_
                clear AN2_ c3
                go_wp2
                obtain ⟨wz, hwz, hXz, hBz⟩ := set5 (.int .i64 (setF e 3 n).kind) (.int .i64 (setF e 3 n).task) (.int .i64 (setF e 3 n).slot) (.int .i64 (setF e 3 n).epoch) (.int .i64 (setF e 3 n).tick) HX9.out HB9.out GE.out
                rw [← hwz]
                clear hwz
                clear hy0 hy1 hy2 hy3 hy4 hf0 hf1 hf2 hf3 hf4
                have hy0 : wz.cell? ⟨gb, 0, none⟩ = some (.int .i64 (setF e 3 n).kind) := (blk_cell hXz 0).trans rfl
                have hy1 : wz.cell? ⟨gb, 1, none⟩ = some (.int .i64 (setF e 3 n).task) := (blk_cell hXz 1).trans rfl
                have hy2 : wz.cell? ⟨gb, 2, none⟩ = some (.int .i64 (setF e 3 n).slot) := (blk_cell hXz 2).trans rfl
                have hy3 : wz.cell? ⟨gb, 3, none⟩ = some (.int .i64 (setF e 3 n).epoch) := (blk_cell hXz 3).trans rfl
                have hy4 : wz.cell? ⟨gb, 4, none⟩ = some (.int .i64 (setF e 3 n).tick) := (blk_cell hXz 4).trans rfl
                have hf0 := blk_frozen hXz 0
                have hf1 := blk_frozen hXz 1
                have hf2 := blk_frozen hXz 2
                have hf3 := blk_frozen hXz 3
                have hf4 := blk_frozen hXz 4
                (try simp only [Exit.inBlock, Exit.then])
                refine bodyPost_ret (v := .tuple #[.agg #[.int .i64 (setF e 3 n).kind, .int .i64 (setF e 3 n).task, .int .i64 (setF e 3 n).slot, .int .i64 (setF e 3 n).epoch, .int .i64 (setF e 3 n).tick], .int .i64 er]) ?_ rfl ?_
                · simp only [results, show Tryd.f28.results = #[.cell 2 42, .tmp 3] from rfl]
                  go_simp
                · obtain ⟨q1_, q2_⟩ := Prod.mk.inj AN2.out
                  exact ⟨by rw [HR.out, ← q1_, ← q2_]; rfl, hBz⟩
            · have c2b : (t'.kind != 2) = true := bne_iff_ne.mpr c2
              have AN2 : Aside0 ((e, (2 : Int)) = (ef, rf)) := ⟨by have := AN.out; rw [numsF_cons, if_neg c2] at this; exact this⟩
              clear c2
              go_wp2
              obtain ⟨wz, hwz, hXz, hBz⟩ := set5 (.int .i64 e.kind) (.int .i64 e.task) (.int .i64 e.slot) (.int .i64 e.epoch) (.int .i64 e.tick) HXr.out HBr.out GE.out
              rw [← hwz]
              clear hwz
              clear hy0 hy1 hy2 hy3 hy4 hf0 hf1 hf2 hf3 hf4
              have hy0 : wz.cell? ⟨gb, 0, none⟩ = some (.int .i64 e.kind) := (blk_cell hXz 0).trans rfl
              have hy1 : wz.cell? ⟨gb, 1, none⟩ = some (.int .i64 e.task) := (blk_cell hXz 1).trans rfl
              have hy2 : wz.cell? ⟨gb, 2, none⟩ = some (.int .i64 e.slot) := (blk_cell hXz 2).trans rfl
              have hy3 : wz.cell? ⟨gb, 3, none⟩ = some (.int .i64 e.epoch) := (blk_cell hXz 3).trans rfl
              have hy4 : wz.cell? ⟨gb, 4, none⟩ = some (.int .i64 e.tick) := (blk_cell hXz 4).trans rfl
              have hf0 := blk_frozen hXz 0
              have hf1 := blk_frozen hXz 1
              have hf2 := blk_frozen hXz 2
              have hf3 := blk_frozen hXz 3
              have hf4 := blk_frozen hXz 4
              (try simp only [Exit.inBlock, Exit.then])
              refine bodyPost_ret (v := .tuple #[.agg #[.int .i64 e.kind, .int .i64 e.task, .int .i64 e.slot, .int .i64 e.epoch, .int .i64 e.tick], .int .i64 2]) ?_ rfl ?_
              · simp only [results, show Tryd.f28.results = #[.cell 2 42, .tmp 3] from rfl]
                go_simp
              · obtain ⟨q1_, q2_⟩ := Prod.mk.inj AN2.out
                exact ⟨by rw [HR.out, ← q1_, ← q2_]; rfl, hBz⟩
        · replace hs33 : _ = Value.int .i64 4 := hs33
          subst hs33
          have hy0 : wr.cell? ⟨gb, 0, none⟩ = some (.int .i64 e.kind) := (blk_cell HXr.out 0).trans rfl
          have hy1 : wr.cell? ⟨gb, 1, none⟩ = some (.int .i64 e.task) := (blk_cell HXr.out 1).trans rfl
          have hy2 : wr.cell? ⟨gb, 2, none⟩ = some (.int .i64 e.slot) := (blk_cell HXr.out 2).trans rfl
          have hy3 : wr.cell? ⟨gb, 3, none⟩ = some (.int .i64 e.epoch) := (blk_cell HXr.out 3).trans rfl
          have hy4 : wr.cell? ⟨gb, 4, none⟩ = some (.int .i64 e.tick) := (blk_cell HXr.out 4).trans rfl
          have hf0 := blk_frozen HXr.out 0
          have hf1 := blk_frozen HXr.out 1
          have hf2 := blk_frozen HXr.out 2
          have hf3 := blk_frozen HXr.out 3
          have hf4 := blk_frozen HXr.out 4
          cases rest with
          | nil =>
            have AN2 : Aside0 ((e, (0 : Int)) = (ef, rf)) := ⟨AN.out⟩
            go_wp2
            obtain ⟨wz, hwz, hXz, hBz⟩ := set5 (.int .i64 e.kind) (.int .i64 e.task) (.int .i64 e.slot) (.int .i64 e.epoch) (.int .i64 e.tick) HXr.out HBr.out GE.out
            rw [← hwz]
            clear hwz
            clear hy0 hy1 hy2 hy3 hy4 hf0 hf1 hf2 hf3 hf4
            have hy0 : wz.cell? ⟨gb, 0, none⟩ = some (.int .i64 e.kind) := (blk_cell hXz 0).trans rfl
            have hy1 : wz.cell? ⟨gb, 1, none⟩ = some (.int .i64 e.task) := (blk_cell hXz 1).trans rfl
            have hy2 : wz.cell? ⟨gb, 2, none⟩ = some (.int .i64 e.slot) := (blk_cell hXz 2).trans rfl
            have hy3 : wz.cell? ⟨gb, 3, none⟩ = some (.int .i64 e.epoch) := (blk_cell hXz 3).trans rfl
            have hy4 : wz.cell? ⟨gb, 4, none⟩ = some (.int .i64 e.tick) := (blk_cell hXz 4).trans rfl
            have hf0 := blk_frozen hXz 0
            have hf1 := blk_frozen hXz 1
            have hf2 := blk_frozen hXz 2
            have hf3 := blk_frozen hXz 3
            have hf4 := blk_frozen hXz 4
            (try simp only [Exit.inBlock, Exit.then])
            refine bodyPost_ret (v := .tuple #[.agg #[.int .i64 e.kind, .int .i64 e.task, .int .i64 e.slot, .int .i64 e.epoch, .int .i64 e.tick], .int .i64 0]) ?_ rfl ?_
            · simp only [results, show Tryd.f28.results = #[.cell 2 42, .tmp 3] from rfl]
              go_simp
            · obtain ⟨q1_, q2_⟩ := Prod.mk.inj AN2.out
              exact ⟨by rw [HR.out, ← q1_, ← q2_]; rfl, hBz⟩
          | cons t' ts' =>
            have hl3 : decide (((t' :: ts').length : Int) > 0) = true := decide_eq_true (by simp)
            have AN2 : Aside0 ((e, (2 : Int)) = (ef, rf)) := ⟨AN.out⟩
            have hl1 : (t' :: ts').length = ts'.length + 1 := rfl
            rw [hl1] at hl3 ⊢
            have hl4 : decide ((ts'.length : Int) + 1 > 0) = true := decide_eq_true (by omega)
            go_wp2
            obtain ⟨wz, hwz, hXz, hBz⟩ := set5 (.int .i64 e.kind) (.int .i64 e.task) (.int .i64 e.slot) (.int .i64 e.epoch) (.int .i64 e.tick) HXr.out HBr.out GE.out
            rw [← hwz]
            clear hwz
            clear hy0 hy1 hy2 hy3 hy4 hf0 hf1 hf2 hf3 hf4
            have hy0 : wz.cell? ⟨gb, 0, none⟩ = some (.int .i64 e.kind) := (blk_cell hXz 0).trans rfl
            have hy1 : wz.cell? ⟨gb, 1, none⟩ = some (.int .i64 e.task) := (blk_cell hXz 1).trans rfl
            have hy2 : wz.cell? ⟨gb, 2, none⟩ = some (.int .i64 e.slot) := (blk_cell hXz 2).trans rfl
            have hy3 : wz.cell? ⟨gb, 3, none⟩ = some (.int .i64 e.epoch) := (blk_cell hXz 3).trans rfl
            have hy4 : wz.cell? ⟨gb, 4, none⟩ = some (.int .i64 e.tick) := (blk_cell hXz 4).trans rfl
            have hf0 := blk_frozen hXz 0
            have hf1 := blk_frozen hXz 1
            have hf2 := blk_frozen hXz 2
            have hf3 := blk_frozen hXz 3
            have hf4 := blk_frozen hXz 4
            (try simp only [Exit.inBlock, Exit.then])
            refine bodyPost_ret (v := .tuple #[.agg #[.int .i64 e.kind, .int .i64 e.task, .int .i64 e.slot, .int .i64 e.epoch, .int .i64 e.tick], .int .i64 2]) ?_ rfl ?_
            · simp only [results, show Tryd.f28.results = #[.cell 2 42, .tmp 3] from rfl]
              go_simp
            · obtain ⟨q1_, q2_⟩ := Prod.mk.inj AN2.out
              exact ⟨by rw [HR.out, ← q1_, ← q2_]; rfl, hBz⟩
  · have c1b : (t.kind != 1) = true := bne_iff_ne.mpr c1
    have HR : Aside0 (eventF (t :: ts) = (firstE t, 2)) := ⟨by rw [eventF_cons, if_neg (fun h => c1 h.1)]⟩
    clear c1
    go_wp2
    obtain ⟨wz, hwz, hXz, hBz⟩ := set5 (.int .i64 (firstE t).kind) (.int .i64 (firstE t).task) (.int .i64 (firstE t).slot) (.int .i64 (firstE t).epoch) (.int .i64 (firstE t).tick) HX4.out HB4.out GE.out
    rw [← hwz]
    clear hwz
    clear hy0 hy1 hy2 hy3 hy4 hf0 hf1 hf2 hf3 hf4
    have hy0 : wz.cell? ⟨gb, 0, none⟩ = some (.int .i64 (firstE t).kind) := (blk_cell hXz 0).trans rfl
    have hy1 : wz.cell? ⟨gb, 1, none⟩ = some (.int .i64 (firstE t).task) := (blk_cell hXz 1).trans rfl
    have hy2 : wz.cell? ⟨gb, 2, none⟩ = some (.int .i64 (firstE t).slot) := (blk_cell hXz 2).trans rfl
    have hy3 : wz.cell? ⟨gb, 3, none⟩ = some (.int .i64 (firstE t).epoch) := (blk_cell hXz 3).trans rfl
    have hy4 : wz.cell? ⟨gb, 4, none⟩ = some (.int .i64 (firstE t).tick) := (blk_cell hXz 4).trans rfl
    have hf0 := blk_frozen hXz 0
    have hf1 := blk_frozen hXz 1
    have hf2 := blk_frozen hXz 2
    have hf3 := blk_frozen hXz 3
    have hf4 := blk_frozen hXz 4
    (try simp only [Exit.inBlock, Exit.then])
    refine bodyPost_ret (v := .tuple #[.agg #[.int .i64 (firstE t).kind, .int .i64 (firstE t).task, .int .i64 (firstE t).slot, .int .i64 (firstE t).epoch, .int .i64 (firstE t).tick], .int .i64 2]) ?_ rfl ?_
    · simp only [results, show Tryd.f28.results = #[.cell 2 42, .tmp 3] from rfl]
      go_simp
    · exact ⟨by rw [HR.out]; rfl, hBz⟩
end Go.Proofs.YtckcepmkfegkiaaDoor.TrV
