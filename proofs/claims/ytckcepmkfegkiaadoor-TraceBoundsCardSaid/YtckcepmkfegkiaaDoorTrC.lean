/- The walks of the ends of attempts. No condition. -/
import Derived.Test.YtckcepmkfegkiaaDoorTrA
namespace Go.Proofs.YtckcepmkfegkiaaDoor.TrC
open Go.RowKit Go.Proofs.YtckcepmkfegkiaaDoorW.PrintWords Go.Proofs.YtckcepmkfegkiaaDoorW.PrintLast TrS TrA
set_option linter.unusedVariables false
set_option linter.unusedSimpArgs false
def AI (w0 W : World) (g : Nat) (ad : Addr) (c : Cf) (kA : Option Addr) (kn kc : Nat) (ts : List Tk) (tick : Int) : Prop :=
  Aud W g ad c kA kn kc ts tick ∧ Below w0.heap.size w0 W ∧ w0.heap.size ≤ g ∧ w0.heap.size ≤ ad.block
section
variable {w0 W W1 : World} {g : Nat} {ad : Addr} {c : Cf} {kA : Option Addr} {kn kc : Nat} {ts : List Tk} {tick : Int}
theorem AI.below (h : AI w0 W g ad c kA kn kc ts tick) (hb : Below W.heap.size W W1) : AI w0 W1 g ad c kA kn kc ts tick := ⟨h.1.below hb, below_step h.2.1 hb, h.2.2⟩
theorem AI.drewN (h : AI w0 W g ad c kA kn kc ts tick) (n : Nat) : AI w0 (W.drewN n) g ad c kA kn kc ts tick := ⟨h.1, pw_below_drewN h.2.1 n, h.2.2⟩
theorem add_parts (ad : Addr) (h1 : ad.off = 0) (h2 : ad.spot = none) (k j : Nat) : (⟨(ad.add k).block, (ad.add k).off + j, none⟩ : Addr) = ⟨ad.block, k + j, none⟩ := by
  obtain ⟨b, o, p⟩ := ad
  simp only at h1 h2
  subst h1
  subst h2
  rw [add_plain]
theorem add_zero' (ad : Addr) (h1 : ad.off = 0) (h2 : ad.spot = none) (k : Nat) : ad.add k = ⟨ad.block, k, none⟩ := by
  obtain ⟨b, o, p⟩ := ad
  simp only at h1 h2
  subst h1
  subst h2
  rw [add_plain]
theorem AI.put (h : AI w0 W g ad c kA kn kc ts tick) (i : Int) (h0 : 0 ≤ i) (h1 : i < ts.length) (j : Nat) (hj : j < 10) (v : Value) (t' : Tk) (he : (tkC (getT ts i)).set j v = tkC t') : AI w0 (W.setCell ⟨ad.block, i.toNat * 10 + j, none⟩ v) g ad c kA kn kc (setT ts i t') tick := by
  obtain ⟨⟨a1, a2, a3, a4, a5, a6⟩, b, c1, c2⟩ := h
  have hl : (setT ts i t').length = ts.length := by simp [setT]
  refine ⟨⟨?_, a2, a3, a4, ?_, by rw [hl]; exact a6⟩, below_set b c2, c1, c2⟩
  · rw [hl]
    exact (Below.heap_setCell W ⟨ad.block, i.toNat * 10 + j, none⟩ v g (fun e => a4 e.symm)).trans a1
  · refine blk_put a5 _ _ ?_
    have hi : i.toNat < ts.length := by omega
    have := flat_set ts i.toNat j v t' hi hj he
    apply Array.ext'
    simp only [Array.toList_setIfInBounds, setT]
    exact this
theorem AI.put_j (h : AI w0 W g ad c kA kn kc ts tick) (i : Int) (h0 : 0 ≤ i) (h1 : i < ts.length) (j : Nat) (hj : j < 10) (v : Value) (t' : Tk) (he : (tkC (getT ts i)).set j v = tkC t') : AI w0 (W.setCell ⟨(ad.add (i.toNat * 10)).block, (ad.add (i.toNat * 10)).off + j, none⟩ v) g ad c kA kn kc (setT ts i t') tick := by
  rw [add_parts ad h.1.2.1 h.1.2.2.1]
  exact h.put i h0 h1 j hj v t' he
theorem AI.put_0 (h : AI w0 W g ad c kA kn kc ts tick) (i : Int) (h0 : 0 ≤ i) (h1 : i < ts.length) (v : Value) (t' : Tk) (he : (tkC (getT ts i)).set 0 v = tkC t') : AI w0 (W.setCell (ad.add (i.toNat * 10)) v) g ad c kA kn kc (setT ts i t') tick := by
  rw [add_zero' ad h.1.2.1 h.1.2.2.1]
  exact h.put i h0 h1 0 (by omega) v t' he
theorem AI.setTick (h : AI w0 W g ad c kA kn kc ts tick) (x : Int) : AI w0 (W.setCell ⟨g, 12, none⟩ (.int .i64 x)) g ad c kA kn kc ts x := by
  obtain ⟨⟨a1, a2, a3, a4, a5, a6⟩, b, c1, c2⟩ := h
  refine ⟨⟨blk_put a1 12 (.int .i64 x) rfl, a2, a3, a4, ?_, a6⟩, below_set b c1, c1, c2⟩
  exact (Below.heap_setCell W ⟨g, 12, none⟩ (.int .i64 x) ad.block a4).trans a5
theorem get_set (ts : List Tk) (i : Int) (t : Tk) (h0 : 0 ≤ i) (h1 : i < ts.length) : getT (setT ts i t) i = t := by
  have hi : i.toNat < ts.length := by omega
  simp [getT, setT, List.getD_eq_getElem?_getD, hi]
theorem set_set (ts : List Tk) (i : Int) (t u : Tk) : setT (setT ts i t) i u = setT ts i u := by simp [setT]
end
set_option maxHeartbeats 2000000 in
set_option maxRecDepth 100000 in
theorem does_calls (w0 : World) (g : Nat) (ad : Addr) (c : Cf) (kA : Option Addr) (kn kc : Nat) (ts : List Tk) (tick : Int) (e : Ev) (w : World) (h : AI w0 w g ad c kA kn kc ts tick) (h0 : 0 ≤ e.task) (h1 : e.task < ts.length) : Calls Tryd.prog 95 #[.pointer (some ⟨g, 0, none⟩), .agg #[.int .i64 e.kind, .int .i64 e.task, .int .i64 e.slot, .int .i64 e.epoch, .int .i64 e.tick]] w fun x w' => x = .returned (.int .i64 0) ∧ AI w0 w' g ad c kA kn kc (setT ts e.task { getT ts e.task with done := true }) tick := by
  have HI := Aside0.mk h
  clear h
  have p1 : (0 ≤ e.task) = True := eq_true h0
  have q1 : (e.task < (ts.length : Int)) = True := eq_true h1
  have P1 := Aside0.mk h0
  have Q1 := Aside0.mk h1
  clear h0 h1
  go_enter Tryd.func95, Tryd.ntmps95
  go_upto_region 1 with (first | ((with_reducible refine gate_dst (N := 3) rfl ?_); (try (refine gate_guard (by rfl) ?_; dsimp only)); refine box_event ?hg (N := 3) ?hd (cs := #[.int .i64 e.kind, .int .i64 e.task, .int .i64 e.slot, .int .i64 e.epoch, .int .i64 e.tick]) (t := 42) ?hr ?_; (case hd => rfl); (case hg => rfl); (case hr => first | (go_simp; done) | (go_simp; rfl)); intro gb hg w1 hbox hb; have hk0 : w1.cell? ⟨gb, 0, none⟩ = some (.int .i64 e.kind) := (blk_cell hbox 0).trans rfl; have hk1 : w1.cell? ⟨gb, 1, none⟩ = some (.int .i64 e.task) := (blk_cell hbox 1).trans rfl; have hk2 : w1.cell? ⟨gb, 2, none⟩ = some (.int .i64 e.slot) := (blk_cell hbox 2).trans rfl; have hk3 : w1.cell? ⟨gb, 3, none⟩ = some (.int .i64 e.epoch) := (blk_cell hbox 3).trans rfl; have hk4 : w1.cell? ⟨gb, 4, none⟩ = some (.int .i64 e.tick) := (blk_cell hbox 4).trans rfl; have HBX := Aside0.mk hbox; have HB := Aside0.mk hb; have GE := Aside0.mk (Nat.le_of_eq hg.symm); have HI1 := Aside0.mk (HI.out.below hb); obtain ⟨ha0, ha1, ha4, ha5, ha6, ha10, ha11, ha12, hf12⟩ := HI1.out.1.cells; obtain ⟨⟨ht0, hf0⟩, ⟨ht1, hf1⟩, ⟨ht2, hf2⟩, ⟨ht3, hf3⟩, ⟨ht4, hf4⟩, ⟨ht5, hf5⟩, ⟨ht6, hf6⟩, ⟨ht7, hf7⟩, ⟨ht8, hf8⟩, ⟨ht9, hf9⟩⟩ := HI1.out.1.task e.task P1.out Q1.out; clear hbox hb hg))
  have hd2 : (w1.drew).cell? ⟨(ad.add (e.task.toNat * 10)).block, (ad.add (e.task.toNat * 10)).off + 2, none⟩ = some (.bool (getT ts e.task).done) := ht2
  have he2 : (w1.drew).frozen? ⟨(ad.add (e.task.toNat * 10)).block, (ad.add (e.task.toNat * 10)).off + 2, none⟩ = false := hf2
  refine start_ (n := 9) (S := fun w' => w'.cell? ⟨gb, 1, none⟩ = some (.int .i64 e.task) ∧ w'.cell? ⟨g, 11, none⟩ = some (.slice (some ad) ts.length ts.length)) (ds := [8]) #[false, false, false, false, false, false, false, false, false] (by kernel_rfl) rfl rfl ⟨hk1, ha11⟩ (fun hHeld => ?_)
  refine pure_ (i := 0) (N := some 5) (v := ?_) (a' := ?_) #[true, false, false, false, false, false, false, false, false] rfl rfl (by kernel_rfl) (fun _ _ _ h => h) (Or.inl ⟨by rfl, ?_⟩) ?_ ?_
  rotate_left
  · intro w'
    go_simp
    with_reducible rfl
  rotate_left
  · simp only [Act.put, List.setIfInBounds_toArray, List.set_cons_zero, List.set_cons_succ, i64_w, i32_w]
    rfl
  refine pure_ (i := 1) (N := some 6) (v := ?_) (a' := ?_) #[true, true, false, false, false, false, false, false, false] rfl rfl (by kernel_rfl) (fun _ _ _ h => h) (Or.inl ⟨by rfl, ?_⟩) ?_ ?_
  rotate_left
  · intro w'
    go_simp
    with_reducible rfl
  rotate_left
  · simp only [Act.put, List.setIfInBounds_toArray, List.set_cons_zero, List.set_cons_succ, i64_w, i32_w]
    rfl
  refine pure_ (i := 2) (N := some 7) (v := ?_) (a' := ?_) #[true, true, true, false, false, false, false, false, false] rfl rfl (by kernel_rfl) (fun _ _ _ h => h) (Or.inl ⟨by rfl, ?_⟩) ?_ ?_
  rotate_left
  · intro w'
    go_simp
    with_reducible rfl
  rotate_left
  · simp only [Act.put, List.setIfInBounds_toArray, List.set_cons_zero, List.set_cons_succ, i64_w, i32_w]
    rfl
  refine pure_ (i := 4) (N := some 9) (v := ?_) (a' := ?_) #[true, true, true, false, true, false, false, false, false] rfl rfl (by kernel_rfl) (fun _ _ _ h => h) (Or.inl ⟨by rfl, ?_⟩) ?_ ?_
  rotate_left
  · intro w'
    go_simp
    with_reducible rfl
  rotate_left
  · simp only [Act.put, List.setIfInBounds_toArray, List.set_cons_zero, List.set_cons_succ, i64_w, i32_w]
    rfl
  refine take_ (i := 3) (N := some 8) (v := ?_) (a' := ?_) #[true, true, true, true, true, false, false, false, false] rfl rfl (by kernel_rfl) (fun _ _ _ h => h) (Or.inl ⟨by rfl, ?_⟩) hHeld ?_ ?_
  rotate_left
  · rintro w' ⟨s0, s1⟩
    go_simp
    with_reducible rfl
  rotate_left
  · simp only [Act.put, List.setIfInBounds_toArray, List.set_cons_zero, List.set_cons_succ, i64_w, i32_w]
    rfl
  refine take_ (i := 5) (N := some 10) (v := ?_) (a' := ?_) #[true, true, true, true, true, true, false, false, false] rfl rfl (by kernel_rfl) (fun _ _ _ h => h) (Or.inl ⟨by rfl, ?_⟩) hHeld ?_ ?_
  rotate_left
  · rintro w' ⟨s0, s1⟩
    go_simp
    with_reducible rfl
  rotate_left
  · simp only [Act.put, List.setIfInBounds_toArray, List.set_cons_zero, List.set_cons_succ, i64_w, i32_w]
    rfl
  refine pure_ (i := 6) (N := some 11) (v := ?_) (a' := ?_) #[true, true, true, true, true, true, true, false, false] rfl rfl (by kernel_rfl) (fun _ _ _ h => h) (Or.inl ⟨by rfl, ?_⟩) ?_ ?_
  rotate_left
  · intro w'
    go_simp
    with_reducible rfl
  rotate_left
  · simp only [Act.put, List.setIfInBounds_toArray, List.set_cons_zero, List.set_cons_succ, i64_w, i32_w]
    rfl
  refine pure_ (i := 7) (N := some 12) (v := ?_) (a' := ?_) #[true, true, true, true, true, true, true, true, false] rfl rfl (by kernel_rfl) (fun _ _ _ h => h) (Or.inl ⟨by rfl, ?_⟩) ?_ ?_
  rotate_left
  · intro w'
    go_simp
    with_reducible rfl
  rotate_left
  · simp only [Act.put, List.setIfInBounds_toArray, List.set_cons_zero, List.set_cons_succ, i64_w, i32_w]
    rfl
  refine last_ (i := 8) (N := none) #[true, true, true, true, true, true, true, true, true] rfl rfl (by kernel_rfl) (by decide) (fun K hK => ?_)
  refine skip_ (w1 := ?_) (by rfl) rfl ?_ ?_
  rotate_left
  · go_simp
    rfl
  refine hK.out _ _ ?_
  clear hK K
  refine done_ (by kernel_rfl) ?_
  go_wp2
  go_ret
  exact ⟨rfl, (HI1.out.drewN 1).put_j e.task P1.out Q1.out 2 (by omega) _ _ rfl⟩
set_option maxHeartbeats 2000000 in
set_option maxRecDepth 100000 in
theorem fails_calls (w0 : World) (g : Nat) (ad : Addr) (c : Cf) (kA : Option Addr) (kn kc : Nat) (ts : List Tk) (tick : Int) (e : Ev) (w : World) (h : AI w0 w g ad c kA kn kc ts tick) (h0 : 0 ≤ e.task) (h1 : e.task < ts.length) : Calls Tryd.prog 96 #[.pointer (some ⟨g, 0, none⟩), .agg #[.int .i64 e.kind, .int .i64 e.task, .int .i64 e.slot, .int .i64 e.epoch, .int .i64 e.tick]] w fun x w' => x = .returned (.int .i64 0) ∧ AI w0 w' g ad c kA kn kc (setT ts e.task { getT ts e.task with fails := wrap ((getT ts e.task).fails + 1) }) tick := by
  have HI := Aside0.mk h
  clear h
  have p1 : (0 ≤ e.task) = True := eq_true h0
  have q1 : (e.task < (ts.length : Int)) = True := eq_true h1
  have P1 := Aside0.mk h0
  have Q1 := Aside0.mk h1
  clear h0 h1
  go_enter Tryd.func96, Tryd.ntmps96
  go_upto_region 1 with (first | ((with_reducible refine gate_dst (N := 3) rfl ?_); (try (refine gate_guard (by rfl) ?_; dsimp only)); refine box_event ?hg (N := 3) ?hd (cs := #[.int .i64 e.kind, .int .i64 e.task, .int .i64 e.slot, .int .i64 e.epoch, .int .i64 e.tick]) (t := 42) ?hr ?_; (case hd => rfl); (case hg => rfl); (case hr => first | (go_simp; done) | (go_simp; rfl)); intro gb hg w1 hbox hb; have hk0 : w1.cell? ⟨gb, 0, none⟩ = some (.int .i64 e.kind) := (blk_cell hbox 0).trans rfl; have hk1 : w1.cell? ⟨gb, 1, none⟩ = some (.int .i64 e.task) := (blk_cell hbox 1).trans rfl; have hk2 : w1.cell? ⟨gb, 2, none⟩ = some (.int .i64 e.slot) := (blk_cell hbox 2).trans rfl; have hk3 : w1.cell? ⟨gb, 3, none⟩ = some (.int .i64 e.epoch) := (blk_cell hbox 3).trans rfl; have hk4 : w1.cell? ⟨gb, 4, none⟩ = some (.int .i64 e.tick) := (blk_cell hbox 4).trans rfl; have HBX := Aside0.mk hbox; have HB := Aside0.mk hb; have GE := Aside0.mk (Nat.le_of_eq hg.symm); have HI1 := Aside0.mk (HI.out.below hb); obtain ⟨ha0, ha1, ha4, ha5, ha6, ha10, ha11, ha12, hf12⟩ := HI1.out.1.cells; obtain ⟨⟨ht0, hf0⟩, ⟨ht1, hf1⟩, ⟨ht2, hf2⟩, ⟨ht3, hf3⟩, ⟨ht4, hf4⟩, ⟨ht5, hf5⟩, ⟨ht6, hf6⟩, ⟨ht7, hf7⟩, ⟨ht8, hf8⟩, ⟨ht9, hf9⟩⟩ := HI1.out.1.task e.task P1.out Q1.out; clear hbox hb hg))
  have hd8 : (w1.drew).cell? ⟨(ad.add (e.task.toNat * 10)).block, (ad.add (e.task.toNat * 10)).off + 8, none⟩ = some (.int .i64 (getT ts e.task).fails) := ht8
  have he8 : (w1.drew).frozen? ⟨(ad.add (e.task.toNat * 10)).block, (ad.add (e.task.toNat * 10)).off + 8, none⟩ = false := hf8
  refine start_ (n := 13) (S := fun w' => w'.cell? ⟨gb, 1, none⟩ = some (.int .i64 e.task) ∧ w'.cell? ⟨g, 11, none⟩ = some (.slice (some ad) ts.length ts.length) ∧ w'.cell? ⟨(ad.add (e.task.toNat * 10)).block, (ad.add (e.task.toNat * 10)).off + 8, none⟩ = some (.int .i64 (getT ts e.task).fails)) (ds := [12]) #[false, false, false, false, false, false, false, false, false, false, false, false, false] (by kernel_rfl) rfl rfl ⟨hk1, ha11, ht8⟩ (fun hHeld => ?_)
  refine pure_ (i := 0) (N := some 5) (v := ?_) (a' := ?_) #[true, false, false, false, false, false, false, false, false, false, false, false, false] rfl rfl (by kernel_rfl) (fun _ _ _ h => h) (Or.inl ⟨by rfl, ?_⟩) ?_ ?_
  rotate_left
  · intro w'
    go_simp
    with_reducible rfl
  rotate_left
  · simp only [Act.put, List.setIfInBounds_toArray, List.set_cons_zero, List.set_cons_succ, i64_w, i32_w]
    rfl
  refine pure_ (i := 1) (N := some 6) (v := ?_) (a' := ?_) #[true, true, false, false, false, false, false, false, false, false, false, false, false] rfl rfl (by kernel_rfl) (fun _ _ _ h => h) (Or.inl ⟨by rfl, ?_⟩) ?_ ?_
  rotate_left
  · intro w'
    go_simp
    with_reducible rfl
  rotate_left
  · simp only [Act.put, List.setIfInBounds_toArray, List.set_cons_zero, List.set_cons_succ, i64_w, i32_w]
    rfl
  refine pure_ (i := 2) (N := some 7) (v := ?_) (a' := ?_) #[true, true, true, false, false, false, false, false, false, false, false, false, false] rfl rfl (by kernel_rfl) (fun _ _ _ h => h) (Or.inl ⟨by rfl, ?_⟩) ?_ ?_
  rotate_left
  · intro w'
    go_simp
    with_reducible rfl
  rotate_left
  · simp only [Act.put, List.setIfInBounds_toArray, List.set_cons_zero, List.set_cons_succ, i64_w, i32_w]
    rfl
  refine pure_ (i := 4) (N := some 9) (v := ?_) (a' := ?_) #[true, true, true, false, true, false, false, false, false, false, false, false, false] rfl rfl (by kernel_rfl) (fun _ _ _ h => h) (Or.inl ⟨by rfl, ?_⟩) ?_ ?_
  rotate_left
  · intro w'
    go_simp
    with_reducible rfl
  rotate_left
  · simp only [Act.put, List.setIfInBounds_toArray, List.set_cons_zero, List.set_cons_succ, i64_w, i32_w]
    rfl
  refine take_ (i := 3) (N := some 8) (v := ?_) (a' := ?_) #[true, true, true, true, true, false, false, false, false, false, false, false, false] rfl rfl (by kernel_rfl) (fun _ _ _ h => h) (Or.inl ⟨by rfl, ?_⟩) hHeld ?_ ?_
  rotate_left
  · rintro w' ⟨s0, s1, s2⟩
    go_simp
    with_reducible rfl
  rotate_left
  · simp only [Act.put, List.setIfInBounds_toArray, List.set_cons_zero, List.set_cons_succ, i64_w, i32_w]
    rfl
  refine take_ (i := 5) (N := some 10) (v := ?_) (a' := ?_) #[true, true, true, true, true, true, false, false, false, false, false, false, false] rfl rfl (by kernel_rfl) (fun _ _ _ h => h) (Or.inl ⟨by rfl, ?_⟩) hHeld ?_ ?_
  rotate_left
  · rintro w' ⟨s0, s1, s2⟩
    go_simp
    with_reducible rfl
  rotate_left
  · simp only [Act.put, List.setIfInBounds_toArray, List.set_cons_zero, List.set_cons_succ, i64_w, i32_w]
    rfl
  refine pure_ (i := 6) (N := some 11) (v := ?_) (a' := ?_) #[true, true, true, true, true, true, true, false, false, false, false, false, false] rfl rfl (by kernel_rfl) (fun _ _ _ h => h) (Or.inl ⟨by rfl, ?_⟩) ?_ ?_
  rotate_left
  · intro w'
    go_simp
    with_reducible rfl
  rotate_left
  · simp only [Act.put, List.setIfInBounds_toArray, List.set_cons_zero, List.set_cons_succ, i64_w, i32_w]
    rfl
  refine pure_ (i := 7) (N := some 12) (v := ?_) (a' := ?_) #[true, true, true, true, true, true, true, true, false, false, false, false, false] rfl rfl (by kernel_rfl) (fun _ _ _ h => h) (Or.inl ⟨by rfl, ?_⟩) ?_ ?_
  rotate_left
  · intro w'
    go_simp
    with_reducible rfl
  rotate_left
  · simp only [Act.put, List.setIfInBounds_toArray, List.set_cons_zero, List.set_cons_succ, i64_w, i32_w]
    rfl
  refine take_ (i := 8) (N := some 13) (v := ?_) (a' := ?_) #[true, true, true, true, true, true, true, true, true, false, false, false, false] rfl rfl (by kernel_rfl) (fun _ _ _ h => h) (Or.inl ⟨by rfl, ?_⟩) hHeld ?_ ?_
  rotate_left
  · rintro w' ⟨s0, s1, s2⟩
    go_simp
    with_reducible rfl
  rotate_left
  · simp only [Act.put, List.setIfInBounds_toArray, List.set_cons_zero, List.set_cons_succ, i64_w, i32_w]
    rfl
  refine pure_ (i := 9) (N := some 14) (v := ?_) (a' := ?_) #[true, true, true, true, true, true, true, true, true, true, false, false, false] rfl rfl (by kernel_rfl) (fun _ _ _ h => h) (Or.inl ⟨by rfl, ?_⟩) ?_ ?_
  rotate_left
  · intro w'
    go_simp
    with_reducible rfl
  rotate_left
  · simp only [Act.put, List.setIfInBounds_toArray, List.set_cons_zero, List.set_cons_succ, i64_w, i32_w]
    rfl
  refine pure_ (i := 10) (N := some 15) (v := ?_) (a' := ?_) #[true, true, true, true, true, true, true, true, true, true, true, false, false] rfl rfl (by kernel_rfl) (fun _ _ _ h => h) (Or.inl ⟨by rfl, ?_⟩) ?_ ?_
  rotate_left
  · intro w'
    go_simp
    with_reducible rfl
  rotate_left
  · simp only [Act.put, List.setIfInBounds_toArray, List.set_cons_zero, List.set_cons_succ, i64_w, i32_w]
    rfl
  refine pure_ (i := 11) (N := some 16) (v := ?_) (a' := ?_) #[true, true, true, true, true, true, true, true, true, true, true, true, false] rfl rfl (by kernel_rfl) (fun _ _ _ h => h) (Or.inl ⟨by rfl, ?_⟩) ?_ ?_
  rotate_left
  · intro w'
    go_simp
    with_reducible rfl
  rotate_left
  · simp only [Act.put, List.setIfInBounds_toArray, List.set_cons_zero, List.set_cons_succ, i64_w, i32_w]
    rfl
  refine last_ (i := 12) (N := none) #[true, true, true, true, true, true, true, true, true, true, true, true, true] rfl rfl (by kernel_rfl) (by decide) (fun K hK => ?_)
  refine skip_ (w1 := ?_) (by rfl) rfl ?_ ?_
  rotate_left
  · go_simp
    rfl
  refine hK.out _ _ ?_
  clear hK K
  refine done_ (by kernel_rfl) ?_
  go_wp2
  go_ret
  exact ⟨rfl, (HI1.out.drewN 1).put_j e.task P1.out Q1.out 8 (by omega) _ _ rfl⟩
set_option maxHeartbeats 2000000 in
set_option maxRecDepth 100000 in
theorem needs_calls (w0 : World) (g : Nat) (ad : Addr) (c : Cf) (kA : Option Addr) (kn kc : Nat) (ts : List Tk) (tick : Int) (e : Ev) (w : World) (h : AI w0 w g ad c kA kn kc ts tick) (h0 : 0 ≤ e.task) (h1 : e.task < ts.length) : Calls Tryd.prog 97 #[.pointer (some ⟨g, 0, none⟩), .agg #[.int .i64 e.kind, .int .i64 e.task, .int .i64 e.slot, .int .i64 e.epoch, .int .i64 e.tick]] w fun x w' => x = .returned (.int .i64 0) ∧ AI w0 w' g ad c kA kn kc (ts) tick := by
  have HI := Aside0.mk h
  clear h
  have p1 : (0 ≤ e.task) = True := eq_true h0
  have q1 : (e.task < (ts.length : Int)) = True := eq_true h1
  have P1 := Aside0.mk h0
  have Q1 := Aside0.mk h1
  clear h0 h1
  go_enter Tryd.func97, Tryd.ntmps97
  go_upto_region 1 with (first | ((with_reducible refine gate_dst (N := 3) rfl ?_); (try (refine gate_guard (by rfl) ?_; dsimp only)); refine box_event ?hg (N := 3) ?hd (cs := #[.int .i64 e.kind, .int .i64 e.task, .int .i64 e.slot, .int .i64 e.epoch, .int .i64 e.tick]) (t := 42) ?hr ?_; (case hd => rfl); (case hg => rfl); (case hr => first | (go_simp; done) | (go_simp; rfl)); intro gb hg w1 hbox hb; have hk0 : w1.cell? ⟨gb, 0, none⟩ = some (.int .i64 e.kind) := (blk_cell hbox 0).trans rfl; have hk1 : w1.cell? ⟨gb, 1, none⟩ = some (.int .i64 e.task) := (blk_cell hbox 1).trans rfl; have hk2 : w1.cell? ⟨gb, 2, none⟩ = some (.int .i64 e.slot) := (blk_cell hbox 2).trans rfl; have hk3 : w1.cell? ⟨gb, 3, none⟩ = some (.int .i64 e.epoch) := (blk_cell hbox 3).trans rfl; have hk4 : w1.cell? ⟨gb, 4, none⟩ = some (.int .i64 e.tick) := (blk_cell hbox 4).trans rfl; have HBX := Aside0.mk hbox; have HB := Aside0.mk hb; have GE := Aside0.mk (Nat.le_of_eq hg.symm); have HI1 := Aside0.mk (HI.out.below hb); obtain ⟨ha0, ha1, ha4, ha5, ha6, ha10, ha11, ha12, hf12⟩ := HI1.out.1.cells; obtain ⟨⟨ht0, hf0⟩, ⟨ht1, hf1⟩, ⟨ht2, hf2⟩, ⟨ht3, hf3⟩, ⟨ht4, hf4⟩, ⟨ht5, hf5⟩, ⟨ht6, hf6⟩, ⟨ht7, hf7⟩, ⟨ht8, hf8⟩, ⟨ht9, hf9⟩⟩ := HI1.out.1.task e.task P1.out Q1.out; clear hbox hb hg))
  go_wp2
  go_ret
  exact ⟨rfl, HI1.out⟩
set_option maxHeartbeats 2000000 in
set_option maxRecDepth 100000 in
theorem late_calls (w0 : World) (g : Nat) (ad : Addr) (c : Cf) (kA : Option Addr) (kn kc : Nat) (ts : List Tk) (tick : Int) (e : Ev) (w : World) (h : AI w0 w g ad c kA kn kc ts tick) (h0 : 0 ≤ e.task) (h1 : e.task < ts.length) : Calls Tryd.prog 98 #[.pointer (some ⟨g, 0, none⟩), .agg #[.int .i64 e.kind, .int .i64 e.task, .int .i64 e.slot, .int .i64 e.epoch, .int .i64 e.tick]] w fun x w' => x = .returned (.int .i64 (if wrap (e.tick - (getT ts e.task).start.tick) < c.timeout then 10 else 0)) ∧ AI w0 w' g ad c kA kn kc (if wrap (e.tick - (getT ts e.task).start.tick) < c.timeout then ts else setT ts e.task { getT ts e.task with fails := wrap ((getT ts e.task).fails + 1) }) tick := by
  have HI := Aside0.mk h
  clear h
  have p1 : (0 ≤ e.task) = True := eq_true h0
  have q1 : (e.task < (ts.length : Int)) = True := eq_true h1
  have P1 := Aside0.mk h0
  have Q1 := Aside0.mk h1
  clear h0 h1
  obtain ⟨j, hj⟩ : ∃ j, wrap64 (e.tick - (getT ts e.task).start.tick) = j := ⟨_, rfl⟩
  have hjw : IntKind.i64.wrap (e.tick - (getT ts e.task).start.tick) = j := (i64_w _).trans hj
  have hj2 : wrap (e.tick - (getT ts e.task).start.tick) = j := hj
  rw [hj2]
  clear hj hj2
  by_cases c1 : j < c.timeout
  · have c1b : decide (j < c.timeout) = true := decide_eq_true c1
    rw [if_pos c1, if_pos c1]
    clear c1
    go_enter Tryd.func98, Tryd.ntmps98
    go_upto_region 1 with (first | ((with_reducible refine gate_dst (N := 3) rfl ?_); (try (refine gate_guard (by rfl) ?_; dsimp only)); refine box_event ?hg (N := 3) ?hd (cs := #[.int .i64 e.kind, .int .i64 e.task, .int .i64 e.slot, .int .i64 e.epoch, .int .i64 e.tick]) (t := 42) ?hr ?_; (case hd => rfl); (case hg => rfl); (case hr => first | (go_simp; done) | (go_simp; rfl)); intro gb hg w1 hbox hb; have hk0 : w1.cell? ⟨gb, 0, none⟩ = some (.int .i64 e.kind) := (blk_cell hbox 0).trans rfl; have hk1 : w1.cell? ⟨gb, 1, none⟩ = some (.int .i64 e.task) := (blk_cell hbox 1).trans rfl; have hk2 : w1.cell? ⟨gb, 2, none⟩ = some (.int .i64 e.slot) := (blk_cell hbox 2).trans rfl; have hk3 : w1.cell? ⟨gb, 3, none⟩ = some (.int .i64 e.epoch) := (blk_cell hbox 3).trans rfl; have hk4 : w1.cell? ⟨gb, 4, none⟩ = some (.int .i64 e.tick) := (blk_cell hbox 4).trans rfl; have HBX := Aside0.mk hbox; have HB := Aside0.mk hb; have GE := Aside0.mk (Nat.le_of_eq hg.symm); have HI1 := Aside0.mk (HI.out.below hb); obtain ⟨ha0, ha1, ha4, ha5, ha6, ha10, ha11, ha12, hf12⟩ := HI1.out.1.cells; obtain ⟨⟨ht0, hf0⟩, ⟨ht1, hf1⟩, ⟨ht2, hf2⟩, ⟨ht3, hf3⟩, ⟨ht4, hf4⟩, ⟨ht5, hf5⟩, ⟨ht6, hf6⟩, ⟨ht7, hf7⟩, ⟨ht8, hf8⟩, ⟨ht9, hf9⟩⟩ := HI1.out.1.task e.task P1.out Q1.out; clear hbox hb hg))
    go_quiet (fail)
    go_wp2
    go_ret
    exact ⟨rfl, HI1.out.drewN _⟩
  · have c1b : decide (j < c.timeout) = false := decide_eq_false c1
    rw [if_neg c1, if_neg c1]
    clear c1
    go_enter Tryd.func98, Tryd.ntmps98
    go_upto_region 1 with (first | ((with_reducible refine gate_dst (N := 3) rfl ?_); (try (refine gate_guard (by rfl) ?_; dsimp only)); refine box_event ?hg (N := 3) ?hd (cs := #[.int .i64 e.kind, .int .i64 e.task, .int .i64 e.slot, .int .i64 e.epoch, .int .i64 e.tick]) (t := 42) ?hr ?_; (case hd => rfl); (case hg => rfl); (case hr => first | (go_simp; done) | (go_simp; rfl)); intro gb hg w1 hbox hb; have hk0 : w1.cell? ⟨gb, 0, none⟩ = some (.int .i64 e.kind) := (blk_cell hbox 0).trans rfl; have hk1 : w1.cell? ⟨gb, 1, none⟩ = some (.int .i64 e.task) := (blk_cell hbox 1).trans rfl; have hk2 : w1.cell? ⟨gb, 2, none⟩ = some (.int .i64 e.slot) := (blk_cell hbox 2).trans rfl; have hk3 : w1.cell? ⟨gb, 3, none⟩ = some (.int .i64 e.epoch) := (blk_cell hbox 3).trans rfl; have hk4 : w1.cell? ⟨gb, 4, none⟩ = some (.int .i64 e.tick) := (blk_cell hbox 4).trans rfl; have HBX := Aside0.mk hbox; have HB := Aside0.mk hb; have GE := Aside0.mk (Nat.le_of_eq hg.symm); have HI1 := Aside0.mk (HI.out.below hb); obtain ⟨ha0, ha1, ha4, ha5, ha6, ha10, ha11, ha12, hf12⟩ := HI1.out.1.cells; obtain ⟨⟨ht0, hf0⟩, ⟨ht1, hf1⟩, ⟨ht2, hf2⟩, ⟨ht3, hf3⟩, ⟨ht4, hf4⟩, ⟨ht5, hf5⟩, ⟨ht6, hf6⟩, ⟨ht7, hf7⟩, ⟨ht8, hf8⟩, ⟨ht9, hf9⟩⟩ := HI1.out.1.task e.task P1.out Q1.out; clear hbox hb hg))
    go_quiet (fail)
    go_wp2_with (first | (go_at_call 96; refine (fails_calls w0 g ad c kA kn kc ts tick e _ (HI1.out.drewN _) P1.out Q1.out).mono ?_; rintro e' w2 ⟨rfl, HI2⟩))
    go_ret
    exact ⟨rfl, HI2⟩
set_option maxHeartbeats 2000000 in
set_option maxRecDepth 100000 in
theorem stops_calls (w0 : World) (g : Nat) (ad : Addr) (c : Cf) (kA : Option Addr) (kn kc : Nat) (ts : List Tk) (tick : Int) (e : Ev) (w : World) (h : AI w0 w g ad c kA kn kc ts tick) (h0 : 0 ≤ e.task) (h1 : e.task < ts.length) : Calls Tryd.prog 99 #[.pointer (some ⟨g, 0, none⟩), .agg #[.int .i64 e.kind, .int .i64 e.task, .int .i64 e.slot, .int .i64 e.epoch, .int .i64 e.tick]] w fun x w' => x = .returned (.int .i64 (if (getT ts e.task).stops ≥ c.preempts then 3 else 0)) ∧ AI w0 w' g ad c kA kn kc (if (getT ts e.task).stops ≥ c.preempts then ts else setT ts e.task { getT ts e.task with stops := wrap ((getT ts e.task).stops + 1) }) tick := by
  have HI := Aside0.mk h
  clear h
  have p1 : (0 ≤ e.task) = True := eq_true h0
  have q1 : (e.task < (ts.length : Int)) = True := eq_true h1
  have P1 := Aside0.mk h0
  have Q1 := Aside0.mk h1
  clear h0 h1
  by_cases c1 : (getT ts e.task).stops ≥ c.preempts
  · have c1b : decide ((getT ts e.task).stops ≥ c.preempts) = true := decide_eq_true c1
    rw [if_pos c1, if_pos c1]
    clear c1
    go_enter Tryd.func99, Tryd.ntmps99
    go_upto_region 1 with (first | ((with_reducible refine gate_dst (N := 3) rfl ?_); (try (refine gate_guard (by rfl) ?_; dsimp only)); refine box_event ?hg (N := 3) ?hd (cs := #[.int .i64 e.kind, .int .i64 e.task, .int .i64 e.slot, .int .i64 e.epoch, .int .i64 e.tick]) (t := 42) ?hr ?_; (case hd => rfl); (case hg => rfl); (case hr => first | (go_simp; done) | (go_simp; rfl)); intro gb hg w1 hbox hb; have hk0 : w1.cell? ⟨gb, 0, none⟩ = some (.int .i64 e.kind) := (blk_cell hbox 0).trans rfl; have hk1 : w1.cell? ⟨gb, 1, none⟩ = some (.int .i64 e.task) := (blk_cell hbox 1).trans rfl; have hk2 : w1.cell? ⟨gb, 2, none⟩ = some (.int .i64 e.slot) := (blk_cell hbox 2).trans rfl; have hk3 : w1.cell? ⟨gb, 3, none⟩ = some (.int .i64 e.epoch) := (blk_cell hbox 3).trans rfl; have hk4 : w1.cell? ⟨gb, 4, none⟩ = some (.int .i64 e.tick) := (blk_cell hbox 4).trans rfl; have HBX := Aside0.mk hbox; have HB := Aside0.mk hb; have GE := Aside0.mk (Nat.le_of_eq hg.symm); have HI1 := Aside0.mk (HI.out.below hb); obtain ⟨ha0, ha1, ha4, ha5, ha6, ha10, ha11, ha12, hf12⟩ := HI1.out.1.cells; obtain ⟨⟨ht0, hf0⟩, ⟨ht1, hf1⟩, ⟨ht2, hf2⟩, ⟨ht3, hf3⟩, ⟨ht4, hf4⟩, ⟨ht5, hf5⟩, ⟨ht6, hf6⟩, ⟨ht7, hf7⟩, ⟨ht8, hf8⟩, ⟨ht9, hf9⟩⟩ := HI1.out.1.task e.task P1.out Q1.out; clear hbox hb hg))
    go_quiet (fail)
    go_wp2
    repeat (go_quiet (fail); try go_wp2)
    go_ret
    exact ⟨rfl, by repeat (first | exact HI1.out | apply AI.drewN)⟩
  · have c1b : decide ((getT ts e.task).stops ≥ c.preempts) = false := decide_eq_false c1
    rw [if_neg c1, if_neg c1]
    clear c1
    go_enter Tryd.func99, Tryd.ntmps99
    go_upto_region 1 with (first | ((with_reducible refine gate_dst (N := 3) rfl ?_); (try (refine gate_guard (by rfl) ?_; dsimp only)); refine box_event ?hg (N := 3) ?hd (cs := #[.int .i64 e.kind, .int .i64 e.task, .int .i64 e.slot, .int .i64 e.epoch, .int .i64 e.tick]) (t := 42) ?hr ?_; (case hd => rfl); (case hg => rfl); (case hr => first | (go_simp; done) | (go_simp; rfl)); intro gb hg w1 hbox hb; have hk0 : w1.cell? ⟨gb, 0, none⟩ = some (.int .i64 e.kind) := (blk_cell hbox 0).trans rfl; have hk1 : w1.cell? ⟨gb, 1, none⟩ = some (.int .i64 e.task) := (blk_cell hbox 1).trans rfl; have hk2 : w1.cell? ⟨gb, 2, none⟩ = some (.int .i64 e.slot) := (blk_cell hbox 2).trans rfl; have hk3 : w1.cell? ⟨gb, 3, none⟩ = some (.int .i64 e.epoch) := (blk_cell hbox 3).trans rfl; have hk4 : w1.cell? ⟨gb, 4, none⟩ = some (.int .i64 e.tick) := (blk_cell hbox 4).trans rfl; have HBX := Aside0.mk hbox; have HB := Aside0.mk hb; have GE := Aside0.mk (Nat.le_of_eq hg.symm); have HI1 := Aside0.mk (HI.out.below hb); obtain ⟨ha0, ha1, ha4, ha5, ha6, ha10, ha11, ha12, hf12⟩ := HI1.out.1.cells; obtain ⟨⟨ht0, hf0⟩, ⟨ht1, hf1⟩, ⟨ht2, hf2⟩, ⟨ht3, hf3⟩, ⟨ht4, hf4⟩, ⟨ht5, hf5⟩, ⟨ht6, hf6⟩, ⟨ht7, hf7⟩, ⟨ht8, hf8⟩, ⟨ht9, hf9⟩⟩ := HI1.out.1.task e.task P1.out Q1.out; clear hbox hb hg))
    go_quiet (fail)
    go_wp2
    repeat (go_quiet (fail); try go_wp2)
    go_ret
    exact ⟨rfl, AI.put_j (by repeat (first | exact HI1.out | apply AI.drewN)) e.task P1.out Q1.out 9 (by omega) _ _ rfl⟩
end Go.Proofs.YtckcepmkfegkiaaDoor.TrC
