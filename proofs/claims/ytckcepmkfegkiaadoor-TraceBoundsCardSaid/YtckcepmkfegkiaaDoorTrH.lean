/- The walk of Audit. No condition. -/
import Derived.Test.YtckcepmkfegkiaaDoorTrG
namespace Go.Proofs.YtckcepmkfegkiaaDoor.TrH
open Go.RowKit Go.Proofs.YtckcepmkfegkiaaDoorW.PrintWords Go.Proofs.YtckcepmkfegkiaaDoorW.PrintLast Go.Proofs.YtckcepmkfegkiaaDoorW.PrintMore TrS TrA TrB TrC TrD TrE TrF TrG
set_option linter.unusedVariables false
set_option linter.unusedSimpArgs false
theorem infoTk : (Tryd.prog.info? 96).map (fun i => (i.zero, i.size, i.bytes)) = some (some (.agg #[.bool false, .bool false, .bool false, .int .i64 0, .int .i64 0, .int .i64 0, .int .i64 0, .int .i64 0, .int .i64 0, .int .i64 0]), 10, 64) := by kernel_rfl
theorem reps_flat : ∀ (ts : List Tk) (cs : List Value), Reps (fun t c => c = tkC t) 10 ts cs → cs = ts.flatMap tkC
  | [], cs, h => by
    have := h.1
    simp at this
    rw [this]
    rfl
  | t :: ts, cs, h => by
    obtain ⟨h1, h2⟩ := h
    have h0 : cs.take 10 = tkC t := by have := h2 0 t rfl; simpa using this
    have hr := reps_flat ts (cs.drop 10) ⟨by simp at h1 ⊢; omega, fun j p hj => by
      have := h2 (j + 1) p hj
      rw [show (j + 1) * 10 = 10 + j * 10 from by omega, ← List.drop_drop] at this
      exact this⟩
    rw [List.flatMap_cons, ← hr, ← h0, List.take_append_drop]
theorem made_tk (n : Nat) : (madeCells (Value.cells (.agg #[.bool false, .bool false, .bool false, .int .i64 0, .int .i64 0, .int .i64 0, .int .i64 0, .int .i64 0, .int .i64 0, .int .i64 0])) (n * 10)).toList = (List.replicate n tk0).flatMap tkC :=
  reps_flat _ _ (Kd.reps_made (size := 10) (z := (.agg #[.bool false, .bool false, .bool false, .int .i64 0, .int .i64 0, .int .i64 0, .int .i64 0, .int .i64 0, .int .i64 0, .int .i64 0])) (R := fun t c => c = tkC t) rfl (by decide) rfl n)
section
variable {P : Program} {ops : Array Oper} {o : Oper} {a : Act} {Q : Exit → Act → World → Prop} {Kc : Act → World → Prop}
theorem make_step {W : World} (hw : Region.wanted o (yielded ops a.tmps) = true) (t e : TypeId) (x y : Operand) (ho : o.op = .makeSlice t x y) (n : Nat) (hx : a.eval x = .int .i64 n) (hy : a.eval y = .int .i64 n)
    (ht : P.underlying t = some (.slice e)) (hinfo : (P.info? e).map (fun i => (i.zero, i.size, i.bytes)) = some (some (.agg #[.bool false, .bool false, .bool false, .int .i64 0, .int .i64 0, .int .i64 0, .int .i64 0, .int .i64 0, .int .i64 0, .int .i64 0]), 10, 64)) (hl : n ≤ 4398046511104)
    (h : Kc (a.put o.dst (.slice (some ⟨W.heap.size, 0, none⟩) n n)) (W.alloc (.cells ((List.replicate n tk0).flatMap tkC).toArray e))) : if Region.wanted o (yielded ops a.tmps) = true then Oper.wp P o a W Kc Q else Kc (a.put o.dst undef) W := by
  obtain ⟨i0, hi, hzz⟩ := Option.map_eq_some_iff.1 hinfo
  simp only [Prod.mk.injEq] at hzz
  obtain ⟨hz0, hz1, hz2⟩ := hzz
  have hr := run_make (P := P) W t e i0 (.agg #[.bool false, .bool false, .bool false, .int .i64 0, .int .i64 0, .int .i64 0, .int .i64 0, .int .i64 0, .int .i64 0, .int .i64 0]) ht hi hz0 .i64 .i64 (n : Int) (n : Int) (by omega) (by omega)
    (by
      have h3 : ((i0.bytes * n : Nat) : Int) ≤ 281474976710656 := by rw [hz2]; omega
      rwa [Int.natCast_mul] at h3) (by omega)
  simp only [Int.toNat_natCast] at hr
  rw [hz1, ← Array.toArray_toList (xs := madeCells (Value.cells (.agg #[.bool false, .bool false, .bool false, .int .i64 0, .int .i64 0, .int .i64 0, .int .i64 0, .int .i64 0, .int .i64 0, .int .i64 0])) (n * 10)), made_tk] at hr
  exact event_step hw (by simp [execOp, ho, hx, hy, hr]) h
end
def kEv : Kd Ev := Kd.iso (Kd.pair (Kd.int .i64) (Kd.pair (Kd.int .i64) (Kd.pair (Kd.int .i64) (Kd.pair (Kd.int .i64) (Kd.int .i64))))) (fun x : Ev => (x.kind, x.task, x.slot, x.epoch, x.tick))
theorem kEv_open {w : World} {x : Ev} {cs : List Value} (h : kEv.K w x cs) : cs = [.int .i64 x.kind, .int .i64 x.task, .int .i64 x.slot, .int .i64 x.epoch, .int .i64 x.tick] := by
  obtain ⟨_, _, rfl, rfl, ⟨_, _, rfl, rfl, ⟨_, _, rfl, rfl, ⟨_, _, rfl, rfl, rfl⟩⟩⟩⟩ := h
  exact rfl
def getE (es : List Ev) (i : Int) : Ev := es.getD i.toNat ev0
theorem at_Ev {w : World} {A : Option Addr} {n : Nat} {xs : List Ev} (h : Kd.C kEv w A n xs) (i : Int) (h0 : 0 ≤ i) (h1 : i < n) : ∃ ad , A = some ad ∧ w.cell? (ad.add (i.toNat * 5)) = some (.int .i64 (getE xs i).kind) ∧ w.cell? ⟨(ad.add (i.toNat * 5)).block, (ad.add (i.toNat * 5)).off + 1, none⟩ = some (.int .i64 (getE xs i).task) ∧ w.cell? ⟨(ad.add (i.toNat * 5)).block, (ad.add (i.toNat * 5)).off + 2, none⟩ = some (.int .i64 (getE xs i).slot) ∧ w.cell? ⟨(ad.add (i.toNat * 5)).block, (ad.add (i.toNat * 5)).off + 3, none⟩ = some (.int .i64 (getE xs i).epoch) ∧ w.cell? ⟨(ad.add (i.toNat * 5)).block, (ad.add (i.toNat * 5)).off + 4, none⟩ = some (.int .i64 (getE xs i).tick) := by
  obtain ⟨ad, c, e, _, hK, hc0⟩ := Kd.C_get h ev0 i h0 h1
  have hc : ∀ j u, c[j]? = some u → w.cell? (ad.add (i.toNat * 5 + j)) = some u := hc0
  obtain rfl := kEv_open hK
  exact ⟨ad, e, hc 0 _ rfl, by rw [← add_field _ _ 1 (by omega)]; exact hc 1 _ rfl, by rw [← add_field _ _ 2 (by omega)]; exact hc 2 _ rfl, by rw [← add_field _ _ 3 (by omega)]; exact hc 3 _ rfl, by rw [← add_field _ _ 4 (by omega)]; exact hc 4 _ rfl⟩
theorem audit_start (c : Cf) (ks : List Tsk) (tA : Option Addr) (tc : Nat) (w w1 : World) (hn : ks.length ≤ 4398046511104) (hB : Below w.heap.size w w1) :
    AI w ((w1.alloc (.cells ((List.replicate ks.length tk0).flatMap tkC).toArray 96)).alloc (.cells #[.int .i64 c.budget, .int .i64 c.slots, .int .i64 c.active, .int .i64 c.queue, .int .i64 c.tries, .int .i64 c.preempts, .int .i64 c.timeout, .int .i64 c.backoff, .int .i64 c.most, .int .i64 c.quantum, .slice tA ks.length tc, .slice (some ⟨w1.heap.size, 0, none⟩) ks.length ks.length, .int .i64 0] 63)) (w1.heap.size + 1) ⟨w1.heap.size, 0, none⟩ c tA ks.length tc (List.replicate ks.length tk0) 0 := by
  have hs : (w1.alloc (.cells ((List.replicate ks.length tk0).flatMap tkC).toArray 96)).heap.size = w1.heap.size + 1 := by show (w1.heap.push _).size = _; simp
  refine ⟨⟨?_, rfl, rfl, by simp, blk_alloc (blk_new w1 _) _, by rw [List.length_replicate]; omega⟩, below_alloc (below_alloc hB _) _, ?_, hB.size⟩
  · rw [List.length_replicate, ← hs]
    exact blk_new _ _
  · have := hB.size
    omega
theorem set5 {w0 w : World} {g : Nat} {t : TypeId} {a0 a1 a2 a3 a4 : Value} (v0 v1 v2 v3 v4 : Value) (h : w.heap[g]? = some (.cells #[a0, a1, a2, a3, a4] t (0, 0))) (hB : Below w0.heap.size w0 w) (hg : w0.heap.size ≤ g) :
    ∃ W, W = (((((w).setCell ⟨g, 0, none⟩ v0).setCell ⟨g, 1, none⟩ v1).setCell ⟨g, 2, none⟩ v2).setCell ⟨g, 3, none⟩ v3).setCell ⟨g, 4, none⟩ v4 ∧ W.heap[g]? = some (.cells #[v0, v1, v2, v3, v4] t (0, 0)) ∧ Below w0.heap.size w0 W :=
  ⟨_, rfl, blk_put (blk_put (blk_put (blk_put (blk_put (h) 0 v0 (cs' := #[v0, a1, a2, a3, a4]) rfl) 1 v1 (cs' := #[v0, v1, a2, a3, a4]) rfl) 2 v2 (cs' := #[v0, v1, v2, a3, a4]) rfl) 3 v3 (cs' := #[v0, v1, v2, v3, a4]) rfl) 4 v4 (cs' := #[v0, v1, v2, v3, v4]) rfl, below_set (below_set (below_set (below_set (below_set (hB) hg) hg) hg) hg) hg⟩
theorem takes_calls_b (w0 : World) (g : Nat) (ad : Addr) (c : Cf) (kA : Option Addr) (kc : Nat) (ks : List Tsk) (ts : List Tk) (tick : Int) (e : Ev) (w : World) (h : AI w0 w g ad c kA ks.length kc ts tick) (hC : Kd.C kTsk w0 kA ks.length ks) (hlen : ks.length = ts.length) (hE : EndsIs w0) (r : Int) (ts' : List Tk) (tick' : Int) (ht : takes c ks ts tick e = (r, ts', tick')) : Calls Tryd.prog 23 #[.pointer (some ⟨g, 0, none⟩), .agg #[.int .i64 e.kind, .int .i64 e.task, .int .i64 e.slot, .int .i64 e.epoch, .int .i64 e.tick]] w fun x w' => x = .returned (.int .i64 r) ∧ AI w0 w' g ad c kA ks.length kc ts' tick' := by
  have := takes_calls w0 g ad c kA kc ks ts tick e w h hC hlen hE
  rw [ht] at this
  exact this
theorem starts_len (c : Cf) (ks : List Tsk) (ts : List Tk) (e : Ev) : (starts c ks ts e).2.length = ts.length := by
  unfold starts
  (repeat' split) <;> simp [setT]
theorem takes_len (c : Cf) (ks : List Tsk) (ts : List Tk) (tick : Int) (e : Ev) : (takes c ks ts tick e).2.1.length = ts.length := by
  unfold takes
  split
  · split
    · exact starts_len c ks ts e
    · split
      · simp [off, setT, ends_len]
      · rfl
  · rfl
theorem audit_step (c : Cf) (ks : List Tsk) (e : Ev) (l : List Ev) (ts : List Tk) (tick i : Int) : auditL c ks (e :: l) ts tick i = if (takes c ks ts tick e).1 = 0 then auditL c ks l (takes c ks ts tick e).2.1 (takes c ks ts tick e).2.2 (i + 1) else (i, (takes c ks ts tick e).1) := rfl
set_option maxHeartbeats 8000000 in
set_option maxRecDepth 100000 in
theorem audit_calls (c : Cf) (ks : List Tsk) (l : List Ev) (tA : Option Addr) (tc : Nat) (lA : Option Addr) (lc : Nat) (w : World) (hC : Kd.C kTsk w tA ks.length ks) (hL : Kd.C kEv w lA l.length l) (hE : EndsIs w) (hn : ks.length ≤ 4398046511104) (hl : l.length ≤ 4398046511104) : Calls Tryd.prog 15 #[.agg #[.int .i64 c.budget, .int .i64 c.slots, .int .i64 c.active, .int .i64 c.queue, .int .i64 c.tries, .int .i64 c.preempts, .int .i64 c.timeout, .int .i64 c.backoff, .int .i64 c.most, .int .i64 c.quantum], .slice tA ks.length tc, .slice lA l.length lc] w fun x w' => x = .returned (.tuple #[.int .i64 (audit c ks l).1, .int .i64 (audit c ks l).2]) ∧ Below w.heap.size w w' := by
  have HC := Aside0.mk hC
  have HLs := Aside0.mk hL
  have HE := Aside0.mk hE
  have HN := Aside0.mk hn
  have HM := Aside0.mk hl
  clear hC hL hE hn hl
  obtain ⟨⟨n_, e_⟩, hau⟩ : ∃ p_, audit c ks l = p_ := ⟨audit c ks l, Eq.refl _⟩
  rw [hau]
  have HAU := Aside0.mk hau
  clear hau
  go_enter Tryd.func15, Tryd.ntmps15
  go_upto_region 1 with (first | ((with_reducible refine gate_dst (N := 3) rfl ?_); (try (refine gate_guard (by rfl) ?_; dsimp only)); refine box_event ?hg (N := 3) ?hd (cs := #[.int .i64 c.budget, .int .i64 c.slots, .int .i64 c.active, .int .i64 c.queue, .int .i64 c.tries, .int .i64 c.preempts, .int .i64 c.timeout, .int .i64 c.backoff, .int .i64 c.most, .int .i64 c.quantum]) (t := 23) ?hr ?_; (case hd => rfl); (case hg => rfl); (case hr => first | (go_simp; done) | (go_simp; rfl)); intro cb hg w1 hbox hb; have hk0 : w1.cell? ⟨cb, 0, none⟩ = some (.int .i64 c.budget) := (blk_cell hbox 0).trans rfl; have hk1 : w1.cell? ⟨cb, 1, none⟩ = some (.int .i64 c.slots) := (blk_cell hbox 1).trans rfl; have hk2 : w1.cell? ⟨cb, 2, none⟩ = some (.int .i64 c.active) := (blk_cell hbox 2).trans rfl; have hk3 : w1.cell? ⟨cb, 3, none⟩ = some (.int .i64 c.queue) := (blk_cell hbox 3).trans rfl; have hk4 : w1.cell? ⟨cb, 4, none⟩ = some (.int .i64 c.tries) := (blk_cell hbox 4).trans rfl; have hk5 : w1.cell? ⟨cb, 5, none⟩ = some (.int .i64 c.preempts) := (blk_cell hbox 5).trans rfl; have hk6 : w1.cell? ⟨cb, 6, none⟩ = some (.int .i64 c.timeout) := (blk_cell hbox 6).trans rfl; have hk7 : w1.cell? ⟨cb, 7, none⟩ = some (.int .i64 c.backoff) := (blk_cell hbox 7).trans rfl; have hk8 : w1.cell? ⟨cb, 8, none⟩ = some (.int .i64 c.most) := (blk_cell hbox 8).trans rfl; have hk9 : w1.cell? ⟨cb, 9, none⟩ = some (.int .i64 c.quantum) := (blk_cell hbox 9).trans rfl; have HX := Aside0.mk hbox; have HB := Aside0.mk hb; clear hbox hb hg))
  refine start_ (n := 8) (S := fun w' => w'.cell? ⟨cb, 0, none⟩ = some (.int .i64 c.budget) ∧ w'.cell? ⟨cb, 1, none⟩ = some (.int .i64 c.slots) ∧ w'.cell? ⟨cb, 2, none⟩ = some (.int .i64 c.active) ∧ w'.cell? ⟨cb, 3, none⟩ = some (.int .i64 c.queue) ∧ w'.cell? ⟨cb, 4, none⟩ = some (.int .i64 c.tries) ∧ w'.cell? ⟨cb, 5, none⟩ = some (.int .i64 c.preempts) ∧ w'.cell? ⟨cb, 6, none⟩ = some (.int .i64 c.timeout) ∧ w'.cell? ⟨cb, 7, none⟩ = some (.int .i64 c.backoff) ∧ w'.cell? ⟨cb, 8, none⟩ = some (.int .i64 c.most) ∧ w'.cell? ⟨cb, 9, none⟩ = some (.int .i64 c.quantum) ∧ w'.heap[cb]? = some (.cells #[.int .i64 c.budget, .int .i64 c.slots, .int .i64 c.active, .int .i64 c.queue, .int .i64 c.tries, .int .i64 c.preempts, .int .i64 c.timeout, .int .i64 c.backoff, .int .i64 c.most, .int .i64 c.quantum] 23 (0, 0))) (ds := []) #[false, false, false, false, false, false, false, false] (by kernel_rfl) rfl rfl ⟨hk0, hk1, hk2, hk3, hk4, hk5, hk6, hk7, hk8, hk9, HX.out⟩ (fun hHeld => ?_)
  refine pure_ (i := 1) (N := some 13) (v := ?_) (a' := ?_) #[false, true, false, false, false, false, false, false] rfl rfl (by kernel_rfl) (fun _ _ _ h => h) (Or.inl ⟨by rfl, ?_⟩) ?_ ?_
  rotate_left
  · intro w'
    go_simp
    with_reducible rfl
  rotate_left
  · simp only [Act.put, List.setIfInBounds_toArray, List.set_cons_zero, List.set_cons_succ, i64_w, i32_w]
    rfl
  refine pure_ (i := 2) (N := some 14) (v := ?_) (a' := ?_) #[false, true, true, false, false, false, false, false] rfl rfl (by kernel_rfl) (fun _ _ _ h => h) (Or.inl ⟨by rfl, ?_⟩) ?_ ?_
  rotate_left
  · intro w'
    go_simp
    with_reducible rfl
  rotate_left
  · simp only [Act.put, List.setIfInBounds_toArray, List.set_cons_zero, List.set_cons_succ, i64_w, i32_w]
    rfl
  refine pure_ (i := 3) (N := some 15) (v := ?_) (a' := ?_) #[false, true, true, true, false, false, false, false] rfl rfl (by kernel_rfl) (fun _ _ _ h => h) (Or.inl ⟨by rfl, ?_⟩) ?_ ?_
  rotate_left
  · intro w'
    go_simp
    with_reducible rfl
  rotate_left
  · simp only [Act.put, List.setIfInBounds_toArray, List.set_cons_zero, List.set_cons_succ, i64_w, i32_w]
    rfl
  refine take_ (i := 0) (N := some 12) (v := ?_) (a' := ?_) #[true, true, true, true, false, false, false, false] rfl rfl (by kernel_rfl) (fun _ _ _ h => h) (Or.inl ⟨by rfl, ?_⟩) hHeld ?_ ?_
  rotate_left
  · rintro w' ⟨s0, s1, s2, s3, s4, s5, s6, s7, s8, s9, s10⟩
    go_simp
    with_reducible rfl
  rotate_left
  · simp only [Act.put, List.setIfInBounds_toArray, List.set_cons_zero, List.set_cons_succ, i64_w, i32_w]
    rfl
  refine one_ (i := 4) (N := some 16) #[true, true, true, true, true, false, false, false] rfl rfl (by kernel_rfl) (by decide) (fun K hK => ?_)
  refine make_step (by rfl) 61 96 (.tmp 15) (.tmp 15) rfl ks.length rfl rfl Tryd.underlying61 infoTk HN.out ?_
  refine hK.out _ _ ⟨(blk_cell (blk_alloc (hHeld.2.2.2.2.2.2.2.2.2.2) _) 0).trans rfl, (blk_cell (blk_alloc (hHeld.2.2.2.2.2.2.2.2.2.2) _) 1).trans rfl, (blk_cell (blk_alloc (hHeld.2.2.2.2.2.2.2.2.2.2) _) 2).trans rfl, (blk_cell (blk_alloc (hHeld.2.2.2.2.2.2.2.2.2.2) _) 3).trans rfl, (blk_cell (blk_alloc (hHeld.2.2.2.2.2.2.2.2.2.2) _) 4).trans rfl, (blk_cell (blk_alloc (hHeld.2.2.2.2.2.2.2.2.2.2) _) 5).trans rfl, (blk_cell (blk_alloc (hHeld.2.2.2.2.2.2.2.2.2.2) _) 6).trans rfl, (blk_cell (blk_alloc (hHeld.2.2.2.2.2.2.2.2.2.2) _) 7).trans rfl, (blk_cell (blk_alloc (hHeld.2.2.2.2.2.2.2.2.2.2) _) 8).trans rfl, (blk_cell (blk_alloc (hHeld.2.2.2.2.2.2.2.2.2.2) _) 9).trans rfl, blk_alloc (hHeld.2.2.2.2.2.2.2.2.2.2) _⟩ (fun hHeld => ?_)
  clear hK K
  refine norm_ (a' := ?_) ?_ ?_
  rotate_left
  · show Act.put _ (some 16) _ = _
    simp only [Act.put, List.setIfInBounds_toArray, List.set_cons_zero, List.set_cons_succ, i64_w, i32_w]
    rfl
  refine pure_ (i := 5) (N := some 17) (v := ?_) (a' := ?_) #[true, true, true, true, true, true, false, false] rfl rfl (by kernel_rfl) (fun _ _ _ h => h) (Or.inl ⟨by rfl, ?_⟩) ?_ ?_
  rotate_left
  · intro w'
    go_simp
    with_reducible rfl
  rotate_left
  · simp only [Act.put, List.setIfInBounds_toArray, List.set_cons_zero, List.set_cons_succ, i64_w, i32_w]
    rfl
  refine one_ (i := 6) (N := some 18) #[true, true, true, true, true, true, true, false] rfl rfl (by kernel_rfl) (by decide) (fun K hK => ?_)
  refine value_ (w1 := ?_) (v := ?_) (by rfl) rfl ?_ ?_
  rotate_left 2
  · go_simp
    constructor
    · rfl
    · rfl
  refine hK.out _ _ ⟨(blk_cell (blk_alloc (hHeld.2.2.2.2.2.2.2.2.2.2) _) 0).trans rfl, (blk_cell (blk_alloc (hHeld.2.2.2.2.2.2.2.2.2.2) _) 1).trans rfl, (blk_cell (blk_alloc (hHeld.2.2.2.2.2.2.2.2.2.2) _) 2).trans rfl, (blk_cell (blk_alloc (hHeld.2.2.2.2.2.2.2.2.2.2) _) 3).trans rfl, (blk_cell (blk_alloc (hHeld.2.2.2.2.2.2.2.2.2.2) _) 4).trans rfl, (blk_cell (blk_alloc (hHeld.2.2.2.2.2.2.2.2.2.2) _) 5).trans rfl, (blk_cell (blk_alloc (hHeld.2.2.2.2.2.2.2.2.2.2) _) 6).trans rfl, (blk_cell (blk_alloc (hHeld.2.2.2.2.2.2.2.2.2.2) _) 7).trans rfl, (blk_cell (blk_alloc (hHeld.2.2.2.2.2.2.2.2.2.2) _) 8).trans rfl, (blk_cell (blk_alloc (hHeld.2.2.2.2.2.2.2.2.2.2) _) 9).trans rfl, blk_alloc (hHeld.2.2.2.2.2.2.2.2.2.2) _⟩ (fun hHeld => ?_)
  clear hK K
  refine norm_ (a' := ?_) ?_ ?_
  rotate_left
  · show Act.put _ (some 18) _ = _
    simp only [Act.put, List.setIfInBounds_toArray, List.set_cons_zero, List.set_cons_succ, i64_w, i32_w]
    rfl
  refine pure_ (i := 7) (N := some 8) (v := ?_) (a' := ?_) #[true, true, true, true, true, true, true, true] rfl rfl (by kernel_rfl) (fun _ _ _ h => h) (Or.inl ⟨by rfl, ?_⟩) ?_ ?_
  rotate_left
  · intro w'
    go_simp
    with_reducible rfl
  rotate_left
  · simp only [Act.put, List.setIfInBounds_toArray, List.set_cons_zero, List.set_cons_succ, i64_w, i32_w]
    rfl
  refine done_ (by kernel_rfl) ?_
  go_wp2_with fail
  have hst : auditL c ks (l.drop 0) (List.replicate ks.length tk0) 0 ((0 : Nat) : Int) = (n_, e_) := HAU.out
  have HST := Aside0.mk hst
  clear hHeld hst hk0 hk1 hk2 hk3 hk4 hk5 hk6 hk7 hk8 hk9
  go_loopg [21] l.length (fun gg s21 wr => ∃ (kk : Nat) (ts : List Tk) (tick : Int), kk ≤ l.length ∧ l.length - kk ≤ gg ∧ s21 = .int .i64 kk ∧ Aside0 (AI w wr (w1.heap.size + 1) ⟨w1.heap.size, 0, none⟩ c tA ks.length tc ts tick) ∧ Aside0 (ks.length = ts.length) ∧ Aside0 (auditL c ks (l.drop kk) ts tick kk = (n_, e_)))
  case atStart => exact ⟨0, _, 0, Nat.zero_le _, by omega, rfl, ⟨by first | exact audit_start c ks tA tc w w1 HN.out HB.out | exact (audit_start c ks tA tc w w1 HN.out HB.out).drewN 1⟩, ⟨by simp⟩, HST⟩
  case round =>
    obtain ⟨kk, ts, tick, hkk, hg, rfl, HA, HK, A⟩ := hrel
    by_cases hlt : kk < l.length
    · have hltz : (kk : Int) < (l.length : Int) := by omega
      have hk0 : (0 : Int) ≤ (kk : Int) := by omega
      have hd : l.drop kk = getE l kk :: l.drop (kk + 1) := by
        rw [List.drop_eq_getElem_cons hlt]
        simp [getE, List.getD_eq_getElem?_getD, hlt]
      obtain ⟨ld, el, hx0, hx1, hx2, hx3, hx4⟩ := at_Ev (Kd.C_below HLs.out HA.out.2.1) (kk : Int) hk0 hltz
      simp only [Int.toNat_natCast] at hx0 hx1 hx2 hx3 hx4
      subst el
      have p1 := eq_true hk0
      have q1 := eq_true hltz
      have Hlt := Aside0.mk hlt
      have Hd := Aside0.mk hd
      have Hg := Aside0.mk hg
      clear hk0 hlt hd hltz hg hkk
      obtain ⟨⟨r, ts', tick'⟩, ht⟩ : ∃ p_, takes c ks ts tick (getE l kk) = p_ := ⟨takes c ks ts tick (getE l kk), Eq.refl _⟩
      have HT := Aside0.mk ht
      clear ht
      go_upto_region 5 with (first | ((with_reducible refine gate_dst (N := 10) rfl ?_); (try (refine gate_guard (by rfl) ?_; dsimp only)); refine box_event ?hg (N := 10) ?hd (cs := #[.int .i64 0, .int .i64 0, .int .i64 0, .int .i64 0, .int .i64 0]) (t := 42) ?hr ?_; (case hd => rfl); (case hg => rfl); (case hr => first | (go_simp; done) | (go_simp; rfl)); intro gb hg w2 hbox hb; have hz0 : w2.cell? ⟨gb, 0, none⟩ = some (.int .i64 0) := (blk_cell hbox 0).trans rfl; have hz1 : w2.cell? ⟨gb, 1, none⟩ = some (.int .i64 0) := (blk_cell hbox 1).trans rfl; have hz2 : w2.cell? ⟨gb, 2, none⟩ = some (.int .i64 0) := (blk_cell hbox 2).trans rfl; have hz3 : w2.cell? ⟨gb, 3, none⟩ = some (.int .i64 0) := (blk_cell hbox 3).trans rfl; have hz4 : w2.cell? ⟨gb, 4, none⟩ = some (.int .i64 0) := (blk_cell hbox 4).trans rfl; have hf0 := blk_frozen hbox 0; have hf1 := blk_frozen hbox 1; have hf2 := blk_frozen hbox 2; have hf3 := blk_frozen hbox 3; have hf4 := blk_frozen hbox 4; have HX2 := Aside0.mk hbox; have HW2 := Aside0.mk hb; have GE2 := Aside0.mk (Nat.le_of_eq hg.symm); clear hbox hb hg))
      obtain ⟨w3, hw3, hX, hW⟩ := set5 (.int .i64 (getE l kk).kind) (.int .i64 (getE l kk).task) (.int .i64 (getE l kk).slot) (.int .i64 (getE l kk).epoch) (.int .i64 (getE l kk).tick) HX2.out HW2.out GE2.out
      rw [← hw3]
      have HA3 := Aside0.mk (HA.out.below hW)
      have hy0 : w3.cell? ⟨gb, 0, none⟩ = some (.int .i64 (getE l kk).kind) := (blk_cell hX 0).trans rfl
      have hy1 : w3.cell? ⟨gb, 1, none⟩ = some (.int .i64 (getE l kk).task) := (blk_cell hX 1).trans rfl
      have hy2 : w3.cell? ⟨gb, 2, none⟩ = some (.int .i64 (getE l kk).slot) := (blk_cell hX 2).trans rfl
      have hy3 : w3.cell? ⟨gb, 3, none⟩ = some (.int .i64 (getE l kk).epoch) := (blk_cell hX 3).trans rfl
      have hy4 : w3.cell? ⟨gb, 4, none⟩ = some (.int .i64 (getE l kk).tick) := (blk_cell hX 4).trans rfl
      clear hX hW hw3 HX2 HW2 GE2 hz0 hz1 hz2 hz3 hz4 hf0 hf1 hf2 hf3 hf4 hx0 hx1 hx2 hx3 hx4 p1 q1
      go_wp2_with fail
      refine (takes_calls_b w _ _ c tA tc ks ts tick (getE l kk) _ HA3.out HC.out HK.out HE.out r ts' tick' HT.out).mono ?_
      rintro e' w4 ⟨rfl, HA4⟩
      have A1 := A.out
      rw [Hd.out, audit_step, HT.out] at A1
      have hlen := takes_len c ks ts tick (getE l kk)
      rw [HT.out] at hlen
      have HL4 := Aside0.mk hlen
      clear hlen hy0 hy1 hy2 hy3 hy4
      by_cases c1 : r = 0
      · have c1b : (r == 0) = true := beq_iff_eq.mpr c1
        have c1c : (r != 0) = false := bne_eq_false_iff_eq.mpr c1
        simp only at A1
        rw [if_pos c1] at A1
        have HA5 := Aside0.mk A1
        clear A1 c1
        go_wp2
        go_roundg (l.length - (kk + 1))
        case measure => have := Hlt.out; have := Hg.out; omega
        case rel =>
          have hlt := Hlt.out
          have hm := HM.out
          have e : wrap64 ((kk : Int) + 1) = ((kk + 1 : Nat) : Int) := by unfold wrap64; omega
          exact ⟨kk + 1, ts', tick', by omega, by omega, by first | (rw [e]) | (simp [e]), ⟨HA4⟩, ⟨by have := HK.out; have := HL4.out; omega⟩, HA5⟩
      · have c1b : (r == 0) = false := beq_eq_false_iff_ne.mpr c1
        have c1c : (r != 0) = true := bne_iff_ne.mpr c1
        simp only at A1
        rw [if_neg c1] at A1
        have HA5 := Aside0.mk A1
        clear A1 c1
        go_wp2
        go_ret2
        refine ⟨?_, HA4.2.1⟩
        have := HA5.out
        simp only [Prod.mk.injEq] at this
        rw [← this.1, ← this.2]
        rfl
    · have hltz : ¬ (kk : Int) < (l.length : Int) := by omega
      obtain rfl : kk = l.length := by omega
      have A2 := A.out
      rw [List.drop_length] at A2
      have HA2 := Aside0.mk A2
      clear hg hkk hlt A A2
      go_wp2
      go_ret2
      refine ⟨?_, HA.out.2.1⟩
      have := HA2.out
      simp only [auditL, Prod.mk.injEq] at this
      rw [← this.1, ← this.2]
      rfl
end Go.Proofs.YtckcepmkfegkiaaDoor.TrH
