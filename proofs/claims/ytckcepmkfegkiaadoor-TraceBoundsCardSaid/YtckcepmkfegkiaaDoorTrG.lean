/- The walk of takes. No condition. -/
import Derived.Test.YtckcepmkfegkiaaDoorTrF
import Derived.Test.YtckcepmkfegkiaaDoorTrB
namespace Go.Proofs.YtckcepmkfegkiaaDoor.TrG
open Go.RowKit Go.Proofs.YtckcepmkfegkiaaDoorW.PrintWords Go.Proofs.YtckcepmkfegkiaaDoorW.PrintLast Go.Proofs.YtckcepmkfegkiaaDoorW.PrintMore TrS TrA TrB TrC TrD TrE TrF
set_option linter.unusedVariables false
set_option linter.unusedSimpArgs false
def EndsIs (w : World) : Prop :=
  ∃ b, w.cell? ⟨1, 0, none⟩ = some (.map (some b)) ∧ b < w.heap.size ∧ 1 < w.heap.size ∧ ∀ W : World, W.heap[b]? = w.heap[b]? → (Instr.lookup 98 (.map (some b)) (.int .i64 2) false).run Tryd.prog W = .ok (.func (.func 95) #[] #[]) W ∧ (Instr.lookup 98 (.map (some b)) (.int .i64 3) false).run Tryd.prog W = .ok (.func (.func 96) #[] #[]) W ∧ (Instr.lookup 98 (.map (some b)) (.int .i64 4) false).run Tryd.prog W = .ok (.func (.func 97) #[] #[]) W ∧ (Instr.lookup 98 (.map (some b)) (.int .i64 5) false).run Tryd.prog W = .ok (.func (.func 98) #[] #[]) W ∧ (Instr.lookup 98 (.map (some b)) (.int .i64 6) false).run Tryd.prog W = .ok (.func (.func 99) #[] #[]) W
theorem EndsIs.below {w W : World} (h : EndsIs w) (hb : Below w.heap.size w W) : EndsIs W := by
  obtain ⟨b, h1, h2, h3, h4⟩ := h
  exact ⟨b, (hb.cell (p := ⟨1, 0, none⟩) h3).trans h1, Nat.lt_of_lt_of_le h2 hb.size, Nat.lt_of_lt_of_le h3 hb.size, fun W' hW => h4 W' (hW.trans (hb.block b h2))⟩
theorem ends_2 (c : Cf) (ts : List Tk) (e : Ev) (h : e.kind = 2) : ends c ts e = (0, setT ts e.task { getT ts e.task with done := true }) := by unfold ends; rw [if_pos h]
theorem ends_3 (c : Cf) (ts : List Tk) (e : Ev) (h : e.kind = 3) : ends c ts e = (0, setT ts e.task { getT ts e.task with fails := wrap ((getT ts e.task).fails + 1) }) := by unfold ends; rw [if_neg (by omega), if_pos h]
theorem ends_4 (c : Cf) (ts : List Tk) (e : Ev) (h : e.kind = 4) : ends c ts e = (0, ts) := by unfold ends; rw [if_neg (by omega), if_neg (by omega), if_pos h]
theorem ends_5 (c : Cf) (ts : List Tk) (e : Ev) (h : e.kind = 5) : ends c ts e = ((if wrap (e.tick - (getT ts e.task).start.tick) < c.timeout then 10 else 0), (if wrap (e.tick - (getT ts e.task).start.tick) < c.timeout then ts else setT ts e.task { getT ts e.task with fails := wrap ((getT ts e.task).fails + 1) })) := by
  unfold ends
  rw [if_neg (by omega), if_neg (by omega), if_neg (by omega), if_pos h]
  split <;> rfl
theorem ends_6 (c : Cf) (ts : List Tk) (e : Ev) (h : e.kind = 6) : ends c ts e = ((if (getT ts e.task).stops ≥ c.preempts then 3 else 0), (if (getT ts e.task).stops ≥ c.preempts then ts else setT ts e.task { getT ts e.task with stops := wrap ((getT ts e.task).stops + 1) })) := by
  unfold ends
  rw [if_neg (by omega), if_neg (by omega), if_neg (by omega), if_neg (by omega)]
  split <;> rfl
theorem end2_calls (w0 : World) (g : Nat) (ad : Addr) (c : Cf) (kA : Option Addr) (kn kc : Nat) (ts : List Tk) (tick : Int) (e : Ev) (w : World) (h : AI w0 w g ad c kA kn kc ts tick) (h0 : 0 ≤ e.task) (h1 : e.task < ts.length) (hk : e.kind = 2) : Calls Tryd.prog 95 #[.pointer (some ⟨g, 0, none⟩), .agg #[.int .i64 e.kind, .int .i64 e.task, .int .i64 e.slot, .int .i64 e.epoch, .int .i64 e.tick]] w fun x w' => x = .returned (.int .i64 (ends c ts e).1) ∧ AI w0 w' g ad c kA kn kc (ends c ts e).2 tick := by
  rw [ends_2 c ts e hk]
  exact does_calls w0 g ad c kA kn kc ts tick e w h h0 h1
theorem end3_calls (w0 : World) (g : Nat) (ad : Addr) (c : Cf) (kA : Option Addr) (kn kc : Nat) (ts : List Tk) (tick : Int) (e : Ev) (w : World) (h : AI w0 w g ad c kA kn kc ts tick) (h0 : 0 ≤ e.task) (h1 : e.task < ts.length) (hk : e.kind = 3) : Calls Tryd.prog 96 #[.pointer (some ⟨g, 0, none⟩), .agg #[.int .i64 e.kind, .int .i64 e.task, .int .i64 e.slot, .int .i64 e.epoch, .int .i64 e.tick]] w fun x w' => x = .returned (.int .i64 (ends c ts e).1) ∧ AI w0 w' g ad c kA kn kc (ends c ts e).2 tick := by
  rw [ends_3 c ts e hk]
  exact fails_calls w0 g ad c kA kn kc ts tick e w h h0 h1
theorem end4_calls (w0 : World) (g : Nat) (ad : Addr) (c : Cf) (kA : Option Addr) (kn kc : Nat) (ts : List Tk) (tick : Int) (e : Ev) (w : World) (h : AI w0 w g ad c kA kn kc ts tick) (h0 : 0 ≤ e.task) (h1 : e.task < ts.length) (hk : e.kind = 4) : Calls Tryd.prog 97 #[.pointer (some ⟨g, 0, none⟩), .agg #[.int .i64 e.kind, .int .i64 e.task, .int .i64 e.slot, .int .i64 e.epoch, .int .i64 e.tick]] w fun x w' => x = .returned (.int .i64 (ends c ts e).1) ∧ AI w0 w' g ad c kA kn kc (ends c ts e).2 tick := by
  rw [ends_4 c ts e hk]
  exact needs_calls w0 g ad c kA kn kc ts tick e w h h0 h1
theorem end5_calls (w0 : World) (g : Nat) (ad : Addr) (c : Cf) (kA : Option Addr) (kn kc : Nat) (ts : List Tk) (tick : Int) (e : Ev) (w : World) (h : AI w0 w g ad c kA kn kc ts tick) (h0 : 0 ≤ e.task) (h1 : e.task < ts.length) (hk : e.kind = 5) : Calls Tryd.prog 98 #[.pointer (some ⟨g, 0, none⟩), .agg #[.int .i64 e.kind, .int .i64 e.task, .int .i64 e.slot, .int .i64 e.epoch, .int .i64 e.tick]] w fun x w' => x = .returned (.int .i64 (ends c ts e).1) ∧ AI w0 w' g ad c kA kn kc (ends c ts e).2 tick := by
  rw [ends_5 c ts e hk]
  exact late_calls w0 g ad c kA kn kc ts tick e w h h0 h1
theorem end6_calls (w0 : World) (g : Nat) (ad : Addr) (c : Cf) (kA : Option Addr) (kn kc : Nat) (ts : List Tk) (tick : Int) (e : Ev) (w : World) (h : AI w0 w g ad c kA kn kc ts tick) (h0 : 0 ≤ e.task) (h1 : e.task < ts.length) (hk : e.kind = 6) : Calls Tryd.prog 99 #[.pointer (some ⟨g, 0, none⟩), .agg #[.int .i64 e.kind, .int .i64 e.task, .int .i64 e.slot, .int .i64 e.epoch, .int .i64 e.tick]] w fun x w' => x = .returned (.int .i64 (ends c ts e).1) ∧ AI w0 w' g ad c kA kn kc (ends c ts e).2 tick := by
  rw [ends_6 c ts e hk]
  exact stops_calls w0 g ad c kA kn kc ts tick e w h h0 h1
theorem starts_calls_b (w0 : World) (g : Nat) (ad : Addr) (c : Cf) (kA : Option Addr) (kc : Nat) (ks : List Tsk) (ts : List Tk) (tick : Int) (e : Ev) (w : World) (h : AI w0 w g ad c kA ks.length kc ts tick) (hC : Kd.C kTsk w0 kA ks.length ks) (hlen : ks.length = ts.length) (h0 : 0 ≤ e.task) (h1 : e.task < ts.length) (r : Int) (ts' : List Tk) (hst : starts c ks ts e = (r, ts')) : Calls Tryd.prog 38 #[.pointer (some ⟨g, 0, none⟩), .agg #[.int .i64 e.kind, .int .i64 e.task, .int .i64 e.slot, .int .i64 e.epoch, .int .i64 e.tick]] w fun x w' => x = .returned (.int .i64 r) ∧ AI w0 w' g ad c kA ks.length kc ts' tick := by
  have := starts_calls w0 g ad c kA kc ks ts tick e w h hC hlen h0 h1
  rw [hst] at this
  exact this
theorem takes_start_b (c : Cf) (ks : List Tsk) (ts : List Tk) (tick : Int) (e : Ev) (h : may c ts.length tick e = true) (h1 : e.kind = 1) (r : Int) (ts' : List Tk) (hst : starts c ks ts e = (r, ts')) : takes c ks ts tick e = (r, ts', e.tick) := by unfold takes; rw [if_pos h, if_pos h1, hst]
theorem end2_calls_b (w0 : World) (g : Nat) (ad : Addr) (c : Cf) (kA : Option Addr) (kn kc : Nat) (ts : List Tk) (tick : Int) (e : Ev) (w : World) (h : AI w0 w g ad c kA kn kc ts tick) (h0 : 0 ≤ e.task) (h1 : e.task < ts.length) (hk : e.kind = 2) (r : Int) (ts' : List Tk) (hst : ends c ts e = (r, ts')) : Calls Tryd.prog 95 #[.pointer (some ⟨g, 0, none⟩), .agg #[.int .i64 2, .int .i64 e.task, .int .i64 e.slot, .int .i64 e.epoch, .int .i64 e.tick]] w fun x w' => x = .returned (.int .i64 r) ∧ AI w0 w' g ad c kA kn kc ts' tick := by
  have := end2_calls w0 g ad c kA kn kc ts tick e w h h0 h1 hk
  rw [hst, hk] at this
  exact this
theorem end3_calls_b (w0 : World) (g : Nat) (ad : Addr) (c : Cf) (kA : Option Addr) (kn kc : Nat) (ts : List Tk) (tick : Int) (e : Ev) (w : World) (h : AI w0 w g ad c kA kn kc ts tick) (h0 : 0 ≤ e.task) (h1 : e.task < ts.length) (hk : e.kind = 3) (r : Int) (ts' : List Tk) (hst : ends c ts e = (r, ts')) : Calls Tryd.prog 96 #[.pointer (some ⟨g, 0, none⟩), .agg #[.int .i64 3, .int .i64 e.task, .int .i64 e.slot, .int .i64 e.epoch, .int .i64 e.tick]] w fun x w' => x = .returned (.int .i64 r) ∧ AI w0 w' g ad c kA kn kc ts' tick := by
  have := end3_calls w0 g ad c kA kn kc ts tick e w h h0 h1 hk
  rw [hst, hk] at this
  exact this
theorem end4_calls_b (w0 : World) (g : Nat) (ad : Addr) (c : Cf) (kA : Option Addr) (kn kc : Nat) (ts : List Tk) (tick : Int) (e : Ev) (w : World) (h : AI w0 w g ad c kA kn kc ts tick) (h0 : 0 ≤ e.task) (h1 : e.task < ts.length) (hk : e.kind = 4) (r : Int) (ts' : List Tk) (hst : ends c ts e = (r, ts')) : Calls Tryd.prog 97 #[.pointer (some ⟨g, 0, none⟩), .agg #[.int .i64 4, .int .i64 e.task, .int .i64 e.slot, .int .i64 e.epoch, .int .i64 e.tick]] w fun x w' => x = .returned (.int .i64 r) ∧ AI w0 w' g ad c kA kn kc ts' tick := by
  have := end4_calls w0 g ad c kA kn kc ts tick e w h h0 h1 hk
  rw [hst, hk] at this
  exact this
theorem end5_calls_b (w0 : World) (g : Nat) (ad : Addr) (c : Cf) (kA : Option Addr) (kn kc : Nat) (ts : List Tk) (tick : Int) (e : Ev) (w : World) (h : AI w0 w g ad c kA kn kc ts tick) (h0 : 0 ≤ e.task) (h1 : e.task < ts.length) (hk : e.kind = 5) (r : Int) (ts' : List Tk) (hst : ends c ts e = (r, ts')) : Calls Tryd.prog 98 #[.pointer (some ⟨g, 0, none⟩), .agg #[.int .i64 5, .int .i64 e.task, .int .i64 e.slot, .int .i64 e.epoch, .int .i64 e.tick]] w fun x w' => x = .returned (.int .i64 r) ∧ AI w0 w' g ad c kA kn kc ts' tick := by
  have := end5_calls w0 g ad c kA kn kc ts tick e w h h0 h1 hk
  rw [hst, hk] at this
  exact this
theorem end6_calls_b (w0 : World) (g : Nat) (ad : Addr) (c : Cf) (kA : Option Addr) (kn kc : Nat) (ts : List Tk) (tick : Int) (e : Ev) (w : World) (h : AI w0 w g ad c kA kn kc ts tick) (h0 : 0 ≤ e.task) (h1 : e.task < ts.length) (hk : e.kind = 6) (r : Int) (ts' : List Tk) (hst : ends c ts e = (r, ts')) : Calls Tryd.prog 99 #[.pointer (some ⟨g, 0, none⟩), .agg #[.int .i64 6, .int .i64 e.task, .int .i64 e.slot, .int .i64 e.epoch, .int .i64 e.tick]] w fun x w' => x = .returned (.int .i64 r) ∧ AI w0 w' g ad c kA kn kc ts' tick := by
  have := end6_calls w0 g ad c kA kn kc ts tick e w h h0 h1 hk
  rw [hst, hk] at this
  exact this
theorem takes_end_b (c : Cf) (ks : List Tsk) (ts : List Tk) (tick : Int) (e : Ev) (h : may c ts.length tick e = true) (h1 : ¬ e.kind = 1) (h2 : ((getT ts e.task).live && (getT ts e.task).start.slot == e.slot && (getT ts e.task).start.epoch == e.epoch) = true) (r : Int) (ts' : List Tk) (hst : ends c ts e = (r, ts')) : takes c ks ts tick e = (r, setT ts' e.task { getT ts' e.task with live := false }, e.tick) := by unfold takes; rw [if_pos h, if_neg h1, if_pos h2, hst]; rfl
theorem takes_no (c : Cf) (ks : List Tsk) (ts : List Tk) (tick : Int) (e : Ev) (h : may c ts.length tick e = false) : takes c ks ts tick e = (1, ts, tick) := by unfold takes; rw [if_neg (by rw [h]; decide)]
theorem takes_6 (c : Cf) (ks : List Tsk) (ts : List Tk) (tick : Int) (e : Ev) (h : may c ts.length tick e = true) (h1 : ¬ e.kind = 1) (h2 : ((getT ts e.task).live && (getT ts e.task).start.slot == e.slot && (getT ts e.task).start.epoch == e.epoch) = false) : takes c ks ts tick e = (6, ts, e.tick) := by unfold takes; rw [if_pos h, if_neg h1, if_neg (by rw [h2]; decide)]
theorem may_in (c : Cf) (ts : List Tk) (tick : Int) (e : Ev) (h : may c ts.length tick e = true) : 0 ≤ e.task ∧ e.task < ts.length ∧ 1 ≤ e.kind ∧ e.kind ≤ 6 := by
  unfold may known inB at h
  simp only [Bool.and_eq_true, decide_eq_true_eq] at h
  omega
theorem ends_len (c : Cf) (ts : List Tk) (e : Ev) : (ends c ts e).2.length = ts.length := by
  unfold ends
  (repeat' split) <;> simp [setT]
theorem may_calls_b (g : Nat) (ad : Addr) (c : Cf) (kA : Option Addr) (kn kc : Nat) (ts : List Tk) (tick : Int) (e : Ev) (w : World) (h : Aud w g ad c kA kn kc ts tick) (b : Bool) (hb : may c ts.length tick e = b) : Calls Tryd.prog 37 #[.pointer (some ⟨g, 0, none⟩), .agg #[.int .i64 e.kind, .int .i64 e.task, .int .i64 e.slot, .int .i64 e.epoch, .int .i64 e.tick]] w fun x w' => x = .returned (.bool b) ∧ Below w.heap.size w w' := hb ▸ may_calls g ad c kA kn kc ts tick e w h
set_option maxHeartbeats 8000000 in
set_option maxRecDepth 100000 in
theorem takes_calls (w0 : World) (g : Nat) (ad : Addr) (c : Cf) (kA : Option Addr) (kc : Nat) (ks : List Tsk) (ts : List Tk) (tick : Int) (e : Ev) (w : World) (h : AI w0 w g ad c kA ks.length kc ts tick) (hC : Kd.C kTsk w0 kA ks.length ks) (hlen : ks.length = ts.length) (hE : EndsIs w0) : Calls Tryd.prog 23 #[.pointer (some ⟨g, 0, none⟩), .agg #[.int .i64 e.kind, .int .i64 e.task, .int .i64 e.slot, .int .i64 e.epoch, .int .i64 e.tick]] w fun x w' => x = .returned (.int .i64 (takes c ks ts tick e).1) ∧ AI w0 w' g ad c kA ks.length kc (takes c ks ts tick e).2.1 (takes c ks ts tick e).2.2 := by
  have HI := Aside0.mk h
  have HC := Aside0.mk hC
  have HL := Aside0.mk hlen
  have HE := Aside0.mk hE
  clear h hC hlen hE
  cases hm : may c ts.length tick e with
  | false =>
    rw [takes_no c ks ts tick e hm]
    go_enter Tryd.func23, Tryd.ntmps23
    go_upto_region 1 with (first | ((with_reducible refine gate_dst (N := 3) rfl ?_); (try (refine gate_guard (by rfl) ?_; dsimp only)); refine box_event ?hg (N := 3) ?hd (cs := #[.int .i64 e.kind, .int .i64 e.task, .int .i64 e.slot, .int .i64 e.epoch, .int .i64 e.tick]) (t := 42) ?hr ?_; (case hd => rfl); (case hg => rfl); (case hr => first | (go_simp; done) | (go_simp; rfl)); intro gb hg w1 hbox hb; have hk0 : w1.cell? ⟨gb, 0, none⟩ = some (.int .i64 e.kind) := (blk_cell hbox 0).trans rfl; have hk1 : w1.cell? ⟨gb, 1, none⟩ = some (.int .i64 e.task) := (blk_cell hbox 1).trans rfl; have hk2 : w1.cell? ⟨gb, 2, none⟩ = some (.int .i64 e.slot) := (blk_cell hbox 2).trans rfl; have hk3 : w1.cell? ⟨gb, 3, none⟩ = some (.int .i64 e.epoch) := (blk_cell hbox 3).trans rfl; have hk4 : w1.cell? ⟨gb, 4, none⟩ = some (.int .i64 e.tick) := (blk_cell hbox 4).trans rfl; have HBX := Aside0.mk hbox; have HB := Aside0.mk hb; have GE := Aside0.mk (Nat.le_of_eq hg.symm); have HI1 := Aside0.mk (HI.out.below hb); clear hbox hb hg))
    go_wp2_with fail
    refine (may_calls_b g ad c kA _ kc ts tick e _ HI1.out.1 false hm).mono ?_
    rintro e' w2 ⟨rfl, hb2⟩
    have HI2 := Aside0.mk (HI1.out.below hb2)
    have HX2 := Aside0.mk ((hb2.block gb (lt' HBX.out)).trans HBX.out)
    have HB2 := Aside0.mk (below_step HB.out hb2)
    clear hk0 hk1 hk2 hk3 hk4 hb2
    go_wp2
    go_ret
    exact ⟨rfl, HI2.out⟩
  | true =>
    obtain ⟨h0, h1, hk1_, hk6_⟩ := may_in c ts tick e hm
    have p1 : (0 ≤ e.task) = True := eq_true h0
    have q1 : (e.task < (ts.length : Int)) = True := eq_true h1
    have P1 := Aside0.mk h0
    have Q1 := Aside0.mk h1
    have K1 := Aside0.mk (And.intro hk1_ hk6_)
    clear h0 h1 hk1_ hk6_
    by_cases c1 : e.kind = 1
    · have c1b : (e.kind == 1) = true := beq_iff_eq.mpr c1
      obtain ⟨⟨r_, ts_⟩, hst⟩ : ∃ p_, starts c ks ts e = p_ := ⟨starts c ks ts e, Eq.refl _⟩
      rw [takes_start_b c ks ts tick e hm c1 r_ ts_ hst]
      have HST := Aside0.mk hst
      clear hst c1
      go_enter Tryd.func23, Tryd.ntmps23
      go_upto_region 1 with (first | ((with_reducible refine gate_dst (N := 3) rfl ?_); (try (refine gate_guard (by rfl) ?_; dsimp only)); refine box_event ?hg (N := 3) ?hd (cs := #[.int .i64 e.kind, .int .i64 e.task, .int .i64 e.slot, .int .i64 e.epoch, .int .i64 e.tick]) (t := 42) ?hr ?_; (case hd => rfl); (case hg => rfl); (case hr => first | (go_simp; done) | (go_simp; rfl)); intro gb hg w1 hbox hb; have hk0 : w1.cell? ⟨gb, 0, none⟩ = some (.int .i64 e.kind) := (blk_cell hbox 0).trans rfl; have hk1 : w1.cell? ⟨gb, 1, none⟩ = some (.int .i64 e.task) := (blk_cell hbox 1).trans rfl; have hk2 : w1.cell? ⟨gb, 2, none⟩ = some (.int .i64 e.slot) := (blk_cell hbox 2).trans rfl; have hk3 : w1.cell? ⟨gb, 3, none⟩ = some (.int .i64 e.epoch) := (blk_cell hbox 3).trans rfl; have hk4 : w1.cell? ⟨gb, 4, none⟩ = some (.int .i64 e.tick) := (blk_cell hbox 4).trans rfl; have HBX := Aside0.mk hbox; have HB := Aside0.mk hb; have GE := Aside0.mk (Nat.le_of_eq hg.symm); have HI1 := Aside0.mk (HI.out.below hb); clear hbox hb hg))
      go_wp2_with fail
      refine (may_calls_b g ad c kA _ kc ts tick e _ HI1.out.1 true hm).mono ?_
      rintro e' w2 ⟨rfl, hb2⟩
      have HI2 := Aside0.mk (HI1.out.below hb2)
      have HX2 := Aside0.mk ((hb2.block gb (lt' HBX.out)).trans HBX.out)
      have HB2 := Aside0.mk (below_step HB.out hb2)
      clear hk0 hk1 hk2 hk3 hk4 hb2
      have hk0 : w2.cell? ⟨gb, 0, none⟩ = some (.int .i64 e.kind) := (blk_cell HX2.out 0).trans rfl
      have hk1 : w2.cell? ⟨gb, 1, none⟩ = some (.int .i64 e.task) := (blk_cell HX2.out 1).trans rfl
      have hk2 : w2.cell? ⟨gb, 2, none⟩ = some (.int .i64 e.slot) := (blk_cell HX2.out 2).trans rfl
      have hk3 : w2.cell? ⟨gb, 3, none⟩ = some (.int .i64 e.epoch) := (blk_cell HX2.out 3).trans rfl
      have hk4 : w2.cell? ⟨gb, 4, none⟩ = some (.int .i64 e.tick) := (blk_cell HX2.out 4).trans rfl
      obtain ⟨ha0, ha1, ha4, ha5, ha6, ha10, ha11, ha12, hf12⟩ := HI2.out.1.cells
      clear ha0 ha1 ha4 ha5 ha6 ha10 ha11
      go_upto_region 4 with fail
      obtain ⟨w3, hw3⟩ : ∃ w_, w_ = w2.setCell ⟨g, 12, none⟩ (.int .i64 e.tick) := ⟨_, rfl⟩
      rw [← hw3]
      have HI3 : Aside0 (AI w0 w3 g ad c kA ks.length kc ts e.tick) := ⟨by rw [hw3]; exact HI2.out.setTick e.tick⟩
      have hne : gb ≠ g := by
        have := GE.out
        have h2 := lt' HI.out.1.1
        omega
      have HX3 : Aside0 (w3.heap[gb]? = some (.cells #[.int .i64 e.kind, .int .i64 e.task, .int .i64 e.slot, .int .i64 e.epoch, .int .i64 e.tick] 42 (0, 0))) := ⟨by rw [hw3]; exact (Below.heap_setCell w2 ⟨g, 12, none⟩ (.int .i64 e.tick) gb hne).trans HX2.out⟩
      clear hw3 hk0 hk1 hk2 hk3 hk4 ha12 hf12
      have hk0 : w3.cell? ⟨gb, 0, none⟩ = some (.int .i64 e.kind) := (blk_cell HX3.out 0).trans rfl
      have hk1 : w3.cell? ⟨gb, 1, none⟩ = some (.int .i64 e.task) := (blk_cell HX3.out 1).trans rfl
      have hk2 : w3.cell? ⟨gb, 2, none⟩ = some (.int .i64 e.slot) := (blk_cell HX3.out 2).trans rfl
      have hk3 : w3.cell? ⟨gb, 3, none⟩ = some (.int .i64 e.epoch) := (blk_cell HX3.out 3).trans rfl
      have hk4 : w3.cell? ⟨gb, 4, none⟩ = some (.int .i64 e.tick) := (blk_cell HX3.out 4).trans rfl
      obtain ⟨ha0, ha1, ha4, ha5, ha6, ha10, ha11, ha12, hf12⟩ := HI3.out.1.cells
      obtain ⟨⟨ht0, hf0⟩, ⟨ht1, hf1⟩, ⟨ht2, hf2⟩, ⟨ht3, hf3⟩, ⟨ht4, hf4⟩, ⟨ht5, hf5⟩, ⟨ht6, hf6⟩, ⟨ht7, hf7⟩, ⟨ht8, hf8⟩, ⟨ht9, hf9⟩⟩ := HI3.out.1.task e.task P1.out Q1.out
      go_wp2_with fail
      refine (starts_calls_b w0 g ad c kA kc ks ts e.tick e _ HI3.out HC.out HL.out P1.out Q1.out r_ ts_ HST.out).mono ?_
      rintro e' w4 ⟨rfl, HI4⟩
      go_wp2
      go_ret
      exact ⟨rfl, HI4⟩
    · have c1b : (e.kind == 1) = false := beq_eq_false_iff_ne.mpr c1
      cases hl : (getT ts e.task).live with
      | false =>
        rw [takes_6 c ks ts tick e hm c1 (by rw [hl]; rfl)]
        go_enter Tryd.func23, Tryd.ntmps23
        go_upto_region 1 with (first | ((with_reducible refine gate_dst (N := 3) rfl ?_); (try (refine gate_guard (by rfl) ?_; dsimp only)); refine box_event ?hg (N := 3) ?hd (cs := #[.int .i64 e.kind, .int .i64 e.task, .int .i64 e.slot, .int .i64 e.epoch, .int .i64 e.tick]) (t := 42) ?hr ?_; (case hd => rfl); (case hg => rfl); (case hr => first | (go_simp; done) | (go_simp; rfl)); intro gb hg w1 hbox hb; have hk0 : w1.cell? ⟨gb, 0, none⟩ = some (.int .i64 e.kind) := (blk_cell hbox 0).trans rfl; have hk1 : w1.cell? ⟨gb, 1, none⟩ = some (.int .i64 e.task) := (blk_cell hbox 1).trans rfl; have hk2 : w1.cell? ⟨gb, 2, none⟩ = some (.int .i64 e.slot) := (blk_cell hbox 2).trans rfl; have hk3 : w1.cell? ⟨gb, 3, none⟩ = some (.int .i64 e.epoch) := (blk_cell hbox 3).trans rfl; have hk4 : w1.cell? ⟨gb, 4, none⟩ = some (.int .i64 e.tick) := (blk_cell hbox 4).trans rfl; have HBX := Aside0.mk hbox; have HB := Aside0.mk hb; have GE := Aside0.mk (Nat.le_of_eq hg.symm); have HI1 := Aside0.mk (HI.out.below hb); clear hbox hb hg))
        go_wp2_with fail
        refine (may_calls_b g ad c kA _ kc ts tick e _ HI1.out.1 true hm).mono ?_
        rintro e' w2 ⟨rfl, hb2⟩
        have HI2 := Aside0.mk (HI1.out.below hb2)
        have HX2 := Aside0.mk ((hb2.block gb (lt' HBX.out)).trans HBX.out)
        have HB2 := Aside0.mk (below_step HB.out hb2)
        clear hk0 hk1 hk2 hk3 hk4 hb2
        have hk0 : w2.cell? ⟨gb, 0, none⟩ = some (.int .i64 e.kind) := (blk_cell HX2.out 0).trans rfl
        have hk1 : w2.cell? ⟨gb, 1, none⟩ = some (.int .i64 e.task) := (blk_cell HX2.out 1).trans rfl
        have hk2 : w2.cell? ⟨gb, 2, none⟩ = some (.int .i64 e.slot) := (blk_cell HX2.out 2).trans rfl
        have hk3 : w2.cell? ⟨gb, 3, none⟩ = some (.int .i64 e.epoch) := (blk_cell HX2.out 3).trans rfl
        have hk4 : w2.cell? ⟨gb, 4, none⟩ = some (.int .i64 e.tick) := (blk_cell HX2.out 4).trans rfl
        obtain ⟨ha0, ha1, ha4, ha5, ha6, ha10, ha11, ha12, hf12⟩ := HI2.out.1.cells
        clear ha0 ha1 ha4 ha5 ha6 ha10 ha11
        go_upto_region 4 with fail
        obtain ⟨w3, hw3⟩ : ∃ w_, w_ = w2.setCell ⟨g, 12, none⟩ (.int .i64 e.tick) := ⟨_, rfl⟩
        rw [← hw3]
        have HI3 : Aside0 (AI w0 w3 g ad c kA ks.length kc ts e.tick) := ⟨by rw [hw3]; exact HI2.out.setTick e.tick⟩
        have hne : gb ≠ g := by
          have := GE.out
          have h2 := lt' HI.out.1.1
          omega
        have HX3 : Aside0 (w3.heap[gb]? = some (.cells #[.int .i64 e.kind, .int .i64 e.task, .int .i64 e.slot, .int .i64 e.epoch, .int .i64 e.tick] 42 (0, 0))) := ⟨by rw [hw3]; exact (Below.heap_setCell w2 ⟨g, 12, none⟩ (.int .i64 e.tick) gb hne).trans HX2.out⟩
        clear hw3 hk0 hk1 hk2 hk3 hk4 ha12 hf12
        have hk0 : w3.cell? ⟨gb, 0, none⟩ = some (.int .i64 e.kind) := (blk_cell HX3.out 0).trans rfl
        have hk1 : w3.cell? ⟨gb, 1, none⟩ = some (.int .i64 e.task) := (blk_cell HX3.out 1).trans rfl
        have hk2 : w3.cell? ⟨gb, 2, none⟩ = some (.int .i64 e.slot) := (blk_cell HX3.out 2).trans rfl
        have hk3 : w3.cell? ⟨gb, 3, none⟩ = some (.int .i64 e.epoch) := (blk_cell HX3.out 3).trans rfl
        have hk4 : w3.cell? ⟨gb, 4, none⟩ = some (.int .i64 e.tick) := (blk_cell HX3.out 4).trans rfl
        obtain ⟨ha0, ha1, ha4, ha5, ha6, ha10, ha11, ha12, hf12⟩ := HI3.out.1.cells
        obtain ⟨⟨ht0, hf0⟩, ⟨ht1, hf1⟩, ⟨ht2, hf2⟩, ⟨ht3, hf3⟩, ⟨ht4, hf4⟩, ⟨ht5, hf5⟩, ⟨ht6, hf6⟩, ⟨ht7, hf7⟩, ⟨ht8, hf8⟩, ⟨ht9, hf9⟩⟩ := HI3.out.1.task e.task P1.out Q1.out
        rw [hl] at ht0
        clear c1
        go_wp2
        go_quiet (fail)
        go_wp2
        go_quiet (fail)
        go_wp2
        go_ret
        exact ⟨rfl, by repeat (first | exact HI3.out | apply AI.drewN)⟩
      | true =>
        by_cases c2 : (getT ts e.task).start.slot = e.slot
        · have c2b : ((getT ts e.task).start.slot == e.slot) = true := beq_iff_eq.mpr c2
          have c2c : ((getT ts e.task).start.slot != e.slot) = false := bne_eq_false_iff_eq.mpr c2
          by_cases c3 : (getT ts e.task).start.epoch = e.epoch
          · have c3b : ((getT ts e.task).start.epoch == e.epoch) = true := beq_iff_eq.mpr c3
            have c3c : ((getT ts e.task).start.epoch != e.epoch) = false := bne_eq_false_iff_eq.mpr c3
            obtain ⟨⟨r_, ts_⟩, hst⟩ : ∃ p_, ends c ts e = p_ := ⟨ends c ts e, Eq.refl _⟩
            have HST := Aside0.mk hst
            rcases (show e.kind = 2 ∨ e.kind = 3 ∨ e.kind = 4 ∨ e.kind = 5 ∨ e.kind = 6 by have := K1.out; omega) with ck | ck | ck | ck | ck
            · rw [takes_end_b c ks ts tick e hm c1 (by rw [hl, beq_iff_eq.mpr c2, beq_iff_eq.mpr c3]; rfl) r_ ts_ hst]
              have CK := Aside0.mk ck
              clear ck hst c1 c2 c3
              go_enter Tryd.func23, Tryd.ntmps23
              go_upto_region 1 with (first | ((with_reducible refine gate_dst (N := 3) rfl ?_); (try (refine gate_guard (by rfl) ?_; dsimp only)); refine box_event ?hg (N := 3) ?hd (cs := #[.int .i64 e.kind, .int .i64 e.task, .int .i64 e.slot, .int .i64 e.epoch, .int .i64 e.tick]) (t := 42) ?hr ?_; (case hd => rfl); (case hg => rfl); (case hr => first | (go_simp; done) | (go_simp; rfl)); intro gb hg w1 hbox hb; have hk0 : w1.cell? ⟨gb, 0, none⟩ = some (.int .i64 e.kind) := (blk_cell hbox 0).trans rfl; have hk1 : w1.cell? ⟨gb, 1, none⟩ = some (.int .i64 e.task) := (blk_cell hbox 1).trans rfl; have hk2 : w1.cell? ⟨gb, 2, none⟩ = some (.int .i64 e.slot) := (blk_cell hbox 2).trans rfl; have hk3 : w1.cell? ⟨gb, 3, none⟩ = some (.int .i64 e.epoch) := (blk_cell hbox 3).trans rfl; have hk4 : w1.cell? ⟨gb, 4, none⟩ = some (.int .i64 e.tick) := (blk_cell hbox 4).trans rfl; have HBX := Aside0.mk hbox; have HB := Aside0.mk hb; have GE := Aside0.mk (Nat.le_of_eq hg.symm); have HI1 := Aside0.mk (HI.out.below hb); clear hbox hb hg))
              go_wp2_with fail
              refine (may_calls_b g ad c kA _ kc ts tick e _ HI1.out.1 true hm).mono ?_
              rintro e' w2 ⟨rfl, hb2⟩
              have HI2 := Aside0.mk (HI1.out.below hb2)
              have HX2 := Aside0.mk ((hb2.block gb (lt' HBX.out)).trans HBX.out)
              have HB2 := Aside0.mk (below_step HB.out hb2)
              clear hk0 hk1 hk2 hk3 hk4 hb2
              have hk0 : w2.cell? ⟨gb, 0, none⟩ = some (.int .i64 e.kind) := (blk_cell HX2.out 0).trans rfl
              have hk1 : w2.cell? ⟨gb, 1, none⟩ = some (.int .i64 e.task) := (blk_cell HX2.out 1).trans rfl
              have hk2 : w2.cell? ⟨gb, 2, none⟩ = some (.int .i64 e.slot) := (blk_cell HX2.out 2).trans rfl
              have hk3 : w2.cell? ⟨gb, 3, none⟩ = some (.int .i64 e.epoch) := (blk_cell HX2.out 3).trans rfl
              have hk4 : w2.cell? ⟨gb, 4, none⟩ = some (.int .i64 e.tick) := (blk_cell HX2.out 4).trans rfl
              obtain ⟨ha0, ha1, ha4, ha5, ha6, ha10, ha11, ha12, hf12⟩ := HI2.out.1.cells
              clear ha0 ha1 ha4 ha5 ha6 ha10 ha11
              go_upto_region 4 with fail
              obtain ⟨w3, hw3⟩ : ∃ w_, w_ = w2.setCell ⟨g, 12, none⟩ (.int .i64 e.tick) := ⟨_, rfl⟩
              rw [← hw3]
              have HI3 : Aside0 (AI w0 w3 g ad c kA ks.length kc ts e.tick) := ⟨by rw [hw3]; exact HI2.out.setTick e.tick⟩
              have hne : gb ≠ g := by
                have := GE.out
                have h2 := lt' HI.out.1.1
                omega
              have HX3 : Aside0 (w3.heap[gb]? = some (.cells #[.int .i64 e.kind, .int .i64 e.task, .int .i64 e.slot, .int .i64 e.epoch, .int .i64 e.tick] 42 (0, 0))) := ⟨by rw [hw3]; exact (Below.heap_setCell w2 ⟨g, 12, none⟩ (.int .i64 e.tick) gb hne).trans HX2.out⟩
              clear hw3 hk0 hk1 hk2 hk3 hk4 ha12 hf12
              have hk0 : w3.cell? ⟨gb, 0, none⟩ = some (.int .i64 e.kind) := (blk_cell HX3.out 0).trans rfl
              have hk1 : w3.cell? ⟨gb, 1, none⟩ = some (.int .i64 e.task) := (blk_cell HX3.out 1).trans rfl
              have hk2 : w3.cell? ⟨gb, 2, none⟩ = some (.int .i64 e.slot) := (blk_cell HX3.out 2).trans rfl
              have hk3 : w3.cell? ⟨gb, 3, none⟩ = some (.int .i64 e.epoch) := (blk_cell HX3.out 3).trans rfl
              have hk4 : w3.cell? ⟨gb, 4, none⟩ = some (.int .i64 e.tick) := (blk_cell HX3.out 4).trans rfl
              obtain ⟨ha0, ha1, ha4, ha5, ha6, ha10, ha11, ha12, hf12⟩ := HI3.out.1.cells
              obtain ⟨⟨ht0, hf0⟩, ⟨ht1, hf1⟩, ⟨ht2, hf2⟩, ⟨ht3, hf3⟩, ⟨ht4, hf4⟩, ⟨ht5, hf5⟩, ⟨ht6, hf6⟩, ⟨ht7, hf7⟩, ⟨ht8, hf8⟩, ⟨ht9, hf9⟩⟩ := HI3.out.1.task e.task P1.out Q1.out
              rw [hl] at ht0
              rw [CK.out] at hk0
              go_wp2
              go_quiet (fail)
              go_wp2
              go_quiet (fail)
              obtain ⟨mb, hg1, hmb, h1w, hmap⟩ := HE.out.below HI3.out.2.1
              have hlk := fun n_ : Nat => (hmap (w3.drewN n_) rfl).1
              clear hmap
              go_wp2_with fail
              refine (end2_calls_b w0 g ad c kA _ kc ts e.tick e _ (HI3.out.drewN _) P1.out Q1.out CK.out r_ ts_ HST.out).mono ?_
              rintro e' w4 ⟨rfl, HI4⟩
              have hll : ts_.length = ts.length := by have := ends_len c ts e; rw [HST.out] at this; exact this
              have L : e.task < (ts_.length : Int) := by rw [hll]; exact Q1.out
              clear hk0 hk1 hk2 hk3 hk4 ha0 ha1 ha4 ha5 ha6 ha10 ha11 ha12 hf12 ht0 ht1 ht2 ht3 ht4 ht5 ht6 ht7 ht8 ht9 hf0 hf1 hf2 hf3 hf4 hf5 hf6 hf7 hf8 hf9 hlk hg1
              obtain ⟨⟨ht0, hf0⟩, _⟩ := HI4.1.task e.task P1.out L
              go_wp2
              go_ret
              exact ⟨rfl, HI4.put_0 e.task P1.out L _ _ rfl⟩
            · rw [takes_end_b c ks ts tick e hm c1 (by rw [hl, beq_iff_eq.mpr c2, beq_iff_eq.mpr c3]; rfl) r_ ts_ hst]
              have CK := Aside0.mk ck
              clear ck hst c1 c2 c3
              go_enter Tryd.func23, Tryd.ntmps23
              go_upto_region 1 with (first | ((with_reducible refine gate_dst (N := 3) rfl ?_); (try (refine gate_guard (by rfl) ?_; dsimp only)); refine box_event ?hg (N := 3) ?hd (cs := #[.int .i64 e.kind, .int .i64 e.task, .int .i64 e.slot, .int .i64 e.epoch, .int .i64 e.tick]) (t := 42) ?hr ?_; (case hd => rfl); (case hg => rfl); (case hr => first | (go_simp; done) | (go_simp; rfl)); intro gb hg w1 hbox hb; have hk0 : w1.cell? ⟨gb, 0, none⟩ = some (.int .i64 e.kind) := (blk_cell hbox 0).trans rfl; have hk1 : w1.cell? ⟨gb, 1, none⟩ = some (.int .i64 e.task) := (blk_cell hbox 1).trans rfl; have hk2 : w1.cell? ⟨gb, 2, none⟩ = some (.int .i64 e.slot) := (blk_cell hbox 2).trans rfl; have hk3 : w1.cell? ⟨gb, 3, none⟩ = some (.int .i64 e.epoch) := (blk_cell hbox 3).trans rfl; have hk4 : w1.cell? ⟨gb, 4, none⟩ = some (.int .i64 e.tick) := (blk_cell hbox 4).trans rfl; have HBX := Aside0.mk hbox; have HB := Aside0.mk hb; have GE := Aside0.mk (Nat.le_of_eq hg.symm); have HI1 := Aside0.mk (HI.out.below hb); clear hbox hb hg))
              go_wp2_with fail
              refine (may_calls_b g ad c kA _ kc ts tick e _ HI1.out.1 true hm).mono ?_
              rintro e' w2 ⟨rfl, hb2⟩
              have HI2 := Aside0.mk (HI1.out.below hb2)
              have HX2 := Aside0.mk ((hb2.block gb (lt' HBX.out)).trans HBX.out)
              have HB2 := Aside0.mk (below_step HB.out hb2)
              clear hk0 hk1 hk2 hk3 hk4 hb2
              have hk0 : w2.cell? ⟨gb, 0, none⟩ = some (.int .i64 e.kind) := (blk_cell HX2.out 0).trans rfl
              have hk1 : w2.cell? ⟨gb, 1, none⟩ = some (.int .i64 e.task) := (blk_cell HX2.out 1).trans rfl
              have hk2 : w2.cell? ⟨gb, 2, none⟩ = some (.int .i64 e.slot) := (blk_cell HX2.out 2).trans rfl
              have hk3 : w2.cell? ⟨gb, 3, none⟩ = some (.int .i64 e.epoch) := (blk_cell HX2.out 3).trans rfl
              have hk4 : w2.cell? ⟨gb, 4, none⟩ = some (.int .i64 e.tick) := (blk_cell HX2.out 4).trans rfl
              obtain ⟨ha0, ha1, ha4, ha5, ha6, ha10, ha11, ha12, hf12⟩ := HI2.out.1.cells
              clear ha0 ha1 ha4 ha5 ha6 ha10 ha11
              go_upto_region 4 with fail
              obtain ⟨w3, hw3⟩ : ∃ w_, w_ = w2.setCell ⟨g, 12, none⟩ (.int .i64 e.tick) := ⟨_, rfl⟩
              rw [← hw3]
              have HI3 : Aside0 (AI w0 w3 g ad c kA ks.length kc ts e.tick) := ⟨by rw [hw3]; exact HI2.out.setTick e.tick⟩
              have hne : gb ≠ g := by
                have := GE.out
                have h2 := lt' HI.out.1.1
                omega
              have HX3 : Aside0 (w3.heap[gb]? = some (.cells #[.int .i64 e.kind, .int .i64 e.task, .int .i64 e.slot, .int .i64 e.epoch, .int .i64 e.tick] 42 (0, 0))) := ⟨by rw [hw3]; exact (Below.heap_setCell w2 ⟨g, 12, none⟩ (.int .i64 e.tick) gb hne).trans HX2.out⟩
              clear hw3 hk0 hk1 hk2 hk3 hk4 ha12 hf12
              have hk0 : w3.cell? ⟨gb, 0, none⟩ = some (.int .i64 e.kind) := (blk_cell HX3.out 0).trans rfl
              have hk1 : w3.cell? ⟨gb, 1, none⟩ = some (.int .i64 e.task) := (blk_cell HX3.out 1).trans rfl
              have hk2 : w3.cell? ⟨gb, 2, none⟩ = some (.int .i64 e.slot) := (blk_cell HX3.out 2).trans rfl
              have hk3 : w3.cell? ⟨gb, 3, none⟩ = some (.int .i64 e.epoch) := (blk_cell HX3.out 3).trans rfl
              have hk4 : w3.cell? ⟨gb, 4, none⟩ = some (.int .i64 e.tick) := (blk_cell HX3.out 4).trans rfl
              obtain ⟨ha0, ha1, ha4, ha5, ha6, ha10, ha11, ha12, hf12⟩ := HI3.out.1.cells
              obtain ⟨⟨ht0, hf0⟩, ⟨ht1, hf1⟩, ⟨ht2, hf2⟩, ⟨ht3, hf3⟩, ⟨ht4, hf4⟩, ⟨ht5, hf5⟩, ⟨ht6, hf6⟩, ⟨ht7, hf7⟩, ⟨ht8, hf8⟩, ⟨ht9, hf9⟩⟩ := HI3.out.1.task e.task P1.out Q1.out
              rw [hl] at ht0
              rw [CK.out] at hk0
              go_wp2
              go_quiet (fail)
              go_wp2
              go_quiet (fail)
              obtain ⟨mb, hg1, hmb, h1w, hmap⟩ := HE.out.below HI3.out.2.1
              have hlk := fun n_ : Nat => (hmap (w3.drewN n_) rfl).2.1
              clear hmap
              go_wp2_with fail
              refine (end3_calls_b w0 g ad c kA _ kc ts e.tick e _ (HI3.out.drewN _) P1.out Q1.out CK.out r_ ts_ HST.out).mono ?_
              rintro e' w4 ⟨rfl, HI4⟩
              have hll : ts_.length = ts.length := by have := ends_len c ts e; rw [HST.out] at this; exact this
              have L : e.task < (ts_.length : Int) := by rw [hll]; exact Q1.out
              clear hk0 hk1 hk2 hk3 hk4 ha0 ha1 ha4 ha5 ha6 ha10 ha11 ha12 hf12 ht0 ht1 ht2 ht3 ht4 ht5 ht6 ht7 ht8 ht9 hf0 hf1 hf2 hf3 hf4 hf5 hf6 hf7 hf8 hf9 hlk hg1
              obtain ⟨⟨ht0, hf0⟩, _⟩ := HI4.1.task e.task P1.out L
              go_wp2
              go_ret
              exact ⟨rfl, HI4.put_0 e.task P1.out L _ _ rfl⟩
            · rw [takes_end_b c ks ts tick e hm c1 (by rw [hl, beq_iff_eq.mpr c2, beq_iff_eq.mpr c3]; rfl) r_ ts_ hst]
              have CK := Aside0.mk ck
              clear ck hst c1 c2 c3
              go_enter Tryd.func23, Tryd.ntmps23
              go_upto_region 1 with (first | ((with_reducible refine gate_dst (N := 3) rfl ?_); (try (refine gate_guard (by rfl) ?_; dsimp only)); refine box_event ?hg (N := 3) ?hd (cs := #[.int .i64 e.kind, .int .i64 e.task, .int .i64 e.slot, .int .i64 e.epoch, .int .i64 e.tick]) (t := 42) ?hr ?_; (case hd => rfl); (case hg => rfl); (case hr => first | (go_simp; done) | (go_simp; rfl)); intro gb hg w1 hbox hb; have hk0 : w1.cell? ⟨gb, 0, none⟩ = some (.int .i64 e.kind) := (blk_cell hbox 0).trans rfl; have hk1 : w1.cell? ⟨gb, 1, none⟩ = some (.int .i64 e.task) := (blk_cell hbox 1).trans rfl; have hk2 : w1.cell? ⟨gb, 2, none⟩ = some (.int .i64 e.slot) := (blk_cell hbox 2).trans rfl; have hk3 : w1.cell? ⟨gb, 3, none⟩ = some (.int .i64 e.epoch) := (blk_cell hbox 3).trans rfl; have hk4 : w1.cell? ⟨gb, 4, none⟩ = some (.int .i64 e.tick) := (blk_cell hbox 4).trans rfl; have HBX := Aside0.mk hbox; have HB := Aside0.mk hb; have GE := Aside0.mk (Nat.le_of_eq hg.symm); have HI1 := Aside0.mk (HI.out.below hb); clear hbox hb hg))
              go_wp2_with fail
              refine (may_calls_b g ad c kA _ kc ts tick e _ HI1.out.1 true hm).mono ?_
              rintro e' w2 ⟨rfl, hb2⟩
              have HI2 := Aside0.mk (HI1.out.below hb2)
              have HX2 := Aside0.mk ((hb2.block gb (lt' HBX.out)).trans HBX.out)
              have HB2 := Aside0.mk (below_step HB.out hb2)
              clear hk0 hk1 hk2 hk3 hk4 hb2
              have hk0 : w2.cell? ⟨gb, 0, none⟩ = some (.int .i64 e.kind) := (blk_cell HX2.out 0).trans rfl
              have hk1 : w2.cell? ⟨gb, 1, none⟩ = some (.int .i64 e.task) := (blk_cell HX2.out 1).trans rfl
              have hk2 : w2.cell? ⟨gb, 2, none⟩ = some (.int .i64 e.slot) := (blk_cell HX2.out 2).trans rfl
              have hk3 : w2.cell? ⟨gb, 3, none⟩ = some (.int .i64 e.epoch) := (blk_cell HX2.out 3).trans rfl
              have hk4 : w2.cell? ⟨gb, 4, none⟩ = some (.int .i64 e.tick) := (blk_cell HX2.out 4).trans rfl
              obtain ⟨ha0, ha1, ha4, ha5, ha6, ha10, ha11, ha12, hf12⟩ := HI2.out.1.cells
              clear ha0 ha1 ha4 ha5 ha6 ha10 ha11
              go_upto_region 4 with fail
              obtain ⟨w3, hw3⟩ : ∃ w_, w_ = w2.setCell ⟨g, 12, none⟩ (.int .i64 e.tick) := ⟨_, rfl⟩
              rw [← hw3]
              have HI3 : Aside0 (AI w0 w3 g ad c kA ks.length kc ts e.tick) := ⟨by rw [hw3]; exact HI2.out.setTick e.tick⟩
              have hne : gb ≠ g := by
                have := GE.out
                have h2 := lt' HI.out.1.1
                omega
              have HX3 : Aside0 (w3.heap[gb]? = some (.cells #[.int .i64 e.kind, .int .i64 e.task, .int .i64 e.slot, .int .i64 e.epoch, .int .i64 e.tick] 42 (0, 0))) := ⟨by rw [hw3]; exact (Below.heap_setCell w2 ⟨g, 12, none⟩ (.int .i64 e.tick) gb hne).trans HX2.out⟩
              clear hw3 hk0 hk1 hk2 hk3 hk4 ha12 hf12
              have hk0 : w3.cell? ⟨gb, 0, none⟩ = some (.int .i64 e.kind) := (blk_cell HX3.out 0).trans rfl
              have hk1 : w3.cell? ⟨gb, 1, none⟩ = some (.int .i64 e.task) := (blk_cell HX3.out 1).trans rfl
              have hk2 : w3.cell? ⟨gb, 2, none⟩ = some (.int .i64 e.slot) := (blk_cell HX3.out 2).trans rfl
              have hk3 : w3.cell? ⟨gb, 3, none⟩ = some (.int .i64 e.epoch) := (blk_cell HX3.out 3).trans rfl
              have hk4 : w3.cell? ⟨gb, 4, none⟩ = some (.int .i64 e.tick) := (blk_cell HX3.out 4).trans rfl
              obtain ⟨ha0, ha1, ha4, ha5, ha6, ha10, ha11, ha12, hf12⟩ := HI3.out.1.cells
              obtain ⟨⟨ht0, hf0⟩, ⟨ht1, hf1⟩, ⟨ht2, hf2⟩, ⟨ht3, hf3⟩, ⟨ht4, hf4⟩, ⟨ht5, hf5⟩, ⟨ht6, hf6⟩, ⟨ht7, hf7⟩, ⟨ht8, hf8⟩, ⟨ht9, hf9⟩⟩ := HI3.out.1.task e.task P1.out Q1.out
              rw [hl] at ht0
              rw [CK.out] at hk0
              go_wp2
              go_quiet (fail)
              go_wp2
              go_quiet (fail)
              obtain ⟨mb, hg1, hmb, h1w, hmap⟩ := HE.out.below HI3.out.2.1
              have hlk := fun n_ : Nat => (hmap (w3.drewN n_) rfl).2.2.1
              clear hmap
              go_wp2_with fail
              refine (end4_calls_b w0 g ad c kA _ kc ts e.tick e _ (HI3.out.drewN _) P1.out Q1.out CK.out r_ ts_ HST.out).mono ?_
              rintro e' w4 ⟨rfl, HI4⟩
              have hll : ts_.length = ts.length := by have := ends_len c ts e; rw [HST.out] at this; exact this
              have L : e.task < (ts_.length : Int) := by rw [hll]; exact Q1.out
              clear hk0 hk1 hk2 hk3 hk4 ha0 ha1 ha4 ha5 ha6 ha10 ha11 ha12 hf12 ht0 ht1 ht2 ht3 ht4 ht5 ht6 ht7 ht8 ht9 hf0 hf1 hf2 hf3 hf4 hf5 hf6 hf7 hf8 hf9 hlk hg1
              obtain ⟨⟨ht0, hf0⟩, _⟩ := HI4.1.task e.task P1.out L
              go_wp2
              go_ret
              exact ⟨rfl, HI4.put_0 e.task P1.out L _ _ rfl⟩
            · rw [takes_end_b c ks ts tick e hm c1 (by rw [hl, beq_iff_eq.mpr c2, beq_iff_eq.mpr c3]; rfl) r_ ts_ hst]
              have CK := Aside0.mk ck
              clear ck hst c1 c2 c3
              go_enter Tryd.func23, Tryd.ntmps23
              go_upto_region 1 with (first | ((with_reducible refine gate_dst (N := 3) rfl ?_); (try (refine gate_guard (by rfl) ?_; dsimp only)); refine box_event ?hg (N := 3) ?hd (cs := #[.int .i64 e.kind, .int .i64 e.task, .int .i64 e.slot, .int .i64 e.epoch, .int .i64 e.tick]) (t := 42) ?hr ?_; (case hd => rfl); (case hg => rfl); (case hr => first | (go_simp; done) | (go_simp; rfl)); intro gb hg w1 hbox hb; have hk0 : w1.cell? ⟨gb, 0, none⟩ = some (.int .i64 e.kind) := (blk_cell hbox 0).trans rfl; have hk1 : w1.cell? ⟨gb, 1, none⟩ = some (.int .i64 e.task) := (blk_cell hbox 1).trans rfl; have hk2 : w1.cell? ⟨gb, 2, none⟩ = some (.int .i64 e.slot) := (blk_cell hbox 2).trans rfl; have hk3 : w1.cell? ⟨gb, 3, none⟩ = some (.int .i64 e.epoch) := (blk_cell hbox 3).trans rfl; have hk4 : w1.cell? ⟨gb, 4, none⟩ = some (.int .i64 e.tick) := (blk_cell hbox 4).trans rfl; have HBX := Aside0.mk hbox; have HB := Aside0.mk hb; have GE := Aside0.mk (Nat.le_of_eq hg.symm); have HI1 := Aside0.mk (HI.out.below hb); clear hbox hb hg))
              go_wp2_with fail
              refine (may_calls_b g ad c kA _ kc ts tick e _ HI1.out.1 true hm).mono ?_
              rintro e' w2 ⟨rfl, hb2⟩
              have HI2 := Aside0.mk (HI1.out.below hb2)
              have HX2 := Aside0.mk ((hb2.block gb (lt' HBX.out)).trans HBX.out)
              have HB2 := Aside0.mk (below_step HB.out hb2)
              clear hk0 hk1 hk2 hk3 hk4 hb2
              have hk0 : w2.cell? ⟨gb, 0, none⟩ = some (.int .i64 e.kind) := (blk_cell HX2.out 0).trans rfl
              have hk1 : w2.cell? ⟨gb, 1, none⟩ = some (.int .i64 e.task) := (blk_cell HX2.out 1).trans rfl
              have hk2 : w2.cell? ⟨gb, 2, none⟩ = some (.int .i64 e.slot) := (blk_cell HX2.out 2).trans rfl
              have hk3 : w2.cell? ⟨gb, 3, none⟩ = some (.int .i64 e.epoch) := (blk_cell HX2.out 3).trans rfl
              have hk4 : w2.cell? ⟨gb, 4, none⟩ = some (.int .i64 e.tick) := (blk_cell HX2.out 4).trans rfl
              obtain ⟨ha0, ha1, ha4, ha5, ha6, ha10, ha11, ha12, hf12⟩ := HI2.out.1.cells
              clear ha0 ha1 ha4 ha5 ha6 ha10 ha11
              go_upto_region 4 with fail
              obtain ⟨w3, hw3⟩ : ∃ w_, w_ = w2.setCell ⟨g, 12, none⟩ (.int .i64 e.tick) := ⟨_, rfl⟩
              rw [← hw3]
              have HI3 : Aside0 (AI w0 w3 g ad c kA ks.length kc ts e.tick) := ⟨by rw [hw3]; exact HI2.out.setTick e.tick⟩
              have hne : gb ≠ g := by
                have := GE.out
                have h2 := lt' HI.out.1.1
                omega
              have HX3 : Aside0 (w3.heap[gb]? = some (.cells #[.int .i64 e.kind, .int .i64 e.task, .int .i64 e.slot, .int .i64 e.epoch, .int .i64 e.tick] 42 (0, 0))) := ⟨by rw [hw3]; exact (Below.heap_setCell w2 ⟨g, 12, none⟩ (.int .i64 e.tick) gb hne).trans HX2.out⟩
              clear hw3 hk0 hk1 hk2 hk3 hk4 ha12 hf12
              have hk0 : w3.cell? ⟨gb, 0, none⟩ = some (.int .i64 e.kind) := (blk_cell HX3.out 0).trans rfl
              have hk1 : w3.cell? ⟨gb, 1, none⟩ = some (.int .i64 e.task) := (blk_cell HX3.out 1).trans rfl
              have hk2 : w3.cell? ⟨gb, 2, none⟩ = some (.int .i64 e.slot) := (blk_cell HX3.out 2).trans rfl
              have hk3 : w3.cell? ⟨gb, 3, none⟩ = some (.int .i64 e.epoch) := (blk_cell HX3.out 3).trans rfl
              have hk4 : w3.cell? ⟨gb, 4, none⟩ = some (.int .i64 e.tick) := (blk_cell HX3.out 4).trans rfl
              obtain ⟨ha0, ha1, ha4, ha5, ha6, ha10, ha11, ha12, hf12⟩ := HI3.out.1.cells
              obtain ⟨⟨ht0, hf0⟩, ⟨ht1, hf1⟩, ⟨ht2, hf2⟩, ⟨ht3, hf3⟩, ⟨ht4, hf4⟩, ⟨ht5, hf5⟩, ⟨ht6, hf6⟩, ⟨ht7, hf7⟩, ⟨ht8, hf8⟩, ⟨ht9, hf9⟩⟩ := HI3.out.1.task e.task P1.out Q1.out
              rw [hl] at ht0
              rw [CK.out] at hk0
              go_wp2
              go_quiet (fail)
              go_wp2
              go_quiet (fail)
              obtain ⟨mb, hg1, hmb, h1w, hmap⟩ := HE.out.below HI3.out.2.1
              have hlk := fun n_ : Nat => (hmap (w3.drewN n_) rfl).2.2.2.1
              clear hmap
              go_wp2_with fail
              refine (end5_calls_b w0 g ad c kA _ kc ts e.tick e _ (HI3.out.drewN _) P1.out Q1.out CK.out r_ ts_ HST.out).mono ?_
              rintro e' w4 ⟨rfl, HI4⟩
              have hll : ts_.length = ts.length := by have := ends_len c ts e; rw [HST.out] at this; exact this
              have L : e.task < (ts_.length : Int) := by rw [hll]; exact Q1.out
              clear hk0 hk1 hk2 hk3 hk4 ha0 ha1 ha4 ha5 ha6 ha10 ha11 ha12 hf12 ht0 ht1 ht2 ht3 ht4 ht5 ht6 ht7 ht8 ht9 hf0 hf1 hf2 hf3 hf4 hf5 hf6 hf7 hf8 hf9 hlk hg1
              obtain ⟨⟨ht0, hf0⟩, _⟩ := HI4.1.task e.task P1.out L
              go_wp2
              go_ret
              exact ⟨rfl, HI4.put_0 e.task P1.out L _ _ rfl⟩
            · rw [takes_end_b c ks ts tick e hm c1 (by rw [hl, beq_iff_eq.mpr c2, beq_iff_eq.mpr c3]; rfl) r_ ts_ hst]
              have CK := Aside0.mk ck
              clear ck hst c1 c2 c3
              go_enter Tryd.func23, Tryd.ntmps23
              go_upto_region 1 with (first | ((with_reducible refine gate_dst (N := 3) rfl ?_); (try (refine gate_guard (by rfl) ?_; dsimp only)); refine box_event ?hg (N := 3) ?hd (cs := #[.int .i64 e.kind, .int .i64 e.task, .int .i64 e.slot, .int .i64 e.epoch, .int .i64 e.tick]) (t := 42) ?hr ?_; (case hd => rfl); (case hg => rfl); (case hr => first | (go_simp; done) | (go_simp; rfl)); intro gb hg w1 hbox hb; have hk0 : w1.cell? ⟨gb, 0, none⟩ = some (.int .i64 e.kind) := (blk_cell hbox 0).trans rfl; have hk1 : w1.cell? ⟨gb, 1, none⟩ = some (.int .i64 e.task) := (blk_cell hbox 1).trans rfl; have hk2 : w1.cell? ⟨gb, 2, none⟩ = some (.int .i64 e.slot) := (blk_cell hbox 2).trans rfl; have hk3 : w1.cell? ⟨gb, 3, none⟩ = some (.int .i64 e.epoch) := (blk_cell hbox 3).trans rfl; have hk4 : w1.cell? ⟨gb, 4, none⟩ = some (.int .i64 e.tick) := (blk_cell hbox 4).trans rfl; have HBX := Aside0.mk hbox; have HB := Aside0.mk hb; have GE := Aside0.mk (Nat.le_of_eq hg.symm); have HI1 := Aside0.mk (HI.out.below hb); clear hbox hb hg))
              go_wp2_with fail
              refine (may_calls_b g ad c kA _ kc ts tick e _ HI1.out.1 true hm).mono ?_
              rintro e' w2 ⟨rfl, hb2⟩
              have HI2 := Aside0.mk (HI1.out.below hb2)
              have HX2 := Aside0.mk ((hb2.block gb (lt' HBX.out)).trans HBX.out)
              have HB2 := Aside0.mk (below_step HB.out hb2)
              clear hk0 hk1 hk2 hk3 hk4 hb2
              have hk0 : w2.cell? ⟨gb, 0, none⟩ = some (.int .i64 e.kind) := (blk_cell HX2.out 0).trans rfl
              have hk1 : w2.cell? ⟨gb, 1, none⟩ = some (.int .i64 e.task) := (blk_cell HX2.out 1).trans rfl
              have hk2 : w2.cell? ⟨gb, 2, none⟩ = some (.int .i64 e.slot) := (blk_cell HX2.out 2).trans rfl
              have hk3 : w2.cell? ⟨gb, 3, none⟩ = some (.int .i64 e.epoch) := (blk_cell HX2.out 3).trans rfl
              have hk4 : w2.cell? ⟨gb, 4, none⟩ = some (.int .i64 e.tick) := (blk_cell HX2.out 4).trans rfl
              obtain ⟨ha0, ha1, ha4, ha5, ha6, ha10, ha11, ha12, hf12⟩ := HI2.out.1.cells
              clear ha0 ha1 ha4 ha5 ha6 ha10 ha11
              go_upto_region 4 with fail
              obtain ⟨w3, hw3⟩ : ∃ w_, w_ = w2.setCell ⟨g, 12, none⟩ (.int .i64 e.tick) := ⟨_, rfl⟩
              rw [← hw3]
              have HI3 : Aside0 (AI w0 w3 g ad c kA ks.length kc ts e.tick) := ⟨by rw [hw3]; exact HI2.out.setTick e.tick⟩
              have hne : gb ≠ g := by
                have := GE.out
                have h2 := lt' HI.out.1.1
                omega
              have HX3 : Aside0 (w3.heap[gb]? = some (.cells #[.int .i64 e.kind, .int .i64 e.task, .int .i64 e.slot, .int .i64 e.epoch, .int .i64 e.tick] 42 (0, 0))) := ⟨by rw [hw3]; exact (Below.heap_setCell w2 ⟨g, 12, none⟩ (.int .i64 e.tick) gb hne).trans HX2.out⟩
              clear hw3 hk0 hk1 hk2 hk3 hk4 ha12 hf12
              have hk0 : w3.cell? ⟨gb, 0, none⟩ = some (.int .i64 e.kind) := (blk_cell HX3.out 0).trans rfl
              have hk1 : w3.cell? ⟨gb, 1, none⟩ = some (.int .i64 e.task) := (blk_cell HX3.out 1).trans rfl
              have hk2 : w3.cell? ⟨gb, 2, none⟩ = some (.int .i64 e.slot) := (blk_cell HX3.out 2).trans rfl
              have hk3 : w3.cell? ⟨gb, 3, none⟩ = some (.int .i64 e.epoch) := (blk_cell HX3.out 3).trans rfl
              have hk4 : w3.cell? ⟨gb, 4, none⟩ = some (.int .i64 e.tick) := (blk_cell HX3.out 4).trans rfl
              obtain ⟨ha0, ha1, ha4, ha5, ha6, ha10, ha11, ha12, hf12⟩ := HI3.out.1.cells
              obtain ⟨⟨ht0, hf0⟩, ⟨ht1, hf1⟩, ⟨ht2, hf2⟩, ⟨ht3, hf3⟩, ⟨ht4, hf4⟩, ⟨ht5, hf5⟩, ⟨ht6, hf6⟩, ⟨ht7, hf7⟩, ⟨ht8, hf8⟩, ⟨ht9, hf9⟩⟩ := HI3.out.1.task e.task P1.out Q1.out
              rw [hl] at ht0
              rw [CK.out] at hk0
              go_wp2
              go_quiet (fail)
              go_wp2
              go_quiet (fail)
              obtain ⟨mb, hg1, hmb, h1w, hmap⟩ := HE.out.below HI3.out.2.1
              have hlk := fun n_ : Nat => (hmap (w3.drewN n_) rfl).2.2.2.2
              clear hmap
              go_wp2_with fail
              refine (end6_calls_b w0 g ad c kA _ kc ts e.tick e _ (HI3.out.drewN _) P1.out Q1.out CK.out r_ ts_ HST.out).mono ?_
              rintro e' w4 ⟨rfl, HI4⟩
              have hll : ts_.length = ts.length := by have := ends_len c ts e; rw [HST.out] at this; exact this
              have L : e.task < (ts_.length : Int) := by rw [hll]; exact Q1.out
              clear hk0 hk1 hk2 hk3 hk4 ha0 ha1 ha4 ha5 ha6 ha10 ha11 ha12 hf12 ht0 ht1 ht2 ht3 ht4 ht5 ht6 ht7 ht8 ht9 hf0 hf1 hf2 hf3 hf4 hf5 hf6 hf7 hf8 hf9 hlk hg1
              obtain ⟨⟨ht0, hf0⟩, _⟩ := HI4.1.task e.task P1.out L
              go_wp2
              go_ret
              exact ⟨rfl, HI4.put_0 e.task P1.out L _ _ rfl⟩
          · have c3c : ((getT ts e.task).start.epoch != e.epoch) = true := bne_iff_ne.mpr c3
            rw [takes_6 c ks ts tick e hm c1 (by rw [hl, beq_iff_eq.mpr c2, beq_eq_false_iff_ne.mpr c3]; rfl)]
            go_enter Tryd.func23, Tryd.ntmps23
            go_upto_region 1 with (first | ((with_reducible refine gate_dst (N := 3) rfl ?_); (try (refine gate_guard (by rfl) ?_; dsimp only)); refine box_event ?hg (N := 3) ?hd (cs := #[.int .i64 e.kind, .int .i64 e.task, .int .i64 e.slot, .int .i64 e.epoch, .int .i64 e.tick]) (t := 42) ?hr ?_; (case hd => rfl); (case hg => rfl); (case hr => first | (go_simp; done) | (go_simp; rfl)); intro gb hg w1 hbox hb; have hk0 : w1.cell? ⟨gb, 0, none⟩ = some (.int .i64 e.kind) := (blk_cell hbox 0).trans rfl; have hk1 : w1.cell? ⟨gb, 1, none⟩ = some (.int .i64 e.task) := (blk_cell hbox 1).trans rfl; have hk2 : w1.cell? ⟨gb, 2, none⟩ = some (.int .i64 e.slot) := (blk_cell hbox 2).trans rfl; have hk3 : w1.cell? ⟨gb, 3, none⟩ = some (.int .i64 e.epoch) := (blk_cell hbox 3).trans rfl; have hk4 : w1.cell? ⟨gb, 4, none⟩ = some (.int .i64 e.tick) := (blk_cell hbox 4).trans rfl; have HBX := Aside0.mk hbox; have HB := Aside0.mk hb; have GE := Aside0.mk (Nat.le_of_eq hg.symm); have HI1 := Aside0.mk (HI.out.below hb); clear hbox hb hg))
            go_wp2_with fail
            refine (may_calls_b g ad c kA _ kc ts tick e _ HI1.out.1 true hm).mono ?_
            rintro e' w2 ⟨rfl, hb2⟩
            have HI2 := Aside0.mk (HI1.out.below hb2)
            have HX2 := Aside0.mk ((hb2.block gb (lt' HBX.out)).trans HBX.out)
            have HB2 := Aside0.mk (below_step HB.out hb2)
            clear hk0 hk1 hk2 hk3 hk4 hb2
            have hk0 : w2.cell? ⟨gb, 0, none⟩ = some (.int .i64 e.kind) := (blk_cell HX2.out 0).trans rfl
            have hk1 : w2.cell? ⟨gb, 1, none⟩ = some (.int .i64 e.task) := (blk_cell HX2.out 1).trans rfl
            have hk2 : w2.cell? ⟨gb, 2, none⟩ = some (.int .i64 e.slot) := (blk_cell HX2.out 2).trans rfl
            have hk3 : w2.cell? ⟨gb, 3, none⟩ = some (.int .i64 e.epoch) := (blk_cell HX2.out 3).trans rfl
            have hk4 : w2.cell? ⟨gb, 4, none⟩ = some (.int .i64 e.tick) := (blk_cell HX2.out 4).trans rfl
            obtain ⟨ha0, ha1, ha4, ha5, ha6, ha10, ha11, ha12, hf12⟩ := HI2.out.1.cells
            clear ha0 ha1 ha4 ha5 ha6 ha10 ha11
            go_upto_region 4 with fail
            obtain ⟨w3, hw3⟩ : ∃ w_, w_ = w2.setCell ⟨g, 12, none⟩ (.int .i64 e.tick) := ⟨_, rfl⟩
            rw [← hw3]
            have HI3 : Aside0 (AI w0 w3 g ad c kA ks.length kc ts e.tick) := ⟨by rw [hw3]; exact HI2.out.setTick e.tick⟩
            have hne : gb ≠ g := by
              have := GE.out
              have h2 := lt' HI.out.1.1
              omega
            have HX3 : Aside0 (w3.heap[gb]? = some (.cells #[.int .i64 e.kind, .int .i64 e.task, .int .i64 e.slot, .int .i64 e.epoch, .int .i64 e.tick] 42 (0, 0))) := ⟨by rw [hw3]; exact (Below.heap_setCell w2 ⟨g, 12, none⟩ (.int .i64 e.tick) gb hne).trans HX2.out⟩
            clear hw3 hk0 hk1 hk2 hk3 hk4 ha12 hf12
            have hk0 : w3.cell? ⟨gb, 0, none⟩ = some (.int .i64 e.kind) := (blk_cell HX3.out 0).trans rfl
            have hk1 : w3.cell? ⟨gb, 1, none⟩ = some (.int .i64 e.task) := (blk_cell HX3.out 1).trans rfl
            have hk2 : w3.cell? ⟨gb, 2, none⟩ = some (.int .i64 e.slot) := (blk_cell HX3.out 2).trans rfl
            have hk3 : w3.cell? ⟨gb, 3, none⟩ = some (.int .i64 e.epoch) := (blk_cell HX3.out 3).trans rfl
            have hk4 : w3.cell? ⟨gb, 4, none⟩ = some (.int .i64 e.tick) := (blk_cell HX3.out 4).trans rfl
            obtain ⟨ha0, ha1, ha4, ha5, ha6, ha10, ha11, ha12, hf12⟩ := HI3.out.1.cells
            obtain ⟨⟨ht0, hf0⟩, ⟨ht1, hf1⟩, ⟨ht2, hf2⟩, ⟨ht3, hf3⟩, ⟨ht4, hf4⟩, ⟨ht5, hf5⟩, ⟨ht6, hf6⟩, ⟨ht7, hf7⟩, ⟨ht8, hf8⟩, ⟨ht9, hf9⟩⟩ := HI3.out.1.task e.task P1.out Q1.out
            rw [hl] at ht0
            clear c1 c2 c3
            go_wp2
            go_quiet (fail)
            go_wp2
            go_quiet (fail)
            go_wp2
            go_ret
            exact ⟨rfl, by repeat (first | exact HI3.out | apply AI.drewN)⟩
        · have c2c : ((getT ts e.task).start.slot != e.slot) = true := bne_iff_ne.mpr c2
          rw [takes_6 c ks ts tick e hm c1 (by rw [hl, beq_eq_false_iff_ne.mpr c2]; rfl)]
          go_enter Tryd.func23, Tryd.ntmps23
          go_upto_region 1 with (first | ((with_reducible refine gate_dst (N := 3) rfl ?_); (try (refine gate_guard (by rfl) ?_; dsimp only)); refine box_event ?hg (N := 3) ?hd (cs := #[.int .i64 e.kind, .int .i64 e.task, .int .i64 e.slot, .int .i64 e.epoch, .int .i64 e.tick]) (t := 42) ?hr ?_; (case hd => rfl); (case hg => rfl); (case hr => first | (go_simp; done) | (go_simp; rfl)); intro gb hg w1 hbox hb; have hk0 : w1.cell? ⟨gb, 0, none⟩ = some (.int .i64 e.kind) := (blk_cell hbox 0).trans rfl; have hk1 : w1.cell? ⟨gb, 1, none⟩ = some (.int .i64 e.task) := (blk_cell hbox 1).trans rfl; have hk2 : w1.cell? ⟨gb, 2, none⟩ = some (.int .i64 e.slot) := (blk_cell hbox 2).trans rfl; have hk3 : w1.cell? ⟨gb, 3, none⟩ = some (.int .i64 e.epoch) := (blk_cell hbox 3).trans rfl; have hk4 : w1.cell? ⟨gb, 4, none⟩ = some (.int .i64 e.tick) := (blk_cell hbox 4).trans rfl; have HBX := Aside0.mk hbox; have HB := Aside0.mk hb; have GE := Aside0.mk (Nat.le_of_eq hg.symm); have HI1 := Aside0.mk (HI.out.below hb); clear hbox hb hg))
          go_wp2_with fail
          refine (may_calls_b g ad c kA _ kc ts tick e _ HI1.out.1 true hm).mono ?_
          rintro e' w2 ⟨rfl, hb2⟩
          have HI2 := Aside0.mk (HI1.out.below hb2)
          have HX2 := Aside0.mk ((hb2.block gb (lt' HBX.out)).trans HBX.out)
          have HB2 := Aside0.mk (below_step HB.out hb2)
          clear hk0 hk1 hk2 hk3 hk4 hb2
          have hk0 : w2.cell? ⟨gb, 0, none⟩ = some (.int .i64 e.kind) := (blk_cell HX2.out 0).trans rfl
          have hk1 : w2.cell? ⟨gb, 1, none⟩ = some (.int .i64 e.task) := (blk_cell HX2.out 1).trans rfl
          have hk2 : w2.cell? ⟨gb, 2, none⟩ = some (.int .i64 e.slot) := (blk_cell HX2.out 2).trans rfl
          have hk3 : w2.cell? ⟨gb, 3, none⟩ = some (.int .i64 e.epoch) := (blk_cell HX2.out 3).trans rfl
          have hk4 : w2.cell? ⟨gb, 4, none⟩ = some (.int .i64 e.tick) := (blk_cell HX2.out 4).trans rfl
          obtain ⟨ha0, ha1, ha4, ha5, ha6, ha10, ha11, ha12, hf12⟩ := HI2.out.1.cells
          clear ha0 ha1 ha4 ha5 ha6 ha10 ha11
          go_upto_region 4 with fail
          obtain ⟨w3, hw3⟩ : ∃ w_, w_ = w2.setCell ⟨g, 12, none⟩ (.int .i64 e.tick) := ⟨_, rfl⟩
          rw [← hw3]
          have HI3 : Aside0 (AI w0 w3 g ad c kA ks.length kc ts e.tick) := ⟨by rw [hw3]; exact HI2.out.setTick e.tick⟩
          have hne : gb ≠ g := by
            have := GE.out
            have h2 := lt' HI.out.1.1
            omega
          have HX3 : Aside0 (w3.heap[gb]? = some (.cells #[.int .i64 e.kind, .int .i64 e.task, .int .i64 e.slot, .int .i64 e.epoch, .int .i64 e.tick] 42 (0, 0))) := ⟨by rw [hw3]; exact (Below.heap_setCell w2 ⟨g, 12, none⟩ (.int .i64 e.tick) gb hne).trans HX2.out⟩
          clear hw3 hk0 hk1 hk2 hk3 hk4 ha12 hf12
          have hk0 : w3.cell? ⟨gb, 0, none⟩ = some (.int .i64 e.kind) := (blk_cell HX3.out 0).trans rfl
          have hk1 : w3.cell? ⟨gb, 1, none⟩ = some (.int .i64 e.task) := (blk_cell HX3.out 1).trans rfl
          have hk2 : w3.cell? ⟨gb, 2, none⟩ = some (.int .i64 e.slot) := (blk_cell HX3.out 2).trans rfl
          have hk3 : w3.cell? ⟨gb, 3, none⟩ = some (.int .i64 e.epoch) := (blk_cell HX3.out 3).trans rfl
          have hk4 : w3.cell? ⟨gb, 4, none⟩ = some (.int .i64 e.tick) := (blk_cell HX3.out 4).trans rfl
          obtain ⟨ha0, ha1, ha4, ha5, ha6, ha10, ha11, ha12, hf12⟩ := HI3.out.1.cells
          obtain ⟨⟨ht0, hf0⟩, ⟨ht1, hf1⟩, ⟨ht2, hf2⟩, ⟨ht3, hf3⟩, ⟨ht4, hf4⟩, ⟨ht5, hf5⟩, ⟨ht6, hf6⟩, ⟨ht7, hf7⟩, ⟨ht8, hf8⟩, ⟨ht9, hf9⟩⟩ := HI3.out.1.task e.task P1.out Q1.out
          rw [hl] at ht0
          clear c1 c2
          go_wp2
          go_quiet (fail)
          go_wp2
          go_quiet (fail)
          go_wp2
          go_ret
          exact ⟨rfl, by repeat (first | exact HI3.out | apply AI.drewN)⟩
end Go.Proofs.YtckcepmkfegkiaaDoor.TrG
