/- The walk of starts. No condition. -/
import Derived.Test.YtckcepmkfegkiaaDoorTrE
namespace Go.Proofs.YtckcepmkfegkiaaDoor.TrF
open Go.RowKit Go.Proofs.YtckcepmkfegkiaaDoorW.PrintWords Go.Proofs.YtckcepmkfegkiaaDoorW.PrintLast Go.Proofs.YtckcepmkfegkiaaDoorW.PrintMore TrS TrA TrC TrD TrE
set_option linter.unusedVariables false
set_option linter.unusedSimpArgs false
theorem starts_8 (c : Cf) (ks : List Tsk) (ts : List Tk) (e : Ev) (h : ((getT ts e.task).live || ((getT ts e.task).done || held ts e.slot)) = true) : starts c ks ts e = (8, ts) := by unfold starts; rw [if_pos h]
theorem starts_3 (c : Cf) (ks : List Tsk) (ts : List Tk) (e : Ev) (h : ((getT ts e.task).live || ((getT ts e.task).done || held ts e.slot)) = false) (h2 : (getT ts e.task).fails ≥ c.tries) : starts c ks ts e = (3, ts) := by unfold starts; rw [if_neg (by rw [h]; decide), if_pos h2]
theorem starts_7 (c : Cf) (ks : List Tsk) (ts : List Tk) (e : Ev) (h : ((getT ts e.task).live || ((getT ts e.task).done || held ts e.slot)) = false) (h2 : ¬ (getT ts e.task).fails ≥ c.tries) (h3 : (getT ts e.task).begun = true ∧ e.epoch ≤ (getT ts e.task).start.epoch) : starts c ks ts e = (7, ts) := by unfold starts; rw [if_neg (by rw [h]; decide), if_neg h2, if_pos h3]
theorem starts_5 (c : Cf) (ks : List Tsk) (ts : List Tk) (e : Ev) (h : ((getT ts e.task).live || ((getT ts e.task).done || held ts e.slot)) = false) (h2 : ¬ (getT ts e.task).fails ≥ c.tries) (h3 : ¬ ((getT ts e.task).begun = true ∧ e.epoch ≤ (getT ts e.task).start.epoch)) (h4 : fits c ks ts e.task = false) : starts c ks ts e = (5, ts) := by unfold starts; rw [if_neg (by rw [h]; decide), if_neg h2, if_neg h3, if_neg (by rw [h4]; decide)]
theorem starts_0 (c : Cf) (ks : List Tsk) (ts : List Tk) (e : Ev) (h : ((getT ts e.task).live || ((getT ts e.task).done || held ts e.slot)) = false) (h2 : ¬ (getT ts e.task).fails ≥ c.tries) (h3 : ¬ ((getT ts e.task).begun = true ∧ e.epoch ≤ (getT ts e.task).start.epoch)) (h4 : fits c ks ts e.task = true) : starts c ks ts e = (0, setT ts e.task { getT ts e.task with live := true, begun := true, start := e }) := by unfold starts; rw [if_neg (by rw [h]; decide), if_neg h2, if_neg h3, if_pos h4]
set_option maxHeartbeats 8000000 in
set_option maxRecDepth 100000 in
theorem starts_calls (w0 : World) (g : Nat) (ad : Addr) (c : Cf) (kA : Option Addr) (kc : Nat) (ks : List Tsk) (ts : List Tk) (tick : Int) (e : Ev) (w : World) (h : AI w0 w g ad c kA ks.length kc ts tick) (hC : Kd.C kTsk w0 kA ks.length ks) (hlen : ks.length = ts.length) (h0 : 0 ≤ e.task) (h1 : e.task < ts.length) : Calls Tryd.prog 38 #[.pointer (some ⟨g, 0, none⟩), .agg #[.int .i64 e.kind, .int .i64 e.task, .int .i64 e.slot, .int .i64 e.epoch, .int .i64 e.tick]] w fun x w' => x = .returned (.int .i64 (starts c ks ts e).1) ∧ AI w0 w' g ad c kA ks.length kc (starts c ks ts e).2 tick := by
  have HI := Aside0.mk h
  have HC := Aside0.mk hC
  have HL := Aside0.mk hlen
  have p1 : (0 ≤ e.task) = True := eq_true h0
  have q1 : (e.task < (ts.length : Int)) = True := eq_true h1
  have P1 := Aside0.mk h0
  have Q1 := Aside0.mk h1
  clear h hC hlen h0 h1
  cases hl : (getT ts e.task).live with
  | true =>
    rw [starts_8 c ks ts e (by rw [hl]; rfl)]
    go_enter Tryd.func38, Tryd.ntmps38
    go_upto_region 1 with (first | ((with_reducible refine gate_dst (N := 3) rfl ?_); (try (refine gate_guard (by rfl) ?_; dsimp only)); refine box_event ?hg (N := 3) ?hd (cs := #[.int .i64 e.kind, .int .i64 e.task, .int .i64 e.slot, .int .i64 e.epoch, .int .i64 e.tick]) (t := 42) ?hr ?_; (case hd => rfl); (case hg => rfl); (case hr => first | (go_simp; done) | (go_simp; rfl)); intro gb hg w1 hbox hb; have hk0 : w1.cell? ⟨gb, 0, none⟩ = some (.int .i64 e.kind) := (blk_cell hbox 0).trans rfl; have hk1 : w1.cell? ⟨gb, 1, none⟩ = some (.int .i64 e.task) := (blk_cell hbox 1).trans rfl; have hk2 : w1.cell? ⟨gb, 2, none⟩ = some (.int .i64 e.slot) := (blk_cell hbox 2).trans rfl; have hk3 : w1.cell? ⟨gb, 3, none⟩ = some (.int .i64 e.epoch) := (blk_cell hbox 3).trans rfl; have hk4 : w1.cell? ⟨gb, 4, none⟩ = some (.int .i64 e.tick) := (blk_cell hbox 4).trans rfl; have HBX := Aside0.mk hbox; have HB := Aside0.mk hb; have GE := Aside0.mk (Nat.le_of_eq hg.symm); have HI1 := Aside0.mk (HI.out.below hb); obtain ⟨ha0, ha1, ha4, ha5, ha6, ha10, ha11, ha12, hf12⟩ := HI1.out.1.cells; obtain ⟨⟨ht0, hf0⟩, ⟨ht1, hf1⟩, ⟨ht2, hf2⟩, ⟨ht3, hf3⟩, ⟨ht4, hf4⟩, ⟨ht5, hf5⟩, ⟨ht6, hf6⟩, ⟨ht7, hf7⟩, ⟨ht8, hf8⟩, ⟨ht9, hf9⟩⟩ := HI1.out.1.task e.task P1.out Q1.out; clear hbox hb hg))
    rw [hl] at ht0
    go_quiet (fail)
    go_wp2
    go_ret
    exact ⟨rfl, HI1.out.drewN _⟩
  | false =>
    cases hd : (getT ts e.task).done with
    | true =>
      rw [starts_8 c ks ts e (by rw [hl, hd]; rfl)]
      go_enter Tryd.func38, Tryd.ntmps38
      go_upto_region 1 with (first | ((with_reducible refine gate_dst (N := 3) rfl ?_); (try (refine gate_guard (by rfl) ?_; dsimp only)); refine box_event ?hg (N := 3) ?hd (cs := #[.int .i64 e.kind, .int .i64 e.task, .int .i64 e.slot, .int .i64 e.epoch, .int .i64 e.tick]) (t := 42) ?hr ?_; (case hd => rfl); (case hg => rfl); (case hr => first | (go_simp; done) | (go_simp; rfl)); intro gb hg w1 hbox hb; have hk0 : w1.cell? ⟨gb, 0, none⟩ = some (.int .i64 e.kind) := (blk_cell hbox 0).trans rfl; have hk1 : w1.cell? ⟨gb, 1, none⟩ = some (.int .i64 e.task) := (blk_cell hbox 1).trans rfl; have hk2 : w1.cell? ⟨gb, 2, none⟩ = some (.int .i64 e.slot) := (blk_cell hbox 2).trans rfl; have hk3 : w1.cell? ⟨gb, 3, none⟩ = some (.int .i64 e.epoch) := (blk_cell hbox 3).trans rfl; have hk4 : w1.cell? ⟨gb, 4, none⟩ = some (.int .i64 e.tick) := (blk_cell hbox 4).trans rfl; have HBX := Aside0.mk hbox; have HB := Aside0.mk hb; have GE := Aside0.mk (Nat.le_of_eq hg.symm); have HI1 := Aside0.mk (HI.out.below hb); obtain ⟨ha0, ha1, ha4, ha5, ha6, ha10, ha11, ha12, hf12⟩ := HI1.out.1.cells; obtain ⟨⟨ht0, hf0⟩, ⟨ht1, hf1⟩, ⟨ht2, hf2⟩, ⟨ht3, hf3⟩, ⟨ht4, hf4⟩, ⟨ht5, hf5⟩, ⟨ht6, hf6⟩, ⟨ht7, hf7⟩, ⟨ht8, hf8⟩, ⟨ht9, hf9⟩⟩ := HI1.out.1.task e.task P1.out Q1.out; clear hbox hb hg))
      rw [hl] at ht0
      rw [hd] at ht2
      go_quiet (fail)
      go_wp2
      go_ret
      exact ⟨rfl, HI1.out.drewN _⟩
    | false =>
      cases hh : held ts e.slot with
      | true =>
        rw [starts_8 c ks ts e (by rw [hl, hd, hh]; rfl)]
        go_enter Tryd.func38, Tryd.ntmps38
        go_upto_region 1 with (first | ((with_reducible refine gate_dst (N := 3) rfl ?_); (try (refine gate_guard (by rfl) ?_; dsimp only)); refine box_event ?hg (N := 3) ?hd (cs := #[.int .i64 e.kind, .int .i64 e.task, .int .i64 e.slot, .int .i64 e.epoch, .int .i64 e.tick]) (t := 42) ?hr ?_; (case hd => rfl); (case hg => rfl); (case hr => first | (go_simp; done) | (go_simp; rfl)); intro gb hg w1 hbox hb; have hk0 : w1.cell? ⟨gb, 0, none⟩ = some (.int .i64 e.kind) := (blk_cell hbox 0).trans rfl; have hk1 : w1.cell? ⟨gb, 1, none⟩ = some (.int .i64 e.task) := (blk_cell hbox 1).trans rfl; have hk2 : w1.cell? ⟨gb, 2, none⟩ = some (.int .i64 e.slot) := (blk_cell hbox 2).trans rfl; have hk3 : w1.cell? ⟨gb, 3, none⟩ = some (.int .i64 e.epoch) := (blk_cell hbox 3).trans rfl; have hk4 : w1.cell? ⟨gb, 4, none⟩ = some (.int .i64 e.tick) := (blk_cell hbox 4).trans rfl; have HBX := Aside0.mk hbox; have HB := Aside0.mk hb; have GE := Aside0.mk (Nat.le_of_eq hg.symm); have HI1 := Aside0.mk (HI.out.below hb); obtain ⟨ha0, ha1, ha4, ha5, ha6, ha10, ha11, ha12, hf12⟩ := HI1.out.1.cells; obtain ⟨⟨ht0, hf0⟩, ⟨ht1, hf1⟩, ⟨ht2, hf2⟩, ⟨ht3, hf3⟩, ⟨ht4, hf4⟩, ⟨ht5, hf5⟩, ⟨ht6, hf6⟩, ⟨ht7, hf7⟩, ⟨ht8, hf8⟩, ⟨ht9, hf9⟩⟩ := HI1.out.1.task e.task P1.out Q1.out; clear hbox hb hg))
        rw [hl] at ht0
        rw [hd] at ht2
        go_quiet (fail)
        go_wp2_with fail
        refine (held_calls w0 g ad c kA _ kc ts tick e.slot _ (HI1.out.drewN _)).mono ?_
        rintro e' w2 ⟨rfl, hb2⟩
        rw [hh]
        have HI2 := Aside0.mk ((HI1.out.drewN _).below hb2)
        have HX2 := Aside0.mk ((hb2.block gb (lt' HBX.out)).trans HBX.out)
        clear hk0 hk1 hk2 hk3 hk4 ha0 ha1 ha4 ha5 ha6 ha10 ha11 ha12 hf12 ht0 ht1 ht2 ht3 ht4 ht5 ht6 ht7 ht8 ht9 hf0 hf1 hf2 hf3 hf4 hf5 hf6 hf7 hf8 hf9
        have hk0 : w2.cell? ⟨gb, 0, none⟩ = some (.int .i64 e.kind) := (blk_cell HX2.out 0).trans rfl
        have hk1 : w2.cell? ⟨gb, 1, none⟩ = some (.int .i64 e.task) := (blk_cell HX2.out 1).trans rfl
        have hk2 : w2.cell? ⟨gb, 2, none⟩ = some (.int .i64 e.slot) := (blk_cell HX2.out 2).trans rfl
        have hk3 : w2.cell? ⟨gb, 3, none⟩ = some (.int .i64 e.epoch) := (blk_cell HX2.out 3).trans rfl
        have hk4 : w2.cell? ⟨gb, 4, none⟩ = some (.int .i64 e.tick) := (blk_cell HX2.out 4).trans rfl
        obtain ⟨ha0, ha1, ha4, ha5, ha6, ha10, ha11, ha12, hf12⟩ := HI2.out.1.cells
        obtain ⟨⟨ht0, hf0⟩, ⟨ht1, hf1⟩, ⟨ht2, hf2⟩, ⟨ht3, hf3⟩, ⟨ht4, hf4⟩, ⟨ht5, hf5⟩, ⟨ht6, hf6⟩, ⟨ht7, hf7⟩, ⟨ht8, hf8⟩, ⟨ht9, hf9⟩⟩ := HI2.out.1.task e.task P1.out Q1.out
        clear hb2
        go_wp2
        go_ret
        exact ⟨rfl, HI2.out⟩
      | false =>
        by_cases c1 : (getT ts e.task).fails ≥ c.tries
        · have c1b : decide ((getT ts e.task).fails ≥ c.tries) = true := decide_eq_true c1
          rw [starts_3 c ks ts e (by rw [hl, hd, hh]; rfl) c1]
          go_enter Tryd.func38, Tryd.ntmps38
          go_upto_region 1 with (first | ((with_reducible refine gate_dst (N := 3) rfl ?_); (try (refine gate_guard (by rfl) ?_; dsimp only)); refine box_event ?hg (N := 3) ?hd (cs := #[.int .i64 e.kind, .int .i64 e.task, .int .i64 e.slot, .int .i64 e.epoch, .int .i64 e.tick]) (t := 42) ?hr ?_; (case hd => rfl); (case hg => rfl); (case hr => first | (go_simp; done) | (go_simp; rfl)); intro gb hg w1 hbox hb; have hk0 : w1.cell? ⟨gb, 0, none⟩ = some (.int .i64 e.kind) := (blk_cell hbox 0).trans rfl; have hk1 : w1.cell? ⟨gb, 1, none⟩ = some (.int .i64 e.task) := (blk_cell hbox 1).trans rfl; have hk2 : w1.cell? ⟨gb, 2, none⟩ = some (.int .i64 e.slot) := (blk_cell hbox 2).trans rfl; have hk3 : w1.cell? ⟨gb, 3, none⟩ = some (.int .i64 e.epoch) := (blk_cell hbox 3).trans rfl; have hk4 : w1.cell? ⟨gb, 4, none⟩ = some (.int .i64 e.tick) := (blk_cell hbox 4).trans rfl; have HBX := Aside0.mk hbox; have HB := Aside0.mk hb; have GE := Aside0.mk (Nat.le_of_eq hg.symm); have HI1 := Aside0.mk (HI.out.below hb); obtain ⟨ha0, ha1, ha4, ha5, ha6, ha10, ha11, ha12, hf12⟩ := HI1.out.1.cells; obtain ⟨⟨ht0, hf0⟩, ⟨ht1, hf1⟩, ⟨ht2, hf2⟩, ⟨ht3, hf3⟩, ⟨ht4, hf4⟩, ⟨ht5, hf5⟩, ⟨ht6, hf6⟩, ⟨ht7, hf7⟩, ⟨ht8, hf8⟩, ⟨ht9, hf9⟩⟩ := HI1.out.1.task e.task P1.out Q1.out; clear hbox hb hg))
          rw [hl] at ht0
          rw [hd] at ht2
          go_quiet (fail)
          go_wp2_with fail
          refine (held_calls w0 g ad c kA _ kc ts tick e.slot _ (HI1.out.drewN _)).mono ?_
          rintro e' w2 ⟨rfl, hb2⟩
          rw [hh]
          have HI2 := Aside0.mk ((HI1.out.drewN _).below hb2)
          have HX2 := Aside0.mk ((hb2.block gb (lt' HBX.out)).trans HBX.out)
          clear hk0 hk1 hk2 hk3 hk4 ha0 ha1 ha4 ha5 ha6 ha10 ha11 ha12 hf12 ht0 ht1 ht2 ht3 ht4 ht5 ht6 ht7 ht8 ht9 hf0 hf1 hf2 hf3 hf4 hf5 hf6 hf7 hf8 hf9
          have hk0 : w2.cell? ⟨gb, 0, none⟩ = some (.int .i64 e.kind) := (blk_cell HX2.out 0).trans rfl
          have hk1 : w2.cell? ⟨gb, 1, none⟩ = some (.int .i64 e.task) := (blk_cell HX2.out 1).trans rfl
          have hk2 : w2.cell? ⟨gb, 2, none⟩ = some (.int .i64 e.slot) := (blk_cell HX2.out 2).trans rfl
          have hk3 : w2.cell? ⟨gb, 3, none⟩ = some (.int .i64 e.epoch) := (blk_cell HX2.out 3).trans rfl
          have hk4 : w2.cell? ⟨gb, 4, none⟩ = some (.int .i64 e.tick) := (blk_cell HX2.out 4).trans rfl
          obtain ⟨ha0, ha1, ha4, ha5, ha6, ha10, ha11, ha12, hf12⟩ := HI2.out.1.cells
          obtain ⟨⟨ht0, hf0⟩, ⟨ht1, hf1⟩, ⟨ht2, hf2⟩, ⟨ht3, hf3⟩, ⟨ht4, hf4⟩, ⟨ht5, hf5⟩, ⟨ht6, hf6⟩, ⟨ht7, hf7⟩, ⟨ht8, hf8⟩, ⟨ht9, hf9⟩⟩ := HI2.out.1.task e.task P1.out Q1.out
          clear hb2
          clear c1
          go_wp2
          go_quiet (fail)
          go_wp2
          go_ret
          exact ⟨rfl, HI2.out.drewN _⟩
        · have c1b : decide ((getT ts e.task).fails ≥ c.tries) = false := decide_eq_false c1
          cases hb : (getT ts e.task).begun with
          | true =>
            by_cases c2 : e.epoch ≤ (getT ts e.task).start.epoch
            · have c2b : decide (e.epoch ≤ (getT ts e.task).start.epoch) = true := decide_eq_true c2
              rw [starts_7 c ks ts e (by rw [hl, hd, hh]; rfl) c1 ⟨hb, c2⟩]
              go_enter Tryd.func38, Tryd.ntmps38
              go_upto_region 1 with (first | ((with_reducible refine gate_dst (N := 3) rfl ?_); (try (refine gate_guard (by rfl) ?_; dsimp only)); refine box_event ?hg (N := 3) ?hd (cs := #[.int .i64 e.kind, .int .i64 e.task, .int .i64 e.slot, .int .i64 e.epoch, .int .i64 e.tick]) (t := 42) ?hr ?_; (case hd => rfl); (case hg => rfl); (case hr => first | (go_simp; done) | (go_simp; rfl)); intro gb hg w1 hbox hb; have hk0 : w1.cell? ⟨gb, 0, none⟩ = some (.int .i64 e.kind) := (blk_cell hbox 0).trans rfl; have hk1 : w1.cell? ⟨gb, 1, none⟩ = some (.int .i64 e.task) := (blk_cell hbox 1).trans rfl; have hk2 : w1.cell? ⟨gb, 2, none⟩ = some (.int .i64 e.slot) := (blk_cell hbox 2).trans rfl; have hk3 : w1.cell? ⟨gb, 3, none⟩ = some (.int .i64 e.epoch) := (blk_cell hbox 3).trans rfl; have hk4 : w1.cell? ⟨gb, 4, none⟩ = some (.int .i64 e.tick) := (blk_cell hbox 4).trans rfl; have HBX := Aside0.mk hbox; have HB := Aside0.mk hb; have GE := Aside0.mk (Nat.le_of_eq hg.symm); have HI1 := Aside0.mk (HI.out.below hb); obtain ⟨ha0, ha1, ha4, ha5, ha6, ha10, ha11, ha12, hf12⟩ := HI1.out.1.cells; obtain ⟨⟨ht0, hf0⟩, ⟨ht1, hf1⟩, ⟨ht2, hf2⟩, ⟨ht3, hf3⟩, ⟨ht4, hf4⟩, ⟨ht5, hf5⟩, ⟨ht6, hf6⟩, ⟨ht7, hf7⟩, ⟨ht8, hf8⟩, ⟨ht9, hf9⟩⟩ := HI1.out.1.task e.task P1.out Q1.out; clear hbox hb hg))
              rw [hl] at ht0
              rw [hd] at ht2
              go_quiet (fail)
              go_wp2_with fail
              refine (held_calls w0 g ad c kA _ kc ts tick e.slot _ (HI1.out.drewN _)).mono ?_
              rintro e' w2 ⟨rfl, hb2⟩
              rw [hh]
              have HI2 := Aside0.mk ((HI1.out.drewN _).below hb2)
              have HX2 := Aside0.mk ((hb2.block gb (lt' HBX.out)).trans HBX.out)
              clear hk0 hk1 hk2 hk3 hk4 ha0 ha1 ha4 ha5 ha6 ha10 ha11 ha12 hf12 ht0 ht1 ht2 ht3 ht4 ht5 ht6 ht7 ht8 ht9 hf0 hf1 hf2 hf3 hf4 hf5 hf6 hf7 hf8 hf9
              have hk0 : w2.cell? ⟨gb, 0, none⟩ = some (.int .i64 e.kind) := (blk_cell HX2.out 0).trans rfl
              have hk1 : w2.cell? ⟨gb, 1, none⟩ = some (.int .i64 e.task) := (blk_cell HX2.out 1).trans rfl
              have hk2 : w2.cell? ⟨gb, 2, none⟩ = some (.int .i64 e.slot) := (blk_cell HX2.out 2).trans rfl
              have hk3 : w2.cell? ⟨gb, 3, none⟩ = some (.int .i64 e.epoch) := (blk_cell HX2.out 3).trans rfl
              have hk4 : w2.cell? ⟨gb, 4, none⟩ = some (.int .i64 e.tick) := (blk_cell HX2.out 4).trans rfl
              obtain ⟨ha0, ha1, ha4, ha5, ha6, ha10, ha11, ha12, hf12⟩ := HI2.out.1.cells
              obtain ⟨⟨ht0, hf0⟩, ⟨ht1, hf1⟩, ⟨ht2, hf2⟩, ⟨ht3, hf3⟩, ⟨ht4, hf4⟩, ⟨ht5, hf5⟩, ⟨ht6, hf6⟩, ⟨ht7, hf7⟩, ⟨ht8, hf8⟩, ⟨ht9, hf9⟩⟩ := HI2.out.1.task e.task P1.out Q1.out
              clear hb2
              rw [hb] at ht1
              clear c1 c2
              go_wp2
              go_quiet (fail)
              go_wp2
              go_quiet (fail)
              go_wp2
              go_ret
              exact ⟨rfl, (HI2.out.drewN _).drewN _⟩
            · have c2b : decide (e.epoch ≤ (getT ts e.task).start.epoch) = false := decide_eq_false c2
              cases hf : fits c ks ts e.task with
              | false =>
                rw [starts_5 c ks ts e (by rw [hl, hd, hh]; rfl) c1 (fun hx => c2 hx.2) hf]
                go_enter Tryd.func38, Tryd.ntmps38
                go_upto_region 1 with (first | ((with_reducible refine gate_dst (N := 3) rfl ?_); (try (refine gate_guard (by rfl) ?_; dsimp only)); refine box_event ?hg (N := 3) ?hd (cs := #[.int .i64 e.kind, .int .i64 e.task, .int .i64 e.slot, .int .i64 e.epoch, .int .i64 e.tick]) (t := 42) ?hr ?_; (case hd => rfl); (case hg => rfl); (case hr => first | (go_simp; done) | (go_simp; rfl)); intro gb hg w1 hbox hb; have hk0 : w1.cell? ⟨gb, 0, none⟩ = some (.int .i64 e.kind) := (blk_cell hbox 0).trans rfl; have hk1 : w1.cell? ⟨gb, 1, none⟩ = some (.int .i64 e.task) := (blk_cell hbox 1).trans rfl; have hk2 : w1.cell? ⟨gb, 2, none⟩ = some (.int .i64 e.slot) := (blk_cell hbox 2).trans rfl; have hk3 : w1.cell? ⟨gb, 3, none⟩ = some (.int .i64 e.epoch) := (blk_cell hbox 3).trans rfl; have hk4 : w1.cell? ⟨gb, 4, none⟩ = some (.int .i64 e.tick) := (blk_cell hbox 4).trans rfl; have HBX := Aside0.mk hbox; have HB := Aside0.mk hb; have GE := Aside0.mk (Nat.le_of_eq hg.symm); have HI1 := Aside0.mk (HI.out.below hb); obtain ⟨ha0, ha1, ha4, ha5, ha6, ha10, ha11, ha12, hf12⟩ := HI1.out.1.cells; obtain ⟨⟨ht0, hf0⟩, ⟨ht1, hf1⟩, ⟨ht2, hf2⟩, ⟨ht3, hf3⟩, ⟨ht4, hf4⟩, ⟨ht5, hf5⟩, ⟨ht6, hf6⟩, ⟨ht7, hf7⟩, ⟨ht8, hf8⟩, ⟨ht9, hf9⟩⟩ := HI1.out.1.task e.task P1.out Q1.out; clear hbox hb hg))
                rw [hl] at ht0
                rw [hd] at ht2
                go_quiet (fail)
                go_wp2_with fail
                refine (held_calls w0 g ad c kA _ kc ts tick e.slot _ (HI1.out.drewN _)).mono ?_
                rintro e' w2 ⟨rfl, hb2⟩
                rw [hh]
                have HI2 := Aside0.mk ((HI1.out.drewN _).below hb2)
                have HX2 := Aside0.mk ((hb2.block gb (lt' HBX.out)).trans HBX.out)
                clear hk0 hk1 hk2 hk3 hk4 ha0 ha1 ha4 ha5 ha6 ha10 ha11 ha12 hf12 ht0 ht1 ht2 ht3 ht4 ht5 ht6 ht7 ht8 ht9 hf0 hf1 hf2 hf3 hf4 hf5 hf6 hf7 hf8 hf9
                have hk0 : w2.cell? ⟨gb, 0, none⟩ = some (.int .i64 e.kind) := (blk_cell HX2.out 0).trans rfl
                have hk1 : w2.cell? ⟨gb, 1, none⟩ = some (.int .i64 e.task) := (blk_cell HX2.out 1).trans rfl
                have hk2 : w2.cell? ⟨gb, 2, none⟩ = some (.int .i64 e.slot) := (blk_cell HX2.out 2).trans rfl
                have hk3 : w2.cell? ⟨gb, 3, none⟩ = some (.int .i64 e.epoch) := (blk_cell HX2.out 3).trans rfl
                have hk4 : w2.cell? ⟨gb, 4, none⟩ = some (.int .i64 e.tick) := (blk_cell HX2.out 4).trans rfl
                obtain ⟨ha0, ha1, ha4, ha5, ha6, ha10, ha11, ha12, hf12⟩ := HI2.out.1.cells
                obtain ⟨⟨ht0, hf0⟩, ⟨ht1, hf1⟩, ⟨ht2, hf2⟩, ⟨ht3, hf3⟩, ⟨ht4, hf4⟩, ⟨ht5, hf5⟩, ⟨ht6, hf6⟩, ⟨ht7, hf7⟩, ⟨ht8, hf8⟩, ⟨ht9, hf9⟩⟩ := HI2.out.1.task e.task P1.out Q1.out
                clear hb2
                rw [hb] at ht1
                clear c1
                go_wp2
                go_quiet (fail)
                go_wp2
                go_quiet (fail)
                go_wp2_with fail
                refine (fits_calls w0 g ad c kA kc ks ts tick e.task _ (HI2.out.drewN _) HC.out HL.out P1.out Q1.out).mono ?_
                rintro e' w3 ⟨rfl, hb3⟩
                rw [hf]
                have HI3 := Aside0.mk ((HI2.out.drewN _).below hb3)
                have HX3 := Aside0.mk ((hb3.block gb (lt' HX2.out)).trans HX2.out)
                clear hk0 hk1 hk2 hk3 hk4 ha0 ha1 ha4 ha5 ha6 ha10 ha11 ha12 hf12 ht0 ht1 ht2 ht3 ht4 ht5 ht6 ht7 ht8 ht9 hf0 hf1 hf2 hf3 hf4 hf5 hf6 hf7 hf8 hf9
                have hk0 : w3.cell? ⟨gb, 0, none⟩ = some (.int .i64 e.kind) := (blk_cell HX3.out 0).trans rfl
                have hk1 : w3.cell? ⟨gb, 1, none⟩ = some (.int .i64 e.task) := (blk_cell HX3.out 1).trans rfl
                have hk2 : w3.cell? ⟨gb, 2, none⟩ = some (.int .i64 e.slot) := (blk_cell HX3.out 2).trans rfl
                have hk3 : w3.cell? ⟨gb, 3, none⟩ = some (.int .i64 e.epoch) := (blk_cell HX3.out 3).trans rfl
                have hk4 : w3.cell? ⟨gb, 4, none⟩ = some (.int .i64 e.tick) := (blk_cell HX3.out 4).trans rfl
                obtain ⟨ha0, ha1, ha4, ha5, ha6, ha10, ha11, ha12, hf12⟩ := HI3.out.1.cells
                obtain ⟨⟨ht0, hf0⟩, ⟨ht1, hf1⟩, ⟨ht2, hf2⟩, ⟨ht3, hf3⟩, ⟨ht4, hf4⟩, ⟨ht5, hf5⟩, ⟨ht6, hf6⟩, ⟨ht7, hf7⟩, ⟨ht8, hf8⟩, ⟨ht9, hf9⟩⟩ := HI3.out.1.task e.task P1.out Q1.out
                clear hb3
                go_wp2
                go_ret
                exact ⟨rfl, HI3.out⟩
              | true =>
                rw [starts_0 c ks ts e (by rw [hl, hd, hh]; rfl) c1 (fun hx => c2 hx.2) hf]
                go_enter Tryd.func38, Tryd.ntmps38
                go_upto_region 1 with (first | ((with_reducible refine gate_dst (N := 3) rfl ?_); (try (refine gate_guard (by rfl) ?_; dsimp only)); refine box_event ?hg (N := 3) ?hd (cs := #[.int .i64 e.kind, .int .i64 e.task, .int .i64 e.slot, .int .i64 e.epoch, .int .i64 e.tick]) (t := 42) ?hr ?_; (case hd => rfl); (case hg => rfl); (case hr => first | (go_simp; done) | (go_simp; rfl)); intro gb hg w1 hbox hb; have hk0 : w1.cell? ⟨gb, 0, none⟩ = some (.int .i64 e.kind) := (blk_cell hbox 0).trans rfl; have hk1 : w1.cell? ⟨gb, 1, none⟩ = some (.int .i64 e.task) := (blk_cell hbox 1).trans rfl; have hk2 : w1.cell? ⟨gb, 2, none⟩ = some (.int .i64 e.slot) := (blk_cell hbox 2).trans rfl; have hk3 : w1.cell? ⟨gb, 3, none⟩ = some (.int .i64 e.epoch) := (blk_cell hbox 3).trans rfl; have hk4 : w1.cell? ⟨gb, 4, none⟩ = some (.int .i64 e.tick) := (blk_cell hbox 4).trans rfl; have HBX := Aside0.mk hbox; have HB := Aside0.mk hb; have GE := Aside0.mk (Nat.le_of_eq hg.symm); have HI1 := Aside0.mk (HI.out.below hb); obtain ⟨ha0, ha1, ha4, ha5, ha6, ha10, ha11, ha12, hf12⟩ := HI1.out.1.cells; obtain ⟨⟨ht0, hf0⟩, ⟨ht1, hf1⟩, ⟨ht2, hf2⟩, ⟨ht3, hf3⟩, ⟨ht4, hf4⟩, ⟨ht5, hf5⟩, ⟨ht6, hf6⟩, ⟨ht7, hf7⟩, ⟨ht8, hf8⟩, ⟨ht9, hf9⟩⟩ := HI1.out.1.task e.task P1.out Q1.out; clear hbox hb hg))
                rw [hl] at ht0
                rw [hd] at ht2
                go_quiet (fail)
                go_wp2_with fail
                refine (held_calls w0 g ad c kA _ kc ts tick e.slot _ (HI1.out.drewN _)).mono ?_
                rintro e' w2 ⟨rfl, hb2⟩
                rw [hh]
                have HI2 := Aside0.mk ((HI1.out.drewN _).below hb2)
                have HX2 := Aside0.mk ((hb2.block gb (lt' HBX.out)).trans HBX.out)
                clear hk0 hk1 hk2 hk3 hk4 ha0 ha1 ha4 ha5 ha6 ha10 ha11 ha12 hf12 ht0 ht1 ht2 ht3 ht4 ht5 ht6 ht7 ht8 ht9 hf0 hf1 hf2 hf3 hf4 hf5 hf6 hf7 hf8 hf9
                have hk0 : w2.cell? ⟨gb, 0, none⟩ = some (.int .i64 e.kind) := (blk_cell HX2.out 0).trans rfl
                have hk1 : w2.cell? ⟨gb, 1, none⟩ = some (.int .i64 e.task) := (blk_cell HX2.out 1).trans rfl
                have hk2 : w2.cell? ⟨gb, 2, none⟩ = some (.int .i64 e.slot) := (blk_cell HX2.out 2).trans rfl
                have hk3 : w2.cell? ⟨gb, 3, none⟩ = some (.int .i64 e.epoch) := (blk_cell HX2.out 3).trans rfl
                have hk4 : w2.cell? ⟨gb, 4, none⟩ = some (.int .i64 e.tick) := (blk_cell HX2.out 4).trans rfl
                obtain ⟨ha0, ha1, ha4, ha5, ha6, ha10, ha11, ha12, hf12⟩ := HI2.out.1.cells
                obtain ⟨⟨ht0, hf0⟩, ⟨ht1, hf1⟩, ⟨ht2, hf2⟩, ⟨ht3, hf3⟩, ⟨ht4, hf4⟩, ⟨ht5, hf5⟩, ⟨ht6, hf6⟩, ⟨ht7, hf7⟩, ⟨ht8, hf8⟩, ⟨ht9, hf9⟩⟩ := HI2.out.1.task e.task P1.out Q1.out
                clear hb2
                rw [hb] at ht1
                clear c1
                go_wp2
                go_quiet (fail)
                go_wp2
                go_quiet (fail)
                go_wp2_with fail
                refine (fits_calls w0 g ad c kA kc ks ts tick e.task _ (HI2.out.drewN _) HC.out HL.out P1.out Q1.out).mono ?_
                rintro e' w3 ⟨rfl, hb3⟩
                rw [hf]
                have HI3 := Aside0.mk ((HI2.out.drewN _).below hb3)
                have HX3 := Aside0.mk ((hb3.block gb (lt' HX2.out)).trans HX2.out)
                clear hk0 hk1 hk2 hk3 hk4 ha0 ha1 ha4 ha5 ha6 ha10 ha11 ha12 hf12 ht0 ht1 ht2 ht3 ht4 ht5 ht6 ht7 ht8 ht9 hf0 hf1 hf2 hf3 hf4 hf5 hf6 hf7 hf8 hf9
                have hk0 : w3.cell? ⟨gb, 0, none⟩ = some (.int .i64 e.kind) := (blk_cell HX3.out 0).trans rfl
                have hk1 : w3.cell? ⟨gb, 1, none⟩ = some (.int .i64 e.task) := (blk_cell HX3.out 1).trans rfl
                have hk2 : w3.cell? ⟨gb, 2, none⟩ = some (.int .i64 e.slot) := (blk_cell HX3.out 2).trans rfl
                have hk3 : w3.cell? ⟨gb, 3, none⟩ = some (.int .i64 e.epoch) := (blk_cell HX3.out 3).trans rfl
                have hk4 : w3.cell? ⟨gb, 4, none⟩ = some (.int .i64 e.tick) := (blk_cell HX3.out 4).trans rfl
                obtain ⟨ha0, ha1, ha4, ha5, ha6, ha10, ha11, ha12, hf12⟩ := HI3.out.1.cells
                obtain ⟨⟨ht0, hf0⟩, ⟨ht1, hf1⟩, ⟨ht2, hf2⟩, ⟨ht3, hf3⟩, ⟨ht4, hf4⟩, ⟨ht5, hf5⟩, ⟨ht6, hf6⟩, ⟨ht7, hf7⟩, ⟨ht8, hf8⟩, ⟨ht9, hf9⟩⟩ := HI3.out.1.task e.task P1.out Q1.out
                clear hb3
                clear ht0 hf0 ht1 hf1 ht2 hf2 ht3 hf3 ht4 hf4 ht5 hf5 ht6 hf6 ht7 hf7 ht8 hf8 ht9 hf9 ha0 ha1 ha4 ha5 ha6 ha10 ha11 ha12 hf12
                have G0 : AI w0 w3.drew g ad c kA ks.length kc ts tick := HI3.out.drewN 1
                have hu0 := (G0.1.task e.task P1.out (by first | exact Q1.out | (simp only [setT, List.length_set]; exact Q1.out))).1
                have hv0 := hu0.2
                replace hu0 := hu0.1
                have hne : gb ≠ (ad.add (e.task.toNat * 10)).block := by
                    have := GE.out
                    have h2 := lt' HI.out.1.2.2.2.2.1
                    have h3 : (ad.add (e.task.toNat * 10)).block = ad.block := add_block ad _
                    omega
                go_wp2
                refine start_ (n := 13) (S := fun w' => w'.cell? ⟨gb, 0, none⟩ = some (.int .i64 e.kind) ∧ w'.cell? ⟨gb, 1, none⟩ = some (.int .i64 e.task) ∧ w'.cell? ⟨gb, 2, none⟩ = some (.int .i64 e.slot) ∧ w'.cell? ⟨gb, 3, none⟩ = some (.int .i64 e.epoch) ∧ w'.cell? ⟨gb, 4, none⟩ = some (.int .i64 e.tick)) (ds := [12]) #[false, false, false, false, false, false, false, false, false, false, false, false, false] (by kernel_rfl) rfl rfl ⟨hk0, hk1, hk2, hk3, hk4⟩ (fun hHeld => ?_)
                refine pure_ (i := 0) (N := some 62) (v := ?_) (a' := ?_) #[true, false, false, false, false, false, false, false, false, false, false, false, false] rfl rfl (by kernel_rfl) (fun _ _ _ h => h) (Or.inl ⟨by rfl, ?_⟩) ?_ ?_
                rotate_left
                · intro w'
                  go_simp
                  with_reducible rfl
                rotate_left
                · simp only [Act.put, List.setIfInBounds_toArray, List.set_cons_zero, List.set_cons_succ, i64_w, i32_w]
                  rfl
                refine pure_ (i := 1) (N := some 63) (v := ?_) (a' := ?_) #[true, true, false, false, false, false, false, false, false, false, false, false, false] rfl rfl (by kernel_rfl) (fun _ _ _ h => h) (Or.inl ⟨by rfl, ?_⟩) ?_ ?_
                rotate_left
                · intro w'
                  go_simp
                  with_reducible rfl
                rotate_left
                · simp only [Act.put, List.setIfInBounds_toArray, List.set_cons_zero, List.set_cons_succ, i64_w, i32_w]
                  rfl
                refine pure_ (i := 2) (N := some 64) (v := ?_) (a' := ?_) #[true, true, true, false, false, false, false, false, false, false, false, false, false] rfl rfl (by kernel_rfl) (fun _ _ _ h => h) (Or.inl ⟨by rfl, ?_⟩) ?_ ?_
                rotate_left
                · intro w'
                  go_simp
                  with_reducible rfl
                rotate_left
                · simp only [Act.put, List.setIfInBounds_toArray, List.set_cons_zero, List.set_cons_succ, i64_w, i32_w]
                  rfl
                refine pure_ (i := 4) (N := some 66) (v := ?_) (a' := ?_) #[true, true, true, false, true, false, false, false, false, false, false, false, false] rfl rfl (by kernel_rfl) (fun _ _ _ h => h) (Or.inl ⟨by rfl, ?_⟩) ?_ ?_
                rotate_left
                · intro w'
                  go_simp
                  with_reducible rfl
                rotate_left
                · simp only [Act.put, List.setIfInBounds_toArray, List.set_cons_zero, List.set_cons_succ, i64_w, i32_w]
                  rfl
                refine pure_ (i := 5) (N := some 67) (v := ?_) (a' := ?_) #[true, true, true, false, true, true, false, false, false, false, false, false, false] rfl rfl (by kernel_rfl) (fun _ _ _ h => h) (Or.inl ⟨by rfl, ?_⟩) ?_ ?_
                rotate_left
                · intro w'
                  go_simp
                  with_reducible rfl
                rotate_left
                · simp only [Act.put, List.setIfInBounds_toArray, List.set_cons_zero, List.set_cons_succ, i64_w, i32_w]
                  rfl
                refine take_ (i := 3) (N := some 65) (v := ?_) (a' := ?_) #[true, true, true, true, true, true, false, false, false, false, false, false, false] rfl rfl (by kernel_rfl) (fun _ _ _ h => h) (Or.inl ⟨by rfl, ?_⟩) hHeld ?_ ?_
                rotate_left
                · rintro w' ⟨s0, s1, s2, s3, s4⟩
                  go_simp
                  with_reducible rfl
                rotate_left
                · simp only [Act.put, List.setIfInBounds_toArray, List.set_cons_zero, List.set_cons_succ, i64_w, i32_w]
                  rfl
                refine one_ (i := 6) (N := none) #[true, true, true, true, true, true, true, false, false, false, false, false, false] rfl rfl (by kernel_rfl) (by decide) (fun K hK => ?_)
                refine skip_ (w1 := ?_) (by rfl) rfl ?_ ?_
                rotate_left
                · go_simp
                  rfl
                refine hK.out _ _ ⟨(cell_far (a := ⟨gb, 0, none⟩) (p := (ad.add (e.task.toNat * 10))) hne _).trans hHeld.1, (cell_far (a := ⟨gb, 1, none⟩) (p := (ad.add (e.task.toNat * 10))) hne _).trans hHeld.2.1, (cell_far (a := ⟨gb, 2, none⟩) (p := (ad.add (e.task.toNat * 10))) hne _).trans hHeld.2.2.1, (cell_far (a := ⟨gb, 3, none⟩) (p := (ad.add (e.task.toNat * 10))) hne _).trans hHeld.2.2.2.1, (cell_far (a := ⟨gb, 4, none⟩) (p := (ad.add (e.task.toNat * 10))) hne _).trans hHeld.2.2.2.2⟩ (fun hHeld => ?_)
                clear hK K
                obtain ⟨w4, hw4⟩ : ∃ w_, w_ = (w3.setCell (ad.add (e.task.toNat * 10)) (.bool true)).drew := ⟨_, rfl⟩
                rw [← hw4] at hHeld ⊢
                have G1 : AI w0 w4 g ad c kA ks.length kc (setT ts e.task { getT ts e.task with live := true }) tick := by
                    rw [hw4]
                    have M := HI3.out.put_0 e.task P1.out (by first | exact Q1.out | (simp only [setT, List.length_set]; exact Q1.out)) (.bool true) ({ getT ts e.task with live := true }) rfl
                    exact M.drewN 1
                clear hw4 hu0 hv0
                have hu1 := (G1.1.task e.task P1.out (by first | exact Q1.out | (simp only [setT, List.length_set]; exact Q1.out))).2.1
                have hv1 := hu1.2
                replace hu1 := hu1.1
                refine pure_ (i := 7) (N := some 68) (v := ?_) (a' := ?_) #[true, true, true, true, true, true, true, true, false, false, false, false, false] rfl rfl (by kernel_rfl) (fun _ _ _ h => h) (Or.inl ⟨by rfl, ?_⟩) ?_ ?_
                rotate_left
                · intro w'
                  go_simp
                  with_reducible rfl
                rotate_left
                · simp only [Act.put, List.setIfInBounds_toArray, List.set_cons_zero, List.set_cons_succ, i64_w, i32_w]
                  rfl
                refine pure_ (i := 8) (N := some 69) (v := ?_) (a' := ?_) #[true, true, true, true, true, true, true, true, true, false, false, false, false] rfl rfl (by kernel_rfl) (fun _ _ _ h => h) (Or.inl ⟨by rfl, ?_⟩) ?_ ?_
                rotate_left
                · intro w'
                  go_simp
                  with_reducible rfl
                rotate_left
                · simp only [Act.put, List.setIfInBounds_toArray, List.set_cons_zero, List.set_cons_succ, i64_w, i32_w]
                  rfl
                refine one_ (i := 9) (N := none) #[true, true, true, true, true, true, true, true, true, true, false, false, false] rfl rfl (by kernel_rfl) (by decide) (fun K hK => ?_)
                refine skip_ (w1 := ?_) (by rfl) rfl ?_ ?_
                rotate_left
                · go_simp
                  rfl
                refine hK.out _ _ ⟨(cell_far (a := ⟨gb, 0, none⟩) (p := ⟨(ad.add (e.task.toNat * 10)).block, (ad.add (e.task.toNat * 10)).off + 1, none⟩) hne _).trans hHeld.1, (cell_far (a := ⟨gb, 1, none⟩) (p := ⟨(ad.add (e.task.toNat * 10)).block, (ad.add (e.task.toNat * 10)).off + 1, none⟩) hne _).trans hHeld.2.1, (cell_far (a := ⟨gb, 2, none⟩) (p := ⟨(ad.add (e.task.toNat * 10)).block, (ad.add (e.task.toNat * 10)).off + 1, none⟩) hne _).trans hHeld.2.2.1, (cell_far (a := ⟨gb, 3, none⟩) (p := ⟨(ad.add (e.task.toNat * 10)).block, (ad.add (e.task.toNat * 10)).off + 1, none⟩) hne _).trans hHeld.2.2.2.1, (cell_far (a := ⟨gb, 4, none⟩) (p := ⟨(ad.add (e.task.toNat * 10)).block, (ad.add (e.task.toNat * 10)).off + 1, none⟩) hne _).trans hHeld.2.2.2.2⟩ (fun hHeld => ?_)
                clear hK K
                obtain ⟨w5, hw5⟩ : ∃ w_, w_ = w4.setCell ⟨(ad.add (e.task.toNat * 10)).block, (ad.add (e.task.toNat * 10)).off + 1, none⟩ (.bool true) := ⟨_, rfl⟩
                rw [← hw5] at hHeld ⊢
                have G2 : AI w0 w5 g ad c kA ks.length kc (setT ts e.task { getT ts e.task with live := true, begun := true }) tick := by
                    rw [hw5]
                    have M := G1.put_j e.task P1.out (by first | exact Q1.out | (simp only [setT, List.length_set]; exact Q1.out)) 1 (by omega) (.bool true) ({ getT ts e.task with live := true, begun := true }) (by rw [get_set _ _ _ P1.out Q1.out]; rfl)
                    rw [set_set] at M
                    exact M
                clear hw5 hu1 hv1
                have hu3 := (G2.1.task e.task P1.out (by first | exact Q1.out | (simp only [setT, List.length_set]; exact Q1.out))).2.2.2.1
                have hv3 := hu3.2
                replace hu3 := hu3.1
                have hu4 := (G2.1.task e.task P1.out (by first | exact Q1.out | (simp only [setT, List.length_set]; exact Q1.out))).2.2.2.2.1
                have hv4 := hu4.2
                replace hu4 := hu4.1
                have hu5 := (G2.1.task e.task P1.out (by first | exact Q1.out | (simp only [setT, List.length_set]; exact Q1.out))).2.2.2.2.2.1
                have hv5 := hu5.2
                replace hu5 := hu5.1
                have hu6 := (G2.1.task e.task P1.out (by first | exact Q1.out | (simp only [setT, List.length_set]; exact Q1.out))).2.2.2.2.2.2.1
                have hv6 := hu6.2
                replace hu6 := hu6.1
                have hu7 := (G2.1.task e.task P1.out (by first | exact Q1.out | (simp only [setT, List.length_set]; exact Q1.out))).2.2.2.2.2.2.2.1
                have hv7 := hu7.2
                replace hu7 := hu7.1
                refine pure_ (i := 10) (N := some 70) (v := ?_) (a' := ?_) #[true, true, true, true, true, true, true, true, true, true, true, false, false] rfl rfl (by kernel_rfl) (fun _ _ _ h => h) (Or.inl ⟨by rfl, ?_⟩) ?_ ?_
                rotate_left
                · intro w'
                  go_simp
                  with_reducible rfl
                rotate_left
                · simp only [Act.put, List.setIfInBounds_toArray, List.set_cons_zero, List.set_cons_succ, i64_w, i32_w]
                  rfl
                refine pure_ (i := 11) (N := some 71) (v := ?_) (a' := ?_) #[true, true, true, true, true, true, true, true, true, true, true, true, false] rfl rfl (by kernel_rfl) (fun _ _ _ h => h) (Or.inl ⟨by rfl, ?_⟩) ?_ ?_
                rotate_left
                · intro w'
                  go_simp
                  with_reducible rfl
                rotate_left
                · simp only [Act.put, List.setIfInBounds_toArray, List.set_cons_zero, List.set_cons_succ, i64_w, i32_w]
                  rfl
                refine last_ (i := 12) (N := none) #[true, true, true, true, true, true, true, true, true, true, true, true, true] rfl rfl (by kernel_rfl) (by decide) (fun K hK => ?_)
                refine skip_ (w1 := ?_) (by rfl) rfl ?_ ?_
                rotate_left
                · go_simp
                  rfl
                refine hK.out _ _ ?_
                clear hK K
                refine done_ (by kernel_rfl) ?_
                have G3 : AI w0 (w5.setCell ⟨(ad.add (e.task.toNat * 10)).block, (ad.add (e.task.toNat * 10)).off + 3, none⟩ (.int .i64 e.kind)) g ad c kA ks.length kc (setT ts e.task { getT ts e.task with live := true, begun := true, start := ⟨e.kind, (getT ts e.task).start.task, (getT ts e.task).start.slot, (getT ts e.task).start.epoch, (getT ts e.task).start.tick⟩ }) tick := by
                    have M := G2.put_j e.task P1.out (by first | exact Q1.out | (simp only [setT, List.length_set]; exact Q1.out)) 3 (by omega) (.int .i64 e.kind) ({ getT ts e.task with live := true, begun := true, start := ⟨e.kind, (getT ts e.task).start.task, (getT ts e.task).start.slot, (getT ts e.task).start.epoch, (getT ts e.task).start.tick⟩ }) (by rw [get_set _ _ _ P1.out Q1.out]; rfl)
                    rw [set_set] at M
                    exact M
                have G4 : AI w0 ((w5.setCell ⟨(ad.add (e.task.toNat * 10)).block, (ad.add (e.task.toNat * 10)).off + 3, none⟩ (.int .i64 e.kind)).setCell ⟨(ad.add (e.task.toNat * 10)).block, (ad.add (e.task.toNat * 10)).off + 4, none⟩ (.int .i64 e.task)) g ad c kA ks.length kc (setT ts e.task { getT ts e.task with live := true, begun := true, start := ⟨e.kind, e.task, (getT ts e.task).start.slot, (getT ts e.task).start.epoch, (getT ts e.task).start.tick⟩ }) tick := by
                    have M := G3.put_j e.task P1.out (by first | exact Q1.out | (simp only [setT, List.length_set]; exact Q1.out)) 4 (by omega) (.int .i64 e.task) ({ getT ts e.task with live := true, begun := true, start := ⟨e.kind, e.task, (getT ts e.task).start.slot, (getT ts e.task).start.epoch, (getT ts e.task).start.tick⟩ }) (by rw [get_set _ _ _ P1.out Q1.out]; rfl)
                    rw [set_set] at M
                    exact M
                have G5 : AI w0 (((w5.setCell ⟨(ad.add (e.task.toNat * 10)).block, (ad.add (e.task.toNat * 10)).off + 3, none⟩ (.int .i64 e.kind)).setCell ⟨(ad.add (e.task.toNat * 10)).block, (ad.add (e.task.toNat * 10)).off + 4, none⟩ (.int .i64 e.task)).setCell ⟨(ad.add (e.task.toNat * 10)).block, (ad.add (e.task.toNat * 10)).off + 5, none⟩ (.int .i64 e.slot)) g ad c kA ks.length kc (setT ts e.task { getT ts e.task with live := true, begun := true, start := ⟨e.kind, e.task, e.slot, (getT ts e.task).start.epoch, (getT ts e.task).start.tick⟩ }) tick := by
                    have M := G4.put_j e.task P1.out (by first | exact Q1.out | (simp only [setT, List.length_set]; exact Q1.out)) 5 (by omega) (.int .i64 e.slot) ({ getT ts e.task with live := true, begun := true, start := ⟨e.kind, e.task, e.slot, (getT ts e.task).start.epoch, (getT ts e.task).start.tick⟩ }) (by rw [get_set _ _ _ P1.out Q1.out]; rfl)
                    rw [set_set] at M
                    exact M
                have G6 : AI w0 ((((w5.setCell ⟨(ad.add (e.task.toNat * 10)).block, (ad.add (e.task.toNat * 10)).off + 3, none⟩ (.int .i64 e.kind)).setCell ⟨(ad.add (e.task.toNat * 10)).block, (ad.add (e.task.toNat * 10)).off + 4, none⟩ (.int .i64 e.task)).setCell ⟨(ad.add (e.task.toNat * 10)).block, (ad.add (e.task.toNat * 10)).off + 5, none⟩ (.int .i64 e.slot)).setCell ⟨(ad.add (e.task.toNat * 10)).block, (ad.add (e.task.toNat * 10)).off + 6, none⟩ (.int .i64 e.epoch)) g ad c kA ks.length kc (setT ts e.task { getT ts e.task with live := true, begun := true, start := ⟨e.kind, e.task, e.slot, e.epoch, (getT ts e.task).start.tick⟩ }) tick := by
                    have M := G5.put_j e.task P1.out (by first | exact Q1.out | (simp only [setT, List.length_set]; exact Q1.out)) 6 (by omega) (.int .i64 e.epoch) ({ getT ts e.task with live := true, begun := true, start := ⟨e.kind, e.task, e.slot, e.epoch, (getT ts e.task).start.tick⟩ }) (by rw [get_set _ _ _ P1.out Q1.out]; rfl)
                    rw [set_set] at M
                    exact M
                have G7 : AI w0 (((((w5.setCell ⟨(ad.add (e.task.toNat * 10)).block, (ad.add (e.task.toNat * 10)).off + 3, none⟩ (.int .i64 e.kind)).setCell ⟨(ad.add (e.task.toNat * 10)).block, (ad.add (e.task.toNat * 10)).off + 4, none⟩ (.int .i64 e.task)).setCell ⟨(ad.add (e.task.toNat * 10)).block, (ad.add (e.task.toNat * 10)).off + 5, none⟩ (.int .i64 e.slot)).setCell ⟨(ad.add (e.task.toNat * 10)).block, (ad.add (e.task.toNat * 10)).off + 6, none⟩ (.int .i64 e.epoch)).setCell ⟨(ad.add (e.task.toNat * 10)).block, (ad.add (e.task.toNat * 10)).off + 7, none⟩ (.int .i64 e.tick)) g ad c kA ks.length kc (setT ts e.task { getT ts e.task with live := true, begun := true, start := ⟨e.kind, e.task, e.slot, e.epoch, e.tick⟩ }) tick := by
                    have M := G6.put_j e.task P1.out (by first | exact Q1.out | (simp only [setT, List.length_set]; exact Q1.out)) 7 (by omega) (.int .i64 e.tick) ({ getT ts e.task with live := true, begun := true, start := ⟨e.kind, e.task, e.slot, e.epoch, e.tick⟩ }) (by rw [get_set _ _ _ P1.out Q1.out]; rfl)
                    rw [set_set] at M
                    exact M
                go_wp2
                go_ret
                rw [hd] at G7
                exact ⟨rfl, G7⟩
          | false =>
            cases hf : fits c ks ts e.task with
            | false =>
              rw [starts_5 c ks ts e (by rw [hl, hd, hh]; rfl) c1 (fun hx => absurd (hb.symm.trans hx.1) (by decide)) hf]
              go_enter Tryd.func38, Tryd.ntmps38
              go_upto_region 1 with (first | ((with_reducible refine gate_dst (N := 3) rfl ?_); (try (refine gate_guard (by rfl) ?_; dsimp only)); refine box_event ?hg (N := 3) ?hd (cs := #[.int .i64 e.kind, .int .i64 e.task, .int .i64 e.slot, .int .i64 e.epoch, .int .i64 e.tick]) (t := 42) ?hr ?_; (case hd => rfl); (case hg => rfl); (case hr => first | (go_simp; done) | (go_simp; rfl)); intro gb hg w1 hbox hb; have hk0 : w1.cell? ⟨gb, 0, none⟩ = some (.int .i64 e.kind) := (blk_cell hbox 0).trans rfl; have hk1 : w1.cell? ⟨gb, 1, none⟩ = some (.int .i64 e.task) := (blk_cell hbox 1).trans rfl; have hk2 : w1.cell? ⟨gb, 2, none⟩ = some (.int .i64 e.slot) := (blk_cell hbox 2).trans rfl; have hk3 : w1.cell? ⟨gb, 3, none⟩ = some (.int .i64 e.epoch) := (blk_cell hbox 3).trans rfl; have hk4 : w1.cell? ⟨gb, 4, none⟩ = some (.int .i64 e.tick) := (blk_cell hbox 4).trans rfl; have HBX := Aside0.mk hbox; have HB := Aside0.mk hb; have GE := Aside0.mk (Nat.le_of_eq hg.symm); have HI1 := Aside0.mk (HI.out.below hb); obtain ⟨ha0, ha1, ha4, ha5, ha6, ha10, ha11, ha12, hf12⟩ := HI1.out.1.cells; obtain ⟨⟨ht0, hf0⟩, ⟨ht1, hf1⟩, ⟨ht2, hf2⟩, ⟨ht3, hf3⟩, ⟨ht4, hf4⟩, ⟨ht5, hf5⟩, ⟨ht6, hf6⟩, ⟨ht7, hf7⟩, ⟨ht8, hf8⟩, ⟨ht9, hf9⟩⟩ := HI1.out.1.task e.task P1.out Q1.out; clear hbox hb hg))
              rw [hl] at ht0
              rw [hd] at ht2
              go_quiet (fail)
              go_wp2_with fail
              refine (held_calls w0 g ad c kA _ kc ts tick e.slot _ (HI1.out.drewN _)).mono ?_
              rintro e' w2 ⟨rfl, hb2⟩
              rw [hh]
              have HI2 := Aside0.mk ((HI1.out.drewN _).below hb2)
              have HX2 := Aside0.mk ((hb2.block gb (lt' HBX.out)).trans HBX.out)
              clear hk0 hk1 hk2 hk3 hk4 ha0 ha1 ha4 ha5 ha6 ha10 ha11 ha12 hf12 ht0 ht1 ht2 ht3 ht4 ht5 ht6 ht7 ht8 ht9 hf0 hf1 hf2 hf3 hf4 hf5 hf6 hf7 hf8 hf9
              have hk0 : w2.cell? ⟨gb, 0, none⟩ = some (.int .i64 e.kind) := (blk_cell HX2.out 0).trans rfl
              have hk1 : w2.cell? ⟨gb, 1, none⟩ = some (.int .i64 e.task) := (blk_cell HX2.out 1).trans rfl
              have hk2 : w2.cell? ⟨gb, 2, none⟩ = some (.int .i64 e.slot) := (blk_cell HX2.out 2).trans rfl
              have hk3 : w2.cell? ⟨gb, 3, none⟩ = some (.int .i64 e.epoch) := (blk_cell HX2.out 3).trans rfl
              have hk4 : w2.cell? ⟨gb, 4, none⟩ = some (.int .i64 e.tick) := (blk_cell HX2.out 4).trans rfl
              obtain ⟨ha0, ha1, ha4, ha5, ha6, ha10, ha11, ha12, hf12⟩ := HI2.out.1.cells
              obtain ⟨⟨ht0, hf0⟩, ⟨ht1, hf1⟩, ⟨ht2, hf2⟩, ⟨ht3, hf3⟩, ⟨ht4, hf4⟩, ⟨ht5, hf5⟩, ⟨ht6, hf6⟩, ⟨ht7, hf7⟩, ⟨ht8, hf8⟩, ⟨ht9, hf9⟩⟩ := HI2.out.1.task e.task P1.out Q1.out
              clear hb2
              rw [hb] at ht1
              clear c1
              go_wp2
              go_quiet (fail)
              go_wp2
              go_quiet (fail)
              go_wp2_with fail
              refine (fits_calls w0 g ad c kA kc ks ts tick e.task _ (HI2.out.drewN _) HC.out HL.out P1.out Q1.out).mono ?_
              rintro e' w3 ⟨rfl, hb3⟩
              rw [hf]
              have HI3 := Aside0.mk ((HI2.out.drewN _).below hb3)
              have HX3 := Aside0.mk ((hb3.block gb (lt' HX2.out)).trans HX2.out)
              clear hk0 hk1 hk2 hk3 hk4 ha0 ha1 ha4 ha5 ha6 ha10 ha11 ha12 hf12 ht0 ht1 ht2 ht3 ht4 ht5 ht6 ht7 ht8 ht9 hf0 hf1 hf2 hf3 hf4 hf5 hf6 hf7 hf8 hf9
              have hk0 : w3.cell? ⟨gb, 0, none⟩ = some (.int .i64 e.kind) := (blk_cell HX3.out 0).trans rfl
              have hk1 : w3.cell? ⟨gb, 1, none⟩ = some (.int .i64 e.task) := (blk_cell HX3.out 1).trans rfl
              have hk2 : w3.cell? ⟨gb, 2, none⟩ = some (.int .i64 e.slot) := (blk_cell HX3.out 2).trans rfl
              have hk3 : w3.cell? ⟨gb, 3, none⟩ = some (.int .i64 e.epoch) := (blk_cell HX3.out 3).trans rfl
              have hk4 : w3.cell? ⟨gb, 4, none⟩ = some (.int .i64 e.tick) := (blk_cell HX3.out 4).trans rfl
              obtain ⟨ha0, ha1, ha4, ha5, ha6, ha10, ha11, ha12, hf12⟩ := HI3.out.1.cells
              obtain ⟨⟨ht0, hf0⟩, ⟨ht1, hf1⟩, ⟨ht2, hf2⟩, ⟨ht3, hf3⟩, ⟨ht4, hf4⟩, ⟨ht5, hf5⟩, ⟨ht6, hf6⟩, ⟨ht7, hf7⟩, ⟨ht8, hf8⟩, ⟨ht9, hf9⟩⟩ := HI3.out.1.task e.task P1.out Q1.out
              clear hb3
              go_wp2
              go_ret
              exact ⟨rfl, HI3.out⟩
            | true =>
              rw [starts_0 c ks ts e (by rw [hl, hd, hh]; rfl) c1 (fun hx => absurd (hb.symm.trans hx.1) (by decide)) hf]
              go_enter Tryd.func38, Tryd.ntmps38
              go_upto_region 1 with (first | ((with_reducible refine gate_dst (N := 3) rfl ?_); (try (refine gate_guard (by rfl) ?_; dsimp only)); refine box_event ?hg (N := 3) ?hd (cs := #[.int .i64 e.kind, .int .i64 e.task, .int .i64 e.slot, .int .i64 e.epoch, .int .i64 e.tick]) (t := 42) ?hr ?_; (case hd => rfl); (case hg => rfl); (case hr => first | (go_simp; done) | (go_simp; rfl)); intro gb hg w1 hbox hb; have hk0 : w1.cell? ⟨gb, 0, none⟩ = some (.int .i64 e.kind) := (blk_cell hbox 0).trans rfl; have hk1 : w1.cell? ⟨gb, 1, none⟩ = some (.int .i64 e.task) := (blk_cell hbox 1).trans rfl; have hk2 : w1.cell? ⟨gb, 2, none⟩ = some (.int .i64 e.slot) := (blk_cell hbox 2).trans rfl; have hk3 : w1.cell? ⟨gb, 3, none⟩ = some (.int .i64 e.epoch) := (blk_cell hbox 3).trans rfl; have hk4 : w1.cell? ⟨gb, 4, none⟩ = some (.int .i64 e.tick) := (blk_cell hbox 4).trans rfl; have HBX := Aside0.mk hbox; have HB := Aside0.mk hb; have GE := Aside0.mk (Nat.le_of_eq hg.symm); have HI1 := Aside0.mk (HI.out.below hb); obtain ⟨ha0, ha1, ha4, ha5, ha6, ha10, ha11, ha12, hf12⟩ := HI1.out.1.cells; obtain ⟨⟨ht0, hf0⟩, ⟨ht1, hf1⟩, ⟨ht2, hf2⟩, ⟨ht3, hf3⟩, ⟨ht4, hf4⟩, ⟨ht5, hf5⟩, ⟨ht6, hf6⟩, ⟨ht7, hf7⟩, ⟨ht8, hf8⟩, ⟨ht9, hf9⟩⟩ := HI1.out.1.task e.task P1.out Q1.out; clear hbox hb hg))
              rw [hl] at ht0
              rw [hd] at ht2
              go_quiet (fail)
              go_wp2_with fail
              refine (held_calls w0 g ad c kA _ kc ts tick e.slot _ (HI1.out.drewN _)).mono ?_
              rintro e' w2 ⟨rfl, hb2⟩
              rw [hh]
              have HI2 := Aside0.mk ((HI1.out.drewN _).below hb2)
              have HX2 := Aside0.mk ((hb2.block gb (lt' HBX.out)).trans HBX.out)
              clear hk0 hk1 hk2 hk3 hk4 ha0 ha1 ha4 ha5 ha6 ha10 ha11 ha12 hf12 ht0 ht1 ht2 ht3 ht4 ht5 ht6 ht7 ht8 ht9 hf0 hf1 hf2 hf3 hf4 hf5 hf6 hf7 hf8 hf9
              have hk0 : w2.cell? ⟨gb, 0, none⟩ = some (.int .i64 e.kind) := (blk_cell HX2.out 0).trans rfl
              have hk1 : w2.cell? ⟨gb, 1, none⟩ = some (.int .i64 e.task) := (blk_cell HX2.out 1).trans rfl
              have hk2 : w2.cell? ⟨gb, 2, none⟩ = some (.int .i64 e.slot) := (blk_cell HX2.out 2).trans rfl
              have hk3 : w2.cell? ⟨gb, 3, none⟩ = some (.int .i64 e.epoch) := (blk_cell HX2.out 3).trans rfl
              have hk4 : w2.cell? ⟨gb, 4, none⟩ = some (.int .i64 e.tick) := (blk_cell HX2.out 4).trans rfl
              obtain ⟨ha0, ha1, ha4, ha5, ha6, ha10, ha11, ha12, hf12⟩ := HI2.out.1.cells
              obtain ⟨⟨ht0, hf0⟩, ⟨ht1, hf1⟩, ⟨ht2, hf2⟩, ⟨ht3, hf3⟩, ⟨ht4, hf4⟩, ⟨ht5, hf5⟩, ⟨ht6, hf6⟩, ⟨ht7, hf7⟩, ⟨ht8, hf8⟩, ⟨ht9, hf9⟩⟩ := HI2.out.1.task e.task P1.out Q1.out
              clear hb2
              rw [hb] at ht1
              clear c1
              go_wp2
              go_quiet (fail)
              go_wp2
              go_quiet (fail)
              go_wp2_with fail
              refine (fits_calls w0 g ad c kA kc ks ts tick e.task _ (HI2.out.drewN _) HC.out HL.out P1.out Q1.out).mono ?_
              rintro e' w3 ⟨rfl, hb3⟩
              rw [hf]
              have HI3 := Aside0.mk ((HI2.out.drewN _).below hb3)
              have HX3 := Aside0.mk ((hb3.block gb (lt' HX2.out)).trans HX2.out)
              clear hk0 hk1 hk2 hk3 hk4 ha0 ha1 ha4 ha5 ha6 ha10 ha11 ha12 hf12 ht0 ht1 ht2 ht3 ht4 ht5 ht6 ht7 ht8 ht9 hf0 hf1 hf2 hf3 hf4 hf5 hf6 hf7 hf8 hf9
              have hk0 : w3.cell? ⟨gb, 0, none⟩ = some (.int .i64 e.kind) := (blk_cell HX3.out 0).trans rfl
              have hk1 : w3.cell? ⟨gb, 1, none⟩ = some (.int .i64 e.task) := (blk_cell HX3.out 1).trans rfl
              have hk2 : w3.cell? ⟨gb, 2, none⟩ = some (.int .i64 e.slot) := (blk_cell HX3.out 2).trans rfl
              have hk3 : w3.cell? ⟨gb, 3, none⟩ = some (.int .i64 e.epoch) := (blk_cell HX3.out 3).trans rfl
              have hk4 : w3.cell? ⟨gb, 4, none⟩ = some (.int .i64 e.tick) := (blk_cell HX3.out 4).trans rfl
              obtain ⟨ha0, ha1, ha4, ha5, ha6, ha10, ha11, ha12, hf12⟩ := HI3.out.1.cells
              obtain ⟨⟨ht0, hf0⟩, ⟨ht1, hf1⟩, ⟨ht2, hf2⟩, ⟨ht3, hf3⟩, ⟨ht4, hf4⟩, ⟨ht5, hf5⟩, ⟨ht6, hf6⟩, ⟨ht7, hf7⟩, ⟨ht8, hf8⟩, ⟨ht9, hf9⟩⟩ := HI3.out.1.task e.task P1.out Q1.out
              clear hb3
              clear ht0 hf0 ht1 hf1 ht2 hf2 ht3 hf3 ht4 hf4 ht5 hf5 ht6 hf6 ht7 hf7 ht8 hf8 ht9 hf9 ha0 ha1 ha4 ha5 ha6 ha10 ha11 ha12 hf12
              have G0 : AI w0 w3.drew g ad c kA ks.length kc ts tick := HI3.out.drewN 1
              have hu0 := (G0.1.task e.task P1.out (by first | exact Q1.out | (simp only [setT, List.length_set]; exact Q1.out))).1
              have hv0 := hu0.2
              replace hu0 := hu0.1
              have hne : gb ≠ (ad.add (e.task.toNat * 10)).block := by
                  have := GE.out
                  have h2 := lt' HI.out.1.2.2.2.2.1
                  have h3 : (ad.add (e.task.toNat * 10)).block = ad.block := add_block ad _
                  omega
              go_wp2
              refine start_ (n := 13) (S := fun w' => w'.cell? ⟨gb, 0, none⟩ = some (.int .i64 e.kind) ∧ w'.cell? ⟨gb, 1, none⟩ = some (.int .i64 e.task) ∧ w'.cell? ⟨gb, 2, none⟩ = some (.int .i64 e.slot) ∧ w'.cell? ⟨gb, 3, none⟩ = some (.int .i64 e.epoch) ∧ w'.cell? ⟨gb, 4, none⟩ = some (.int .i64 e.tick)) (ds := [12]) #[false, false, false, false, false, false, false, false, false, false, false, false, false] (by kernel_rfl) rfl rfl ⟨hk0, hk1, hk2, hk3, hk4⟩ (fun hHeld => ?_)
              refine pure_ (i := 0) (N := some 62) (v := ?_) (a' := ?_) #[true, false, false, false, false, false, false, false, false, false, false, false, false] rfl rfl (by kernel_rfl) (fun _ _ _ h => h) (Or.inl ⟨by rfl, ?_⟩) ?_ ?_
              rotate_left
              · intro w'
                go_simp
                with_reducible rfl
              rotate_left
              · simp only [Act.put, List.setIfInBounds_toArray, List.set_cons_zero, List.set_cons_succ, i64_w, i32_w]
                rfl
              refine pure_ (i := 1) (N := some 63) (v := ?_) (a' := ?_) #[true, true, false, false, false, false, false, false, false, false, false, false, false] rfl rfl (by kernel_rfl) (fun _ _ _ h => h) (Or.inl ⟨by rfl, ?_⟩) ?_ ?_
              rotate_left
              · intro w'
                go_simp
                with_reducible rfl
              rotate_left
              · simp only [Act.put, List.setIfInBounds_toArray, List.set_cons_zero, List.set_cons_succ, i64_w, i32_w]
                rfl
              refine pure_ (i := 2) (N := some 64) (v := ?_) (a' := ?_) #[true, true, true, false, false, false, false, false, false, false, false, false, false] rfl rfl (by kernel_rfl) (fun _ _ _ h => h) (Or.inl ⟨by rfl, ?_⟩) ?_ ?_
              rotate_left
              · intro w'
                go_simp
                with_reducible rfl
              rotate_left
              · simp only [Act.put, List.setIfInBounds_toArray, List.set_cons_zero, List.set_cons_succ, i64_w, i32_w]
                rfl
              refine pure_ (i := 4) (N := some 66) (v := ?_) (a' := ?_) #[true, true, true, false, true, false, false, false, false, false, false, false, false] rfl rfl (by kernel_rfl) (fun _ _ _ h => h) (Or.inl ⟨by rfl, ?_⟩) ?_ ?_
              rotate_left
              · intro w'
                go_simp
                with_reducible rfl
              rotate_left
              · simp only [Act.put, List.setIfInBounds_toArray, List.set_cons_zero, List.set_cons_succ, i64_w, i32_w]
                rfl
              refine pure_ (i := 5) (N := some 67) (v := ?_) (a' := ?_) #[true, true, true, false, true, true, false, false, false, false, false, false, false] rfl rfl (by kernel_rfl) (fun _ _ _ h => h) (Or.inl ⟨by rfl, ?_⟩) ?_ ?_
              rotate_left
              · intro w'
                go_simp
                with_reducible rfl
              rotate_left
              · simp only [Act.put, List.setIfInBounds_toArray, List.set_cons_zero, List.set_cons_succ, i64_w, i32_w]
                rfl
              refine take_ (i := 3) (N := some 65) (v := ?_) (a' := ?_) #[true, true, true, true, true, true, false, false, false, false, false, false, false] rfl rfl (by kernel_rfl) (fun _ _ _ h => h) (Or.inl ⟨by rfl, ?_⟩) hHeld ?_ ?_
              rotate_left
              · rintro w' ⟨s0, s1, s2, s3, s4⟩
                go_simp
                with_reducible rfl
              rotate_left
              · simp only [Act.put, List.setIfInBounds_toArray, List.set_cons_zero, List.set_cons_succ, i64_w, i32_w]
                rfl
              refine one_ (i := 6) (N := none) #[true, true, true, true, true, true, true, false, false, false, false, false, false] rfl rfl (by kernel_rfl) (by decide) (fun K hK => ?_)
              refine skip_ (w1 := ?_) (by rfl) rfl ?_ ?_
              rotate_left
              · go_simp
                rfl
              refine hK.out _ _ ⟨(cell_far (a := ⟨gb, 0, none⟩) (p := (ad.add (e.task.toNat * 10))) hne _).trans hHeld.1, (cell_far (a := ⟨gb, 1, none⟩) (p := (ad.add (e.task.toNat * 10))) hne _).trans hHeld.2.1, (cell_far (a := ⟨gb, 2, none⟩) (p := (ad.add (e.task.toNat * 10))) hne _).trans hHeld.2.2.1, (cell_far (a := ⟨gb, 3, none⟩) (p := (ad.add (e.task.toNat * 10))) hne _).trans hHeld.2.2.2.1, (cell_far (a := ⟨gb, 4, none⟩) (p := (ad.add (e.task.toNat * 10))) hne _).trans hHeld.2.2.2.2⟩ (fun hHeld => ?_)
              clear hK K
              obtain ⟨w4, hw4⟩ : ∃ w_, w_ = (w3.setCell (ad.add (e.task.toNat * 10)) (.bool true)).drew := ⟨_, rfl⟩
              rw [← hw4] at hHeld ⊢
              have G1 : AI w0 w4 g ad c kA ks.length kc (setT ts e.task { getT ts e.task with live := true }) tick := by
                  rw [hw4]
                  have M := HI3.out.put_0 e.task P1.out (by first | exact Q1.out | (simp only [setT, List.length_set]; exact Q1.out)) (.bool true) ({ getT ts e.task with live := true }) rfl
                  exact M.drewN 1
              clear hw4 hu0 hv0
              have hu1 := (G1.1.task e.task P1.out (by first | exact Q1.out | (simp only [setT, List.length_set]; exact Q1.out))).2.1
              have hv1 := hu1.2
              replace hu1 := hu1.1
              refine pure_ (i := 7) (N := some 68) (v := ?_) (a' := ?_) #[true, true, true, true, true, true, true, true, false, false, false, false, false] rfl rfl (by kernel_rfl) (fun _ _ _ h => h) (Or.inl ⟨by rfl, ?_⟩) ?_ ?_
              rotate_left
              · intro w'
                go_simp
                with_reducible rfl
              rotate_left
              · simp only [Act.put, List.setIfInBounds_toArray, List.set_cons_zero, List.set_cons_succ, i64_w, i32_w]
                rfl
              refine pure_ (i := 8) (N := some 69) (v := ?_) (a' := ?_) #[true, true, true, true, true, true, true, true, true, false, false, false, false] rfl rfl (by kernel_rfl) (fun _ _ _ h => h) (Or.inl ⟨by rfl, ?_⟩) ?_ ?_
              rotate_left
              · intro w'
                go_simp
                with_reducible rfl
              rotate_left
              · simp only [Act.put, List.setIfInBounds_toArray, List.set_cons_zero, List.set_cons_succ, i64_w, i32_w]
                rfl
              refine one_ (i := 9) (N := none) #[true, true, true, true, true, true, true, true, true, true, false, false, false] rfl rfl (by kernel_rfl) (by decide) (fun K hK => ?_)
              refine skip_ (w1 := ?_) (by rfl) rfl ?_ ?_
              rotate_left
              · go_simp
                rfl
              refine hK.out _ _ ⟨(cell_far (a := ⟨gb, 0, none⟩) (p := ⟨(ad.add (e.task.toNat * 10)).block, (ad.add (e.task.toNat * 10)).off + 1, none⟩) hne _).trans hHeld.1, (cell_far (a := ⟨gb, 1, none⟩) (p := ⟨(ad.add (e.task.toNat * 10)).block, (ad.add (e.task.toNat * 10)).off + 1, none⟩) hne _).trans hHeld.2.1, (cell_far (a := ⟨gb, 2, none⟩) (p := ⟨(ad.add (e.task.toNat * 10)).block, (ad.add (e.task.toNat * 10)).off + 1, none⟩) hne _).trans hHeld.2.2.1, (cell_far (a := ⟨gb, 3, none⟩) (p := ⟨(ad.add (e.task.toNat * 10)).block, (ad.add (e.task.toNat * 10)).off + 1, none⟩) hne _).trans hHeld.2.2.2.1, (cell_far (a := ⟨gb, 4, none⟩) (p := ⟨(ad.add (e.task.toNat * 10)).block, (ad.add (e.task.toNat * 10)).off + 1, none⟩) hne _).trans hHeld.2.2.2.2⟩ (fun hHeld => ?_)
              clear hK K
              obtain ⟨w5, hw5⟩ : ∃ w_, w_ = w4.setCell ⟨(ad.add (e.task.toNat * 10)).block, (ad.add (e.task.toNat * 10)).off + 1, none⟩ (.bool true) := ⟨_, rfl⟩
              rw [← hw5] at hHeld ⊢
              have G2 : AI w0 w5 g ad c kA ks.length kc (setT ts e.task { getT ts e.task with live := true, begun := true }) tick := by
                  rw [hw5]
                  have M := G1.put_j e.task P1.out (by first | exact Q1.out | (simp only [setT, List.length_set]; exact Q1.out)) 1 (by omega) (.bool true) ({ getT ts e.task with live := true, begun := true }) (by rw [get_set _ _ _ P1.out Q1.out]; rfl)
                  rw [set_set] at M
                  exact M
              clear hw5 hu1 hv1
              have hu3 := (G2.1.task e.task P1.out (by first | exact Q1.out | (simp only [setT, List.length_set]; exact Q1.out))).2.2.2.1
              have hv3 := hu3.2
              replace hu3 := hu3.1
              have hu4 := (G2.1.task e.task P1.out (by first | exact Q1.out | (simp only [setT, List.length_set]; exact Q1.out))).2.2.2.2.1
              have hv4 := hu4.2
              replace hu4 := hu4.1
              have hu5 := (G2.1.task e.task P1.out (by first | exact Q1.out | (simp only [setT, List.length_set]; exact Q1.out))).2.2.2.2.2.1
              have hv5 := hu5.2
              replace hu5 := hu5.1
              have hu6 := (G2.1.task e.task P1.out (by first | exact Q1.out | (simp only [setT, List.length_set]; exact Q1.out))).2.2.2.2.2.2.1
              have hv6 := hu6.2
              replace hu6 := hu6.1
              have hu7 := (G2.1.task e.task P1.out (by first | exact Q1.out | (simp only [setT, List.length_set]; exact Q1.out))).2.2.2.2.2.2.2.1
              have hv7 := hu7.2
              replace hu7 := hu7.1
              refine pure_ (i := 10) (N := some 70) (v := ?_) (a' := ?_) #[true, true, true, true, true, true, true, true, true, true, true, false, false] rfl rfl (by kernel_rfl) (fun _ _ _ h => h) (Or.inl ⟨by rfl, ?_⟩) ?_ ?_
              rotate_left
              · intro w'
                go_simp
                with_reducible rfl
              rotate_left
              · simp only [Act.put, List.setIfInBounds_toArray, List.set_cons_zero, List.set_cons_succ, i64_w, i32_w]
                rfl
              refine pure_ (i := 11) (N := some 71) (v := ?_) (a' := ?_) #[true, true, true, true, true, true, true, true, true, true, true, true, false] rfl rfl (by kernel_rfl) (fun _ _ _ h => h) (Or.inl ⟨by rfl, ?_⟩) ?_ ?_
              rotate_left
              · intro w'
                go_simp
                with_reducible rfl
              rotate_left
              · simp only [Act.put, List.setIfInBounds_toArray, List.set_cons_zero, List.set_cons_succ, i64_w, i32_w]
                rfl
              refine last_ (i := 12) (N := none) #[true, true, true, true, true, true, true, true, true, true, true, true, true] rfl rfl (by kernel_rfl) (by decide) (fun K hK => ?_)
              refine skip_ (w1 := ?_) (by rfl) rfl ?_ ?_
              rotate_left
              · go_simp
                rfl
              refine hK.out _ _ ?_
              clear hK K
              refine done_ (by kernel_rfl) ?_
              have G3 : AI w0 (w5.setCell ⟨(ad.add (e.task.toNat * 10)).block, (ad.add (e.task.toNat * 10)).off + 3, none⟩ (.int .i64 e.kind)) g ad c kA ks.length kc (setT ts e.task { getT ts e.task with live := true, begun := true, start := ⟨e.kind, (getT ts e.task).start.task, (getT ts e.task).start.slot, (getT ts e.task).start.epoch, (getT ts e.task).start.tick⟩ }) tick := by
                  have M := G2.put_j e.task P1.out (by first | exact Q1.out | (simp only [setT, List.length_set]; exact Q1.out)) 3 (by omega) (.int .i64 e.kind) ({ getT ts e.task with live := true, begun := true, start := ⟨e.kind, (getT ts e.task).start.task, (getT ts e.task).start.slot, (getT ts e.task).start.epoch, (getT ts e.task).start.tick⟩ }) (by rw [get_set _ _ _ P1.out Q1.out]; rfl)
                  rw [set_set] at M
                  exact M
              have G4 : AI w0 ((w5.setCell ⟨(ad.add (e.task.toNat * 10)).block, (ad.add (e.task.toNat * 10)).off + 3, none⟩ (.int .i64 e.kind)).setCell ⟨(ad.add (e.task.toNat * 10)).block, (ad.add (e.task.toNat * 10)).off + 4, none⟩ (.int .i64 e.task)) g ad c kA ks.length kc (setT ts e.task { getT ts e.task with live := true, begun := true, start := ⟨e.kind, e.task, (getT ts e.task).start.slot, (getT ts e.task).start.epoch, (getT ts e.task).start.tick⟩ }) tick := by
                  have M := G3.put_j e.task P1.out (by first | exact Q1.out | (simp only [setT, List.length_set]; exact Q1.out)) 4 (by omega) (.int .i64 e.task) ({ getT ts e.task with live := true, begun := true, start := ⟨e.kind, e.task, (getT ts e.task).start.slot, (getT ts e.task).start.epoch, (getT ts e.task).start.tick⟩ }) (by rw [get_set _ _ _ P1.out Q1.out]; rfl)
                  rw [set_set] at M
                  exact M
              have G5 : AI w0 (((w5.setCell ⟨(ad.add (e.task.toNat * 10)).block, (ad.add (e.task.toNat * 10)).off + 3, none⟩ (.int .i64 e.kind)).setCell ⟨(ad.add (e.task.toNat * 10)).block, (ad.add (e.task.toNat * 10)).off + 4, none⟩ (.int .i64 e.task)).setCell ⟨(ad.add (e.task.toNat * 10)).block, (ad.add (e.task.toNat * 10)).off + 5, none⟩ (.int .i64 e.slot)) g ad c kA ks.length kc (setT ts e.task { getT ts e.task with live := true, begun := true, start := ⟨e.kind, e.task, e.slot, (getT ts e.task).start.epoch, (getT ts e.task).start.tick⟩ }) tick := by
                  have M := G4.put_j e.task P1.out (by first | exact Q1.out | (simp only [setT, List.length_set]; exact Q1.out)) 5 (by omega) (.int .i64 e.slot) ({ getT ts e.task with live := true, begun := true, start := ⟨e.kind, e.task, e.slot, (getT ts e.task).start.epoch, (getT ts e.task).start.tick⟩ }) (by rw [get_set _ _ _ P1.out Q1.out]; rfl)
                  rw [set_set] at M
                  exact M
              have G6 : AI w0 ((((w5.setCell ⟨(ad.add (e.task.toNat * 10)).block, (ad.add (e.task.toNat * 10)).off + 3, none⟩ (.int .i64 e.kind)).setCell ⟨(ad.add (e.task.toNat * 10)).block, (ad.add (e.task.toNat * 10)).off + 4, none⟩ (.int .i64 e.task)).setCell ⟨(ad.add (e.task.toNat * 10)).block, (ad.add (e.task.toNat * 10)).off + 5, none⟩ (.int .i64 e.slot)).setCell ⟨(ad.add (e.task.toNat * 10)).block, (ad.add (e.task.toNat * 10)).off + 6, none⟩ (.int .i64 e.epoch)) g ad c kA ks.length kc (setT ts e.task { getT ts e.task with live := true, begun := true, start := ⟨e.kind, e.task, e.slot, e.epoch, (getT ts e.task).start.tick⟩ }) tick := by
                  have M := G5.put_j e.task P1.out (by first | exact Q1.out | (simp only [setT, List.length_set]; exact Q1.out)) 6 (by omega) (.int .i64 e.epoch) ({ getT ts e.task with live := true, begun := true, start := ⟨e.kind, e.task, e.slot, e.epoch, (getT ts e.task).start.tick⟩ }) (by rw [get_set _ _ _ P1.out Q1.out]; rfl)
                  rw [set_set] at M
                  exact M
              have G7 : AI w0 (((((w5.setCell ⟨(ad.add (e.task.toNat * 10)).block, (ad.add (e.task.toNat * 10)).off + 3, none⟩ (.int .i64 e.kind)).setCell ⟨(ad.add (e.task.toNat * 10)).block, (ad.add (e.task.toNat * 10)).off + 4, none⟩ (.int .i64 e.task)).setCell ⟨(ad.add (e.task.toNat * 10)).block, (ad.add (e.task.toNat * 10)).off + 5, none⟩ (.int .i64 e.slot)).setCell ⟨(ad.add (e.task.toNat * 10)).block, (ad.add (e.task.toNat * 10)).off + 6, none⟩ (.int .i64 e.epoch)).setCell ⟨(ad.add (e.task.toNat * 10)).block, (ad.add (e.task.toNat * 10)).off + 7, none⟩ (.int .i64 e.tick)) g ad c kA ks.length kc (setT ts e.task { getT ts e.task with live := true, begun := true, start := ⟨e.kind, e.task, e.slot, e.epoch, e.tick⟩ }) tick := by
                  have M := G6.put_j e.task P1.out (by first | exact Q1.out | (simp only [setT, List.length_set]; exact Q1.out)) 7 (by omega) (.int .i64 e.tick) ({ getT ts e.task with live := true, begun := true, start := ⟨e.kind, e.task, e.slot, e.epoch, e.tick⟩ }) (by rw [get_set _ _ _ P1.out Q1.out]; rfl)
                  rw [set_set] at M
                  exact M
              go_wp2
              go_ret
              rw [hd] at G7
              exact ⟨rfl, G7⟩
end Go.Proofs.YtckcepmkfegkiaaDoor.TrF
