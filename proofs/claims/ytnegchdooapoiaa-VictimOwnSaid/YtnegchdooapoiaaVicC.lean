/- Lemmas for the walks. No condition. -/
import Derived.Test.YtnegchdooapoiaaPVicx7
import Derived.Test.YtnegchdooapoiaaVicD
namespace Go.Proofs.Ytnegchdooapoiaa.PVic
open Go.RowKit Go.Proofs.YtnegchdooapoiaaW.PrintWords Go.Proofs.YtnegchdooapoiaaW.PrintLast Go.Proofs.YtnegchdooapoiaaW.PrintMore
attribute [local go_sem] max2_int min2_int max_two min_two max_three min_three max_four min_four   -- for this text's walks alone
set_option linter.unusedVariables false
set_option linter.unusedSimpArgs false
def victim_Choose.l0 : Nat → List Int → List (S27) → Int → Int → Int → Int → Int → Int → Int → Option (List Int × Bool)
  | 0, _, _, _, _, _, _, _, _, _ => none
  | k + 1, x17, x38, x39, x40, x178000, x178001, x178002, x179000, x179001 => if x40 < x39 then (if 0 ≤ x40 then (if x40 < (x38.length : Int) then ((victim_room_has.f x179000 x179001 x178000 x178001 x178002).bind fun t189 => (if t189 = true then ((victim_room_has.f x179000 x179001 x178000 x178001 x178002).bind fun t190 => (if t190 = true then (some (x17, true)) else (some (([] : List Int), false)))) else ((victim_memory.f ((rd_T27 x38 x40).f2)).bind fun t191 => (if x17.length < 17592186044416 then (victim_Choose.l0 k (x17 ++ [(rd_T27 x38 x40).f0]) x38 x39 (wrap64 (x40 + 1)) x178000 x178001 x178002 (wrap64 (x179000 + t191)) (wrap64 (x179001 + 1))) else (none))))) else (none)) else (none)) else ((victim_room_has.f x179000 x179001 x178000 x178001 x178002).bind fun t186 => (if t186 = true then (some (x17, true)) else (some (([] : List Int), false))))
def victim_Choose.f (k : Nat) (l0 : List (S27)) (a1 : Int) (a2 : Int) (a3 : Int) (a4 : Int) (a5 : Int) : Option (List Int × Bool) := (victim_memory.f a2).bind fun t175 => ((victim_memory.f a3).bind fun t176 => ((victim_Run_15.f l0).bind fun t179 => ((victim_Run_14.f k t179 (⟨a1, t175, a5⟩ : Nd)).bind fun t182 => ((victim_Run_17.f k t182 true).bind fun t185 => (victim_Choose.l0 k ([] : List Int) t185 (t182.length : Int) 0 a1 t175 a5 t176 (mn (mx a4 0) 1))))))
theorem victim_Choose.mono_l : ∀ k, (∀ y0 y1 y2 y3 y4 y5 y6 y7 y8, LeO (victim_Choose.l0 k y0 y1 y2 y3 y4 y5 y6 y7 y8) (victim_Choose.l0 (k + 1) y0 y1 y2 y3 y4 y5 y6 y7 y8))
  | 0 => fun _ _ _ _ _ _ _ _ _ r h => by simp [victim_Choose.l0] at h
  | k + 1 => by
    have ih0 := victim_Choose.mono_l k
    · intro y0 y1 y2 y3 y4 y5 y6 y7 y8
      unfold victim_Choose.l0
      repeat' first
      | (with_reducible exact ih0 _ _ _ _ _ _ _ _ _)
      | (with_reducible exact victim_Run_14.mono _ _ _)
      | (with_reducible exact victim_Run_17.mono _ _ _)
      | (with_reducible exact LeO.refl _)
      | (with_reducible exact LeO.none _)
      | (with_reducible refine LeO.ite ?_ ?_)
      | (with_reducible refine LeO.bind ?_ (fun _ => ?_))
      | exact ih0 _ _ _ _ _ _ _ _ _
      | exact victim_Run_14.mono _ _ _
      | exact victim_Run_17.mono _ _ _
      | exact LeO.none _
      | refine LeO.ite ?_ ?_
      | refine LeO.bind ?_ (fun _ => ?_)
theorem victim_Choose.mono : ∀ a0 a1 a2 a3 a4 a5 k, LeO (victim_Choose.f k a0 a1 a2 a3 a4 a5) (victim_Choose.f (k + 1) a0 a1 a2 a3 a4 a5) := by
  intro a0 a1 a2 a3 a4 a5 k
  have ih0 := victim_Choose.mono_l k
  unfold victim_Choose.f
  repeat' first
      | (with_reducible exact ih0 _ _ _ _ _ _ _ _ _)
      | (with_reducible exact victim_Run_14.mono _ _ _)
      | (with_reducible exact victim_Run_17.mono _ _ _)
      | (with_reducible exact LeO.refl _)
      | (with_reducible exact LeO.none _)
      | (with_reducible refine LeO.ite ?_ ?_)
      | (with_reducible refine LeO.bind ?_ (fun _ => ?_))
      | exact ih0 _ _ _ _ _ _ _ _ _
      | exact victim_Run_14.mono _ _ _
      | exact victim_Run_17.mono _ _ _
      | exact LeO.none _
      | refine LeO.ite ?_ ?_
      | refine LeO.bind ?_ (fun _ => ?_)
def victim_Choose.T9 : Bool × List (List Nat × List Nat) := (true, [([], []), ([0], [0]), ([], []), ([2], [2]), ([3], [3]), ([1, 4], [1, 4]), ([0, 1, 2, 3, 4, 5], []), ([6, 5, 4, 0, 1, 2, 3, 4, 5], [5, 6])])
def victim_Choose.B9 : List Nat := [0, 1, 0, 4, 12, 31, 63, 127]
theorem victim_Choose.tab9 : rtab .any (opsOf Try.f10 9) = victim_Choose.T9 := by kernel_rfl
theorem victim_Choose.bits9 : waitsOk victim_Choose.T9.2 victim_Choose.B9 = true := by kernel_rfl
set_option maxHeartbeats 8000000 in
set_option maxRecDepth 100000 in
theorem victim_Choose.calls (k : Nat) (A0 : Option Addr) (c0 : Nat) (l0 : List (S27)) (a1 : Int) (a2 : Int) (a3 : Int) (a4 : Int) (a5 : Int) (r1 : List Int) (r2 : Bool) (w : World) (hr0 : Kd.C k27 w A0 l0.length l0) (hc0 : l0.length ≤ c0) (h : victim_Choose.f k l0 a1 a2 a3 a4 a5 = some (r1, r2)) :
    Calls Try.prog 10 #[.slice A0 l0.length c0, .int .i64 a1, .int .i64 a2, .int .i64 a3, .int .i64 a4, .int .i64 a5] w fun e w' => ∃ v0_ : Value, e = .returned (.tuple #[v0_, .bool r2]) ∧ Kd.R (Kd.int .i64) 3 w' w.heap.size (fun _ => True) v0_ r1 ∧ Below w.heap.size w w' := by
  have hu40 := Try.underlying40
  have hu42 := Try.underlying42
  have hu27 := Try.underlying27
  have HR0 := Aside0.mk hr0
  have HC0 := Aside0.mk hc0
  clear hr0 hc0
  have HB := Aside0.mk (Below.refl w.heap.size w)
  have H : ((victim_memory.f a2).bind fun t175 => ((victim_memory.f a3).bind fun t176 => ((victim_Run_15.f l0).bind fun t179 => ((victim_Run_14.f k t179 (⟨a1, t175, a5⟩ : Nd)).bind fun t182 => ((victim_Run_17.f k t182 true).bind fun t185 => (victim_Choose.l0 k ([] : List Int) t185 (t182.length : Int) 0 a1 t175 a5 t176 (mn (mx a4 0) 1))))))) = some (r1, r2) := h
  clear h
  replace H := Option.bind_eq_some_iff.mp H
  obtain ⟨t175, A70, H⟩ := H
  replace H : ((victim_memory.f a3).bind fun t176 => ((victim_Run_15.f l0).bind fun t179 => ((victim_Run_14.f k t179 (⟨a1, t175, a5⟩ : Nd)).bind fun t182 => ((victim_Run_17.f k t182 true).bind fun t185 => (victim_Choose.l0 k ([] : List Int) t185 (t182.length : Int) 0 a1 t175 a5 t176 (mn (mx a4 0) 1)))))) = some (r1, r2) := H
  have A7 := Aside0.mk A70
  clear A70
  replace H := Option.bind_eq_some_iff.mp H
  obtain ⟨t176, A80, H⟩ := H
  replace H : ((victim_Run_15.f l0).bind fun t179 => ((victim_Run_14.f k t179 (⟨a1, t175, a5⟩ : Nd)).bind fun t182 => ((victim_Run_17.f k t182 true).bind fun t185 => (victim_Choose.l0 k ([] : List Int) t185 (t182.length : Int) 0 a1 t175 a5 t176 (mn (mx a4 0) 1))))) = some (r1, r2) := H
  have A8 := Aside0.mk A80
  clear A80
  obtain ⟨ji9, hji9⟩ : ∃ j_ : Int, (mx a4 0) = j_ := ⟨_, rfl⟩
  replace H : ((victim_Run_15.f l0).bind fun t179 => ((victim_Run_14.f k t179 (⟨a1, t175, a5⟩ : Nd)).bind fun t182 => ((victim_Run_17.f k t182 true).bind fun t185 => (victim_Choose.l0 k ([] : List Int) t185 (t182.length : Int) 0 a1 t175 a5 t176 (mn (ji9) 1))))) = some (r1, r2) := by first | (rw [hji9] at H; exact H) | (simp only [hji9] at H ⊢; exact H)
  (try rw [hji9] at A7)
  (try rw [hji9] at A8)
  (try (have hji9l : 0 ≤ ji9 := by (rw [← hji9]; unfold mx; (repeat' split) <;> omega)))
  (try (have hji9m : 0 ≤ ji9 := by omega))
  have hji9_ : (if a4 < 0 then 0 else a4) = ji9 := hji9
  obtain ⟨ji10, hji10⟩ : ∃ j_ : Int, (mn (ji9) 1) = j_ := ⟨_, rfl⟩
  replace H : ((victim_Run_15.f l0).bind fun t179 => ((victim_Run_14.f k t179 (⟨a1, t175, a5⟩ : Nd)).bind fun t182 => ((victim_Run_17.f k t182 true).bind fun t185 => (victim_Choose.l0 k ([] : List Int) t185 (t182.length : Int) 0 a1 t175 a5 t176 ji10)))) = some (r1, r2) := by first | (rw [hji10] at H; exact H) | (simp only [hji10] at H ⊢; exact H)
  (try rw [hji10] at A7)
  (try rw [hji10] at A8)
  have hji10_ : (if 1 < (ji9) then 1 else (ji9)) = ji10 := hji10
  replace H := Option.bind_eq_some_iff.mp H
  obtain ⟨t179, A110, H⟩ := H
  replace H : ((victim_Run_14.f k t179 (⟨a1, t175, a5⟩ : Nd)).bind fun t182 => ((victim_Run_17.f k t182 true).bind fun t185 => (victim_Choose.l0 k ([] : List Int) t185 (t182.length : Int) 0 a1 t175 a5 t176 ji10))) = some (r1, r2) := H
  have A11 := Aside0.mk A110
  clear A110
  replace H := Option.bind_eq_some_iff.mp H
  obtain ⟨t182, A120, H⟩ := H
  replace H : ((victim_Run_17.f k t182 true).bind fun t185 => (victim_Choose.l0 k ([] : List Int) t185 (t182.length : Int) 0 a1 t175 a5 t176 ji10)) = some (r1, r2) := H
  have A12 := Aside0.mk A120
  clear A120
  replace H := Option.bind_eq_some_iff.mp H
  obtain ⟨t185, A130, H⟩ := H
  replace H : (victim_Choose.l0 k ([] : List Int) t185 (t182.length : Int) 0 a1 t175 a5 t176 ji10) = some (r1, r2) := H
  have A13 := Aside0.mk A130
  clear A130
  have H' := Aside0.mk H
  clear H
  go_enter Try.func10, Try.ntmps10
  try go_wp2_with (first | ((with_reducible refine gate_callee (f := 13) rfl ?_); refine goesL_ (some 22) rfl rfl Try.func13 (by kernel_rfl) rfl #[.int .i64 a2] rfl (by (try simp only [List.map_toArray, List.map_cons, List.map_nil]); first | done | rfl | (simp only [List.length_drop, List.length_take]; rfl)) ?_; (with_reducible refine (victim_memory.calls a2 t175 _ A7.out).mono ?_); rintro e w14 ⟨rfl, hb⟩; refine ⟨_, rfl, ?_⟩; have n0_ := Aside0.mk (below_step (by repeat (first | (with_reducible first | exact HB.out | apply below_alloc | apply pw_below_drewN | apply below_drew1) | exact HB.out)) hb); clear HB; have HB := n0_; clear n0_; (try clear hb); (try clear hb2); (try clear hk); (try clear hi)) | ((with_reducible refine gate_callee (f := 13) rfl ?_); refine goesL_ (some 26) rfl rfl Try.func13 (by kernel_rfl) rfl #[.int .i64 a3] rfl (by (try simp only [List.map_toArray, List.map_cons, List.map_nil]); first | done | rfl | (simp only [List.length_drop, List.length_take]; rfl)) ?_; (with_reducible refine (victim_memory.calls a3 t176 _ A8.out).mono ?_); rintro e w15 ⟨rfl, hb⟩; refine ⟨_, rfl, ?_⟩; have n0_ := Aside0.mk (below_step (by repeat (first | (with_reducible first | exact HB.out | apply below_alloc | apply pw_below_drewN | apply below_drew1) | exact HB.out)) hb); clear HB; have HB := n0_; clear n0_; (try clear hb); (try clear hb2); (try clear hk); (try clear hi)) | ((with_reducible refine gate_dst (N := 14) rfl ?_); refine box_event ?hg (N := 14) ?hd (cs := #[.int .i64 0, .int .i64 0, .int .i64 0]) (t := 40) ?hr ?_; (case hd => rfl); (case hg => rfl); (case hr => first | (go_simp; done) | (go_simp; rfl)); intro gb177 hg w16 hbox hb; have n0_ := Aside0.mk (below_step (by repeat (first | (with_reducible first | exact HB.out | apply below_alloc | apply pw_below_drewN | apply below_drew1) | exact HB.out)) hb); have n1_ := Aside0.mk (hbox); have n2_ := Aside0.mk ((by rw [hg]; exact (below_size (by repeat (first | (with_reducible first | exact HB.out | apply below_alloc | apply pw_below_drewN | apply below_drew1) | exact HB.out))) : w.heap.size ≤ gb177)); have n3_ := Aside0.mk ((by rw [hg]; exact (below_size (by repeat (first | (with_reducible first | exact HB.out | apply below_alloc | apply pw_below_drewN | apply below_drew1) | exact HB.out))) : w.heap.size ≤ gb177)); clear HB; have HB := n0_; have BK177 := n1_; have GW177 := n2_; have GE177 := n3_; clear n0_ n1_ n2_ n3_; clear hb hbox hg) | ((with_reducible refine gate_dst (N := 15) rfl ?_); refine box_event ?hg (N := 15) ?hd (cs := #[.int .i64 0, .int .i64 0]) (t := 42) ?hr ?_; (case hd => rfl); (case hg => rfl); (case hr => first | (go_simp; done) | (go_simp; rfl)); intro gb178 hg w17 hbox hb; have n0_ := Aside0.mk (blk_below (g := gb177) (o := .cells #[.int .i64 0, .int .i64 0, .int .i64 0] 40 (0, 0)) (by (with_reducible repeat (first | refine blk_drewN ?_ _ | refine blk_drew ?_ | refine blk_alloc ?_ _)); exact BK177.out) hb); have n1_ := Aside0.mk (below_step (by repeat (first | (with_reducible first | exact HB.out | apply below_alloc | apply pw_below_drewN | apply below_drew1 | refine below_set ?_ GE177.out) | exact HB.out)) hb); have n2_ := Aside0.mk (hbox); have n3_ := Aside0.mk ((by rw [hg]; exact (below_size (by repeat (first | (with_reducible first | exact HB.out | apply below_alloc | apply pw_below_drewN | apply below_drew1 | refine below_set ?_ GE177.out) | exact HB.out))) : w.heap.size ≤ gb178)); have n4_ := Aside0.mk ((by rw [hg]; exact (below_size (by repeat (first | (with_reducible first | exact HB.out | apply below_alloc | apply pw_below_drewN | apply below_drew1 | refine below_set ?_ GE177.out) | exact HB.out))) : w.heap.size ≤ gb178)); have n5_ := Aside0.mk ((by rw [hg]; exact Nat.ne_of_lt (blk_lt (g := gb177) (o := .cells #[.int .i64 0, .int .i64 0, .int .i64 0] 40 (0, 0)) (by (with_reducible repeat (first | refine blk_drewN ?_ _ | refine blk_drew ?_ | refine blk_alloc ?_ _)); exact BK177.out)) : gb177 ≠ gb178)); have n6_ := Aside0.mk ((by rw [hg]; exact Nat.ne_of_gt (blk_lt (g := gb177) (o := .cells #[.int .i64 0, .int .i64 0, .int .i64 0] 40 (0, 0)) (by (with_reducible repeat (first | refine blk_drewN ?_ _ | refine blk_drew ?_ | refine blk_alloc ?_ _)); exact BK177.out)) : gb178 ≠ gb177)); clear BK177; clear HB; have BK177 := n0_; have HB := n1_; have BK178 := n2_; have GW178 := n3_; have GE178 := n4_; have NB177_178 := n5_; have NB178_177 := n6_; clear n0_ n1_ n2_ n3_ n4_ n5_ n6_; clear hb hbox hg; have hnb18 := NB177_178.out; have hnc18 := NB178_177.out; have hcz19_0 : w17.cell? ⟨gb177, 0, none⟩ = some (.int .i64 0) := (blk_cell BK177.out 0).trans rfl; have hcz19_1 : w17.cell? ⟨gb177, 1, none⟩ = some (.int .i64 0) := (blk_cell BK177.out 1).trans rfl; have hcz19_2 : w17.cell? ⟨gb177, 2, none⟩ = some (.int .i64 0) := (blk_cell BK177.out 2).trans rfl; have hfz19_0 := blk_frozen BK177.out 0; have hfz19_1 := blk_frozen BK177.out 1; have hfz19_2 := blk_frozen BK177.out 2; have hcz20_0 : w17.cell? ⟨gb178, 0, none⟩ = some (.int .i64 0) := (blk_cell BK178.out 0).trans rfl; have hcz20_1 : w17.cell? ⟨gb178, 1, none⟩ = some (.int .i64 0) := (blk_cell BK178.out 1).trans rfl; have hfz20_0 := blk_frozen BK178.out 0; have hfz20_1 := blk_frozen BK178.out 1))
  have n0_ : Aside0 ((((((w17.setCell ⟨gb177, 0, none⟩ (.int .i64 a1)).setCell ⟨gb177, 1, none⟩ (.int .i64 t175)).setCell ⟨gb177, 2, none⟩ (.int .i64 a5)).setCell ⟨gb178, 0, none⟩ (.int .i64 t176)).setCell ⟨gb178, 1, none⟩ (.int .i64 ji10)).heap[gb177]? = some (.cells #[.int .i64 a1, .int .i64 t175, .int .i64 a5] 40 (0, 0))) := ⟨by (with_reducible repeat (first | refine blk_drewN ?_ _ | refine blk_drew ?_ | refine blk_alloc ?_ _)); refine blk_far ?_ NB177_178.out _; (with_reducible repeat (first | refine blk_drewN ?_ _ | refine blk_drew ?_ | refine blk_alloc ?_ _)); refine blk_far ?_ NB177_178.out _; (with_reducible repeat (first | refine blk_drewN ?_ _ | refine blk_drew ?_ | refine blk_alloc ?_ _)); refine blk_put (cs := #[.int .i64 a1, .int .i64 t175, .int .i64 0]) ?_ 2 _ rfl; (with_reducible repeat (first | refine blk_drewN ?_ _ | refine blk_drew ?_ | refine blk_alloc ?_ _)); refine blk_put (cs := #[.int .i64 a1, .int .i64 0, .int .i64 0]) ?_ 1 _ rfl; (with_reducible repeat (first | refine blk_drewN ?_ _ | refine blk_drew ?_ | refine blk_alloc ?_ _)); refine blk_put (cs := #[.int .i64 0, .int .i64 0, .int .i64 0]) ?_ 0 _ rfl; (with_reducible repeat (first | refine blk_drewN ?_ _ | refine blk_drew ?_ | refine blk_alloc ?_ _)); exact BK177.out⟩
  have n1_ : Aside0 ((((((w17.setCell ⟨gb177, 0, none⟩ (.int .i64 a1)).setCell ⟨gb177, 1, none⟩ (.int .i64 t175)).setCell ⟨gb177, 2, none⟩ (.int .i64 a5)).setCell ⟨gb178, 0, none⟩ (.int .i64 t176)).setCell ⟨gb178, 1, none⟩ (.int .i64 ji10)).heap[gb178]? = some (.cells #[.int .i64 t176, .int .i64 ji10] 42 (0, 0))) := ⟨by (with_reducible repeat (first | refine blk_drewN ?_ _ | refine blk_drew ?_ | refine blk_alloc ?_ _)); refine blk_put (cs := #[.int .i64 t176, .int .i64 0]) ?_ 1 _ rfl; (with_reducible repeat (first | refine blk_drewN ?_ _ | refine blk_drew ?_ | refine blk_alloc ?_ _)); refine blk_put (cs := #[.int .i64 0, .int .i64 0]) ?_ 0 _ rfl; (with_reducible repeat (first | refine blk_drewN ?_ _ | refine blk_drew ?_ | refine blk_alloc ?_ _)); refine blk_far ?_ NB178_177.out _; (with_reducible repeat (first | refine blk_drewN ?_ _ | refine blk_drew ?_ | refine blk_alloc ?_ _)); refine blk_far ?_ NB178_177.out _; (with_reducible repeat (first | refine blk_drewN ?_ _ | refine blk_drew ?_ | refine blk_alloc ?_ _)); refine blk_far ?_ NB178_177.out _; (with_reducible repeat (first | refine blk_drewN ?_ _ | refine blk_drew ?_ | refine blk_alloc ?_ _)); exact BK178.out⟩
  have n2_ : Aside0 (Below w.heap.size w (((((w17.setCell ⟨gb177, 0, none⟩ (.int .i64 a1)).setCell ⟨gb177, 1, none⟩ (.int .i64 t175)).setCell ⟨gb177, 2, none⟩ (.int .i64 a5)).setCell ⟨gb178, 0, none⟩ (.int .i64 t176)).setCell ⟨gb178, 1, none⟩ (.int .i64 ji10))) := ⟨by repeat (first | (with_reducible first | exact HB.out | apply below_alloc | apply pw_below_drewN | apply below_drew1 | refine below_set ?_ GE177.out | refine below_set ?_ GE178.out) | exact HB.out)⟩
  (try clear BK177)
  (try clear BK178)
  (try clear HB)
  generalize (((((w17.setCell ⟨gb177, 0, none⟩ (.int .i64 a1)).setCell ⟨gb177, 1, none⟩ (.int .i64 t175)).setCell ⟨gb177, 2, none⟩ (.int .i64 a5)).setCell ⟨gb178, 0, none⟩ (.int .i64 t176)).setCell ⟨gb178, 1, none⟩ (.int .i64 ji10)) = w21 at n0_ n1_ n2_ ⊢
  have BK177 := n0_
  have BK178 := n1_
  have HB := n2_
  clear n0_ n1_ n2_
  have n0_ := Aside0.mk (blk_drew BK177.out)
  have n1_ := Aside0.mk (blk_drew BK178.out)
  have n2_ := Aside0.mk (below_drew1 HB.out)
  clear BK177
  clear BK178
  clear HB
  have BK177 := n0_
  have BK178 := n1_
  have HB := n2_
  clear n0_ n1_ n2_
  refine start_ (n := 6) (S := fun w' => w'.cell? ⟨gb177, 0, none⟩ = some (.int .i64 a1) ∧ w'.cell? ⟨gb177, 1, none⟩ = some (.int .i64 t175) ∧ w'.cell? ⟨gb177, 2, none⟩ = some (.int .i64 a5)) (ds := []) #[false, false, false, false, false, false] (by kernel_rfl) rfl rfl ⟨(blk_cell BK177.out 0).trans rfl, (blk_cell BK177.out 1).trans rfl, (blk_cell BK177.out 2).trans rfl⟩ (fun hHeld => ?_)
  generalize w21.drew = w22 at BK177 BK178 HB hHeld ⊢
  refine pure_ (i := 0) (N := some 31) (v := ?_) (a' := ?_) #[true, false, false, false, false, false] rfl rfl (by kernel_rfl) (fun _ _ _ h => h) (Or.inl ⟨by rfl, ?_⟩) ?_ ?_
  rotate_left
  · intro w'
    go_simp
    with_reducible rfl
  rotate_left
  · simp only [Act.put, List.setIfInBounds_toArray, List.set_cons_zero, List.set_cons_succ, i64_w, i32_w]
    rfl
  refine take_ (i := 2) (N := some 33) (v := ?_) (a' := ?_) #[true, false, true, false, false, false] rfl rfl (by kernel_rfl) (fun _ _ _ h => h) (Or.inl ⟨by rfl, ?_⟩) hHeld ?_ ?_
  rotate_left
  · rintro w' ⟨s0, s1, s2⟩
    go_simp
    with_reducible rfl
  rotate_left
  · simp only [Act.put, List.setIfInBounds_toArray, List.set_cons_zero, List.set_cons_succ, i64_w, i32_w]
    rfl
  refine pure_ (i := 3) (N := some 34) (v := ?_) (a' := ?_) #[true, false, true, true, false, false] rfl rfl (by kernel_rfl) (fun _ _ _ h => h) (Or.inl ⟨by rfl, ?_⟩) ?_ ?_
  rotate_left
  · intro w'
    go_simp
    with_reducible rfl
  rotate_left
  · simp only [Act.put, List.setIfInBounds_toArray, List.set_cons_zero, List.set_cons_succ, i64_w, i32_w]
    rfl
  refine one_ (i := 1) (N := some 32) #[true, true, true, true, false, false] rfl rfl (by kernel_rfl) (by decide) (fun K hK => ?_)
  refine goes_ Try.func15 (by kernel_rfl) rfl #[.slice A0 l0.length c0] (by rfl) rfl rfl (by (try simp only [List.map_toArray, List.map_cons, List.map_nil]); first | done | rfl | (simp only [List.length_drop, List.length_take]; rfl)) ?_
  with_reducible refine (victim_Run_15.calls _ _ l0 t179 _ ?side1 ?side2 A11.out).mono ?_
  (case side1 => repeat (first | exact (Kd.C_below HR0.out HB.out) | (with_reducible refine Kd.C_alloc ?_ _) | (with_reducible refine Kd.C_drewN ?_ _) | (with_reducible refine Kd.C_drew ?_)))
  (case side2 => exact HC0.out)
  rintro e w23 ⟨v180, rfl, ho0, hb⟩
  refine ⟨_, rfl, ?_⟩
  have n0_ := Aside0.mk (Kd.R_lower ho0 (below_size (by repeat (first | (with_reducible first | exact HB.out | apply below_alloc | apply pw_below_drewN | apply below_drew1 | refine below_set ?_ GE177.out | refine below_set ?_ GE178.out) | exact HB.out))))
  have n1_ := Aside0.mk (blk_below (g := gb177) (o := .cells #[.int .i64 a1, .int .i64 t175, .int .i64 a5] 40 (0, 0)) (by (with_reducible repeat (first | refine blk_drewN ?_ _ | refine blk_drew ?_ | refine blk_alloc ?_ _)); exact BK177.out) hb)
  have n2_ := Aside0.mk (blk_below (g := gb178) (o := .cells #[.int .i64 t176, .int .i64 ji10] 42 (0, 0)) (by (with_reducible repeat (first | refine blk_drewN ?_ _ | refine blk_drew ?_ | refine blk_alloc ?_ _)); exact BK178.out) hb)
  have n3_ := Aside0.mk (below_step (by repeat (first | (with_reducible first | exact HB.out | apply below_alloc | apply pw_below_drewN | apply below_drew1 | refine below_set ?_ GE177.out | refine below_set ?_ GE178.out) | exact HB.out)) hb)
  clear BK177
  clear BK178
  clear HB
  have HO181 := n0_
  have BK177 := n1_
  have BK178 := n2_
  have HB := n3_
  clear n0_ n1_ n2_ n3_
  (try clear hb)
  (try clear hb2)
  (try clear hk)
  (try clear hi)
  (try clear ho0)
  obtain ⟨Ao24, co24, eo24⟩ := Kd.R_slice HO181.out
  (first | subst eo24 | (injection eo24 with f1_ f2_ f3_; have f4_ := f1_.symm; have f5_ := f3_.symm; clear f1_ f2_ f3_; subst f4_; subst f5_))
  refine hK.out _ _ ⟨(blk_cell BK177.out 0).trans rfl, (blk_cell BK177.out 1).trans rfl, (blk_cell BK177.out 2).trans rfl⟩ (fun hHeld => ?_)
  clear hK K
  refine norm_ (a' := ?_) ?_ ?_
  rotate_left
  · show Act.put _ (some 32) _ = _
    simp only [Act.put, List.setIfInBounds_toArray, List.set_cons_zero, List.set_cons_succ, i64_w, i32_w]
    rfl
  refine one_ (i := 4) (N := some 35) #[true, true, true, true, true, false] rfl rfl (by kernel_rfl) (by decide) (fun K hK => ?_)
  refine goes_ Try.func14 (by kernel_rfl) rfl #[.slice Ao24 t179.length co24, .func (.func 16) #[.agg #[.int .i64 a1, .int .i64 t175, .int .i64 a5]] #[]] (by rfl) rfl rfl (by (try simp only [List.map_toArray, List.map_cons, List.map_nil]); first | done | rfl | (simp only [List.length_drop, List.length_take]; rfl)) ?_
  with_reducible refine (victim_Run_14.calls k (fun k_ => some k_ = (.slice Ao24 t179.length co24 : Value).ownBlock) (.slice Ao24 t179.length co24) t179 (⟨a1, t175, a5⟩ : Nd) t182 w _ ?side1 ?side2 A12.out).mono ?_
  (case side1 => repeat (first | (with_reducible first | exact HB.out | apply below_alloc | apply pw_below_drewN | apply below_drew1 | refine below_set ?_ GE177.out | refine below_set ?_ GE178.out) | exact HB.out))
  (case side2 => exact Kd.R_tight rfl HO181.out)
  rintro e w25 ⟨v183, rfl, ho0, hb, hkp⟩
  refine ⟨_, rfl, ?_⟩
  have n0_ := Aside0.mk (blk_kept (by (with_reducible repeat (first | refine blk_drewN ?_ _ | refine blk_drew ?_ | refine blk_alloc ?_ _)); exact BK177.out) hkp (fun hs_ => (fun e_ => (Kd.R_ne HO181.out BK177.out (by decide)) e_) hs_))
  have n1_ := Aside0.mk (blk_kept (by (with_reducible repeat (first | refine blk_drewN ?_ _ | refine blk_drew ?_ | refine blk_alloc ?_ _)); exact BK178.out) hkp (fun hs_ => (fun e_ => (Kd.R_ne HO181.out BK178.out (by decide)) e_) hs_))
  have n2_ := Aside0.mk (Kd.R_mono (ok' := fun k_ => True) ho0 (fun k_ hk_ => trivial))
  have n3_ := Aside0.mk (hb)
  clear BK177
  clear BK178
  clear HB
  clear HO181
  have BK177 := n0_
  have BK178 := n1_
  have HO184 := n2_
  have HB := n3_
  clear n0_ n1_ n2_ n3_
  (try clear hb)
  (try clear hkp)
  (try clear ho0)
  refine hK.out _ _ ⟨(blk_cell BK177.out 0).trans rfl, (blk_cell BK177.out 1).trans rfl, (blk_cell BK177.out 2).trans rfl⟩ (fun hHeld => ?_)
  clear hK K
  refine norm_ (a' := ?_) ?_ ?_
  rotate_left
  · show Act.put _ (some 35) _ = _
    simp only [Act.put, List.setIfInBounds_toArray, List.set_cons_zero, List.set_cons_succ, i64_w, i32_w]
    rfl
  refine pure_ (i := 5) (N := some 16) (v := ?_) (a' := ?_) #[true, true, true, true, true, true] rfl rfl (by kernel_rfl) (fun _ _ _ h => h) (Or.inl ⟨by rfl, ?_⟩) ?_ ?_
  rotate_left
  · intro w'
    go_simp
    with_reducible rfl
  rotate_left
  · simp only [Act.put, List.setIfInBounds_toArray, List.set_cons_zero, List.set_cons_succ, i64_w, i32_w]
    rfl
  refine done_ (by kernel_rfl) ?_
  obtain ⟨Ao26, co26, eo26⟩ := Kd.R_slice HO184.out
  subst eo26
  try go_wp2_with (first | ((with_reducible refine gate_callee (f := 17) rfl ?_); refine goesL_ (some 37) rfl rfl Try.func17 (by kernel_rfl) rfl #[.slice Ao26 t182.length co26, .func (.func 18) #[] #[]] rfl (by (try simp only [List.map_toArray, List.map_cons, List.map_nil]); first | done | rfl | (simp only [List.length_drop, List.length_take]; rfl)) ?_; (with_reducible refine (victim_Run_17.calls k (fun k_ => some k_ = (.slice Ao26 t182.length co26 : Value).ownBlock) (.slice Ao26 t182.length co26) t182 true t185 w _ ?side1 ?side2 A13.out).mono ?_); (case side1 => repeat (first | (with_reducible first | exact HB.out | apply below_alloc | apply pw_below_drewN | apply below_drew1 | refine below_set ?_ GE177.out | refine below_set ?_ GE178.out) | exact HB.out)); (case side2 => exact Kd.R_tight rfl HO184.out); rintro e w27 ⟨rfl, hy0, hb, hkp⟩; refine ⟨_, rfl, ?_⟩; have n0_ := Aside0.mk (blk_kept (by (with_reducible repeat (first | refine blk_drewN ?_ _ | refine blk_drew ?_ | refine blk_alloc ?_ _)); exact BK177.out) hkp (fun hs_ => (fun e_ => (Kd.R_ne HO184.out BK177.out (by decide)) e_) hs_)); have n1_ := Aside0.mk (blk_kept (by (with_reducible repeat (first | refine blk_drewN ?_ _ | refine blk_drew ?_ | refine blk_alloc ?_ _)); exact BK178.out) hkp (fun hs_ => (fun e_ => (Kd.R_ne HO184.out BK178.out (by decide)) e_) hs_)); have n2_ := Aside0.mk (Kd.R_reok rfl hy0 (fun k_ e_ => HO184.out.1 k_ e_)); have n3_ := Aside0.mk (hb); clear BK177; clear BK178; clear HO184; clear HB; have BK177 := n0_; have BK178 := n1_; have HO184 := n2_; have HB := n3_; clear n0_ n1_ n2_ n3_; (try clear hb); (try clear hkp); (try clear hy0)))
  go_loopg [17, 40] k (fun kq v17 v40 w' => ∃ (x17_1 : List Int) (x40_1 : Int) (x179000_1 : Int) (x179001_1 : Int), v40 = .int .i64 x40_1 ∧ Aside0 (victim_Choose.l0 kq x17_1 t185 (t182.length : Int) x40_1 a1 t175 a5 x179000_1 x179001_1 = some (r1, r2)) ∧ Aside0 (kq ≤ k) ∧ Aside0 (Kd.R (Kd.int .i64) 3 w' w.heap.size (fun _ => True) v17 x17_1) ∧ Aside0 (Kd.R k27 27 w' w.heap.size (fun _ => True) (.slice Ao26 t182.length co26) t185) ∧ Aside0 (w'.heap[gb177]? = some (.cells #[.int .i64 a1, .int .i64 t175, .int .i64 a5] 40 (0, 0))) ∧ Aside0 (w'.heap[gb178]? = some (.cells #[.int .i64 x179000_1, .int .i64 x179001_1] 42 (0, 0))) ∧ Aside0 (Below w.heap.size w w'))
  case atStart => exact ⟨(([] : List Int)), (0), (t176), (ji10), (by first | rfl | (simp; done) | (simp [*]; done)), H', ⟨Nat.le_refl _⟩, ⟨by first | exact Kd.R_nil _ _ _ _ _ | exact Kd.N_nil _ _ _ _ _ | exact Kd.V_nil _ _ _ _ _ | exact Kd.Q_nil _ _ _ _ _ | exact Kd.S_nil _ _ _ _ _⟩, ⟨by (with_reducible repeat (first | apply Kd.R_alloc | apply Kd.R_drewN | apply Kd.R_drew)); exact HO184.out⟩, ⟨by (with_reducible repeat (first | refine blk_drewN ?_ _ | refine blk_drew ?_ | refine blk_alloc ?_ _)); exact BK177.out⟩, ⟨by (with_reducible repeat (first | refine blk_drewN ?_ _ | refine blk_drew ?_ | refine blk_alloc ?_ _)); exact BK178.out⟩, ⟨by repeat (first | (with_reducible first | exact HB.out | apply below_alloc | apply pw_below_drewN | apply below_drew1 | refine below_set ?_ GE177.out | refine below_set ?_ GE178.out) | exact HB.out)⟩⟩
  case round =>
    clear H'
    try clear c1
    try clear p2
    try clear c10
    try clear c13
    try clear c14
    try clear c15
    try clear c17
    try clear c18
    try clear hcz19_0
    try clear hcz19_1
    try clear hcz19_2
    try clear hcz20_0
    try clear hcz20_1
    try clear hfz19_0
    try clear hfz19_1
    try clear hfz19_2
    try clear hfz20_0
    try clear hfz20_1
    obtain ⟨x17_1, x40_1, x179000_1, x179001_1, rfl, HA, HK1, HO_17, HO_38, BK177, BK178, HB⟩ := hrel
    have hl38_1 := (Kd.R_reads' HO_38.out).1
    rw [hl38_1] at HO_38
    (try simp only [hl38_1])
    (try simp only [hl38_1] at BK177)
    (try simp only [hl38_1] at BK178)
    (try simp only [hl38_1] at HO_17)
    cases gk with
    | zero => exact absurd HA.out (by simp [victim_Choose.l0])
    | succ k1 =>
      have H := HA.out
      clear HA
      simp only [victim_Choose.l0] at H
      by_cases c28 : x40_1 < (t182.length : Int)
      · rw [if_pos c28] at H
        have c28b0 : decide (x40_1 < (t182.length : Int)) = true := decide_eq_true c28
        clear c28
        by_cases c29 : 0 ≤ x40_1
        · rw [if_pos c29] at H
          have c29b0 : decide (0 ≤ x40_1) = true := decide_eq_true c29
          clear c29
          by_cases c30 : x40_1 < (t185.length : Int)
          · rw [if_pos c30] at H
            have c30b0 : decide (x40_1 < (t185.length : Int)) = true := decide_eq_true c30
            clear c30
            replace H := Option.bind_eq_some_iff.mp H
            obtain ⟨t189, A310, H⟩ := H
            replace H : (if t189 = true then ((victim_room_has.f x179000_1 x179001_1 a1 t175 a5).bind fun t190 => (if t190 = true then (some (x17_1, true)) else (some (([] : List Int), false)))) else ((victim_memory.f ((rd_T27 t185 x40_1).f2)).bind fun t191 => (if x17_1.length < 17592186044416 then (victim_Choose.l0 k1 (x17_1 ++ [(rd_T27 t185 x40_1).f0]) t185 (t182.length : Int) (wrap64 (x40_1 + 1)) a1 t175 a5 (wrap64 (x179000_1 + t191)) (wrap64 (x179001_1 + 1))) else (none)))) = some (r1, r2) := H
            have A31 := Aside0.mk A310
            clear A310
            by_cases c32 : t189 = true
            · subst c32
              have H1 : ((victim_room_has.f x179000_1 x179001_1 a1 t175 a5).bind fun t190 => (if t190 = true then (some (x17_1, true)) else (some (([] : List Int), false)))) = some (r1, r2) := by rw [if_pos rfl] at H; exact H
              clear H
              have H := H1
              clear H1
              replace H := Option.bind_eq_some_iff.mp H
              obtain ⟨t190, A330, H⟩ := H
              replace H : (if t190 = true then (some (x17_1, true)) else (some (([] : List Int), false))) = some (r1, r2) := H
              have A33 := Aside0.mk A330
              clear A330
              by_cases c34 : t190 = true
              · subst c34
                have H1 : (some (x17_1, true)) = some (r1, r2) := by rw [if_pos rfl] at H; exact H
                clear H
                have H := H1
                clear H1
                simp only [Option.some.injEq, Prod.mk.injEq] at H
                obtain ⟨rfl, rfl⟩ := H
                have p187 : 0 ≤ (x40_1 : Int) := of_decide_eq_true (by first | (with_reducible assumption) | assumption)
                have q187 : x40_1 < (t185.length : Int) := of_decide_eq_true (by first | (with_reducible assumption) | assumption)
                obtain ⟨ad187, e187, hx187_0, hx187_1, hx187_2, hx187_3, hx187_4⟩ := at_T27 (Kd.R_reads' HO_38.out).2.2 x40_1 p187 q187
                cases e187
                replace p187 := eq_true p187
                replace q187 := eq_true q187
                go_wp2_with (first | ((with_reducible refine gate_dst (N := 19) rfl ?_); refine box_event ?hg (N := 19) ?hd (cs := #[.int .i64 0, .int .i64 0, .int .i64 0, .int .i64 0, .int .i64 0]) (t := 27) ?hr ?_; (case hd => rfl); (case hg => rfl); (case hr => first | (go_simp; done) | (go_simp; rfl)); intro gb188 hg w35 hbox hb; have n0_ := Aside0.mk (Kd.R_below (by (with_reducible repeat (first | apply Kd.R_alloc | apply Kd.R_drewN | apply Kd.R_drew)); exact HO_17.out) hb); have n1_ := Aside0.mk (Kd.R_below (Kd.R_elderB (by (with_reducible repeat (first | apply Kd.R_alloc | apply Kd.R_drewN | apply Kd.R_drew)); exact HO_38.out) gb188 (Nat.le_of_eq hg.symm)) hb); have n2_ := Aside0.mk (blk_below (g := gb177) (o := .cells #[.int .i64 a1, .int .i64 t175, .int .i64 a5] 40 (0, 0)) (by (with_reducible repeat (first | refine blk_drewN ?_ _ | refine blk_drew ?_ | refine blk_alloc ?_ _)); exact BK177.out) hb); have n3_ := Aside0.mk (blk_below (g := gb178) (o := .cells #[.int .i64 x179000_1, .int .i64 x179001_1] 42 (0, 0)) (by (with_reducible repeat (first | refine blk_drewN ?_ _ | refine blk_drew ?_ | refine blk_alloc ?_ _)); exact BK178.out) hb); have n4_ := Aside0.mk (below_step (by repeat (first | (with_reducible first | exact HB.out | apply below_alloc | apply pw_below_drewN | apply below_drew1 | refine below_set ?_ GE177.out | refine below_set ?_ GE178.out) | exact HB.out)) hb); have n5_ := Aside0.mk (hbox); have n6_ := Aside0.mk ((by rw [hg]; exact (below_size (by repeat (first | (with_reducible first | exact HB.out | apply below_alloc | apply pw_below_drewN | apply below_drew1 | refine below_set ?_ GE177.out | refine below_set ?_ GE178.out) | exact HB.out))) : w.heap.size ≤ gb188)); have n7_ := Aside0.mk ((by rw [hg]; exact (below_size (by repeat (first | (with_reducible first | exact HB.out | apply below_alloc | apply pw_below_drewN | apply below_drew1 | refine below_set ?_ GE177.out | refine below_set ?_ GE178.out) | exact HB.out))) : w.heap.size ≤ gb188)); have n8_ := Aside0.mk ((by rw [hg]; exact Nat.ne_of_lt (blk_lt (g := gb177) (o := .cells #[.int .i64 a1, .int .i64 t175, .int .i64 a5] 40 (0, 0)) (by (with_reducible repeat (first | refine blk_drewN ?_ _ | refine blk_drew ?_ | refine blk_alloc ?_ _)); exact BK177.out)) : gb177 ≠ gb188)); have n9_ := Aside0.mk ((by rw [hg]; exact Nat.ne_of_gt (blk_lt (g := gb177) (o := .cells #[.int .i64 a1, .int .i64 t175, .int .i64 a5] 40 (0, 0)) (by (with_reducible repeat (first | refine blk_drewN ?_ _ | refine blk_drew ?_ | refine blk_alloc ?_ _)); exact BK177.out)) : gb188 ≠ gb177)); have n10_ := Aside0.mk ((by rw [hg]; exact Nat.ne_of_lt (blk_lt (g := gb178) (o := .cells #[.int .i64 x179000_1, .int .i64 x179001_1] 42 (0, 0)) (by (with_reducible repeat (first | refine blk_drewN ?_ _ | refine blk_drew ?_ | refine blk_alloc ?_ _)); exact BK178.out)) : gb178 ≠ gb188)); have n11_ := Aside0.mk ((by rw [hg]; exact Nat.ne_of_gt (blk_lt (g := gb178) (o := .cells #[.int .i64 x179000_1, .int .i64 x179001_1] 42 (0, 0)) (by (with_reducible repeat (first | refine blk_drewN ?_ _ | refine blk_drew ?_ | refine blk_alloc ?_ _)); exact BK178.out)) : gb188 ≠ gb178)); clear HO_17; clear HO_38; clear BK177; clear BK178; clear HB; have HO_17 := n0_; have HO_38 := n1_; have BK177 := n2_; have BK178 := n3_; have HB := n4_; have BK188 := n5_; have GW188 := n6_; have GE188 := n7_; have NB177_188 := n8_; have NB188_177 := n9_; have NB178_188 := n10_; have NB188_178 := n11_; clear n0_ n1_ n2_ n3_ n4_ n5_ n6_ n7_ n8_ n9_ n10_ n11_; clear hb hbox hg; have hnb36 := NB188_177.out; have hnc36 := NB177_188.out; have hnb37 := NB188_178.out; have hnc37 := NB178_188.out; have hcz38_0 : w35.cell? ⟨gb188, 0, none⟩ = some (.int .i64 0) := (blk_cell BK188.out 0).trans rfl; have hcz38_1 : w35.cell? ⟨gb188, 1, none⟩ = some (.int .i64 0) := (blk_cell BK188.out 1).trans rfl; have hcz38_2 : w35.cell? ⟨gb188, 2, none⟩ = some (.int .i64 0) := (blk_cell BK188.out 2).trans rfl; have hcz38_3 : w35.cell? ⟨gb188, 3, none⟩ = some (.int .i64 0) := (blk_cell BK188.out 3).trans rfl; have hcz38_4 : w35.cell? ⟨gb188, 4, none⟩ = some (.int .i64 0) := (blk_cell BK188.out 4).trans rfl; have hfz38_0 := blk_frozen BK188.out 0; have hfz38_1 := blk_frozen BK188.out 1; have hfz38_2 := blk_frozen BK188.out 2; have hfz38_3 := blk_frozen BK188.out 3; have hfz38_4 := blk_frozen BK188.out 4; have hnb39 := NB178_177.out; have hnc39 := NB177_178.out; have hcz40_0 : w35.cell? ⟨gb178, 0, none⟩ = some (.int .i64 x179000_1) := (blk_cell BK178.out 0).trans rfl; have hcz40_1 : w35.cell? ⟨gb178, 1, none⟩ = some (.int .i64 x179001_1) := (blk_cell BK178.out 1).trans rfl; have hfz40_0 := blk_frozen BK178.out 0; have hfz40_1 := blk_frozen BK178.out 1; have hcz41_0 : w35.cell? ⟨gb177, 0, none⟩ = some (.int .i64 a1) := (blk_cell BK177.out 0).trans rfl; have hcz41_1 : w35.cell? ⟨gb177, 1, none⟩ = some (.int .i64 t175) := (blk_cell BK177.out 1).trans rfl; have hcz41_2 : w35.cell? ⟨gb177, 2, none⟩ = some (.int .i64 a5) := (blk_cell BK177.out 2).trans rfl; have hfz41_0 := blk_frozen BK177.out 0; have hfz41_1 := blk_frozen BK177.out 1; have hfz41_2 := blk_frozen BK177.out 2) | ((with_reducible refine gate_callee (f := 19) rfl ?_); refine goesL_ (some 46) rfl rfl Try.func19 (by kernel_rfl) rfl #[.agg #[.int .i64 x179000_1, .int .i64 x179001_1], .agg #[.int .i64 a1, .int .i64 t175, .int .i64 a5]] rfl (by (try simp only [List.map_toArray, List.map_cons, List.map_nil]); first | done | rfl | (simp only [List.length_drop, List.length_take]; rfl)) ?_; (with_reducible refine (victim_room_has.calls x179000_1 x179001_1 a1 t175 a5 true _ A31.out).mono ?_); rintro e w42 ⟨rfl, hb⟩; refine ⟨_, rfl, ?_⟩; have n0_ := Aside0.mk (Kd.R_below (by (with_reducible repeat (first | apply Kd.R_alloc | apply Kd.R_drewN | apply Kd.R_drew)); exact (Kd.R_mono (Kd.R_far (p := ⟨gb188, 4, none⟩) (Kd.R_far (p := ⟨gb188, 3, none⟩) (Kd.R_far (p := ⟨gb188, 2, none⟩) (Kd.R_far (p := ⟨gb188, 1, none⟩) (Kd.R_far (p := ⟨gb188, 0, none⟩) (Kd.R_types HO_17.out BK188.out (by decide)) (fun _ hk => hk.2) (.int .i64 ((rd_T27 t185 x40_1).f0))) (fun _ hk => hk.2) (.int .i64 ((rd_T27 t185 x40_1).f1))) (fun _ hk => hk.2) (.int .i64 ((rd_T27 t185 x40_1).f2))) (fun _ hk => hk.2) (.int .i64 ((rd_T27 t185 x40_1).f3))) (fun _ hk => hk.2) (.int .i64 ((rd_T27 t185 x40_1).f4))) (fun _ h_ => h_.1))) hb); have n1_ := Aside0.mk (Kd.R_below (by (with_reducible repeat (first | apply Kd.R_alloc | apply Kd.R_drewN | apply Kd.R_drew)); exact (Kd.R_mono (Kd.R_far (p := ⟨gb188, 4, none⟩) (Kd.R_far (p := ⟨gb188, 3, none⟩) (Kd.R_far (p := ⟨gb188, 2, none⟩) (Kd.R_far (p := ⟨gb188, 1, none⟩) (Kd.R_far (p := ⟨gb188, 0, none⟩) (Kd.R_mono HO_38.out (fun k_ hk => (⟨hk, hk.2⟩ : _ ∧ k_ ≠ gb188))) (fun _ hk => hk.2) (.int .i64 ((rd_T27 t185 x40_1).f0))) (fun _ hk => hk.2) (.int .i64 ((rd_T27 t185 x40_1).f1))) (fun _ hk => hk.2) (.int .i64 ((rd_T27 t185 x40_1).f2))) (fun _ hk => hk.2) (.int .i64 ((rd_T27 t185 x40_1).f3))) (fun _ hk => hk.2) (.int .i64 ((rd_T27 t185 x40_1).f4))) (fun _ h_ => h_.1))) hb); have n2_ := Aside0.mk (blk_below (g := gb177) (o := .cells #[.int .i64 a1, .int .i64 t175, .int .i64 a5] 40 (0, 0)) (by (with_reducible repeat (first | refine blk_drewN ?_ _ | refine blk_drew ?_ | refine blk_alloc ?_ _)); refine blk_far ?_ NB177_188.out _; (with_reducible repeat (first | refine blk_drewN ?_ _ | refine blk_drew ?_ | refine blk_alloc ?_ _)); refine blk_far ?_ NB177_188.out _; (with_reducible repeat (first | refine blk_drewN ?_ _ | refine blk_drew ?_ | refine blk_alloc ?_ _)); refine blk_far ?_ NB177_188.out _; (with_reducible repeat (first | refine blk_drewN ?_ _ | refine blk_drew ?_ | refine blk_alloc ?_ _)); refine blk_far ?_ NB177_188.out _; (with_reducible repeat (first | refine blk_drewN ?_ _ | refine blk_drew ?_ | refine blk_alloc ?_ _)); refine blk_far ?_ NB177_188.out _; (with_reducible repeat (first | refine blk_drewN ?_ _ | refine blk_drew ?_ | refine blk_alloc ?_ _)); exact BK177.out) hb); have n3_ := Aside0.mk (blk_below (g := gb178) (o := .cells #[.int .i64 x179000_1, .int .i64 x179001_1] 42 (0, 0)) (by (with_reducible repeat (first | refine blk_drewN ?_ _ | refine blk_drew ?_ | refine blk_alloc ?_ _)); refine blk_far ?_ NB178_188.out _; (with_reducible repeat (first | refine blk_drewN ?_ _ | refine blk_drew ?_ | refine blk_alloc ?_ _)); refine blk_far ?_ NB178_188.out _; (with_reducible repeat (first | refine blk_drewN ?_ _ | refine blk_drew ?_ | refine blk_alloc ?_ _)); refine blk_far ?_ NB178_188.out _; (with_reducible repeat (first | refine blk_drewN ?_ _ | refine blk_drew ?_ | refine blk_alloc ?_ _)); refine blk_far ?_ NB178_188.out _; (with_reducible repeat (first | refine blk_drewN ?_ _ | refine blk_drew ?_ | refine blk_alloc ?_ _)); refine blk_far ?_ NB178_188.out _; (with_reducible repeat (first | refine blk_drewN ?_ _ | refine blk_drew ?_ | refine blk_alloc ?_ _)); exact BK178.out) hb); have n4_ := Aside0.mk (blk_below (g := gb188) (o := .cells #[.int .i64 ((rd_T27 t185 x40_1).f0), .int .i64 ((rd_T27 t185 x40_1).f1), .int .i64 ((rd_T27 t185 x40_1).f2), .int .i64 ((rd_T27 t185 x40_1).f3), .int .i64 ((rd_T27 t185 x40_1).f4)] 27 (0, 0)) (by (with_reducible repeat (first | refine blk_drewN ?_ _ | refine blk_drew ?_ | refine blk_alloc ?_ _)); refine blk_put (cs := #[.int .i64 ((rd_T27 t185 x40_1).f0), .int .i64 ((rd_T27 t185 x40_1).f1), .int .i64 ((rd_T27 t185 x40_1).f2), .int .i64 ((rd_T27 t185 x40_1).f3), .int .i64 0]) ?_ 4 _ rfl; (with_reducible repeat (first | refine blk_drewN ?_ _ | refine blk_drew ?_ | refine blk_alloc ?_ _)); refine blk_put (cs := #[.int .i64 ((rd_T27 t185 x40_1).f0), .int .i64 ((rd_T27 t185 x40_1).f1), .int .i64 ((rd_T27 t185 x40_1).f2), .int .i64 0, .int .i64 0]) ?_ 3 _ rfl; (with_reducible repeat (first | refine blk_drewN ?_ _ | refine blk_drew ?_ | refine blk_alloc ?_ _)); refine blk_put (cs := #[.int .i64 ((rd_T27 t185 x40_1).f0), .int .i64 ((rd_T27 t185 x40_1).f1), .int .i64 0, .int .i64 0, .int .i64 0]) ?_ 2 _ rfl; (with_reducible repeat (first | refine blk_drewN ?_ _ | refine blk_drew ?_ | refine blk_alloc ?_ _)); refine blk_put (cs := #[.int .i64 ((rd_T27 t185 x40_1).f0), .int .i64 0, .int .i64 0, .int .i64 0, .int .i64 0]) ?_ 1 _ rfl; (with_reducible repeat (first | refine blk_drewN ?_ _ | refine blk_drew ?_ | refine blk_alloc ?_ _)); refine blk_put (cs := #[.int .i64 0, .int .i64 0, .int .i64 0, .int .i64 0, .int .i64 0]) ?_ 0 _ rfl; (with_reducible repeat (first | refine blk_drewN ?_ _ | refine blk_drew ?_ | refine blk_alloc ?_ _)); exact BK188.out) hb); have n5_ := Aside0.mk (below_step (by repeat (first | (with_reducible first | exact HB.out | apply below_alloc | apply pw_below_drewN | apply below_drew1 | refine below_set ?_ GE177.out | refine below_set ?_ GE178.out | refine below_set ?_ GE188.out) | exact HB.out)) hb); clear HO_17; clear HO_38; clear BK177; clear BK178; clear BK188; clear HB; have HO_17 := n0_; have HO_38 := n1_; have BK177 := n2_; have BK178 := n3_; have BK188 := n4_; have HB := n5_; clear n0_ n1_ n2_ n3_ n4_ n5_; (try clear hb); (try clear hb2); (try clear hk); (try clear hi); have hcz43_0 : w42.cell? ⟨gb178, 0, none⟩ = some (.int .i64 x179000_1) := (blk_cell BK178.out 0).trans rfl; have hcz43_1 : w42.cell? ⟨gb178, 1, none⟩ = some (.int .i64 x179001_1) := (blk_cell BK178.out 1).trans rfl; have hfz43_0 := blk_frozen BK178.out 0; have hfz43_1 := blk_frozen BK178.out 1; have hcz44_0 : w42.cell? ⟨gb177, 0, none⟩ = some (.int .i64 a1) := (blk_cell BK177.out 0).trans rfl; have hcz44_1 : w42.cell? ⟨gb177, 1, none⟩ = some (.int .i64 t175) := (blk_cell BK177.out 1).trans rfl; have hcz44_2 : w42.cell? ⟨gb177, 2, none⟩ = some (.int .i64 a5) := (blk_cell BK177.out 2).trans rfl; have hfz44_0 := blk_frozen BK177.out 0; have hfz44_1 := blk_frozen BK177.out 1; have hfz44_2 := blk_frozen BK177.out 2) | ((with_reducible refine gate_callee (f := 19) rfl ?_); refine goesL_ (some 66) rfl rfl Try.func19 (by kernel_rfl) rfl #[.agg #[.int .i64 x179000_1, .int .i64 x179001_1], .agg #[.int .i64 a1, .int .i64 t175, .int .i64 a5]] rfl (by (try simp only [List.map_toArray, List.map_cons, List.map_nil]); first | done | rfl | (simp only [List.length_drop, List.length_take]; rfl)) ?_; (with_reducible refine (victim_room_has.calls x179000_1 x179001_1 a1 t175 a5 true _ A33.out).mono ?_); rintro e w45 ⟨rfl, hb⟩; refine ⟨_, rfl, ?_⟩; have n0_ := Aside0.mk (Kd.R_below (by (with_reducible repeat (first | apply Kd.R_alloc | apply Kd.R_drewN | apply Kd.R_drew)); exact HO_17.out) hb); have n1_ := Aside0.mk (Kd.R_below (by (with_reducible repeat (first | apply Kd.R_alloc | apply Kd.R_drewN | apply Kd.R_drew)); exact HO_38.out) hb); have n2_ := Aside0.mk (blk_below (g := gb177) (o := .cells #[.int .i64 a1, .int .i64 t175, .int .i64 a5] 40 (0, 0)) (by (with_reducible repeat (first | refine blk_drewN ?_ _ | refine blk_drew ?_ | refine blk_alloc ?_ _)); exact BK177.out) hb); have n3_ := Aside0.mk (blk_below (g := gb178) (o := .cells #[.int .i64 x179000_1, .int .i64 x179001_1] 42 (0, 0)) (by (with_reducible repeat (first | refine blk_drewN ?_ _ | refine blk_drew ?_ | refine blk_alloc ?_ _)); exact BK178.out) hb); have n4_ := Aside0.mk (blk_below (g := gb188) (o := .cells #[.int .i64 ((rd_T27 t185 x40_1).f0), .int .i64 ((rd_T27 t185 x40_1).f1), .int .i64 ((rd_T27 t185 x40_1).f2), .int .i64 ((rd_T27 t185 x40_1).f3), .int .i64 ((rd_T27 t185 x40_1).f4)] 27 (0, 0)) (by (with_reducible repeat (first | refine blk_drewN ?_ _ | refine blk_drew ?_ | refine blk_alloc ?_ _)); exact BK188.out) hb); have n5_ := Aside0.mk (below_step (by repeat (first | (with_reducible first | exact HB.out | apply below_alloc | apply pw_below_drewN | apply below_drew1 | refine below_set ?_ GE177.out | refine below_set ?_ GE178.out | refine below_set ?_ GE188.out) | exact HB.out)) hb); clear HO_17; clear HO_38; clear BK177; clear BK178; clear BK188; clear HB; have HO_17 := n0_; have HO_38 := n1_; have BK177 := n2_; have BK178 := n3_; have BK188 := n4_; have HB := n5_; clear n0_ n1_ n2_ n3_ n4_ n5_; (try clear hb); (try clear hb2); (try clear hk); (try clear hi)))
                go_ret2
                exact ⟨_, by first | rfl | (simp [errW_none, errW_some] <;> rfl) | (simp only [← hji9, ← hji10]; first | rfl | (simp [errW_none, errW_some] <;> rfl)) | (simp [*, errW_none, errW_some] <;> rfl), by (with_reducible repeat (first | apply Kd.R_alloc | apply Kd.R_drewN | apply Kd.R_drew)); exact HO_17.out, by repeat (first | (with_reducible first | exact HB.out | apply below_alloc | apply pw_below_drewN | apply below_drew1 | refine below_set ?_ GE177.out | refine below_set ?_ GE178.out | refine below_set ?_ GE188.out) | exact HB.out)⟩
              · replace c34 := Bool.eq_false_iff.mpr c34
                subst c34
                have H1 : (some (([] : List Int), false)) = some (r1, r2) := by rw [if_neg (show ¬ (false = true) by decide)] at H; exact H
                clear H
                have H := H1
                clear H1
                simp only [Option.some.injEq, Prod.mk.injEq] at H
                obtain ⟨rfl, rfl⟩ := H
                have p187 : 0 ≤ (x40_1 : Int) := of_decide_eq_true (by first | (with_reducible assumption) | assumption)
                have q187 : x40_1 < (t185.length : Int) := of_decide_eq_true (by first | (with_reducible assumption) | assumption)
                obtain ⟨ad187, e187, hx187_0, hx187_1, hx187_2, hx187_3, hx187_4⟩ := at_T27 (Kd.R_reads' HO_38.out).2.2 x40_1 p187 q187
                cases e187
                replace p187 := eq_true p187
                replace q187 := eq_true q187
                go_wp2_with (first | ((with_reducible refine gate_dst (N := 19) rfl ?_); refine box_event ?hg (N := 19) ?hd (cs := #[.int .i64 0, .int .i64 0, .int .i64 0, .int .i64 0, .int .i64 0]) (t := 27) ?hr ?_; (case hd => rfl); (case hg => rfl); (case hr => first | (go_simp; done) | (go_simp; rfl)); intro gb188 hg w46 hbox hb; have n0_ := Aside0.mk (Kd.R_below (by (with_reducible repeat (first | apply Kd.R_alloc | apply Kd.R_drewN | apply Kd.R_drew)); exact HO_17.out) hb); have n1_ := Aside0.mk (Kd.R_below (Kd.R_elderB (by (with_reducible repeat (first | apply Kd.R_alloc | apply Kd.R_drewN | apply Kd.R_drew)); exact HO_38.out) gb188 (Nat.le_of_eq hg.symm)) hb); have n2_ := Aside0.mk (blk_below (g := gb177) (o := .cells #[.int .i64 a1, .int .i64 t175, .int .i64 a5] 40 (0, 0)) (by (with_reducible repeat (first | refine blk_drewN ?_ _ | refine blk_drew ?_ | refine blk_alloc ?_ _)); exact BK177.out) hb); have n3_ := Aside0.mk (blk_below (g := gb178) (o := .cells #[.int .i64 x179000_1, .int .i64 x179001_1] 42 (0, 0)) (by (with_reducible repeat (first | refine blk_drewN ?_ _ | refine blk_drew ?_ | refine blk_alloc ?_ _)); exact BK178.out) hb); have n4_ := Aside0.mk (below_step (by repeat (first | (with_reducible first | exact HB.out | apply below_alloc | apply pw_below_drewN | apply below_drew1 | refine below_set ?_ GE177.out | refine below_set ?_ GE178.out) | exact HB.out)) hb); have n5_ := Aside0.mk (hbox); have n6_ := Aside0.mk ((by rw [hg]; exact (below_size (by repeat (first | (with_reducible first | exact HB.out | apply below_alloc | apply pw_below_drewN | apply below_drew1 | refine below_set ?_ GE177.out | refine below_set ?_ GE178.out) | exact HB.out))) : w.heap.size ≤ gb188)); have n7_ := Aside0.mk ((by rw [hg]; exact (below_size (by repeat (first | (with_reducible first | exact HB.out | apply below_alloc | apply pw_below_drewN | apply below_drew1 | refine below_set ?_ GE177.out | refine below_set ?_ GE178.out) | exact HB.out))) : w.heap.size ≤ gb188)); have n8_ := Aside0.mk ((by rw [hg]; exact Nat.ne_of_lt (blk_lt (g := gb177) (o := .cells #[.int .i64 a1, .int .i64 t175, .int .i64 a5] 40 (0, 0)) (by (with_reducible repeat (first | refine blk_drewN ?_ _ | refine blk_drew ?_ | refine blk_alloc ?_ _)); exact BK177.out)) : gb177 ≠ gb188)); have n9_ := Aside0.mk ((by rw [hg]; exact Nat.ne_of_gt (blk_lt (g := gb177) (o := .cells #[.int .i64 a1, .int .i64 t175, .int .i64 a5] 40 (0, 0)) (by (with_reducible repeat (first | refine blk_drewN ?_ _ | refine blk_drew ?_ | refine blk_alloc ?_ _)); exact BK177.out)) : gb188 ≠ gb177)); have n10_ := Aside0.mk ((by rw [hg]; exact Nat.ne_of_lt (blk_lt (g := gb178) (o := .cells #[.int .i64 x179000_1, .int .i64 x179001_1] 42 (0, 0)) (by (with_reducible repeat (first | refine blk_drewN ?_ _ | refine blk_drew ?_ | refine blk_alloc ?_ _)); exact BK178.out)) : gb178 ≠ gb188)); have n11_ := Aside0.mk ((by rw [hg]; exact Nat.ne_of_gt (blk_lt (g := gb178) (o := .cells #[.int .i64 x179000_1, .int .i64 x179001_1] 42 (0, 0)) (by (with_reducible repeat (first | refine blk_drewN ?_ _ | refine blk_drew ?_ | refine blk_alloc ?_ _)); exact BK178.out)) : gb188 ≠ gb178)); clear HO_17; clear HO_38; clear BK177; clear BK178; clear HB; have HO_17 := n0_; have HO_38 := n1_; have BK177 := n2_; have BK178 := n3_; have HB := n4_; have BK188 := n5_; have GW188 := n6_; have GE188 := n7_; have NB177_188 := n8_; have NB188_177 := n9_; have NB178_188 := n10_; have NB188_178 := n11_; clear n0_ n1_ n2_ n3_ n4_ n5_ n6_ n7_ n8_ n9_ n10_ n11_; clear hb hbox hg; have hnb47 := NB188_177.out; have hnc47 := NB177_188.out; have hnb48 := NB188_178.out; have hnc48 := NB178_188.out; have hcz49_0 : w46.cell? ⟨gb188, 0, none⟩ = some (.int .i64 0) := (blk_cell BK188.out 0).trans rfl; have hcz49_1 : w46.cell? ⟨gb188, 1, none⟩ = some (.int .i64 0) := (blk_cell BK188.out 1).trans rfl; have hcz49_2 : w46.cell? ⟨gb188, 2, none⟩ = some (.int .i64 0) := (blk_cell BK188.out 2).trans rfl; have hcz49_3 : w46.cell? ⟨gb188, 3, none⟩ = some (.int .i64 0) := (blk_cell BK188.out 3).trans rfl; have hcz49_4 : w46.cell? ⟨gb188, 4, none⟩ = some (.int .i64 0) := (blk_cell BK188.out 4).trans rfl; have hfz49_0 := blk_frozen BK188.out 0; have hfz49_1 := blk_frozen BK188.out 1; have hfz49_2 := blk_frozen BK188.out 2; have hfz49_3 := blk_frozen BK188.out 3; have hfz49_4 := blk_frozen BK188.out 4; have hnb50 := NB178_177.out; have hnc50 := NB177_178.out; have hcz51_0 : w46.cell? ⟨gb178, 0, none⟩ = some (.int .i64 x179000_1) := (blk_cell BK178.out 0).trans rfl; have hcz51_1 : w46.cell? ⟨gb178, 1, none⟩ = some (.int .i64 x179001_1) := (blk_cell BK178.out 1).trans rfl; have hfz51_0 := blk_frozen BK178.out 0; have hfz51_1 := blk_frozen BK178.out 1; have hcz52_0 : w46.cell? ⟨gb177, 0, none⟩ = some (.int .i64 a1) := (blk_cell BK177.out 0).trans rfl; have hcz52_1 : w46.cell? ⟨gb177, 1, none⟩ = some (.int .i64 t175) := (blk_cell BK177.out 1).trans rfl; have hcz52_2 : w46.cell? ⟨gb177, 2, none⟩ = some (.int .i64 a5) := (blk_cell BK177.out 2).trans rfl; have hfz52_0 := blk_frozen BK177.out 0; have hfz52_1 := blk_frozen BK177.out 1; have hfz52_2 := blk_frozen BK177.out 2) | ((with_reducible refine gate_callee (f := 19) rfl ?_); refine goesL_ (some 46) rfl rfl Try.func19 (by kernel_rfl) rfl #[.agg #[.int .i64 x179000_1, .int .i64 x179001_1], .agg #[.int .i64 a1, .int .i64 t175, .int .i64 a5]] rfl (by (try simp only [List.map_toArray, List.map_cons, List.map_nil]); first | done | rfl | (simp only [List.length_drop, List.length_take]; rfl)) ?_; (with_reducible refine (victim_room_has.calls x179000_1 x179001_1 a1 t175 a5 true _ A31.out).mono ?_); rintro e w53 ⟨rfl, hb⟩; refine ⟨_, rfl, ?_⟩; have n0_ := Aside0.mk (Kd.R_below (by (with_reducible repeat (first | apply Kd.R_alloc | apply Kd.R_drewN | apply Kd.R_drew)); exact (Kd.R_mono (Kd.R_far (p := ⟨gb188, 4, none⟩) (Kd.R_far (p := ⟨gb188, 3, none⟩) (Kd.R_far (p := ⟨gb188, 2, none⟩) (Kd.R_far (p := ⟨gb188, 1, none⟩) (Kd.R_far (p := ⟨gb188, 0, none⟩) (Kd.R_types HO_17.out BK188.out (by decide)) (fun _ hk => hk.2) (.int .i64 ((rd_T27 t185 x40_1).f0))) (fun _ hk => hk.2) (.int .i64 ((rd_T27 t185 x40_1).f1))) (fun _ hk => hk.2) (.int .i64 ((rd_T27 t185 x40_1).f2))) (fun _ hk => hk.2) (.int .i64 ((rd_T27 t185 x40_1).f3))) (fun _ hk => hk.2) (.int .i64 ((rd_T27 t185 x40_1).f4))) (fun _ h_ => h_.1))) hb); have n1_ := Aside0.mk (Kd.R_below (by (with_reducible repeat (first | apply Kd.R_alloc | apply Kd.R_drewN | apply Kd.R_drew)); exact (Kd.R_mono (Kd.R_far (p := ⟨gb188, 4, none⟩) (Kd.R_far (p := ⟨gb188, 3, none⟩) (Kd.R_far (p := ⟨gb188, 2, none⟩) (Kd.R_far (p := ⟨gb188, 1, none⟩) (Kd.R_far (p := ⟨gb188, 0, none⟩) (Kd.R_mono HO_38.out (fun k_ hk => (⟨hk, hk.2⟩ : _ ∧ k_ ≠ gb188))) (fun _ hk => hk.2) (.int .i64 ((rd_T27 t185 x40_1).f0))) (fun _ hk => hk.2) (.int .i64 ((rd_T27 t185 x40_1).f1))) (fun _ hk => hk.2) (.int .i64 ((rd_T27 t185 x40_1).f2))) (fun _ hk => hk.2) (.int .i64 ((rd_T27 t185 x40_1).f3))) (fun _ hk => hk.2) (.int .i64 ((rd_T27 t185 x40_1).f4))) (fun _ h_ => h_.1))) hb); have n2_ := Aside0.mk (blk_below (g := gb177) (o := .cells #[.int .i64 a1, .int .i64 t175, .int .i64 a5] 40 (0, 0)) (by (with_reducible repeat (first | refine blk_drewN ?_ _ | refine blk_drew ?_ | refine blk_alloc ?_ _)); refine blk_far ?_ NB177_188.out _; (with_reducible repeat (first | refine blk_drewN ?_ _ | refine blk_drew ?_ | refine blk_alloc ?_ _)); refine blk_far ?_ NB177_188.out _; (with_reducible repeat (first | refine blk_drewN ?_ _ | refine blk_drew ?_ | refine blk_alloc ?_ _)); refine blk_far ?_ NB177_188.out _; (with_reducible repeat (first | refine blk_drewN ?_ _ | refine blk_drew ?_ | refine blk_alloc ?_ _)); refine blk_far ?_ NB177_188.out _; (with_reducible repeat (first | refine blk_drewN ?_ _ | refine blk_drew ?_ | refine blk_alloc ?_ _)); refine blk_far ?_ NB177_188.out _; (with_reducible repeat (first | refine blk_drewN ?_ _ | refine blk_drew ?_ | refine blk_alloc ?_ _)); exact BK177.out) hb); have n3_ := Aside0.mk (blk_below (g := gb178) (o := .cells #[.int .i64 x179000_1, .int .i64 x179001_1] 42 (0, 0)) (by (with_reducible repeat (first | refine blk_drewN ?_ _ | refine blk_drew ?_ | refine blk_alloc ?_ _)); refine blk_far ?_ NB178_188.out _; (with_reducible repeat (first | refine blk_drewN ?_ _ | refine blk_drew ?_ | refine blk_alloc ?_ _)); refine blk_far ?_ NB178_188.out _; (with_reducible repeat (first | refine blk_drewN ?_ _ | refine blk_drew ?_ | refine blk_alloc ?_ _)); refine blk_far ?_ NB178_188.out _; (with_reducible repeat (first | refine blk_drewN ?_ _ | refine blk_drew ?_ | refine blk_alloc ?_ _)); refine blk_far ?_ NB178_188.out _; (with_reducible repeat (first | refine blk_drewN ?_ _ | refine blk_drew ?_ | refine blk_alloc ?_ _)); refine blk_far ?_ NB178_188.out _; (with_reducible repeat (first | refine blk_drewN ?_ _ | refine blk_drew ?_ | refine blk_alloc ?_ _)); exact BK178.out) hb); have n4_ := Aside0.mk (blk_below (g := gb188) (o := .cells #[.int .i64 ((rd_T27 t185 x40_1).f0), .int .i64 ((rd_T27 t185 x40_1).f1), .int .i64 ((rd_T27 t185 x40_1).f2), .int .i64 ((rd_T27 t185 x40_1).f3), .int .i64 ((rd_T27 t185 x40_1).f4)] 27 (0, 0)) (by (with_reducible repeat (first | refine blk_drewN ?_ _ | refine blk_drew ?_ | refine blk_alloc ?_ _)); refine blk_put (cs := #[.int .i64 ((rd_T27 t185 x40_1).f0), .int .i64 ((rd_T27 t185 x40_1).f1), .int .i64 ((rd_T27 t185 x40_1).f2), .int .i64 ((rd_T27 t185 x40_1).f3), .int .i64 0]) ?_ 4 _ rfl; (with_reducible repeat (first | refine blk_drewN ?_ _ | refine blk_drew ?_ | refine blk_alloc ?_ _)); refine blk_put (cs := #[.int .i64 ((rd_T27 t185 x40_1).f0), .int .i64 ((rd_T27 t185 x40_1).f1), .int .i64 ((rd_T27 t185 x40_1).f2), .int .i64 0, .int .i64 0]) ?_ 3 _ rfl; (with_reducible repeat (first | refine blk_drewN ?_ _ | refine blk_drew ?_ | refine blk_alloc ?_ _)); refine blk_put (cs := #[.int .i64 ((rd_T27 t185 x40_1).f0), .int .i64 ((rd_T27 t185 x40_1).f1), .int .i64 0, .int .i64 0, .int .i64 0]) ?_ 2 _ rfl; (with_reducible repeat (first | refine blk_drewN ?_ _ | refine blk_drew ?_ | refine blk_alloc ?_ _)); refine blk_put (cs := #[.int .i64 ((rd_T27 t185 x40_1).f0), .int .i64 0, .int .i64 0, .int .i64 0, .int .i64 0]) ?_ 1 _ rfl; (with_reducible repeat (first | refine blk_drewN ?_ _ | refine blk_drew ?_ | refine blk_alloc ?_ _)); refine blk_put (cs := #[.int .i64 0, .int .i64 0, .int .i64 0, .int .i64 0, .int .i64 0]) ?_ 0 _ rfl; (with_reducible repeat (first | refine blk_drewN ?_ _ | refine blk_drew ?_ | refine blk_alloc ?_ _)); exact BK188.out) hb); have n5_ := Aside0.mk (below_step (by repeat (first | (with_reducible first | exact HB.out | apply below_alloc | apply pw_below_drewN | apply below_drew1 | refine below_set ?_ GE177.out | refine below_set ?_ GE178.out | refine below_set ?_ GE188.out) | exact HB.out)) hb); clear HO_17; clear HO_38; clear BK177; clear BK178; clear BK188; clear HB; have HO_17 := n0_; have HO_38 := n1_; have BK177 := n2_; have BK178 := n3_; have BK188 := n4_; have HB := n5_; clear n0_ n1_ n2_ n3_ n4_ n5_; (try clear hb); (try clear hb2); (try clear hk); (try clear hi); have hcz54_0 : w53.cell? ⟨gb178, 0, none⟩ = some (.int .i64 x179000_1) := (blk_cell BK178.out 0).trans rfl; have hcz54_1 : w53.cell? ⟨gb178, 1, none⟩ = some (.int .i64 x179001_1) := (blk_cell BK178.out 1).trans rfl; have hfz54_0 := blk_frozen BK178.out 0; have hfz54_1 := blk_frozen BK178.out 1; have hcz55_0 : w53.cell? ⟨gb177, 0, none⟩ = some (.int .i64 a1) := (blk_cell BK177.out 0).trans rfl; have hcz55_1 : w53.cell? ⟨gb177, 1, none⟩ = some (.int .i64 t175) := (blk_cell BK177.out 1).trans rfl; have hcz55_2 : w53.cell? ⟨gb177, 2, none⟩ = some (.int .i64 a5) := (blk_cell BK177.out 2).trans rfl; have hfz55_0 := blk_frozen BK177.out 0; have hfz55_1 := blk_frozen BK177.out 1; have hfz55_2 := blk_frozen BK177.out 2) | ((with_reducible refine gate_callee (f := 19) rfl ?_); refine goesL_ (some 66) rfl rfl Try.func19 (by kernel_rfl) rfl #[.agg #[.int .i64 x179000_1, .int .i64 x179001_1], .agg #[.int .i64 a1, .int .i64 t175, .int .i64 a5]] rfl (by (try simp only [List.map_toArray, List.map_cons, List.map_nil]); first | done | rfl | (simp only [List.length_drop, List.length_take]; rfl)) ?_; (with_reducible refine (victim_room_has.calls x179000_1 x179001_1 a1 t175 a5 false _ A33.out).mono ?_); rintro e w56 ⟨rfl, hb⟩; refine ⟨_, rfl, ?_⟩; have n0_ := Aside0.mk (Kd.R_below (by (with_reducible repeat (first | apply Kd.R_alloc | apply Kd.R_drewN | apply Kd.R_drew)); exact HO_17.out) hb); have n1_ := Aside0.mk (Kd.R_below (by (with_reducible repeat (first | apply Kd.R_alloc | apply Kd.R_drewN | apply Kd.R_drew)); exact HO_38.out) hb); have n2_ := Aside0.mk (blk_below (g := gb177) (o := .cells #[.int .i64 a1, .int .i64 t175, .int .i64 a5] 40 (0, 0)) (by (with_reducible repeat (first | refine blk_drewN ?_ _ | refine blk_drew ?_ | refine blk_alloc ?_ _)); exact BK177.out) hb); have n3_ := Aside0.mk (blk_below (g := gb178) (o := .cells #[.int .i64 x179000_1, .int .i64 x179001_1] 42 (0, 0)) (by (with_reducible repeat (first | refine blk_drewN ?_ _ | refine blk_drew ?_ | refine blk_alloc ?_ _)); exact BK178.out) hb); have n4_ := Aside0.mk (blk_below (g := gb188) (o := .cells #[.int .i64 ((rd_T27 t185 x40_1).f0), .int .i64 ((rd_T27 t185 x40_1).f1), .int .i64 ((rd_T27 t185 x40_1).f2), .int .i64 ((rd_T27 t185 x40_1).f3), .int .i64 ((rd_T27 t185 x40_1).f4)] 27 (0, 0)) (by (with_reducible repeat (first | refine blk_drewN ?_ _ | refine blk_drew ?_ | refine blk_alloc ?_ _)); exact BK188.out) hb); have n5_ := Aside0.mk (below_step (by repeat (first | (with_reducible first | exact HB.out | apply below_alloc | apply pw_below_drewN | apply below_drew1 | refine below_set ?_ GE177.out | refine below_set ?_ GE178.out | refine below_set ?_ GE188.out) | exact HB.out)) hb); clear HO_17; clear HO_38; clear BK177; clear BK178; clear BK188; clear HB; have HO_17 := n0_; have HO_38 := n1_; have BK177 := n2_; have BK178 := n3_; have BK188 := n4_; have HB := n5_; clear n0_ n1_ n2_ n3_ n4_ n5_; (try clear hb); (try clear hb2); (try clear hk); (try clear hi)))
                go_ret2
                exact ⟨_, by first | rfl | (simp [errW_none, errW_some] <;> rfl) | (simp only [← hji9, ← hji10]; first | rfl | (simp [errW_none, errW_some] <;> rfl)) | (simp [*, errW_none, errW_some] <;> rfl), by first | exact Kd.R_nil _ _ _ _ _ | exact Kd.N_nil _ _ _ _ _ | exact Kd.V_nil _ _ _ _ _ | exact Kd.Q_nil _ _ _ _ _ | exact Kd.S_nil _ _ _ _ _, by repeat (first | (with_reducible first | exact HB.out | apply below_alloc | apply pw_below_drewN | apply below_drew1 | refine below_set ?_ GE177.out | refine below_set ?_ GE178.out | refine below_set ?_ GE188.out) | exact HB.out)⟩
            · replace c32 := Bool.eq_false_iff.mpr c32
              subst c32
              have H1 : ((victim_memory.f ((rd_T27 t185 x40_1).f2)).bind fun t191 => (if x17_1.length < 17592186044416 then (victim_Choose.l0 k1 (x17_1 ++ [(rd_T27 t185 x40_1).f0]) t185 (t182.length : Int) (wrap64 (x40_1 + 1)) a1 t175 a5 (wrap64 (x179000_1 + t191)) (wrap64 (x179001_1 + 1))) else (none))) = some (r1, r2) := by rw [if_neg (show ¬ (false = true) by decide)] at H; exact H
              clear H
              have H := H1
              clear H1
              replace H := Option.bind_eq_some_iff.mp H
              obtain ⟨t191, A570, H⟩ := H
              replace H : (if x17_1.length < 17592186044416 then (victim_Choose.l0 k1 (x17_1 ++ [(rd_T27 t185 x40_1).f0]) t185 (t182.length : Int) (wrap64 (x40_1 + 1)) a1 t175 a5 (wrap64 (x179000_1 + t191)) (wrap64 (x179001_1 + 1))) else (none)) = some (r1, r2) := H
              have A57 := Aside0.mk A570
              clear A570
              by_cases c58 : x17_1.length < 17592186044416
              · rw [if_pos c58] at H
                have LMc58 := Aside0.mk c58
                clear c58
                obtain ⟨y192, hy192⟩ : ∃ y_ : List Int, y_ = (x17_1 ++ [(rd_T27 t185 x40_1).f0]) := ⟨_, rfl⟩
                replace H : (victim_Choose.l0 k1 y192 t185 (t182.length : Int) (wrap64 (x40_1 + 1)) a1 t175 a5 (wrap64 (x179000_1 + t191)) (wrap64 (x179001_1 + 1))) = some (r1, r2) := by first | (rw [hy192]; with_reducible exact H) | (have H2_ := (Option.bind_some _ _).symm.trans H; rw [hy192]; with_reducible exact H2_) | (have H2_ := (Option.bind_some _ _).symm.trans H; with_reducible exact H2_) | with_reducible exact H | (rw [hy192]; exact H) | exact H
                have Ny192 := Aside0.mk hy192
                clear hy192
                have H' := Aside0.mk H
                clear H
                have p187 : 0 ≤ (x40_1 : Int) := of_decide_eq_true (by first | (with_reducible assumption) | assumption)
                have q187 : x40_1 < (t185.length : Int) := of_decide_eq_true (by first | (with_reducible assumption) | assumption)
                obtain ⟨ad187, e187, hx187_0, hx187_1, hx187_2, hx187_3, hx187_4⟩ := at_T27 (Kd.R_reads' HO_38.out).2.2 x40_1 p187 q187
                cases e187
                replace p187 := eq_true p187
                replace q187 := eq_true q187
                try go_wp2_with (first | ((with_reducible refine gate_dst (N := 19) rfl ?_); refine box_event ?hg (N := 19) ?hd (cs := #[.int .i64 0, .int .i64 0, .int .i64 0, .int .i64 0, .int .i64 0]) (t := 27) ?hr ?_; (case hd => rfl); (case hg => rfl); (case hr => first | (go_simp; done) | (go_simp; rfl)); intro gb188 hg w59 hbox hb; have n0_ := Aside0.mk (Kd.R_below (by (with_reducible repeat (first | apply Kd.R_alloc | apply Kd.R_drewN | apply Kd.R_drew)); exact HO_17.out) hb); have n1_ := Aside0.mk (Kd.R_below (Kd.R_elderB (by (with_reducible repeat (first | apply Kd.R_alloc | apply Kd.R_drewN | apply Kd.R_drew)); exact HO_38.out) gb188 (Nat.le_of_eq hg.symm)) hb); have n2_ := Aside0.mk (blk_below (g := gb177) (o := .cells #[.int .i64 a1, .int .i64 t175, .int .i64 a5] 40 (0, 0)) (by (with_reducible repeat (first | refine blk_drewN ?_ _ | refine blk_drew ?_ | refine blk_alloc ?_ _)); exact BK177.out) hb); have n3_ := Aside0.mk (blk_below (g := gb178) (o := .cells #[.int .i64 x179000_1, .int .i64 x179001_1] 42 (0, 0)) (by (with_reducible repeat (first | refine blk_drewN ?_ _ | refine blk_drew ?_ | refine blk_alloc ?_ _)); exact BK178.out) hb); have n4_ := Aside0.mk (below_step (by repeat (first | (with_reducible first | exact HB.out | apply below_alloc | apply pw_below_drewN | apply below_drew1 | refine below_set ?_ GE177.out | refine below_set ?_ GE178.out) | exact HB.out)) hb); have n5_ := Aside0.mk (hbox); have n6_ := Aside0.mk ((by rw [hg]; exact (below_size (by repeat (first | (with_reducible first | exact HB.out | apply below_alloc | apply pw_below_drewN | apply below_drew1 | refine below_set ?_ GE177.out | refine below_set ?_ GE178.out) | exact HB.out))) : w.heap.size ≤ gb188)); have n7_ := Aside0.mk ((by rw [hg]; exact (below_size (by repeat (first | (with_reducible first | exact HB.out | apply below_alloc | apply pw_below_drewN | apply below_drew1 | refine below_set ?_ GE177.out | refine below_set ?_ GE178.out) | exact HB.out))) : w.heap.size ≤ gb188)); have n8_ := Aside0.mk ((by rw [hg]; exact Nat.ne_of_lt (blk_lt (g := gb177) (o := .cells #[.int .i64 a1, .int .i64 t175, .int .i64 a5] 40 (0, 0)) (by (with_reducible repeat (first | refine blk_drewN ?_ _ | refine blk_drew ?_ | refine blk_alloc ?_ _)); exact BK177.out)) : gb177 ≠ gb188)); have n9_ := Aside0.mk ((by rw [hg]; exact Nat.ne_of_gt (blk_lt (g := gb177) (o := .cells #[.int .i64 a1, .int .i64 t175, .int .i64 a5] 40 (0, 0)) (by (with_reducible repeat (first | refine blk_drewN ?_ _ | refine blk_drew ?_ | refine blk_alloc ?_ _)); exact BK177.out)) : gb188 ≠ gb177)); have n10_ := Aside0.mk ((by rw [hg]; exact Nat.ne_of_lt (blk_lt (g := gb178) (o := .cells #[.int .i64 x179000_1, .int .i64 x179001_1] 42 (0, 0)) (by (with_reducible repeat (first | refine blk_drewN ?_ _ | refine blk_drew ?_ | refine blk_alloc ?_ _)); exact BK178.out)) : gb178 ≠ gb188)); have n11_ := Aside0.mk ((by rw [hg]; exact Nat.ne_of_gt (blk_lt (g := gb178) (o := .cells #[.int .i64 x179000_1, .int .i64 x179001_1] 42 (0, 0)) (by (with_reducible repeat (first | refine blk_drewN ?_ _ | refine blk_drew ?_ | refine blk_alloc ?_ _)); exact BK178.out)) : gb188 ≠ gb178)); clear HO_17; clear HO_38; clear BK177; clear BK178; clear HB; have HO_17 := n0_; have HO_38 := n1_; have BK177 := n2_; have BK178 := n3_; have HB := n4_; have BK188 := n5_; have GW188 := n6_; have GE188 := n7_; have NB177_188 := n8_; have NB188_177 := n9_; have NB178_188 := n10_; have NB188_178 := n11_; clear n0_ n1_ n2_ n3_ n4_ n5_ n6_ n7_ n8_ n9_ n10_ n11_; clear hb hbox hg; have hnb60 := NB188_177.out; have hnc60 := NB177_188.out; have hnb61 := NB188_178.out; have hnc61 := NB178_188.out; have hcz62_0 : w59.cell? ⟨gb188, 0, none⟩ = some (.int .i64 0) := (blk_cell BK188.out 0).trans rfl; have hcz62_1 : w59.cell? ⟨gb188, 1, none⟩ = some (.int .i64 0) := (blk_cell BK188.out 1).trans rfl; have hcz62_2 : w59.cell? ⟨gb188, 2, none⟩ = some (.int .i64 0) := (blk_cell BK188.out 2).trans rfl; have hcz62_3 : w59.cell? ⟨gb188, 3, none⟩ = some (.int .i64 0) := (blk_cell BK188.out 3).trans rfl; have hcz62_4 : w59.cell? ⟨gb188, 4, none⟩ = some (.int .i64 0) := (blk_cell BK188.out 4).trans rfl; have hfz62_0 := blk_frozen BK188.out 0; have hfz62_1 := blk_frozen BK188.out 1; have hfz62_2 := blk_frozen BK188.out 2; have hfz62_3 := blk_frozen BK188.out 3; have hfz62_4 := blk_frozen BK188.out 4; have hnb63 := NB178_177.out; have hnc63 := NB177_178.out; have hcz64_0 : w59.cell? ⟨gb178, 0, none⟩ = some (.int .i64 x179000_1) := (blk_cell BK178.out 0).trans rfl; have hcz64_1 : w59.cell? ⟨gb178, 1, none⟩ = some (.int .i64 x179001_1) := (blk_cell BK178.out 1).trans rfl; have hfz64_0 := blk_frozen BK178.out 0; have hfz64_1 := blk_frozen BK178.out 1; have hcz65_0 : w59.cell? ⟨gb177, 0, none⟩ = some (.int .i64 a1) := (blk_cell BK177.out 0).trans rfl; have hcz65_1 : w59.cell? ⟨gb177, 1, none⟩ = some (.int .i64 t175) := (blk_cell BK177.out 1).trans rfl; have hcz65_2 : w59.cell? ⟨gb177, 2, none⟩ = some (.int .i64 a5) := (blk_cell BK177.out 2).trans rfl; have hfz65_0 := blk_frozen BK177.out 0; have hfz65_1 := blk_frozen BK177.out 1; have hfz65_2 := blk_frozen BK177.out 2) | ((with_reducible refine gate_callee (f := 19) rfl ?_); refine goesL_ (some 46) rfl rfl Try.func19 (by kernel_rfl) rfl #[.agg #[.int .i64 x179000_1, .int .i64 x179001_1], .agg #[.int .i64 a1, .int .i64 t175, .int .i64 a5]] rfl (by (try simp only [List.map_toArray, List.map_cons, List.map_nil]); first | done | rfl | (simp only [List.length_drop, List.length_take]; rfl)) ?_; (with_reducible refine (victim_room_has.calls x179000_1 x179001_1 a1 t175 a5 false _ A31.out).mono ?_); rintro e w66 ⟨rfl, hb⟩; refine ⟨_, rfl, ?_⟩; have n0_ := Aside0.mk (Kd.R_below (by (with_reducible repeat (first | apply Kd.R_alloc | apply Kd.R_drewN | apply Kd.R_drew)); exact (Kd.R_mono (Kd.R_far (p := ⟨gb188, 4, none⟩) (Kd.R_far (p := ⟨gb188, 3, none⟩) (Kd.R_far (p := ⟨gb188, 2, none⟩) (Kd.R_far (p := ⟨gb188, 1, none⟩) (Kd.R_far (p := ⟨gb188, 0, none⟩) (Kd.R_types HO_17.out BK188.out (by decide)) (fun _ hk => hk.2) (.int .i64 ((rd_T27 t185 x40_1).f0))) (fun _ hk => hk.2) (.int .i64 ((rd_T27 t185 x40_1).f1))) (fun _ hk => hk.2) (.int .i64 ((rd_T27 t185 x40_1).f2))) (fun _ hk => hk.2) (.int .i64 ((rd_T27 t185 x40_1).f3))) (fun _ hk => hk.2) (.int .i64 ((rd_T27 t185 x40_1).f4))) (fun _ h_ => h_.1))) hb); have n1_ := Aside0.mk (Kd.R_below (by (with_reducible repeat (first | apply Kd.R_alloc | apply Kd.R_drewN | apply Kd.R_drew)); exact (Kd.R_mono (Kd.R_far (p := ⟨gb188, 4, none⟩) (Kd.R_far (p := ⟨gb188, 3, none⟩) (Kd.R_far (p := ⟨gb188, 2, none⟩) (Kd.R_far (p := ⟨gb188, 1, none⟩) (Kd.R_far (p := ⟨gb188, 0, none⟩) (Kd.R_mono HO_38.out (fun k_ hk => (⟨hk, hk.2⟩ : _ ∧ k_ ≠ gb188))) (fun _ hk => hk.2) (.int .i64 ((rd_T27 t185 x40_1).f0))) (fun _ hk => hk.2) (.int .i64 ((rd_T27 t185 x40_1).f1))) (fun _ hk => hk.2) (.int .i64 ((rd_T27 t185 x40_1).f2))) (fun _ hk => hk.2) (.int .i64 ((rd_T27 t185 x40_1).f3))) (fun _ hk => hk.2) (.int .i64 ((rd_T27 t185 x40_1).f4))) (fun _ h_ => h_.1))) hb); have n2_ := Aside0.mk (blk_below (g := gb177) (o := .cells #[.int .i64 a1, .int .i64 t175, .int .i64 a5] 40 (0, 0)) (by (with_reducible repeat (first | refine blk_drewN ?_ _ | refine blk_drew ?_ | refine blk_alloc ?_ _)); refine blk_far ?_ NB177_188.out _; (with_reducible repeat (first | refine blk_drewN ?_ _ | refine blk_drew ?_ | refine blk_alloc ?_ _)); refine blk_far ?_ NB177_188.out _; (with_reducible repeat (first | refine blk_drewN ?_ _ | refine blk_drew ?_ | refine blk_alloc ?_ _)); refine blk_far ?_ NB177_188.out _; (with_reducible repeat (first | refine blk_drewN ?_ _ | refine blk_drew ?_ | refine blk_alloc ?_ _)); refine blk_far ?_ NB177_188.out _; (with_reducible repeat (first | refine blk_drewN ?_ _ | refine blk_drew ?_ | refine blk_alloc ?_ _)); refine blk_far ?_ NB177_188.out _; (with_reducible repeat (first | refine blk_drewN ?_ _ | refine blk_drew ?_ | refine blk_alloc ?_ _)); exact BK177.out) hb); have n3_ := Aside0.mk (blk_below (g := gb178) (o := .cells #[.int .i64 x179000_1, .int .i64 x179001_1] 42 (0, 0)) (by (with_reducible repeat (first | refine blk_drewN ?_ _ | refine blk_drew ?_ | refine blk_alloc ?_ _)); refine blk_far ?_ NB178_188.out _; (with_reducible repeat (first | refine blk_drewN ?_ _ | refine blk_drew ?_ | refine blk_alloc ?_ _)); refine blk_far ?_ NB178_188.out _; (with_reducible repeat (first | refine blk_drewN ?_ _ | refine blk_drew ?_ | refine blk_alloc ?_ _)); refine blk_far ?_ NB178_188.out _; (with_reducible repeat (first | refine blk_drewN ?_ _ | refine blk_drew ?_ | refine blk_alloc ?_ _)); refine blk_far ?_ NB178_188.out _; (with_reducible repeat (first | refine blk_drewN ?_ _ | refine blk_drew ?_ | refine blk_alloc ?_ _)); refine blk_far ?_ NB178_188.out _; (with_reducible repeat (first | refine blk_drewN ?_ _ | refine blk_drew ?_ | refine blk_alloc ?_ _)); exact BK178.out) hb); have n4_ := Aside0.mk (blk_below (g := gb188) (o := .cells #[.int .i64 ((rd_T27 t185 x40_1).f0), .int .i64 ((rd_T27 t185 x40_1).f1), .int .i64 ((rd_T27 t185 x40_1).f2), .int .i64 ((rd_T27 t185 x40_1).f3), .int .i64 ((rd_T27 t185 x40_1).f4)] 27 (0, 0)) (by (with_reducible repeat (first | refine blk_drewN ?_ _ | refine blk_drew ?_ | refine blk_alloc ?_ _)); refine blk_put (cs := #[.int .i64 ((rd_T27 t185 x40_1).f0), .int .i64 ((rd_T27 t185 x40_1).f1), .int .i64 ((rd_T27 t185 x40_1).f2), .int .i64 ((rd_T27 t185 x40_1).f3), .int .i64 0]) ?_ 4 _ rfl; (with_reducible repeat (first | refine blk_drewN ?_ _ | refine blk_drew ?_ | refine blk_alloc ?_ _)); refine blk_put (cs := #[.int .i64 ((rd_T27 t185 x40_1).f0), .int .i64 ((rd_T27 t185 x40_1).f1), .int .i64 ((rd_T27 t185 x40_1).f2), .int .i64 0, .int .i64 0]) ?_ 3 _ rfl; (with_reducible repeat (first | refine blk_drewN ?_ _ | refine blk_drew ?_ | refine blk_alloc ?_ _)); refine blk_put (cs := #[.int .i64 ((rd_T27 t185 x40_1).f0), .int .i64 ((rd_T27 t185 x40_1).f1), .int .i64 0, .int .i64 0, .int .i64 0]) ?_ 2 _ rfl; (with_reducible repeat (first | refine blk_drewN ?_ _ | refine blk_drew ?_ | refine blk_alloc ?_ _)); refine blk_put (cs := #[.int .i64 ((rd_T27 t185 x40_1).f0), .int .i64 0, .int .i64 0, .int .i64 0, .int .i64 0]) ?_ 1 _ rfl; (with_reducible repeat (first | refine blk_drewN ?_ _ | refine blk_drew ?_ | refine blk_alloc ?_ _)); refine blk_put (cs := #[.int .i64 0, .int .i64 0, .int .i64 0, .int .i64 0, .int .i64 0]) ?_ 0 _ rfl; (with_reducible repeat (first | refine blk_drewN ?_ _ | refine blk_drew ?_ | refine blk_alloc ?_ _)); exact BK188.out) hb); have n5_ := Aside0.mk (below_step (by repeat (first | (with_reducible first | exact HB.out | apply below_alloc | apply pw_below_drewN | apply below_drew1 | refine below_set ?_ GE177.out | refine below_set ?_ GE178.out | refine below_set ?_ GE188.out) | exact HB.out)) hb); clear HO_17; clear HO_38; clear BK177; clear BK178; clear BK188; clear HB; have HO_17 := n0_; have HO_38 := n1_; have BK177 := n2_; have BK178 := n3_; have BK188 := n4_; have HB := n5_; clear n0_ n1_ n2_ n3_ n4_ n5_; (try clear hb); (try clear hb2); (try clear hk); (try clear hi)))
                have n0_ := Aside0.mk (Kd.R_drew HO_17.out)
                have n1_ := Aside0.mk (Kd.R_drew HO_38.out)
                have n2_ := Aside0.mk (blk_drew BK177.out)
                have n3_ := Aside0.mk (blk_drew BK178.out)
                have n4_ := Aside0.mk (blk_drew BK188.out)
                have n5_ := Aside0.mk (below_drew1 HB.out)
                clear HO_17
                clear HO_38
                clear BK177
                clear BK178
                clear BK188
                clear HB
                have HO_17 := n0_
                have HO_38 := n1_
                have BK177 := n2_
                have BK178 := n3_
                have BK188 := n4_
                have HB := n5_
                clear n0_ n1_ n2_ n3_ n4_ n5_
                refine start_ (n := 8) (S := fun w' => w'.cell? ⟨gb178, 0, none⟩ = some (.int .i64 x179000_1) ∧ w'.cell? ⟨gb178, 1, none⟩ = some (.int .i64 x179001_1) ∧ w'.cell? ⟨gb188, 0, none⟩ = some (.int .i64 ((rd_T27 t185 x40_1).f0)) ∧ w'.cell? ⟨gb188, 1, none⟩ = some (.int .i64 ((rd_T27 t185 x40_1).f1)) ∧ w'.cell? ⟨gb188, 2, none⟩ = some (.int .i64 ((rd_T27 t185 x40_1).f2)) ∧ w'.cell? ⟨gb188, 3, none⟩ = some (.int .i64 ((rd_T27 t185 x40_1).f3)) ∧ w'.cell? ⟨gb188, 4, none⟩ = some (.int .i64 ((rd_T27 t185 x40_1).f4))) (ds := [7]) #[false, false, false, false, false, false, false, false] (by kernel_rfl) rfl rfl ⟨(blk_cell BK178.out 0).trans rfl, (blk_cell BK178.out 1).trans rfl, (blk_cell BK188.out 0).trans rfl, (blk_cell BK188.out 1).trans rfl, (blk_cell BK188.out 2).trans rfl, (blk_cell BK188.out 3).trans rfl, (blk_cell BK188.out 4).trans rfl⟩ (fun hHeld => ?_); refine with_tabW victim_Choose.tab9 victim_Choose.bits9 (fun HT_ HW_ => ?_)
                generalize w66.drew = w67 at HO_17 HO_38 BK177 BK178 BK188 HB hHeld ⊢
                refine pure_ (i := 0) (N := some 47) (v := ?_) (a' := ?_) #[true, false, false, false, false, false, false, false] rfl rfl (any_of HT_.out (by kernel_rfl)) (fun _ _ _ h => h) (Or.inl ⟨by rfl, ?_⟩) ?_ ?_
                rotate_left
                · intro w'
                  go_simp
                  with_reducible rfl
                rotate_left
                · simp only [Act.put, List.setIfInBounds_toArray, List.set_cons_zero, List.set_cons_succ, i64_w, i32_w]
                  rfl
                refine pure_ (i := 2) (N := some 49) (v := ?_) (a' := ?_) #[true, false, true, false, false, false, false, false] rfl rfl (any_of HT_.out (by kernel_rfl)) (fun _ _ _ h => h) (Or.inl ⟨by rfl, ?_⟩) ?_ ?_
                rotate_left
                · intro w'
                  go_simp
                  with_reducible rfl
                rotate_left
                · simp only [Act.put, List.setIfInBounds_toArray, List.set_cons_zero, List.set_cons_succ, i64_w, i32_w]
                  rfl
                refine take_ (i := 1) (N := some 48) (v := ?_) (a' := ?_) #[true, true, true, false, false, false, false, false] rfl rfl (take_ofW HT_.out HW_.out (by kernel_rfl)) (fun _ _ _ h => h) (Or.inl ⟨by rfl, ?_⟩) hHeld ?_ ?_
                rotate_left
                · rintro w' ⟨s0, s1, s2, s3, s4, s5, s6⟩
                  go_simp
                  with_reducible rfl
                rotate_left
                · simp only [Act.put, List.setIfInBounds_toArray, List.set_cons_zero, List.set_cons_succ, i64_w, i32_w]
                  rfl
                refine take_ (i := 3) (N := some 50) (v := ?_) (a' := ?_) #[true, true, true, true, false, false, false, false] rfl rfl (take_ofW HT_.out HW_.out (by kernel_rfl)) (fun _ _ _ h => h) (Or.inl ⟨by rfl, ?_⟩) hHeld ?_ ?_
                rotate_left
                · rintro w' ⟨s0, s1, s2, s3, s4, s5, s6⟩
                  go_simp
                  with_reducible rfl
                rotate_left
                · simp only [Act.put, List.setIfInBounds_toArray, List.set_cons_zero, List.set_cons_succ, i64_w, i32_w]
                  rfl
                refine one_ (i := 4) (N := some 51) #[true, true, true, true, true, false, false, false] rfl rfl (one_of HT_.out (by kernel_rfl)) (by decide) (fun K hK => ?_)
                refine goes_ Try.func13 (by kernel_rfl) rfl #[.int .i64 ((rd_T27 t185 x40_1).f2)] (by rfl) rfl rfl (by (try simp only [List.map_toArray, List.map_cons, List.map_nil]); first | done | rfl | (simp only [List.length_drop, List.length_take]; rfl)) ?_
                with_reducible refine (victim_memory.calls ((rd_T27 t185 x40_1).f2) t191 _ A57.out).mono ?_
                rintro e w68 ⟨rfl, hb⟩
                refine ⟨_, rfl, ?_⟩
                have n0_ := Aside0.mk (Kd.R_below (by (with_reducible repeat (first | apply Kd.R_alloc | apply Kd.R_drewN | apply Kd.R_drew)); exact HO_17.out) hb)
                have n1_ := Aside0.mk (Kd.R_below (by (with_reducible repeat (first | apply Kd.R_alloc | apply Kd.R_drewN | apply Kd.R_drew)); exact HO_38.out) hb)
                have n2_ := Aside0.mk (blk_below (g := gb177) (o := .cells #[.int .i64 a1, .int .i64 t175, .int .i64 a5] 40 (0, 0)) (by (with_reducible repeat (first | refine blk_drewN ?_ _ | refine blk_drew ?_ | refine blk_alloc ?_ _)); exact BK177.out) hb)
                have n3_ := Aside0.mk (blk_below (g := gb178) (o := .cells #[.int .i64 x179000_1, .int .i64 x179001_1] 42 (0, 0)) (by (with_reducible repeat (first | refine blk_drewN ?_ _ | refine blk_drew ?_ | refine blk_alloc ?_ _)); exact BK178.out) hb)
                have n4_ := Aside0.mk (blk_below (g := gb188) (o := .cells #[.int .i64 ((rd_T27 t185 x40_1).f0), .int .i64 ((rd_T27 t185 x40_1).f1), .int .i64 ((rd_T27 t185 x40_1).f2), .int .i64 ((rd_T27 t185 x40_1).f3), .int .i64 ((rd_T27 t185 x40_1).f4)] 27 (0, 0)) (by (with_reducible repeat (first | refine blk_drewN ?_ _ | refine blk_drew ?_ | refine blk_alloc ?_ _)); exact BK188.out) hb)
                have n5_ := Aside0.mk (below_step (by repeat (first | (with_reducible first | exact HB.out | apply below_alloc | apply pw_below_drewN | apply below_drew1 | refine below_set ?_ GE177.out | refine below_set ?_ GE178.out | refine below_set ?_ GE188.out) | exact HB.out)) hb)
                clear HO_17
                clear HO_38
                clear BK177
                clear BK178
                clear BK188
                clear HB
                have HO_17 := n0_
                have HO_38 := n1_
                have BK177 := n2_
                have BK178 := n3_
                have BK188 := n4_
                have HB := n5_
                clear n0_ n1_ n2_ n3_ n4_ n5_
                (try clear hb)
                (try clear hb2)
                (try clear hk)
                (try clear hi)
                refine hK.out _ _ ⟨(blk_cell BK178.out 0).trans rfl, (blk_cell BK178.out 1).trans rfl, (blk_cell BK188.out 0).trans rfl, (blk_cell BK188.out 1).trans rfl, (blk_cell BK188.out 2).trans rfl, (blk_cell BK188.out 3).trans rfl, (blk_cell BK188.out 4).trans rfl⟩ (fun hHeld => ?_)
                clear hK K
                refine norm_ (a' := ?_) ?_ ?_
                rotate_left
                · show Act.put _ (some 51) _ = _
                  simp only [Act.put, List.setIfInBounds_toArray, List.set_cons_zero, List.set_cons_succ, i64_w, i32_w]
                  rfl
                refine pure_ (i := 5) (N := some 52) (v := ?_) (a' := ?_) #[true, true, true, true, true, true, false, false] rfl rfl (any_of HT_.out (by kernel_rfl)) (fun _ _ _ h => h) (Or.inl ⟨by rfl, ?_⟩) ?_ ?_
                rotate_left
                · intro w'
                  go_simp
                  with_reducible rfl
                rotate_left
                · simp only [Act.put, List.setIfInBounds_toArray, List.set_cons_zero, List.set_cons_succ, i64_w, i32_w]
                  rfl
                refine pure_ (i := 6) (N := some 53) (v := ?_) (a' := ?_) #[true, true, true, true, true, true, true, false] rfl rfl (any_of HT_.out (by kernel_rfl)) (fun _ _ _ h => h) (Or.inl ⟨by rfl, ?_⟩) ?_ ?_
                rotate_left
                · intro w'
                  go_simp
                  with_reducible rfl
                rotate_left
                · simp only [Act.put, List.setIfInBounds_toArray, List.set_cons_zero, List.set_cons_succ, i64_w, i32_w]
                  rfl
                refine last_ (i := 7) (N := none) #[true, true, true, true, true, true, true, true] rfl rfl (one_of HT_.out (by kernel_rfl)) (by decide) (fun K hK => ?_)
                have hs69 : w68.cell? ⟨gb178, 0, none⟩ = some (.int .i64 x179000_1) := (blk_cell BK178.out 0).trans rfl
                have hfs69 := blk_frozen BK178.out 0
                have hns69_0 := NB177_178.out
                have hns69_2 := NB188_178.out
                have hms69_0 := NB178_177.out
                have hms69_2 := NB178_188.out
                refine skip_ (w1 := ?_) (by rfl) rfl ?_ ?_
                rotate_left
                · go_simp
                  rfl
                refine hK.out _ _ ?_
                clear hK K
                refine done_ (done_of HT_.out (by kernel_rfl)) ?_
                have hcz70_0 : w68.cell? ⟨gb178, 0, none⟩ = some (.int .i64 x179000_1) := (blk_cell BK178.out 0).trans rfl
                have hcz70_1 : w68.cell? ⟨gb178, 1, none⟩ = some (.int .i64 x179001_1) := (blk_cell BK178.out 1).trans rfl
                have hfz70_0 := blk_frozen BK178.out 0
                have hfz70_1 := blk_frozen BK178.out 1
                have hcz71_0 : w68.cell? ⟨gb188, 0, none⟩ = some (.int .i64 ((rd_T27 t185 x40_1).f0)) := (blk_cell BK188.out 0).trans rfl
                have hcz71_1 : w68.cell? ⟨gb188, 1, none⟩ = some (.int .i64 ((rd_T27 t185 x40_1).f1)) := (blk_cell BK188.out 1).trans rfl
                have hcz71_2 : w68.cell? ⟨gb188, 2, none⟩ = some (.int .i64 ((rd_T27 t185 x40_1).f2)) := (blk_cell BK188.out 2).trans rfl
                have hcz71_3 : w68.cell? ⟨gb188, 3, none⟩ = some (.int .i64 ((rd_T27 t185 x40_1).f3)) := (blk_cell BK188.out 3).trans rfl
                have hcz71_4 : w68.cell? ⟨gb188, 4, none⟩ = some (.int .i64 ((rd_T27 t185 x40_1).f4)) := (blk_cell BK188.out 4).trans rfl
                have hfz71_0 := blk_frozen BK188.out 0
                have hfz71_1 := blk_frozen BK188.out 1
                have hfz71_2 := blk_frozen BK188.out 2
                have hfz71_3 := blk_frozen BK188.out 3
                have hfz71_4 := blk_frozen BK188.out 4
                try go_wp2_with (first | ((with_reducible refine gate_builtin (b := .append) (xs := #[.tmp 58, .tmp 61]) rfl ?_); at_builtin; refine Kd.R_append (Kd.int .i64) (w0 := w) w.heap.size rfl (.tmp 58) (.tmp 61) 29 3 (.int .i64 0) 8 rfl Try.underlying29 info3 rfl (by decide) (by omega) u17 x17_1 ((rd_T27 t185 x40_1).f0) [.int .i64 ((rd_T27 t185 x40_1).f0)] (fun _ => True) (fun _ => False) rfl (by first | (go_simp; done) | (go_simp; rfl)) ?aP (fun _ hk => hk.elim) ?aF ?aO ?aB ?aS ?aL ?_; (case aP => exact rfl); (case aB => exact (by repeat (first | (with_reducible first | exact HB.out | apply below_alloc | apply pw_below_drewN | apply below_drew1 | refine below_set ?_ GE177.out | refine below_set ?_ GE178.out | refine below_set ?_ GE188.out) | exact HB.out))); (case aF => exact (fun _ _ => trivial)); (case aO => exact (by (with_reducible repeat (first | apply Kd.R_alloc | apply Kd.R_drewN | apply Kd.R_drew)); exact Kd.R_mono (Kd.R_far (p := ⟨gb178, 1, none⟩) (Kd.R_far (p := ⟨gb178, 0, none⟩) (Kd.R_types HO_17.out BK178.out (by decide)) (fun _ hk => hk.2) (.int .i64 (wrap64 (x179000_1 + t191)))) (fun _ hk => hk.2) (.int .i64 (wrap64 (x179001_1 + 1)))) (fun _ hk => trivial))); (case aS => exact (below_size (by repeat (first | (with_reducible first | exact HB.out | apply below_alloc | apply pw_below_drewN | apply below_drew1 | refine below_set ?_ GE177.out | refine below_set ?_ GE178.out | refine below_set ?_ GE188.out) | exact HB.out)))); (case aL => have := LMc58.out; omega); intro v193 w72 ho hb hg hat; rw [← Ny192.out] at ho; have n0_ := Aside0.mk (Kd.R_over' (by (with_reducible repeat (first | apply Kd.R_alloc | apply Kd.R_drewN | apply Kd.R_drew)); exact (Kd.R_mono (Kd.R_far (p := ⟨gb178, 1, none⟩) (Kd.R_far (p := ⟨gb178, 0, none⟩) (Kd.R_types HO_38.out BK178.out (by decide)) (fun _ hk => hk.2) (.int .i64 (wrap64 (x179000_1 + t191)))) (fun _ hk => hk.2) (.int .i64 (wrap64 (x179001_1 + 1)))) (fun _ h_ => h_.1))) (Kd.R_typed (by (with_reducible repeat (first | apply Kd.R_alloc | apply Kd.R_drewN | apply Kd.R_drew)); exact (Kd.R_mono (Kd.R_far (p := ⟨gb178, 1, none⟩) (Kd.R_far (p := ⟨gb178, 0, none⟩) (Kd.R_types HO_17.out BK178.out (by decide)) (fun _ hk => hk.2) (.int .i64 (wrap64 (x179000_1 + t191)))) (fun _ hk => hk.2) (.int .i64 (wrap64 (x179001_1 + 1)))) (fun _ h_ => h_.1)))) (by decide) hg); have n1_ := Aside0.mk (blk_grown (g := gb177) (o := .cells #[.int .i64 a1, .int .i64 t175, .int .i64 a5] 40 (0, 0)) (by (with_reducible repeat (first | refine blk_drewN ?_ _ | refine blk_drew ?_ | refine blk_alloc ?_ _)); refine blk_far ?_ NB177_178.out _; (with_reducible repeat (first | refine blk_drewN ?_ _ | refine blk_drew ?_ | refine blk_alloc ?_ _)); refine blk_far ?_ NB177_178.out _; (with_reducible repeat (first | refine blk_drewN ?_ _ | refine blk_drew ?_ | refine blk_alloc ?_ _)); exact BK177.out) hg (Kd.R_ne HO_17.out BK177.out (by decide))); have n2_ := Aside0.mk (blk_grown (g := gb178) (o := .cells #[.int .i64 (wrap64 (x179000_1 + t191)), .int .i64 (wrap64 (x179001_1 + 1))] 42 (0, 0)) (by (with_reducible repeat (first | refine blk_drewN ?_ _ | refine blk_drew ?_ | refine blk_alloc ?_ _)); refine blk_put (cs := #[.int .i64 (wrap64 (x179000_1 + t191)), .int .i64 x179001_1]) ?_ 1 _ rfl; (with_reducible repeat (first | refine blk_drewN ?_ _ | refine blk_drew ?_ | refine blk_alloc ?_ _)); refine blk_put (cs := #[.int .i64 x179000_1, .int .i64 x179001_1]) ?_ 0 _ rfl; (with_reducible repeat (first | refine blk_drewN ?_ _ | refine blk_drew ?_ | refine blk_alloc ?_ _)); exact BK178.out) hg (Kd.R_ne HO_17.out BK178.out (by decide))); have n3_ := Aside0.mk (blk_grown (g := gb188) (o := .cells #[.int .i64 ((rd_T27 t185 x40_1).f0), .int .i64 ((rd_T27 t185 x40_1).f1), .int .i64 ((rd_T27 t185 x40_1).f2), .int .i64 ((rd_T27 t185 x40_1).f3), .int .i64 ((rd_T27 t185 x40_1).f4)] 27 (0, 0)) (by (with_reducible repeat (first | refine blk_drewN ?_ _ | refine blk_drew ?_ | refine blk_alloc ?_ _)); refine blk_far ?_ NB188_178.out _; (with_reducible repeat (first | refine blk_drewN ?_ _ | refine blk_drew ?_ | refine blk_alloc ?_ _)); refine blk_far ?_ NB188_178.out _; (with_reducible repeat (first | refine blk_drewN ?_ _ | refine blk_drew ?_ | refine blk_alloc ?_ _)); exact BK188.out) hg (Kd.R_ne HO_17.out BK188.out (by decide))); have n4_ := Aside0.mk (hb); have n5_ := Aside0.mk (ho); clear HO_38; clear BK177; clear BK178; clear BK188; clear HB; clear HO_17; have HO_38 := n0_; have BK177 := n1_; have BK178 := n2_; have BK188 := n3_; have HB := n4_; have HO194 := n5_; clear n0_ n1_ n2_ n3_ n4_ n5_; clear ho hb hg hat))
                (try simp only [← hl38_1])
                go_roundg k1
                case measure => have := HK1.out; omega
                case rel => exact ⟨(y192), (wrap64 (x40_1 + 1)), (wrap64 (x179000_1 + t191)), (wrap64 (x179001_1 + 1)), (by first | rfl | (simp; done) | (simp [*]; done)), H', ⟨by have := HK1.out; omega⟩, ⟨by (try simp only [hl38_1]); (with_reducible repeat (first | apply Kd.R_alloc | apply Kd.R_drewN | apply Kd.R_drew)); exact HO194.out⟩, ⟨by (try simp only [hl38_1]); (with_reducible repeat (first | apply Kd.R_alloc | apply Kd.R_drewN | apply Kd.R_drew)); exact Kd.R_mono HO_38.out (fun _ hk => trivial)⟩, ⟨by (try simp only [hl38_1]); (with_reducible repeat (first | refine blk_drewN ?_ _ | refine blk_drew ?_ | refine blk_alloc ?_ _)); exact BK177.out⟩, ⟨by (try simp only [hl38_1]); (with_reducible repeat (first | refine blk_drewN ?_ _ | refine blk_drew ?_ | refine blk_alloc ?_ _)); exact BK178.out⟩, ⟨by repeat (first | (with_reducible first | exact HB.out | apply below_alloc | apply pw_below_drewN | apply below_drew1 | refine below_set ?_ GE177.out | refine below_set ?_ GE178.out | refine below_set ?_ GE188.out) | exact HB.out)⟩⟩
              · rw [if_neg c58] at H
                exact absurd H (by simp)
          · rw [if_neg c30] at H
            exact absurd H (by simp)
        · rw [if_neg c29] at H
          exact absurd H (by simp)
      · rw [if_neg c28] at H
        have c28b0 : decide (x40_1 < (t182.length : Int)) = false := decide_eq_false c28
        have c28d0 : decide (x40_1 < (t185.length : Int)) = false := by first | (rw [← hl38_1]; exact c28b0) | (rw [hl38_1]; exact c28b0) | (simpa [hl38_1] using c28b0)
        clear c28
        replace H := Option.bind_eq_some_iff.mp H
        obtain ⟨t186, A730, H⟩ := H
        replace H : (if t186 = true then (some (x17_1, true)) else (some (([] : List Int), false))) = some (r1, r2) := H
        have A73 := Aside0.mk A730
        clear A730
        by_cases c74 : t186 = true
        · subst c74
          have H1 : (some (x17_1, true)) = some (r1, r2) := by rw [if_pos rfl] at H; exact H
          clear H
          have H := H1
          clear H1
          simp only [Option.some.injEq, Prod.mk.injEq] at H
          obtain ⟨rfl, rfl⟩ := H
          have hnb75 := NB178_177.out
          have hnc75 := NB177_178.out
          have hcz76_0 : wr.cell? ⟨gb178, 0, none⟩ = some (.int .i64 x179000_1) := (blk_cell BK178.out 0).trans rfl
          have hcz76_1 : wr.cell? ⟨gb178, 1, none⟩ = some (.int .i64 x179001_1) := (blk_cell BK178.out 1).trans rfl
          have hfz76_0 := blk_frozen BK178.out 0
          have hfz76_1 := blk_frozen BK178.out 1
          have hcz77_0 : wr.cell? ⟨gb177, 0, none⟩ = some (.int .i64 a1) := (blk_cell BK177.out 0).trans rfl
          have hcz77_1 : wr.cell? ⟨gb177, 1, none⟩ = some (.int .i64 t175) := (blk_cell BK177.out 1).trans rfl
          have hcz77_2 : wr.cell? ⟨gb177, 2, none⟩ = some (.int .i64 a5) := (blk_cell BK177.out 2).trans rfl
          have hfz77_0 := blk_frozen BK177.out 0
          have hfz77_1 := blk_frozen BK177.out 1
          have hfz77_2 := blk_frozen BK177.out 2
          go_wp2_with (first | ((with_reducible refine gate_callee (f := 19) rfl ?_); refine goesL_ (some 66) rfl rfl Try.func19 (by kernel_rfl) rfl #[.agg #[.int .i64 x179000_1, .int .i64 x179001_1], .agg #[.int .i64 a1, .int .i64 t175, .int .i64 a5]] rfl (by (try simp only [List.map_toArray, List.map_cons, List.map_nil]); first | done | rfl | (simp only [List.length_drop, List.length_take]; rfl)) ?_; (with_reducible refine (victim_room_has.calls x179000_1 x179001_1 a1 t175 a5 true _ A73.out).mono ?_); rintro e w78 ⟨rfl, hb⟩; refine ⟨_, rfl, ?_⟩; have n0_ := Aside0.mk (Kd.R_below (by (with_reducible repeat (first | apply Kd.R_alloc | apply Kd.R_drewN | apply Kd.R_drew)); exact HO_17.out) hb); have n1_ := Aside0.mk (Kd.R_below (by (with_reducible repeat (first | apply Kd.R_alloc | apply Kd.R_drewN | apply Kd.R_drew)); exact HO_38.out) hb); have n2_ := Aside0.mk (blk_below (g := gb177) (o := .cells #[.int .i64 a1, .int .i64 t175, .int .i64 a5] 40 (0, 0)) (by (with_reducible repeat (first | refine blk_drewN ?_ _ | refine blk_drew ?_ | refine blk_alloc ?_ _)); exact BK177.out) hb); have n3_ := Aside0.mk (blk_below (g := gb178) (o := .cells #[.int .i64 x179000_1, .int .i64 x179001_1] 42 (0, 0)) (by (with_reducible repeat (first | refine blk_drewN ?_ _ | refine blk_drew ?_ | refine blk_alloc ?_ _)); exact BK178.out) hb); have n4_ := Aside0.mk (below_step (by repeat (first | (with_reducible first | exact HB.out | apply below_alloc | apply pw_below_drewN | apply below_drew1 | refine below_set ?_ GE177.out | refine below_set ?_ GE178.out) | exact HB.out)) hb); clear HO_17; clear HO_38; clear BK177; clear BK178; clear HB; have HO_17 := n0_; have HO_38 := n1_; have BK177 := n2_; have BK178 := n3_; have HB := n4_; clear n0_ n1_ n2_ n3_ n4_; (try clear hb); (try clear hb2); (try clear hk); (try clear hi)))
          go_ret2
          exact ⟨_, by first | rfl | (simp [errW_none, errW_some] <;> rfl) | (simp only [← hji9, ← hji10]; first | rfl | (simp [errW_none, errW_some] <;> rfl)) | (simp [*, errW_none, errW_some] <;> rfl), by (with_reducible repeat (first | apply Kd.R_alloc | apply Kd.R_drewN | apply Kd.R_drew)); exact HO_17.out, by repeat (first | (with_reducible first | exact HB.out | apply below_alloc | apply pw_below_drewN | apply below_drew1 | refine below_set ?_ GE177.out | refine below_set ?_ GE178.out) | exact HB.out)⟩
        · replace c74 := Bool.eq_false_iff.mpr c74
          subst c74
          have H1 : (some (([] : List Int), false)) = some (r1, r2) := by rw [if_neg (show ¬ (false = true) by decide)] at H; exact H
          clear H
          have H := H1
          clear H1
          simp only [Option.some.injEq, Prod.mk.injEq] at H
          obtain ⟨rfl, rfl⟩ := H
          have hnb79 := NB178_177.out
          have hnc79 := NB177_178.out
          have hcz80_0 : wr.cell? ⟨gb178, 0, none⟩ = some (.int .i64 x179000_1) := (blk_cell BK178.out 0).trans rfl
          have hcz80_1 : wr.cell? ⟨gb178, 1, none⟩ = some (.int .i64 x179001_1) := (blk_cell BK178.out 1).trans rfl
          have hfz80_0 := blk_frozen BK178.out 0
          have hfz80_1 := blk_frozen BK178.out 1
          have hcz81_0 : wr.cell? ⟨gb177, 0, none⟩ = some (.int .i64 a1) := (blk_cell BK177.out 0).trans rfl
          have hcz81_1 : wr.cell? ⟨gb177, 1, none⟩ = some (.int .i64 t175) := (blk_cell BK177.out 1).trans rfl
          have hcz81_2 : wr.cell? ⟨gb177, 2, none⟩ = some (.int .i64 a5) := (blk_cell BK177.out 2).trans rfl
          have hfz81_0 := blk_frozen BK177.out 0
          have hfz81_1 := blk_frozen BK177.out 1
          have hfz81_2 := blk_frozen BK177.out 2
          go_wp2_with (first | ((with_reducible refine gate_callee (f := 19) rfl ?_); refine goesL_ (some 66) rfl rfl Try.func19 (by kernel_rfl) rfl #[.agg #[.int .i64 x179000_1, .int .i64 x179001_1], .agg #[.int .i64 a1, .int .i64 t175, .int .i64 a5]] rfl (by (try simp only [List.map_toArray, List.map_cons, List.map_nil]); first | done | rfl | (simp only [List.length_drop, List.length_take]; rfl)) ?_; (with_reducible refine (victim_room_has.calls x179000_1 x179001_1 a1 t175 a5 false _ A73.out).mono ?_); rintro e w82 ⟨rfl, hb⟩; refine ⟨_, rfl, ?_⟩; have n0_ := Aside0.mk (Kd.R_below (by (with_reducible repeat (first | apply Kd.R_alloc | apply Kd.R_drewN | apply Kd.R_drew)); exact HO_17.out) hb); have n1_ := Aside0.mk (Kd.R_below (by (with_reducible repeat (first | apply Kd.R_alloc | apply Kd.R_drewN | apply Kd.R_drew)); exact HO_38.out) hb); have n2_ := Aside0.mk (blk_below (g := gb177) (o := .cells #[.int .i64 a1, .int .i64 t175, .int .i64 a5] 40 (0, 0)) (by (with_reducible repeat (first | refine blk_drewN ?_ _ | refine blk_drew ?_ | refine blk_alloc ?_ _)); exact BK177.out) hb); have n3_ := Aside0.mk (blk_below (g := gb178) (o := .cells #[.int .i64 x179000_1, .int .i64 x179001_1] 42 (0, 0)) (by (with_reducible repeat (first | refine blk_drewN ?_ _ | refine blk_drew ?_ | refine blk_alloc ?_ _)); exact BK178.out) hb); have n4_ := Aside0.mk (below_step (by repeat (first | (with_reducible first | exact HB.out | apply below_alloc | apply pw_below_drewN | apply below_drew1 | refine below_set ?_ GE177.out | refine below_set ?_ GE178.out) | exact HB.out)) hb); clear HO_17; clear HO_38; clear BK177; clear BK178; clear HB; have HO_17 := n0_; have HO_38 := n1_; have BK177 := n2_; have BK178 := n3_; have HB := n4_; clear n0_ n1_ n2_ n3_ n4_; (try clear hb); (try clear hb2); (try clear hk); (try clear hi)))
          go_ret2
          exact ⟨_, by first | rfl | (simp [errW_none, errW_some] <;> rfl) | (simp only [← hji9, ← hji10]; first | rfl | (simp [errW_none, errW_some] <;> rfl)) | (simp [*, errW_none, errW_some] <;> rfl), by first | exact Kd.R_nil _ _ _ _ _ | exact Kd.N_nil _ _ _ _ _ | exact Kd.V_nil _ _ _ _ _ | exact Kd.Q_nil _ _ _ _ _ | exact Kd.S_nil _ _ _ _ _, by repeat (first | (with_reducible first | exact HB.out | apply below_alloc | apply pw_below_drewN | apply below_drew1 | refine below_set ?_ GE177.out | refine below_set ?_ GE178.out) | exact HB.out)⟩
end Go.Proofs.Ytnegchdooapoiaa.PVic
