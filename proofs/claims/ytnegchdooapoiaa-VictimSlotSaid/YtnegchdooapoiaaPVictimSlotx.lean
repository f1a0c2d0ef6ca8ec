-- Printed for this claim by a program of this project's own, over the kit's printer; some functions are told by hand.
import Derived.Test.YtnegchdooapoiaaPVicx0
import Derived.Test.YtnegchdooapoiaaPVicx1
import Derived.Test.YtnegchdooapoiaaVicC
import Derived.Test.YtnegchdooapoiaaPVicx8
namespace Go.Proofs.Ytnegchdooapoiaa.PVic
open Go.RowKit Go.Proofs.YtnegchdooapoiaaW.PrintWords Go.Proofs.YtnegchdooapoiaaW.PrintLast Go.Proofs.YtnegchdooapoiaaW.PrintMore
attribute [local go_sem] max2_int min2_int max_two min_two max_three min_three max_four min_four   -- for this text's walks alone
set_option linter.unusedVariables false
set_option linter.unusedSimpArgs false

/-! ### millwrightlaw12_VictimSlot: function 7 -/
mutual
def millwrightlaw12_VictimSlot.l0 : Nat → List (S27) → Int → Int → Int → Bool → Bool → Int → Int → Int → Int → Int → Int → Option (Bool)
  | 0, _, _, _, _, _, _, _, _, _, _, _, _ => none
  | k + 1, x0, x1, x2, x3, x9, x10, x12, x239000, x239001, x239002, x239003, x239004 => if x12 < (x0.length : Int) then (if 0 ≤ x12 then (if ((rd_T27 x0 x12).f1) ≥ x1 then (millwrightlaw12_VictimSlot.j1 k x0 x1 x2 x3 x9 x10 x12 true x239000 x239001 x239002 x239003 x239004 ((rd_T27 x0 x12).f0) ((rd_T27 x0 x12).f1) ((rd_T27 x0 x12).f2) ((rd_T27 x0 x12).f3) ((rd_T27 x0 x12).f4)) else (millwrightlaw12_VictimSlot.j1 k x0 x1 x2 x3 x9 x10 x12 (decide (((rd_T27 x0 x12).f3) ≥ x3)) x239000 x239001 x239002 x239003 x239004 ((rd_T27 x0 x12).f0) ((rd_T27 x0 x12).f1) ((rd_T27 x0 x12).f2) ((rd_T27 x0 x12).f3) ((rd_T27 x0 x12).f4))) else (none)) else ((victim_Choose.f k x0 x1 0 x2 1 x3).bind fun bt241 => ((victim_Choose.f k x0 x1 0 x2 0 x3).bind fun bt245 => (if bt241.2 = true then (if (bt241.1.length : Int) = 0 then (if (bt245.2 != x10) = true then (some false) else (if x9 = true then (if x10 = true then ((millwrightlaw12_same.f k bt245.1 (([x239000] : List Int))).bind fun t252 => (if t252 = true then (some true) else (some false))) else (some ((bt245.1.length : Int) == 0))) else (some false))) else (some false)) else (some false))))
def millwrightlaw12_VictimSlot.j1 : Nat → List (S27) → Int → Int → Int → Bool → Bool → Int → Bool → Int → Int → Int → Int → Int → Int → Int → Int → Int → Int → Option (Bool)
  | 0, _, _, _, _, _, _, _, _, _, _, _, _, _, _, _, _, _, _ => none
  | k + 1, x0, x1, x2, x3, x9, x10, x12, x41, x239000, x239001, x239002, x239003, x239004, x241000, x241001, x241002, x241003, x241004 => if x41 = true then (millwrightlaw12_VictimSlot.l0 k x0 x1 x2 x3 x9 x10 (wrap64 (x12 + 1)) x239000 x239001 x239002 x239003 x239004) else (if x10 = true then (if x241001 < x239001 then (millwrightlaw12_VictimSlot.l0 k x0 x1 x2 x3 x9 true (wrap64 (x12 + 1)) x241000 x241001 x241002 x241003 x241004) else (if x241001 = x239001 then (if x241004 > x239004 then (millwrightlaw12_VictimSlot.l0 k x0 x1 x2 x3 x9 true (wrap64 (x12 + 1)) x241000 x241001 x241002 x241003 x241004) else (if x241004 = x239004 then (if x241000 > x239000 then (millwrightlaw12_VictimSlot.l0 k x0 x1 x2 x3 x9 true (wrap64 (x12 + 1)) x241000 x241001 x241002 x241003 x241004) else (millwrightlaw12_VictimSlot.l0 k x0 x1 x2 x3 x9 true (wrap64 (x12 + 1)) x239000 x239001 x239002 x239003 x239004)) else (millwrightlaw12_VictimSlot.l0 k x0 x1 x2 x3 x9 true (wrap64 (x12 + 1)) x239000 x239001 x239002 x239003 x239004))) else (millwrightlaw12_VictimSlot.l0 k x0 x1 x2 x3 x9 true (wrap64 (x12 + 1)) x239000 x239001 x239002 x239003 x239004))) else (millwrightlaw12_VictimSlot.l0 k x0 x1 x2 x3 x9 true (wrap64 (x12 + 1)) x241000 x241001 x241002 x241003 x241004))
end
def millwrightlaw12_VictimSlot.f (k : Nat) (l0 : List (S27)) (a1 : Int) (a2 : Int) (a3 : Int) : Option (Bool) := (millwrightlaw12_shown.f k).bind fun t234 => ((millwrightlaw12_few.f l0).bind fun t235 => (millwrightlaw12_VictimSlot.l0 k t235 a1 a2 a3 t234 false 0 0 0 0 0 0))
theorem millwrightlaw12_VictimSlot.mono_l : ∀ k, (∀ y0 y1 y2 y3 y4 y5 y6 y7 y8 y9 y10 y11, LeO (millwrightlaw12_VictimSlot.l0 k y0 y1 y2 y3 y4 y5 y6 y7 y8 y9 y10 y11) (millwrightlaw12_VictimSlot.l0 (k + 1) y0 y1 y2 y3 y4 y5 y6 y7 y8 y9 y10 y11)) ∧ (∀ y0 y1 y2 y3 y4 y5 y6 y7 y8 y9 y10 y11 y12 y13 y14 y15 y16 y17, LeO (millwrightlaw12_VictimSlot.j1 k y0 y1 y2 y3 y4 y5 y6 y7 y8 y9 y10 y11 y12 y13 y14 y15 y16 y17) (millwrightlaw12_VictimSlot.j1 (k + 1) y0 y1 y2 y3 y4 y5 y6 y7 y8 y9 y10 y11 y12 y13 y14 y15 y16 y17))
  | 0 => ⟨fun _ _ _ _ _ _ _ _ _ _ _ _ r h => by simp [millwrightlaw12_VictimSlot.l0] at h, fun _ _ _ _ _ _ _ _ _ _ _ _ _ _ _ _ _ _ r h => by simp [millwrightlaw12_VictimSlot.j1] at h⟩
  | k + 1 => by
    obtain ⟨ih0, ih1⟩ := millwrightlaw12_VictimSlot.mono_l k
    refine ⟨?_, ?_⟩
    · intro y0 y1 y2 y3 y4 y5 y6 y7 y8 y9 y10 y11
      unfold millwrightlaw12_VictimSlot.l0
      repeat' first
      | (with_reducible exact ih0 _ _ _ _ _ _ _ _ _ _ _ _)
      | (with_reducible exact ih1 _ _ _ _ _ _ _ _ _ _ _ _ _ _ _ _ _ _)
      | (with_reducible exact millwrightlaw12_same.mono _ _ _)
      | (with_reducible exact millwrightlaw12_shown.mono _)
      | (with_reducible exact victim_Choose.mono _ _ _ _ _ _ _)
      | (with_reducible exact LeO.refl _)
      | (with_reducible exact LeO.none _)
      | (with_reducible refine LeO.ite ?_ ?_)
      | (with_reducible refine LeO.bind ?_ (fun _ => ?_))
      | exact ih0 _ _ _ _ _ _ _ _ _ _ _ _
      | exact ih1 _ _ _ _ _ _ _ _ _ _ _ _ _ _ _ _ _ _
      | exact millwrightlaw12_same.mono _ _ _
      | exact millwrightlaw12_shown.mono _
      | exact victim_Choose.mono _ _ _ _ _ _ _
      | exact LeO.none _
      | refine LeO.ite ?_ ?_
      | refine LeO.bind ?_ (fun _ => ?_)
    · intro y0 y1 y2 y3 y4 y5 y6 y7 y8 y9 y10 y11 y12 y13 y14 y15 y16 y17
      unfold millwrightlaw12_VictimSlot.j1
      repeat' first
      | (with_reducible exact ih0 _ _ _ _ _ _ _ _ _ _ _ _)
      | (with_reducible exact ih1 _ _ _ _ _ _ _ _ _ _ _ _ _ _ _ _ _ _)
      | (with_reducible exact millwrightlaw12_same.mono _ _ _)
      | (with_reducible exact millwrightlaw12_shown.mono _)
      | (with_reducible exact victim_Choose.mono _ _ _ _ _ _ _)
      | (with_reducible exact LeO.refl _)
      | (with_reducible exact LeO.none _)
      | (with_reducible refine LeO.ite ?_ ?_)
      | (with_reducible refine LeO.bind ?_ (fun _ => ?_))
      | exact ih0 _ _ _ _ _ _ _ _ _ _ _ _
      | exact ih1 _ _ _ _ _ _ _ _ _ _ _ _ _ _ _ _ _ _
      | exact millwrightlaw12_same.mono _ _ _
      | exact millwrightlaw12_shown.mono _
      | exact victim_Choose.mono _ _ _ _ _ _ _
      | exact LeO.none _
      | refine LeO.ite ?_ ?_
      | refine LeO.bind ?_ (fun _ => ?_)
theorem millwrightlaw12_VictimSlot.mono : ∀ a0 a1 a2 a3 k, LeO (millwrightlaw12_VictimSlot.f k a0 a1 a2 a3) (millwrightlaw12_VictimSlot.f (k + 1) a0 a1 a2 a3) := by
  intro a0 a1 a2 a3 k
  obtain ⟨ih0, ih1⟩ := millwrightlaw12_VictimSlot.mono_l k
  unfold millwrightlaw12_VictimSlot.f
  repeat' first
      | (with_reducible exact ih0 _ _ _ _ _ _ _ _ _ _ _ _)
      | (with_reducible exact ih1 _ _ _ _ _ _ _ _ _ _ _ _ _ _ _ _ _ _)
      | (with_reducible exact millwrightlaw12_same.mono _ _ _)
      | (with_reducible exact millwrightlaw12_shown.mono _)
      | (with_reducible exact victim_Choose.mono _ _ _ _ _ _ _)
      | (with_reducible exact LeO.refl _)
      | (with_reducible exact LeO.none _)
      | (with_reducible refine LeO.ite ?_ ?_)
      | (with_reducible refine LeO.bind ?_ (fun _ => ?_))
      | exact ih0 _ _ _ _ _ _ _ _ _ _ _ _
      | exact ih1 _ _ _ _ _ _ _ _ _ _ _ _ _ _ _ _ _ _
      | exact millwrightlaw12_same.mono _ _ _
      | exact millwrightlaw12_shown.mono _
      | exact victim_Choose.mono _ _ _ _ _ _ _
      | exact LeO.none _
      | refine LeO.ite ?_ ?_
      | refine LeO.bind ?_ (fun _ => ?_)
set_option maxHeartbeats 8000000 in
set_option maxRecDepth 100000 in
theorem millwrightlaw12_VictimSlot.calls (k : Nat) (A0 : Option Addr) (c0 : Nat) (l0 : List (S27)) (a1 : Int) (a2 : Int) (a3 : Int) (r : Bool) (w : World) (hr0 : Kd.C k27 w A0 l0.length l0) (hc0 : l0.length ≤ c0) (h : millwrightlaw12_VictimSlot.f k l0 a1 a2 a3 = some r) :
    Calls Try.prog 7 #[.slice A0 l0.length c0, .int .i64 a1, .int .i64 a2, .int .i64 a3] w fun e w' => e = .returned (.bool r) ∧ Below w.heap.size w w' := by
  have hu27 := Try.underlying27
  have HR0 := Aside0.mk hr0
  have HC0 := Aside0.mk hc0
  clear hr0 hc0
  have HB := Aside0.mk (Below.refl w.heap.size w)
  have H : ((millwrightlaw12_shown.f k).bind fun t234 => ((millwrightlaw12_few.f l0).bind fun t235 => (millwrightlaw12_VictimSlot.l0 k t235 a1 a2 a3 t234 false 0 0 0 0 0 0))) = some r := h
  clear h
  replace H := Option.bind_eq_some_iff.mp H
  obtain ⟨t234, A50, H⟩ := H
  replace H : ((millwrightlaw12_few.f l0).bind fun t235 => (millwrightlaw12_VictimSlot.l0 k t235 a1 a2 a3 t234 false 0 0 0 0 0 0)) = some r := H
  have A5 := Aside0.mk A50
  clear A50
  replace H := Option.bind_eq_some_iff.mp H
  obtain ⟨t235, A60, H⟩ := H
  replace H : (millwrightlaw12_VictimSlot.l0 k t235 a1 a2 a3 t234 false 0 0 0 0 0 0) = some r := H
  have A6 := Aside0.mk A60
  clear A60
  have H' := Aside0.mk H
  clear H
  go_enter Try.func7, Try.ntmps7
  go_wp2_with (first | ((with_reducible refine gate_callee (f := 8) rfl ?_); refine goesL_ (some 18) rfl rfl Try.func8 (by kernel_rfl) rfl #[] rfl (by (try simp only [List.map_toArray, List.map_cons, List.map_nil]); first | done | rfl | (simp only [List.length_drop, List.length_take]; rfl)) ?_; (with_reducible refine (millwrightlaw12_shown.calls k  t234 _ A5.out).mono ?_); rintro e w7 ⟨rfl, hb⟩; refine ⟨_, rfl, ?_⟩; have n0_ := Aside0.mk (below_step (by repeat (first | (with_reducible first | exact HB.out | apply below_alloc | apply pw_below_drewN | apply below_drew1) | exact HB.out)) hb); clear HB; have HB := n0_; clear n0_; (try clear hb); (try clear hb2); (try clear hk); (try clear hi)) | ((with_reducible refine gate_callee (f := 9) rfl ?_); refine goesL_ (some 20) rfl rfl Try.func9 (by kernel_rfl) rfl #[.slice A0 l0.length c0] rfl (by (try simp only [List.map_toArray, List.map_cons, List.map_nil]); first | done | rfl | (simp only [List.length_drop, List.length_take]; rfl)) ?_; (with_reducible refine (millwrightlaw12_few.calls _ _ l0 t235 _ ?side1 ?side2 A6.out).mono ?_); (case side1 => repeat (first | exact (Kd.C_below HR0.out HB.out) | (with_reducible refine Kd.C_alloc ?_ _) | (with_reducible refine Kd.C_drewN ?_ _) | (with_reducible refine Kd.C_drew ?_))); (case side2 => exact HC0.out); rintro e w8 ⟨v236, rfl, ho0, hb⟩; refine ⟨_, rfl, ?_⟩; have n0_ := Aside0.mk (Kd.R_lower ho0 (below_size (by repeat (first | (with_reducible first | exact HB.out | apply below_alloc | apply pw_below_drewN | apply below_drew1) | exact HB.out)))); have n1_ := Aside0.mk (below_step (by repeat (first | (with_reducible first | exact HB.out | apply below_alloc | apply pw_below_drewN | apply below_drew1) | exact HB.out)) hb); clear HB; have HO237 := n0_; have HB := n1_; clear n0_ n1_; (try clear hb); (try clear hb2); (try clear hk); (try clear hi); (try clear ho0)) | ((with_reducible refine gate_dst (N := 11) rfl ?_); (try (refine gate_guard (by rfl) ?_; dsimp only)); refine box_event ?hg (N := 11) ?hd (cs := #[.int .i64 0, .int .i64 0, .int .i64 0, .int .i64 0, .int .i64 0]) (t := 27) ?hr ?_; (case hd => rfl); (case hg => rfl); (case hr => first | (go_simp; done) | (go_simp; rfl)); intro gb238 hg w9 hbox hb; have n0_ := Aside0.mk (Kd.R_below (Kd.R_elderB (by (with_reducible repeat (first | apply Kd.R_alloc | apply Kd.R_drewN | apply Kd.R_drew)); exact HO237.out) gb238 (Nat.le_of_eq hg.symm)) hb); have n1_ := Aside0.mk (below_step (by repeat (first | (with_reducible first | exact HB.out | apply below_alloc | apply pw_below_drewN | apply below_drew1) | exact HB.out)) hb); have n2_ := Aside0.mk (hbox); have n3_ := Aside0.mk ((by rw [hg]; exact (below_size (by repeat (first | (with_reducible first | exact HB.out | apply below_alloc | apply pw_below_drewN | apply below_drew1) | exact HB.out))) : w.heap.size ≤ gb238)); have n4_ := Aside0.mk ((by rw [hg]; exact (below_size (by repeat (first | (with_reducible first | exact HB.out | apply below_alloc | apply pw_below_drewN | apply below_drew1) | exact HB.out))) : w.heap.size ≤ gb238)); clear HO237; clear HB; have HO237 := n0_; have HB := n1_; have BK238 := n2_; have GW238 := n3_; have GE238 := n4_; clear n0_ n1_ n2_ n3_ n4_; clear hb hbox hg; have hcz10_0 : w9.cell? ⟨gb238, 0, none⟩ = some (.int .i64 0) := (blk_cell BK238.out 0).trans rfl; have hcz10_1 : w9.cell? ⟨gb238, 1, none⟩ = some (.int .i64 0) := (blk_cell BK238.out 1).trans rfl; have hcz10_2 : w9.cell? ⟨gb238, 2, none⟩ = some (.int .i64 0) := (blk_cell BK238.out 2).trans rfl; have hcz10_3 : w9.cell? ⟨gb238, 3, none⟩ = some (.int .i64 0) := (blk_cell BK238.out 3).trans rfl; have hcz10_4 : w9.cell? ⟨gb238, 4, none⟩ = some (.int .i64 0) := (blk_cell BK238.out 4).trans rfl; have hfz10_0 := blk_frozen BK238.out 0; have hfz10_1 := blk_frozen BK238.out 1; have hfz10_2 := blk_frozen BK238.out 2; have hfz10_3 := blk_frozen BK238.out 3; have hfz10_4 := blk_frozen BK238.out 4))
  go_loopg [10, 12] k (fun kq v10 v12 w' => ∃ (x10_1 : Bool) (x12_1 : Int) (x239000_1 : Int) (x239001_1 : Int) (x239002_1 : Int) (x239003_1 : Int) (x239004_1 : Int), v10 = .bool x10_1 ∧ v12 = .int .i64 x12_1 ∧ Aside0 (millwrightlaw12_VictimSlot.l0 kq t235 a1 a2 a3 t234 x10_1 x12_1 x239000_1 x239001_1 x239002_1 x239003_1 x239004_1 = some r) ∧ Aside0 (kq ≤ k) ∧ Aside0 (Kd.R k27 27 w' w.heap.size (fun k_ => k_ ≠ gb238) v236 t235) ∧ Aside0 (w'.heap[gb238]? = some (.cells #[.int .i64 x239000_1, .int .i64 x239001_1, .int .i64 x239002_1, .int .i64 x239003_1, .int .i64 x239004_1] 27 (0, 0))) ∧ Aside0 (Below w.heap.size w w'))
  case atStart => exact ⟨(false), (0), (0), (0), (0), (0), (0), (by first | rfl | (simp; done) | (simp [*]; done)), (by first | rfl | (simp; done) | (simp [*]; done)), H', ⟨Nat.le_refl _⟩, ⟨by (with_reducible repeat (first | apply Kd.R_alloc | apply Kd.R_drewN | apply Kd.R_drew)); exact Kd.R_mono (Kd.R_far (p := ⟨gb238, 4, none⟩) (Kd.R_far (p := ⟨gb238, 3, none⟩) (Kd.R_far (p := ⟨gb238, 2, none⟩) (Kd.R_far (p := ⟨gb238, 1, none⟩) (Kd.R_far (p := ⟨gb238, 0, none⟩) (Kd.R_mono HO237.out (fun k_ hk => (⟨hk, hk.2⟩ : _ ∧ k_ ≠ gb238))) (fun _ hk => hk.2) (.int .i64 0)) (fun _ hk => hk.2) (.int .i64 0)) (fun _ hk => hk.2) (.int .i64 0)) (fun _ hk => hk.2) (.int .i64 0)) (fun _ hk => hk.2) (.int .i64 0)) (fun _ hk => hk.1.2)⟩, ⟨by (with_reducible repeat (first | refine blk_drewN ?_ _ | refine blk_drew ?_ | refine blk_alloc ?_ _)); refine blk_put (cs := #[.int .i64 0, .int .i64 0, .int .i64 0, .int .i64 0, .int .i64 0]) ?_ 4 _ rfl; (with_reducible repeat (first | refine blk_drewN ?_ _ | refine blk_drew ?_ | refine blk_alloc ?_ _)); refine blk_put (cs := #[.int .i64 0, .int .i64 0, .int .i64 0, .int .i64 0, .int .i64 0]) ?_ 3 _ rfl; (with_reducible repeat (first | refine blk_drewN ?_ _ | refine blk_drew ?_ | refine blk_alloc ?_ _)); refine blk_put (cs := #[.int .i64 0, .int .i64 0, .int .i64 0, .int .i64 0, .int .i64 0]) ?_ 2 _ rfl; (with_reducible repeat (first | refine blk_drewN ?_ _ | refine blk_drew ?_ | refine blk_alloc ?_ _)); refine blk_put (cs := #[.int .i64 0, .int .i64 0, .int .i64 0, .int .i64 0, .int .i64 0]) ?_ 1 _ rfl; (with_reducible repeat (first | refine blk_drewN ?_ _ | refine blk_drew ?_ | refine blk_alloc ?_ _)); refine blk_put (cs := #[.int .i64 0, .int .i64 0, .int .i64 0, .int .i64 0, .int .i64 0]) ?_ 0 _ rfl; (with_reducible repeat (first | refine blk_drewN ?_ _ | refine blk_drew ?_ | refine blk_alloc ?_ _)); exact BK238.out⟩, ⟨by repeat (first | (with_reducible first | exact HB.out | apply below_alloc | apply pw_below_drewN | apply below_drew1 | refine below_set ?_ GE238.out) | exact HB.out)⟩⟩
  case round =>
    clear H'
    try clear p2
    try clear c7
    try clear c8
    try clear c9
    try clear hcz10_0
    try clear hcz10_1
    try clear hcz10_2
    try clear hcz10_3
    try clear hcz10_4
    try clear hfz10_0
    try clear hfz10_1
    try clear hfz10_2
    try clear hfz10_3
    try clear hfz10_4
    obtain ⟨x10_1, x12_1, x239000_1, x239001_1, x239002_1, x239003_1, x239004_1, rfl, rfl, HA, HK1, HO_0, BK238, HB⟩ := hrel
    cases gk with
    | zero => exact absurd HA.out (by simp [millwrightlaw12_VictimSlot.l0])
    | succ k1 =>
      have H := HA.out
      clear HA
      simp only [millwrightlaw12_VictimSlot.l0] at H
      by_cases c11 : x12_1 < (t235.length : Int)
      · rw [if_pos c11] at H
        have c11b0 : decide (x12_1 < (t235.length : Int)) = true := decide_eq_true c11
        clear c11
        by_cases c12 : 0 ≤ x12_1
        · rw [if_pos c12] at H
          have c12b0 : decide (0 ≤ x12_1) = true := decide_eq_true c12
          clear c12
          have HC13 := Aside0.mk H
          clear H
          obtain ⟨Ao14, co14, eo14⟩ := Kd.R_slice HO_0.out
          subst eo14
          have p239 : 0 ≤ (x12_1 : Int) := of_decide_eq_true (by first | (with_reducible assumption) | assumption)
          have q239 : x12_1 < (t235.length : Int) := of_decide_eq_true (by first | (with_reducible assumption) | assumption)
          obtain ⟨ad239, e239, hx239_0, hx239_1, hx239_2, hx239_3, hx239_4⟩ := at_T27 (Kd.R_reads' HO_0.out).2.2 x12_1 p239 q239
          cases e239
          replace p239 := eq_true p239
          replace q239 := eq_true q239
          go_upto_region 9 with (first | ((with_reducible refine gate_dst (N := 13) rfl ?_); (try (refine gate_guard (by rfl) ?_; dsimp only)); refine box_event ?hg (N := 13) ?hd (cs := #[.int .i64 0, .int .i64 0, .int .i64 0, .int .i64 0, .int .i64 0]) (t := 27) ?hr ?_; (case hd => rfl); (case hg => rfl); (case hr => first | (go_simp; done) | (go_simp; rfl)); intro gb240 hg w15 hbox hb; have n0_ := Aside0.mk (Kd.R_below (Kd.R_elderB (by (with_reducible repeat (first | apply Kd.R_alloc | apply Kd.R_drewN | apply Kd.R_drew)); exact HO_0.out) gb240 (Nat.le_of_eq hg.symm)) hb); have n1_ := Aside0.mk (blk_below (g := gb238) (o := .cells #[.int .i64 x239000_1, .int .i64 x239001_1, .int .i64 x239002_1, .int .i64 x239003_1, .int .i64 x239004_1] 27 (0, 0)) (by (with_reducible repeat (first | refine blk_drewN ?_ _ | refine blk_drew ?_ | refine blk_alloc ?_ _)); exact BK238.out) hb); have n2_ := Aside0.mk (below_step (by repeat (first | (with_reducible first | exact HB.out | apply below_alloc | apply pw_below_drewN | apply below_drew1 | refine below_set ?_ GE238.out) | exact HB.out)) hb); have n3_ := Aside0.mk (hbox); have n4_ := Aside0.mk ((by rw [hg]; exact (below_size (by repeat (first | (with_reducible first | exact HB.out | apply below_alloc | apply pw_below_drewN | apply below_drew1 | refine below_set ?_ GE238.out) | exact HB.out))) : w.heap.size ≤ gb240)); have n5_ := Aside0.mk ((by rw [hg]; exact (below_size (by repeat (first | (with_reducible first | exact HB.out | apply below_alloc | apply pw_below_drewN | apply below_drew1 | refine below_set ?_ GE238.out) | exact HB.out))) : w.heap.size ≤ gb240)); have n6_ := Aside0.mk ((by rw [hg]; exact Nat.ne_of_lt (blk_lt (g := gb238) (o := .cells #[.int .i64 x239000_1, .int .i64 x239001_1, .int .i64 x239002_1, .int .i64 x239003_1, .int .i64 x239004_1] 27 (0, 0)) (by (with_reducible repeat (first | refine blk_drewN ?_ _ | refine blk_drew ?_ | refine blk_alloc ?_ _)); exact BK238.out)) : gb238 ≠ gb240)); have n7_ := Aside0.mk ((by rw [hg]; exact Nat.ne_of_gt (blk_lt (g := gb238) (o := .cells #[.int .i64 x239000_1, .int .i64 x239001_1, .int .i64 x239002_1, .int .i64 x239003_1, .int .i64 x239004_1] 27 (0, 0)) (by (with_reducible repeat (first | refine blk_drewN ?_ _ | refine blk_drew ?_ | refine blk_alloc ?_ _)); exact BK238.out)) : gb240 ≠ gb238)); clear HO_0; clear BK238; clear HB; have HO_0 := n0_; have BK238 := n1_; have HB := n2_; have BK240 := n3_; have GW240 := n4_; have GE240 := n5_; have NB238_240 := n6_; have NB240_238 := n7_; clear n0_ n1_ n2_ n3_ n4_ n5_ n6_ n7_; clear hb hbox hg; have hnb16 := NB240_238.out; have hnc16 := NB238_240.out; have hcz17_0 : w15.cell? ⟨gb240, 0, none⟩ = some (.int .i64 0) := (blk_cell BK240.out 0).trans rfl; have hcz17_1 : w15.cell? ⟨gb240, 1, none⟩ = some (.int .i64 0) := (blk_cell BK240.out 1).trans rfl; have hcz17_2 : w15.cell? ⟨gb240, 2, none⟩ = some (.int .i64 0) := (blk_cell BK240.out 2).trans rfl; have hcz17_3 : w15.cell? ⟨gb240, 3, none⟩ = some (.int .i64 0) := (blk_cell BK240.out 3).trans rfl; have hcz17_4 : w15.cell? ⟨gb240, 4, none⟩ = some (.int .i64 0) := (blk_cell BK240.out 4).trans rfl; have hfz17_0 := blk_frozen BK240.out 0; have hfz17_1 := blk_frozen BK240.out 1; have hfz17_2 := blk_frozen BK240.out 2; have hfz17_3 := blk_frozen BK240.out 3; have hfz17_4 := blk_frozen BK240.out 4))
          (try simp only [Act.put, List.setIfInBounds_toArray, List.set_cons_zero, List.set_cons_succ])
          go_cut [41] (fun v41 wc => ∃ (kq : Nat) (x41_12 : Bool), v41 = .bool x41_12 ∧ Aside0 (millwrightlaw12_VictimSlot.j1 kq t235 a1 a2 a3 t234 x10_1 x12_1 x41_12 x239000_1 x239001_1 x239002_1 x239003_1 x239004_1 ((rd_T27 t235 x12_1).f0) ((rd_T27 t235 x12_1).f1) ((rd_T27 t235 x12_1).f2) ((rd_T27 t235 x12_1).f3) ((rd_T27 t235 x12_1).f4) = some r) ∧ Aside0 (kq ≤ k1) ∧ Aside0 (Kd.R k27 27 wc w.heap.size (fun k_ => k_ ≠ gb238 ∧ k_ ≠ gb240) (.slice (some ad239) t235.length co14) t235) ∧ Aside0 (wc.heap[gb238]? = some (.cells #[.int .i64 x239000_1, .int .i64 x239001_1, .int .i64 x239002_1, .int .i64 x239003_1, .int .i64 x239004_1] 27 (0, 0))) ∧ Aside0 (wc.heap[gb240]? = some (.cells #[.int .i64 ((rd_T27 t235 x12_1).f0), .int .i64 ((rd_T27 t235 x12_1).f1), .int .i64 ((rd_T27 t235 x12_1).f2), .int .i64 ((rd_T27 t235 x12_1).f3), .int .i64 ((rd_T27 t235 x12_1).f4)] 27 (0, 0))) ∧ Aside0 (Below w.heap.size w wc))
          case first =>
            have H := HC13.out
            clear HC13
            by_cases c18 : ((rd_T27 t235 x12_1).f1) ≥ a1
            · rw [if_pos c18] at H
              have c18b0 : decide (a1 ≤ ((rd_T27 t235 x12_1).f1)) = true := decide_eq_true c18
              clear c18
              (first | rw [c18b0] | (simp only [i64_w, i32_w]; rw [c18b0]) | skip)
              have H' := Aside0.mk H
              clear H
              have hnb19 := NB240_238.out
              have hnc19 := NB238_240.out
              have hcz20_0 : w15.cell? ⟨gb240, 0, none⟩ = some (.int .i64 0) := (blk_cell BK240.out 0).trans rfl
              have hcz20_1 : w15.cell? ⟨gb240, 1, none⟩ = some (.int .i64 0) := (blk_cell BK240.out 1).trans rfl
              have hcz20_2 : w15.cell? ⟨gb240, 2, none⟩ = some (.int .i64 0) := (blk_cell BK240.out 2).trans rfl
              have hcz20_3 : w15.cell? ⟨gb240, 3, none⟩ = some (.int .i64 0) := (blk_cell BK240.out 3).trans rfl
              have hcz20_4 : w15.cell? ⟨gb240, 4, none⟩ = some (.int .i64 0) := (blk_cell BK240.out 4).trans rfl
              have hfz20_0 := blk_frozen BK240.out 0
              have hfz20_1 := blk_frozen BK240.out 1
              have hfz20_2 := blk_frozen BK240.out 2
              have hfz20_3 := blk_frozen BK240.out 3
              have hfz20_4 := blk_frozen BK240.out 4
              go_wp2
              go_meet
              case rel => exact ⟨_, (true), (by first | rfl | (simp; done) | (simp [*]; done)), H', ⟨by have := HK1.out; first | omega | exact Nat.le_refl _⟩, ⟨by (with_reducible repeat (first | apply Kd.R_alloc | apply Kd.R_drewN | apply Kd.R_drew)); exact Kd.R_mono (Kd.R_far (p := ⟨gb240, 4, none⟩) (Kd.R_far (p := ⟨gb240, 3, none⟩) (Kd.R_far (p := ⟨gb240, 2, none⟩) (Kd.R_far (p := ⟨gb240, 1, none⟩) (Kd.R_far (p := ⟨gb240, 0, none⟩) (Kd.R_mono HO_0.out (fun k_ hk => (⟨hk, hk.2⟩ : _ ∧ k_ ≠ gb240))) (fun _ hk => hk.2) (.int .i64 ((rd_T27 t235 x12_1).f0))) (fun _ hk => hk.2) (.int .i64 ((rd_T27 t235 x12_1).f1))) (fun _ hk => hk.2) (.int .i64 ((rd_T27 t235 x12_1).f2))) (fun _ hk => hk.2) (.int .i64 ((rd_T27 t235 x12_1).f3))) (fun _ hk => hk.2) (.int .i64 ((rd_T27 t235 x12_1).f4))) (fun _ hk => ⟨hk.1.1, hk.1.2⟩)⟩, ⟨by (with_reducible repeat (first | refine blk_drewN ?_ _ | refine blk_drew ?_ | refine blk_alloc ?_ _)); refine blk_far ?_ NB238_240.out _; (with_reducible repeat (first | refine blk_drewN ?_ _ | refine blk_drew ?_ | refine blk_alloc ?_ _)); refine blk_far ?_ NB238_240.out _; (with_reducible repeat (first | refine blk_drewN ?_ _ | refine blk_drew ?_ | refine blk_alloc ?_ _)); refine blk_far ?_ NB238_240.out _; (with_reducible repeat (first | refine blk_drewN ?_ _ | refine blk_drew ?_ | refine blk_alloc ?_ _)); refine blk_far ?_ NB238_240.out _; (with_reducible repeat (first | refine blk_drewN ?_ _ | refine blk_drew ?_ | refine blk_alloc ?_ _)); refine blk_far ?_ NB238_240.out _; (with_reducible repeat (first | refine blk_drewN ?_ _ | refine blk_drew ?_ | refine blk_alloc ?_ _)); exact BK238.out⟩, ⟨by (with_reducible repeat (first | refine blk_drewN ?_ _ | refine blk_drew ?_ | refine blk_alloc ?_ _)); refine blk_put (cs := #[.int .i64 ((rd_T27 t235 x12_1).f0), .int .i64 ((rd_T27 t235 x12_1).f1), .int .i64 ((rd_T27 t235 x12_1).f2), .int .i64 ((rd_T27 t235 x12_1).f3), .int .i64 0]) ?_ 4 _ rfl; (with_reducible repeat (first | refine blk_drewN ?_ _ | refine blk_drew ?_ | refine blk_alloc ?_ _)); refine blk_put (cs := #[.int .i64 ((rd_T27 t235 x12_1).f0), .int .i64 ((rd_T27 t235 x12_1).f1), .int .i64 ((rd_T27 t235 x12_1).f2), .int .i64 0, .int .i64 0]) ?_ 3 _ rfl; (with_reducible repeat (first | refine blk_drewN ?_ _ | refine blk_drew ?_ | refine blk_alloc ?_ _)); refine blk_put (cs := #[.int .i64 ((rd_T27 t235 x12_1).f0), .int .i64 ((rd_T27 t235 x12_1).f1), .int .i64 0, .int .i64 0, .int .i64 0]) ?_ 2 _ rfl; (with_reducible repeat (first | refine blk_drewN ?_ _ | refine blk_drew ?_ | refine blk_alloc ?_ _)); refine blk_put (cs := #[.int .i64 ((rd_T27 t235 x12_1).f0), .int .i64 0, .int .i64 0, .int .i64 0, .int .i64 0]) ?_ 1 _ rfl; (with_reducible repeat (first | refine blk_drewN ?_ _ | refine blk_drew ?_ | refine blk_alloc ?_ _)); refine blk_put (cs := #[.int .i64 0, .int .i64 0, .int .i64 0, .int .i64 0, .int .i64 0]) ?_ 0 _ rfl; (with_reducible repeat (first | refine blk_drewN ?_ _ | refine blk_drew ?_ | refine blk_alloc ?_ _)); exact BK240.out⟩, ⟨by repeat (first | (with_reducible first | exact HB.out | apply below_alloc | apply pw_below_drewN | apply below_drew1 | refine below_set ?_ GE238.out | refine below_set ?_ GE240.out) | exact HB.out)⟩⟩
            · rw [if_neg c18] at H
              have c18b0 : decide (a1 ≤ ((rd_T27 t235 x12_1).f1)) = false := decide_eq_false c18
              clear c18
              (first | rw [c18b0] | (simp only [i64_w, i32_w]; rw [c18b0]) | skip)
              have H' := Aside0.mk H
              clear H
              have hnb21 := NB240_238.out
              have hnc21 := NB238_240.out
              have hcz22_0 : w15.cell? ⟨gb240, 0, none⟩ = some (.int .i64 0) := (blk_cell BK240.out 0).trans rfl
              have hcz22_1 : w15.cell? ⟨gb240, 1, none⟩ = some (.int .i64 0) := (blk_cell BK240.out 1).trans rfl
              have hcz22_2 : w15.cell? ⟨gb240, 2, none⟩ = some (.int .i64 0) := (blk_cell BK240.out 2).trans rfl
              have hcz22_3 : w15.cell? ⟨gb240, 3, none⟩ = some (.int .i64 0) := (blk_cell BK240.out 3).trans rfl
              have hcz22_4 : w15.cell? ⟨gb240, 4, none⟩ = some (.int .i64 0) := (blk_cell BK240.out 4).trans rfl
              have hfz22_0 := blk_frozen BK240.out 0
              have hfz22_1 := blk_frozen BK240.out 1
              have hfz22_2 := blk_frozen BK240.out 2
              have hfz22_3 := blk_frozen BK240.out 3
              have hfz22_4 := blk_frozen BK240.out 4
              go_wp2
              go_meet
              case rel => exact ⟨_, (decide (((rd_T27 t235 x12_1).f3) ≥ a3)), (by first | rfl | (simp; done) | (simp [*]; done)), H', ⟨by have := HK1.out; first | omega | exact Nat.le_refl _⟩, ⟨by (with_reducible repeat (first | apply Kd.R_alloc | apply Kd.R_drewN | apply Kd.R_drew)); exact Kd.R_mono (Kd.R_far (p := ⟨gb240, 4, none⟩) (Kd.R_far (p := ⟨gb240, 3, none⟩) (Kd.R_far (p := ⟨gb240, 2, none⟩) (Kd.R_far (p := ⟨gb240, 1, none⟩) (Kd.R_far (p := ⟨gb240, 0, none⟩) (Kd.R_mono HO_0.out (fun k_ hk => (⟨hk, hk.2⟩ : _ ∧ k_ ≠ gb240))) (fun _ hk => hk.2) (.int .i64 ((rd_T27 t235 x12_1).f0))) (fun _ hk => hk.2) (.int .i64 ((rd_T27 t235 x12_1).f1))) (fun _ hk => hk.2) (.int .i64 ((rd_T27 t235 x12_1).f2))) (fun _ hk => hk.2) (.int .i64 ((rd_T27 t235 x12_1).f3))) (fun _ hk => hk.2) (.int .i64 ((rd_T27 t235 x12_1).f4))) (fun _ hk => ⟨hk.1.1, hk.1.2⟩)⟩, ⟨by (with_reducible repeat (first | refine blk_drewN ?_ _ | refine blk_drew ?_ | refine blk_alloc ?_ _)); refine blk_far ?_ NB238_240.out _; (with_reducible repeat (first | refine blk_drewN ?_ _ | refine blk_drew ?_ | refine blk_alloc ?_ _)); refine blk_far ?_ NB238_240.out _; (with_reducible repeat (first | refine blk_drewN ?_ _ | refine blk_drew ?_ | refine blk_alloc ?_ _)); refine blk_far ?_ NB238_240.out _; (with_reducible repeat (first | refine blk_drewN ?_ _ | refine blk_drew ?_ | refine blk_alloc ?_ _)); refine blk_far ?_ NB238_240.out _; (with_reducible repeat (first | refine blk_drewN ?_ _ | refine blk_drew ?_ | refine blk_alloc ?_ _)); refine blk_far ?_ NB238_240.out _; (with_reducible repeat (first | refine blk_drewN ?_ _ | refine blk_drew ?_ | refine blk_alloc ?_ _)); exact BK238.out⟩, ⟨by (with_reducible repeat (first | refine blk_drewN ?_ _ | refine blk_drew ?_ | refine blk_alloc ?_ _)); refine blk_put (cs := #[.int .i64 ((rd_T27 t235 x12_1).f0), .int .i64 ((rd_T27 t235 x12_1).f1), .int .i64 ((rd_T27 t235 x12_1).f2), .int .i64 ((rd_T27 t235 x12_1).f3), .int .i64 0]) ?_ 4 _ rfl; (with_reducible repeat (first | refine blk_drewN ?_ _ | refine blk_drew ?_ | refine blk_alloc ?_ _)); refine blk_put (cs := #[.int .i64 ((rd_T27 t235 x12_1).f0), .int .i64 ((rd_T27 t235 x12_1).f1), .int .i64 ((rd_T27 t235 x12_1).f2), .int .i64 0, .int .i64 0]) ?_ 3 _ rfl; (with_reducible repeat (first | refine blk_drewN ?_ _ | refine blk_drew ?_ | refine blk_alloc ?_ _)); refine blk_put (cs := #[.int .i64 ((rd_T27 t235 x12_1).f0), .int .i64 ((rd_T27 t235 x12_1).f1), .int .i64 0, .int .i64 0, .int .i64 0]) ?_ 2 _ rfl; (with_reducible repeat (first | refine blk_drewN ?_ _ | refine blk_drew ?_ | refine blk_alloc ?_ _)); refine blk_put (cs := #[.int .i64 ((rd_T27 t235 x12_1).f0), .int .i64 0, .int .i64 0, .int .i64 0, .int .i64 0]) ?_ 1 _ rfl; (with_reducible repeat (first | refine blk_drewN ?_ _ | refine blk_drew ?_ | refine blk_alloc ?_ _)); refine blk_put (cs := #[.int .i64 0, .int .i64 0, .int .i64 0, .int .i64 0, .int .i64 0]) ?_ 0 _ rfl; (with_reducible repeat (first | refine blk_drewN ?_ _ | refine blk_drew ?_ | refine blk_alloc ?_ _)); exact BK240.out⟩, ⟨by repeat (first | (with_reducible first | exact HB.out | apply below_alloc | apply pw_below_drewN | apply below_drew1 | refine below_set ?_ GE238.out | refine below_set ?_ GE240.out) | exact HB.out)⟩⟩
          case rest =>
            clear HC13
            try clear c1
            try clear c2
            try clear p2
            try clear q2
            try clear hx2
            try clear c7
            try clear c8
            try clear c9
            try clear c11
            try clear c11b0
            try clear c12
            try clear c12b0
            try clear c16
            try clear c18
            try clear c18b0
            try clear c19
            try clear c21
            try clear hcz10_0
            try clear hcz10_1
            try clear hcz10_2
            try clear hcz10_3
            try clear hcz10_4
            try clear hcz17_0
            try clear hcz17_1
            try clear hcz17_2
            try clear hcz17_3
            try clear hcz17_4
            try clear hcz20_0
            try clear hcz20_1
            try clear hcz20_2
            try clear hcz20_3
            try clear hcz20_4
            try clear hcz22_0
            try clear hcz22_1
            try clear hcz22_2
            try clear hcz22_3
            try clear hcz22_4
            try clear hfz10_0
            try clear hfz10_1
            try clear hfz10_2
            try clear hfz10_3
            try clear hfz10_4
            try clear hfz17_0
            try clear hfz17_1
            try clear hfz17_2
            try clear hfz17_3
            try clear hfz17_4
            try clear hfz20_0
            try clear hfz20_1
            try clear hfz20_2
            try clear hfz20_3
            try clear hfz20_4
            try clear hfz22_0
            try clear hfz22_1
            try clear hfz22_2
            try clear hfz22_3
            try clear hfz22_4
            try clear hx239_0
            try clear hx239_1
            try clear hx239_2
            try clear hx239_3
            try clear hx239_4
            try clear p2
            try clear p239
            try clear q239
            obtain ⟨kq, x41_12, rfl, HA, HJ12, HO_0, BK238, BK240, HB⟩ := hcut
            cases kq with
            | zero => exact absurd HA.out (by simp [millwrightlaw12_VictimSlot.j1])
            | succ kj12 =>
              have H := HA.out
              clear HA
              simp only [millwrightlaw12_VictimSlot.j1] at H
              by_cases c23 : x41_12 = true
              · subst c23
                have H1 : (millwrightlaw12_VictimSlot.l0 kj12 t235 a1 a2 a3 t234 x10_1 (wrap64 (x12_1 + 1)) x239000_1 x239001_1 x239002_1 x239003_1 x239004_1) = some r := by rw [if_pos rfl] at H; exact H
                clear H
                have H := H1
                clear H1
                have H' := Aside0.mk H
                clear H
                go_wp2
                go_roundg kj12
                case measure => have := HK1.out; have := HJ12.out; omega
                case rel => exact ⟨(x10_1), (wrap64 (x12_1 + 1)), (x239000_1), (x239001_1), (x239002_1), (x239003_1), (x239004_1), (by first | rfl | (simp; done) | (simp [*]; done)), (by first | rfl | (simp; done) | (simp [*]; done)), H', ⟨by have := HK1.out; have := HJ12.out; omega⟩, ⟨by (with_reducible repeat (first | apply Kd.R_alloc | apply Kd.R_drewN | apply Kd.R_drew)); exact Kd.R_mono HO_0.out (fun _ hk => hk.1)⟩, ⟨by (with_reducible repeat (first | refine blk_drewN ?_ _ | refine blk_drew ?_ | refine blk_alloc ?_ _)); exact BK238.out⟩, ⟨by repeat (first | (with_reducible first | exact HB.out | apply below_alloc | apply pw_below_drewN | apply below_drew1 | refine below_set ?_ GE238.out | refine below_set ?_ GE240.out) | exact HB.out)⟩⟩
              · replace c23 := Bool.eq_false_iff.mpr c23
                subst c23
                have H1 : (if x10_1 = true then (if ((rd_T27 t235 x12_1).f1) < x239001_1 then (millwrightlaw12_VictimSlot.l0 kj12 t235 a1 a2 a3 t234 true (wrap64 (x12_1 + 1)) ((rd_T27 t235 x12_1).f0) ((rd_T27 t235 x12_1).f1) ((rd_T27 t235 x12_1).f2) ((rd_T27 t235 x12_1).f3) ((rd_T27 t235 x12_1).f4)) else (if ((rd_T27 t235 x12_1).f1) = x239001_1 then (if ((rd_T27 t235 x12_1).f4) > x239004_1 then (millwrightlaw12_VictimSlot.l0 kj12 t235 a1 a2 a3 t234 true (wrap64 (x12_1 + 1)) ((rd_T27 t235 x12_1).f0) ((rd_T27 t235 x12_1).f1) ((rd_T27 t235 x12_1).f2) ((rd_T27 t235 x12_1).f3) ((rd_T27 t235 x12_1).f4)) else (if ((rd_T27 t235 x12_1).f4) = x239004_1 then (if ((rd_T27 t235 x12_1).f0) > x239000_1 then (millwrightlaw12_VictimSlot.l0 kj12 t235 a1 a2 a3 t234 true (wrap64 (x12_1 + 1)) ((rd_T27 t235 x12_1).f0) ((rd_T27 t235 x12_1).f1) ((rd_T27 t235 x12_1).f2) ((rd_T27 t235 x12_1).f3) ((rd_T27 t235 x12_1).f4)) else (millwrightlaw12_VictimSlot.l0 kj12 t235 a1 a2 a3 t234 true (wrap64 (x12_1 + 1)) x239000_1 x239001_1 x239002_1 x239003_1 x239004_1)) else (millwrightlaw12_VictimSlot.l0 kj12 t235 a1 a2 a3 t234 true (wrap64 (x12_1 + 1)) x239000_1 x239001_1 x239002_1 x239003_1 x239004_1))) else (millwrightlaw12_VictimSlot.l0 kj12 t235 a1 a2 a3 t234 true (wrap64 (x12_1 + 1)) x239000_1 x239001_1 x239002_1 x239003_1 x239004_1))) else (millwrightlaw12_VictimSlot.l0 kj12 t235 a1 a2 a3 t234 true (wrap64 (x12_1 + 1)) ((rd_T27 t235 x12_1).f0) ((rd_T27 t235 x12_1).f1) ((rd_T27 t235 x12_1).f2) ((rd_T27 t235 x12_1).f3) ((rd_T27 t235 x12_1).f4))) = some r := by rw [if_neg (show ¬ (false = true) by decide)] at H; exact H
                clear H
                have H := H1
                clear H1
                by_cases c24 : x10_1 = true
                · subst c24
                  have H1 : (if ((rd_T27 t235 x12_1).f1) < x239001_1 then (millwrightlaw12_VictimSlot.l0 kj12 t235 a1 a2 a3 t234 true (wrap64 (x12_1 + 1)) ((rd_T27 t235 x12_1).f0) ((rd_T27 t235 x12_1).f1) ((rd_T27 t235 x12_1).f2) ((rd_T27 t235 x12_1).f3) ((rd_T27 t235 x12_1).f4)) else (if ((rd_T27 t235 x12_1).f1) = x239001_1 then (if ((rd_T27 t235 x12_1).f4) > x239004_1 then (millwrightlaw12_VictimSlot.l0 kj12 t235 a1 a2 a3 t234 true (wrap64 (x12_1 + 1)) ((rd_T27 t235 x12_1).f0) ((rd_T27 t235 x12_1).f1) ((rd_T27 t235 x12_1).f2) ((rd_T27 t235 x12_1).f3) ((rd_T27 t235 x12_1).f4)) else (if ((rd_T27 t235 x12_1).f4) = x239004_1 then (if ((rd_T27 t235 x12_1).f0) > x239000_1 then (millwrightlaw12_VictimSlot.l0 kj12 t235 a1 a2 a3 t234 true (wrap64 (x12_1 + 1)) ((rd_T27 t235 x12_1).f0) ((rd_T27 t235 x12_1).f1) ((rd_T27 t235 x12_1).f2) ((rd_T27 t235 x12_1).f3) ((rd_T27 t235 x12_1).f4)) else (millwrightlaw12_VictimSlot.l0 kj12 t235 a1 a2 a3 t234 true (wrap64 (x12_1 + 1)) x239000_1 x239001_1 x239002_1 x239003_1 x239004_1)) else (millwrightlaw12_VictimSlot.l0 kj12 t235 a1 a2 a3 t234 true (wrap64 (x12_1 + 1)) x239000_1 x239001_1 x239002_1 x239003_1 x239004_1))) else (millwrightlaw12_VictimSlot.l0 kj12 t235 a1 a2 a3 t234 true (wrap64 (x12_1 + 1)) x239000_1 x239001_1 x239002_1 x239003_1 x239004_1))) = some r := by rw [if_pos rfl] at H; exact H
                  clear H
                  have H := H1
                  clear H1
                  by_cases c25 : ((rd_T27 t235 x12_1).f1) < x239001_1
                  · rw [if_pos c25] at H
                    have c25b0 : decide (((rd_T27 t235 x12_1).f1) < x239001_1) = true := decide_eq_true c25
                    clear c25
                    have H' := Aside0.mk H
                    clear H
                    have hnb26 := NB240_238.out
                    have hnc26 := NB238_240.out
                    have hcz27_0 : wc.cell? ⟨gb240, 0, none⟩ = some (.int .i64 ((rd_T27 t235 x12_1).f0)) := (blk_cell BK240.out 0).trans rfl
                    have hcz27_1 : wc.cell? ⟨gb240, 1, none⟩ = some (.int .i64 ((rd_T27 t235 x12_1).f1)) := (blk_cell BK240.out 1).trans rfl
                    have hcz27_2 : wc.cell? ⟨gb240, 2, none⟩ = some (.int .i64 ((rd_T27 t235 x12_1).f2)) := (blk_cell BK240.out 2).trans rfl
                    have hcz27_3 : wc.cell? ⟨gb240, 3, none⟩ = some (.int .i64 ((rd_T27 t235 x12_1).f3)) := (blk_cell BK240.out 3).trans rfl
                    have hcz27_4 : wc.cell? ⟨gb240, 4, none⟩ = some (.int .i64 ((rd_T27 t235 x12_1).f4)) := (blk_cell BK240.out 4).trans rfl
                    have hfz27_0 := blk_frozen BK240.out 0
                    have hfz27_1 := blk_frozen BK240.out 1
                    have hfz27_2 := blk_frozen BK240.out 2
                    have hfz27_3 := blk_frozen BK240.out 3
                    have hfz27_4 := blk_frozen BK240.out 4
                    have hcz28_0 : wc.cell? ⟨gb238, 0, none⟩ = some (.int .i64 x239000_1) := (blk_cell BK238.out 0).trans rfl
                    have hcz28_1 : wc.cell? ⟨gb238, 1, none⟩ = some (.int .i64 x239001_1) := (blk_cell BK238.out 1).trans rfl
                    have hcz28_2 : wc.cell? ⟨gb238, 2, none⟩ = some (.int .i64 x239002_1) := (blk_cell BK238.out 2).trans rfl
                    have hcz28_3 : wc.cell? ⟨gb238, 3, none⟩ = some (.int .i64 x239003_1) := (blk_cell BK238.out 3).trans rfl
                    have hcz28_4 : wc.cell? ⟨gb238, 4, none⟩ = some (.int .i64 x239004_1) := (blk_cell BK238.out 4).trans rfl
                    have hfz28_0 := blk_frozen BK238.out 0
                    have hfz28_1 := blk_frozen BK238.out 1
                    have hfz28_2 := blk_frozen BK238.out 2
                    have hfz28_3 := blk_frozen BK238.out 3
                    have hfz28_4 := blk_frozen BK238.out 4
                    go_wp2
                    go_roundg kj12
                    case measure => have := HK1.out; have := HJ12.out; omega
                    case rel => exact ⟨(true), (wrap64 (x12_1 + 1)), (((rd_T27 t235 x12_1).f0)), (((rd_T27 t235 x12_1).f1)), (((rd_T27 t235 x12_1).f2)), (((rd_T27 t235 x12_1).f3)), (((rd_T27 t235 x12_1).f4)), (by first | rfl | (simp; done) | (simp [*]; done)), (by first | rfl | (simp; done) | (simp [*]; done)), H', ⟨by have := HK1.out; have := HJ12.out; omega⟩, ⟨by (with_reducible repeat (first | apply Kd.R_alloc | apply Kd.R_drewN | apply Kd.R_drew)); exact Kd.R_mono (Kd.R_far (p := ⟨gb238, 4, none⟩) (Kd.R_far (p := ⟨gb238, 3, none⟩) (Kd.R_far (p := ⟨gb238, 2, none⟩) (Kd.R_far (p := ⟨gb238, 1, none⟩) (Kd.R_far (p := ⟨gb238, 0, none⟩) (Kd.R_mono HO_0.out (fun k_ hk => (⟨hk, hk.1⟩ : _ ∧ k_ ≠ gb238))) (fun _ hk => hk.2) (.int .i64 ((rd_T27 t235 x12_1).f0))) (fun _ hk => hk.2) (.int .i64 ((rd_T27 t235 x12_1).f1))) (fun _ hk => hk.2) (.int .i64 ((rd_T27 t235 x12_1).f2))) (fun _ hk => hk.2) (.int .i64 ((rd_T27 t235 x12_1).f3))) (fun _ hk => hk.2) (.int .i64 ((rd_T27 t235 x12_1).f4))) (fun _ hk => hk.1.1)⟩, ⟨by (with_reducible repeat (first | refine blk_drewN ?_ _ | refine blk_drew ?_ | refine blk_alloc ?_ _)); refine blk_put (cs := #[.int .i64 ((rd_T27 t235 x12_1).f0), .int .i64 ((rd_T27 t235 x12_1).f1), .int .i64 ((rd_T27 t235 x12_1).f2), .int .i64 ((rd_T27 t235 x12_1).f3), .int .i64 x239004_1]) ?_ 4 _ rfl; (with_reducible repeat (first | refine blk_drewN ?_ _ | refine blk_drew ?_ | refine blk_alloc ?_ _)); refine blk_put (cs := #[.int .i64 ((rd_T27 t235 x12_1).f0), .int .i64 ((rd_T27 t235 x12_1).f1), .int .i64 ((rd_T27 t235 x12_1).f2), .int .i64 x239003_1, .int .i64 x239004_1]) ?_ 3 _ rfl; (with_reducible repeat (first | refine blk_drewN ?_ _ | refine blk_drew ?_ | refine blk_alloc ?_ _)); refine blk_put (cs := #[.int .i64 ((rd_T27 t235 x12_1).f0), .int .i64 ((rd_T27 t235 x12_1).f1), .int .i64 x239002_1, .int .i64 x239003_1, .int .i64 x239004_1]) ?_ 2 _ rfl; (with_reducible repeat (first | refine blk_drewN ?_ _ | refine blk_drew ?_ | refine blk_alloc ?_ _)); refine blk_put (cs := #[.int .i64 ((rd_T27 t235 x12_1).f0), .int .i64 x239001_1, .int .i64 x239002_1, .int .i64 x239003_1, .int .i64 x239004_1]) ?_ 1 _ rfl; (with_reducible repeat (first | refine blk_drewN ?_ _ | refine blk_drew ?_ | refine blk_alloc ?_ _)); refine blk_put (cs := #[.int .i64 x239000_1, .int .i64 x239001_1, .int .i64 x239002_1, .int .i64 x239003_1, .int .i64 x239004_1]) ?_ 0 _ rfl; (with_reducible repeat (first | refine blk_drewN ?_ _ | refine blk_drew ?_ | refine blk_alloc ?_ _)); exact BK238.out⟩, ⟨by repeat (first | (with_reducible first | exact HB.out | apply below_alloc | apply pw_below_drewN | apply below_drew1 | refine below_set ?_ GE238.out | refine below_set ?_ GE240.out) | exact HB.out)⟩⟩
                  · rw [if_neg c25] at H
                    have c25b0 : decide (((rd_T27 t235 x12_1).f1) < x239001_1) = false := decide_eq_false c25
                    clear c25
                    by_cases c29 : ((rd_T27 t235 x12_1).f1) = x239001_1
                    · rw [if_pos c29] at H
                      have c29b0 : (((rd_T27 t235 x12_1).f1) == x239001_1) = true := beq_iff_eq.mpr c29
                      have c29b1 : (((rd_T27 t235 x12_1).f1) != x239001_1) = false := bne_eq_false_iff_eq.mpr c29
                      clear c29
                      by_cases c30 : ((rd_T27 t235 x12_1).f4) > x239004_1
                      · rw [if_pos c30] at H
                        have c30b0 : decide (x239004_1 < ((rd_T27 t235 x12_1).f4)) = true := decide_eq_true c30
                        clear c30
                        have H' := Aside0.mk H
                        clear H
                        have hnb31 := NB240_238.out
                        have hnc31 := NB238_240.out
                        have hcz32_0 : wc.cell? ⟨gb240, 0, none⟩ = some (.int .i64 ((rd_T27 t235 x12_1).f0)) := (blk_cell BK240.out 0).trans rfl
                        have hcz32_1 : wc.cell? ⟨gb240, 1, none⟩ = some (.int .i64 ((rd_T27 t235 x12_1).f1)) := (blk_cell BK240.out 1).trans rfl
                        have hcz32_2 : wc.cell? ⟨gb240, 2, none⟩ = some (.int .i64 ((rd_T27 t235 x12_1).f2)) := (blk_cell BK240.out 2).trans rfl
                        have hcz32_3 : wc.cell? ⟨gb240, 3, none⟩ = some (.int .i64 ((rd_T27 t235 x12_1).f3)) := (blk_cell BK240.out 3).trans rfl
                        have hcz32_4 : wc.cell? ⟨gb240, 4, none⟩ = some (.int .i64 ((rd_T27 t235 x12_1).f4)) := (blk_cell BK240.out 4).trans rfl
                        have hfz32_0 := blk_frozen BK240.out 0
                        have hfz32_1 := blk_frozen BK240.out 1
                        have hfz32_2 := blk_frozen BK240.out 2
                        have hfz32_3 := blk_frozen BK240.out 3
                        have hfz32_4 := blk_frozen BK240.out 4
                        have hcz33_0 : wc.cell? ⟨gb238, 0, none⟩ = some (.int .i64 x239000_1) := (blk_cell BK238.out 0).trans rfl
                        have hcz33_1 : wc.cell? ⟨gb238, 1, none⟩ = some (.int .i64 x239001_1) := (blk_cell BK238.out 1).trans rfl
                        have hcz33_2 : wc.cell? ⟨gb238, 2, none⟩ = some (.int .i64 x239002_1) := (blk_cell BK238.out 2).trans rfl
                        have hcz33_3 : wc.cell? ⟨gb238, 3, none⟩ = some (.int .i64 x239003_1) := (blk_cell BK238.out 3).trans rfl
                        have hcz33_4 : wc.cell? ⟨gb238, 4, none⟩ = some (.int .i64 x239004_1) := (blk_cell BK238.out 4).trans rfl
                        have hfz33_0 := blk_frozen BK238.out 0
                        have hfz33_1 := blk_frozen BK238.out 1
                        have hfz33_2 := blk_frozen BK238.out 2
                        have hfz33_3 := blk_frozen BK238.out 3
                        have hfz33_4 := blk_frozen BK238.out 4
                        go_wp2
                        go_roundg kj12
                        case measure => have := HK1.out; have := HJ12.out; omega
                        case rel => exact ⟨(true), (wrap64 (x12_1 + 1)), (((rd_T27 t235 x12_1).f0)), (((rd_T27 t235 x12_1).f1)), (((rd_T27 t235 x12_1).f2)), (((rd_T27 t235 x12_1).f3)), (((rd_T27 t235 x12_1).f4)), (by first | rfl | (simp; done) | (simp [*]; done)), (by first | rfl | (simp; done) | (simp [*]; done)), H', ⟨by have := HK1.out; have := HJ12.out; omega⟩, ⟨by (with_reducible repeat (first | apply Kd.R_alloc | apply Kd.R_drewN | apply Kd.R_drew)); exact Kd.R_mono (Kd.R_far (p := ⟨gb238, 4, none⟩) (Kd.R_far (p := ⟨gb238, 3, none⟩) (Kd.R_far (p := ⟨gb238, 2, none⟩) (Kd.R_far (p := ⟨gb238, 1, none⟩) (Kd.R_far (p := ⟨gb238, 0, none⟩) (Kd.R_mono HO_0.out (fun k_ hk => (⟨hk, hk.1⟩ : _ ∧ k_ ≠ gb238))) (fun _ hk => hk.2) (.int .i64 ((rd_T27 t235 x12_1).f0))) (fun _ hk => hk.2) (.int .i64 ((rd_T27 t235 x12_1).f1))) (fun _ hk => hk.2) (.int .i64 ((rd_T27 t235 x12_1).f2))) (fun _ hk => hk.2) (.int .i64 ((rd_T27 t235 x12_1).f3))) (fun _ hk => hk.2) (.int .i64 ((rd_T27 t235 x12_1).f4))) (fun _ hk => hk.1.1)⟩, ⟨by (with_reducible repeat (first | refine blk_drewN ?_ _ | refine blk_drew ?_ | refine blk_alloc ?_ _)); refine blk_put (cs := #[.int .i64 ((rd_T27 t235 x12_1).f0), .int .i64 ((rd_T27 t235 x12_1).f1), .int .i64 ((rd_T27 t235 x12_1).f2), .int .i64 ((rd_T27 t235 x12_1).f3), .int .i64 x239004_1]) ?_ 4 _ rfl; (with_reducible repeat (first | refine blk_drewN ?_ _ | refine blk_drew ?_ | refine blk_alloc ?_ _)); refine blk_put (cs := #[.int .i64 ((rd_T27 t235 x12_1).f0), .int .i64 ((rd_T27 t235 x12_1).f1), .int .i64 ((rd_T27 t235 x12_1).f2), .int .i64 x239003_1, .int .i64 x239004_1]) ?_ 3 _ rfl; (with_reducible repeat (first | refine blk_drewN ?_ _ | refine blk_drew ?_ | refine blk_alloc ?_ _)); refine blk_put (cs := #[.int .i64 ((rd_T27 t235 x12_1).f0), .int .i64 ((rd_T27 t235 x12_1).f1), .int .i64 x239002_1, .int .i64 x239003_1, .int .i64 x239004_1]) ?_ 2 _ rfl; (with_reducible repeat (first | refine blk_drewN ?_ _ | refine blk_drew ?_ | refine blk_alloc ?_ _)); refine blk_put (cs := #[.int .i64 ((rd_T27 t235 x12_1).f0), .int .i64 x239001_1, .int .i64 x239002_1, .int .i64 x239003_1, .int .i64 x239004_1]) ?_ 1 _ rfl; (with_reducible repeat (first | refine blk_drewN ?_ _ | refine blk_drew ?_ | refine blk_alloc ?_ _)); refine blk_put (cs := #[.int .i64 x239000_1, .int .i64 x239001_1, .int .i64 x239002_1, .int .i64 x239003_1, .int .i64 x239004_1]) ?_ 0 _ rfl; (with_reducible repeat (first | refine blk_drewN ?_ _ | refine blk_drew ?_ | refine blk_alloc ?_ _)); exact BK238.out⟩, ⟨by repeat (first | (with_reducible first | exact HB.out | apply below_alloc | apply pw_below_drewN | apply below_drew1 | refine below_set ?_ GE238.out | refine below_set ?_ GE240.out) | exact HB.out)⟩⟩
                      · rw [if_neg c30] at H
                        have c30b0 : decide (x239004_1 < ((rd_T27 t235 x12_1).f4)) = false := decide_eq_false c30
                        clear c30
                        by_cases c34 : ((rd_T27 t235 x12_1).f4) = x239004_1
                        · rw [if_pos c34] at H
                          have c34b0 : (((rd_T27 t235 x12_1).f4) == x239004_1) = true := beq_iff_eq.mpr c34
                          have c34b1 : (((rd_T27 t235 x12_1).f4) != x239004_1) = false := bne_eq_false_iff_eq.mpr c34
                          clear c34
                          by_cases c35 : ((rd_T27 t235 x12_1).f0) > x239000_1
                          · rw [if_pos c35] at H
                            have c35b0 : decide (x239000_1 < ((rd_T27 t235 x12_1).f0)) = true := decide_eq_true c35
                            clear c35
                            have H' := Aside0.mk H
                            clear H
                            have hnb36 := NB240_238.out
                            have hnc36 := NB238_240.out
                            have hcz37_0 : wc.cell? ⟨gb240, 0, none⟩ = some (.int .i64 ((rd_T27 t235 x12_1).f0)) := (blk_cell BK240.out 0).trans rfl
                            have hcz37_1 : wc.cell? ⟨gb240, 1, none⟩ = some (.int .i64 ((rd_T27 t235 x12_1).f1)) := (blk_cell BK240.out 1).trans rfl
                            have hcz37_2 : wc.cell? ⟨gb240, 2, none⟩ = some (.int .i64 ((rd_T27 t235 x12_1).f2)) := (blk_cell BK240.out 2).trans rfl
                            have hcz37_3 : wc.cell? ⟨gb240, 3, none⟩ = some (.int .i64 ((rd_T27 t235 x12_1).f3)) := (blk_cell BK240.out 3).trans rfl
                            have hcz37_4 : wc.cell? ⟨gb240, 4, none⟩ = some (.int .i64 ((rd_T27 t235 x12_1).f4)) := (blk_cell BK240.out 4).trans rfl
                            have hfz37_0 := blk_frozen BK240.out 0
                            have hfz37_1 := blk_frozen BK240.out 1
                            have hfz37_2 := blk_frozen BK240.out 2
                            have hfz37_3 := blk_frozen BK240.out 3
                            have hfz37_4 := blk_frozen BK240.out 4
                            have hcz38_0 : wc.cell? ⟨gb238, 0, none⟩ = some (.int .i64 x239000_1) := (blk_cell BK238.out 0).trans rfl
                            have hcz38_1 : wc.cell? ⟨gb238, 1, none⟩ = some (.int .i64 x239001_1) := (blk_cell BK238.out 1).trans rfl
                            have hcz38_2 : wc.cell? ⟨gb238, 2, none⟩ = some (.int .i64 x239002_1) := (blk_cell BK238.out 2).trans rfl
                            have hcz38_3 : wc.cell? ⟨gb238, 3, none⟩ = some (.int .i64 x239003_1) := (blk_cell BK238.out 3).trans rfl
                            have hcz38_4 : wc.cell? ⟨gb238, 4, none⟩ = some (.int .i64 x239004_1) := (blk_cell BK238.out 4).trans rfl
                            have hfz38_0 := blk_frozen BK238.out 0
                            have hfz38_1 := blk_frozen BK238.out 1
                            have hfz38_2 := blk_frozen BK238.out 2
                            have hfz38_3 := blk_frozen BK238.out 3
                            have hfz38_4 := blk_frozen BK238.out 4
                            go_wp2
                            go_roundg kj12
                            case measure => have := HK1.out; have := HJ12.out; omega
                            case rel => exact ⟨(true), (wrap64 (x12_1 + 1)), (((rd_T27 t235 x12_1).f0)), (((rd_T27 t235 x12_1).f1)), (((rd_T27 t235 x12_1).f2)), (((rd_T27 t235 x12_1).f3)), (((rd_T27 t235 x12_1).f4)), (by first | rfl | (simp; done) | (simp [*]; done)), (by first | rfl | (simp; done) | (simp [*]; done)), H', ⟨by have := HK1.out; have := HJ12.out; omega⟩, ⟨by (with_reducible repeat (first | apply Kd.R_alloc | apply Kd.R_drewN | apply Kd.R_drew)); exact Kd.R_mono (Kd.R_far (p := ⟨gb238, 4, none⟩) (Kd.R_far (p := ⟨gb238, 3, none⟩) (Kd.R_far (p := ⟨gb238, 2, none⟩) (Kd.R_far (p := ⟨gb238, 1, none⟩) (Kd.R_far (p := ⟨gb238, 0, none⟩) (Kd.R_mono HO_0.out (fun k_ hk => (⟨hk, hk.1⟩ : _ ∧ k_ ≠ gb238))) (fun _ hk => hk.2) (.int .i64 ((rd_T27 t235 x12_1).f0))) (fun _ hk => hk.2) (.int .i64 ((rd_T27 t235 x12_1).f1))) (fun _ hk => hk.2) (.int .i64 ((rd_T27 t235 x12_1).f2))) (fun _ hk => hk.2) (.int .i64 ((rd_T27 t235 x12_1).f3))) (fun _ hk => hk.2) (.int .i64 ((rd_T27 t235 x12_1).f4))) (fun _ hk => hk.1.1)⟩, ⟨by (with_reducible repeat (first | refine blk_drewN ?_ _ | refine blk_drew ?_ | refine blk_alloc ?_ _)); refine blk_put (cs := #[.int .i64 ((rd_T27 t235 x12_1).f0), .int .i64 ((rd_T27 t235 x12_1).f1), .int .i64 ((rd_T27 t235 x12_1).f2), .int .i64 ((rd_T27 t235 x12_1).f3), .int .i64 x239004_1]) ?_ 4 _ rfl; (with_reducible repeat (first | refine blk_drewN ?_ _ | refine blk_drew ?_ | refine blk_alloc ?_ _)); refine blk_put (cs := #[.int .i64 ((rd_T27 t235 x12_1).f0), .int .i64 ((rd_T27 t235 x12_1).f1), .int .i64 ((rd_T27 t235 x12_1).f2), .int .i64 x239003_1, .int .i64 x239004_1]) ?_ 3 _ rfl; (with_reducible repeat (first | refine blk_drewN ?_ _ | refine blk_drew ?_ | refine blk_alloc ?_ _)); refine blk_put (cs := #[.int .i64 ((rd_T27 t235 x12_1).f0), .int .i64 ((rd_T27 t235 x12_1).f1), .int .i64 x239002_1, .int .i64 x239003_1, .int .i64 x239004_1]) ?_ 2 _ rfl; (with_reducible repeat (first | refine blk_drewN ?_ _ | refine blk_drew ?_ | refine blk_alloc ?_ _)); refine blk_put (cs := #[.int .i64 ((rd_T27 t235 x12_1).f0), .int .i64 x239001_1, .int .i64 x239002_1, .int .i64 x239003_1, .int .i64 x239004_1]) ?_ 1 _ rfl; (with_reducible repeat (first | refine blk_drewN ?_ _ | refine blk_drew ?_ | refine blk_alloc ?_ _)); refine blk_put (cs := #[.int .i64 x239000_1, .int .i64 x239001_1, .int .i64 x239002_1, .int .i64 x239003_1, .int .i64 x239004_1]) ?_ 0 _ rfl; (with_reducible repeat (first | refine blk_drewN ?_ _ | refine blk_drew ?_ | refine blk_alloc ?_ _)); exact BK238.out⟩, ⟨by repeat (first | (with_reducible first | exact HB.out | apply below_alloc | apply pw_below_drewN | apply below_drew1 | refine below_set ?_ GE238.out | refine below_set ?_ GE240.out) | exact HB.out)⟩⟩
                          · rw [if_neg c35] at H
                            have c35b0 : decide (x239000_1 < ((rd_T27 t235 x12_1).f0)) = false := decide_eq_false c35
                            clear c35
                            have H' := Aside0.mk H
                            clear H
                            have hnb39 := NB240_238.out
                            have hnc39 := NB238_240.out
                            have hcz40_0 : wc.cell? ⟨gb240, 0, none⟩ = some (.int .i64 ((rd_T27 t235 x12_1).f0)) := (blk_cell BK240.out 0).trans rfl
                            have hcz40_1 : wc.cell? ⟨gb240, 1, none⟩ = some (.int .i64 ((rd_T27 t235 x12_1).f1)) := (blk_cell BK240.out 1).trans rfl
                            have hcz40_2 : wc.cell? ⟨gb240, 2, none⟩ = some (.int .i64 ((rd_T27 t235 x12_1).f2)) := (blk_cell BK240.out 2).trans rfl
                            have hcz40_3 : wc.cell? ⟨gb240, 3, none⟩ = some (.int .i64 ((rd_T27 t235 x12_1).f3)) := (blk_cell BK240.out 3).trans rfl
                            have hcz40_4 : wc.cell? ⟨gb240, 4, none⟩ = some (.int .i64 ((rd_T27 t235 x12_1).f4)) := (blk_cell BK240.out 4).trans rfl
                            have hfz40_0 := blk_frozen BK240.out 0
                            have hfz40_1 := blk_frozen BK240.out 1
                            have hfz40_2 := blk_frozen BK240.out 2
                            have hfz40_3 := blk_frozen BK240.out 3
                            have hfz40_4 := blk_frozen BK240.out 4
                            have hcz41_0 : wc.cell? ⟨gb238, 0, none⟩ = some (.int .i64 x239000_1) := (blk_cell BK238.out 0).trans rfl
                            have hcz41_1 : wc.cell? ⟨gb238, 1, none⟩ = some (.int .i64 x239001_1) := (blk_cell BK238.out 1).trans rfl
                            have hcz41_2 : wc.cell? ⟨gb238, 2, none⟩ = some (.int .i64 x239002_1) := (blk_cell BK238.out 2).trans rfl
                            have hcz41_3 : wc.cell? ⟨gb238, 3, none⟩ = some (.int .i64 x239003_1) := (blk_cell BK238.out 3).trans rfl
                            have hcz41_4 : wc.cell? ⟨gb238, 4, none⟩ = some (.int .i64 x239004_1) := (blk_cell BK238.out 4).trans rfl
                            have hfz41_0 := blk_frozen BK238.out 0
                            have hfz41_1 := blk_frozen BK238.out 1
                            have hfz41_2 := blk_frozen BK238.out 2
                            have hfz41_3 := blk_frozen BK238.out 3
                            have hfz41_4 := blk_frozen BK238.out 4
                            go_wp2
                            go_roundg kj12
                            case measure => have := HK1.out; have := HJ12.out; omega
                            case rel => exact ⟨(true), (wrap64 (x12_1 + 1)), (x239000_1), (x239001_1), (x239002_1), (x239003_1), (x239004_1), (by first | rfl | (simp; done) | (simp [*]; done)), (by first | rfl | (simp; done) | (simp [*]; done)), H', ⟨by have := HK1.out; have := HJ12.out; omega⟩, ⟨by (with_reducible repeat (first | apply Kd.R_alloc | apply Kd.R_drewN | apply Kd.R_drew)); exact Kd.R_mono HO_0.out (fun _ hk => hk.1)⟩, ⟨by (with_reducible repeat (first | refine blk_drewN ?_ _ | refine blk_drew ?_ | refine blk_alloc ?_ _)); exact BK238.out⟩, ⟨by repeat (first | (with_reducible first | exact HB.out | apply below_alloc | apply pw_below_drewN | apply below_drew1 | refine below_set ?_ GE238.out | refine below_set ?_ GE240.out) | exact HB.out)⟩⟩
                        · rw [if_neg c34] at H
                          have c34b0 : (((rd_T27 t235 x12_1).f4) == x239004_1) = false := beq_eq_false_iff_ne.mpr c34
                          have c34b1 : (((rd_T27 t235 x12_1).f4) != x239004_1) = true := bne_iff_ne.mpr c34
                          have H' := Aside0.mk H
                          clear H
                          have hnb42 := NB240_238.out
                          have hnc42 := NB238_240.out
                          have hcz43_0 : wc.cell? ⟨gb240, 0, none⟩ = some (.int .i64 ((rd_T27 t235 x12_1).f0)) := (blk_cell BK240.out 0).trans rfl
                          have hcz43_1 : wc.cell? ⟨gb240, 1, none⟩ = some (.int .i64 ((rd_T27 t235 x12_1).f1)) := (blk_cell BK240.out 1).trans rfl
                          have hcz43_2 : wc.cell? ⟨gb240, 2, none⟩ = some (.int .i64 ((rd_T27 t235 x12_1).f2)) := (blk_cell BK240.out 2).trans rfl
                          have hcz43_3 : wc.cell? ⟨gb240, 3, none⟩ = some (.int .i64 ((rd_T27 t235 x12_1).f3)) := (blk_cell BK240.out 3).trans rfl
                          have hcz43_4 : wc.cell? ⟨gb240, 4, none⟩ = some (.int .i64 ((rd_T27 t235 x12_1).f4)) := (blk_cell BK240.out 4).trans rfl
                          have hfz43_0 := blk_frozen BK240.out 0
                          have hfz43_1 := blk_frozen BK240.out 1
                          have hfz43_2 := blk_frozen BK240.out 2
                          have hfz43_3 := blk_frozen BK240.out 3
                          have hfz43_4 := blk_frozen BK240.out 4
                          have hcz44_0 : wc.cell? ⟨gb238, 0, none⟩ = some (.int .i64 x239000_1) := (blk_cell BK238.out 0).trans rfl
                          have hcz44_1 : wc.cell? ⟨gb238, 1, none⟩ = some (.int .i64 x239001_1) := (blk_cell BK238.out 1).trans rfl
                          have hcz44_2 : wc.cell? ⟨gb238, 2, none⟩ = some (.int .i64 x239002_1) := (blk_cell BK238.out 2).trans rfl
                          have hcz44_3 : wc.cell? ⟨gb238, 3, none⟩ = some (.int .i64 x239003_1) := (blk_cell BK238.out 3).trans rfl
                          have hcz44_4 : wc.cell? ⟨gb238, 4, none⟩ = some (.int .i64 x239004_1) := (blk_cell BK238.out 4).trans rfl
                          have hfz44_0 := blk_frozen BK238.out 0
                          have hfz44_1 := blk_frozen BK238.out 1
                          have hfz44_2 := blk_frozen BK238.out 2
                          have hfz44_3 := blk_frozen BK238.out 3
                          have hfz44_4 := blk_frozen BK238.out 4
                          go_wp2
                          go_roundg kj12
                          case measure => have := HK1.out; have := HJ12.out; omega
                          case rel => exact ⟨(true), (wrap64 (x12_1 + 1)), (x239000_1), (x239001_1), (x239002_1), (x239003_1), (x239004_1), (by first | rfl | (simp; done) | (simp [*]; done)), (by first | rfl | (simp; done) | (simp [*]; done)), H', ⟨by have := HK1.out; have := HJ12.out; omega⟩, ⟨by (with_reducible repeat (first | apply Kd.R_alloc | apply Kd.R_drewN | apply Kd.R_drew)); exact Kd.R_mono HO_0.out (fun _ hk => hk.1)⟩, ⟨by (with_reducible repeat (first | refine blk_drewN ?_ _ | refine blk_drew ?_ | refine blk_alloc ?_ _)); exact BK238.out⟩, ⟨by repeat (first | (with_reducible first | exact HB.out | apply below_alloc | apply pw_below_drewN | apply below_drew1 | refine below_set ?_ GE238.out | refine below_set ?_ GE240.out) | exact HB.out)⟩⟩
                    · rw [if_neg c29] at H
                      have c29b0 : (((rd_T27 t235 x12_1).f1) == x239001_1) = false := beq_eq_false_iff_ne.mpr c29
                      have c29b1 : (((rd_T27 t235 x12_1).f1) != x239001_1) = true := bne_iff_ne.mpr c29
                      have H' := Aside0.mk H
                      clear H
                      have hnb45 := NB240_238.out
                      have hnc45 := NB238_240.out
                      have hcz46_0 : wc.cell? ⟨gb240, 0, none⟩ = some (.int .i64 ((rd_T27 t235 x12_1).f0)) := (blk_cell BK240.out 0).trans rfl
                      have hcz46_1 : wc.cell? ⟨gb240, 1, none⟩ = some (.int .i64 ((rd_T27 t235 x12_1).f1)) := (blk_cell BK240.out 1).trans rfl
                      have hcz46_2 : wc.cell? ⟨gb240, 2, none⟩ = some (.int .i64 ((rd_T27 t235 x12_1).f2)) := (blk_cell BK240.out 2).trans rfl
                      have hcz46_3 : wc.cell? ⟨gb240, 3, none⟩ = some (.int .i64 ((rd_T27 t235 x12_1).f3)) := (blk_cell BK240.out 3).trans rfl
                      have hcz46_4 : wc.cell? ⟨gb240, 4, none⟩ = some (.int .i64 ((rd_T27 t235 x12_1).f4)) := (blk_cell BK240.out 4).trans rfl
                      have hfz46_0 := blk_frozen BK240.out 0
                      have hfz46_1 := blk_frozen BK240.out 1
                      have hfz46_2 := blk_frozen BK240.out 2
                      have hfz46_3 := blk_frozen BK240.out 3
                      have hfz46_4 := blk_frozen BK240.out 4
                      have hcz47_0 : wc.cell? ⟨gb238, 0, none⟩ = some (.int .i64 x239000_1) := (blk_cell BK238.out 0).trans rfl
                      have hcz47_1 : wc.cell? ⟨gb238, 1, none⟩ = some (.int .i64 x239001_1) := (blk_cell BK238.out 1).trans rfl
                      have hcz47_2 : wc.cell? ⟨gb238, 2, none⟩ = some (.int .i64 x239002_1) := (blk_cell BK238.out 2).trans rfl
                      have hcz47_3 : wc.cell? ⟨gb238, 3, none⟩ = some (.int .i64 x239003_1) := (blk_cell BK238.out 3).trans rfl
                      have hcz47_4 : wc.cell? ⟨gb238, 4, none⟩ = some (.int .i64 x239004_1) := (blk_cell BK238.out 4).trans rfl
                      have hfz47_0 := blk_frozen BK238.out 0
                      have hfz47_1 := blk_frozen BK238.out 1
                      have hfz47_2 := blk_frozen BK238.out 2
                      have hfz47_3 := blk_frozen BK238.out 3
                      have hfz47_4 := blk_frozen BK238.out 4
                      go_wp2
                      go_roundg kj12
                      case measure => have := HK1.out; have := HJ12.out; omega
                      case rel => exact ⟨(true), (wrap64 (x12_1 + 1)), (x239000_1), (x239001_1), (x239002_1), (x239003_1), (x239004_1), (by first | rfl | (simp; done) | (simp [*]; done)), (by first | rfl | (simp; done) | (simp [*]; done)), H', ⟨by have := HK1.out; have := HJ12.out; omega⟩, ⟨by (with_reducible repeat (first | apply Kd.R_alloc | apply Kd.R_drewN | apply Kd.R_drew)); exact Kd.R_mono HO_0.out (fun _ hk => hk.1)⟩, ⟨by (with_reducible repeat (first | refine blk_drewN ?_ _ | refine blk_drew ?_ | refine blk_alloc ?_ _)); exact BK238.out⟩, ⟨by repeat (first | (with_reducible first | exact HB.out | apply below_alloc | apply pw_below_drewN | apply below_drew1 | refine below_set ?_ GE238.out | refine below_set ?_ GE240.out) | exact HB.out)⟩⟩
                · replace c24 := Bool.eq_false_iff.mpr c24
                  subst c24
                  have H1 : (millwrightlaw12_VictimSlot.l0 kj12 t235 a1 a2 a3 t234 true (wrap64 (x12_1 + 1)) ((rd_T27 t235 x12_1).f0) ((rd_T27 t235 x12_1).f1) ((rd_T27 t235 x12_1).f2) ((rd_T27 t235 x12_1).f3) ((rd_T27 t235 x12_1).f4)) = some r := by rw [if_neg (show ¬ (false = true) by decide)] at H; exact H
                  clear H
                  have H := H1
                  clear H1
                  have H' := Aside0.mk H
                  clear H
                  have hnb48 := NB240_238.out
                  have hnc48 := NB238_240.out
                  have hcz49_0 : wc.cell? ⟨gb240, 0, none⟩ = some (.int .i64 ((rd_T27 t235 x12_1).f0)) := (blk_cell BK240.out 0).trans rfl
                  have hcz49_1 : wc.cell? ⟨gb240, 1, none⟩ = some (.int .i64 ((rd_T27 t235 x12_1).f1)) := (blk_cell BK240.out 1).trans rfl
                  have hcz49_2 : wc.cell? ⟨gb240, 2, none⟩ = some (.int .i64 ((rd_T27 t235 x12_1).f2)) := (blk_cell BK240.out 2).trans rfl
                  have hcz49_3 : wc.cell? ⟨gb240, 3, none⟩ = some (.int .i64 ((rd_T27 t235 x12_1).f3)) := (blk_cell BK240.out 3).trans rfl
                  have hcz49_4 : wc.cell? ⟨gb240, 4, none⟩ = some (.int .i64 ((rd_T27 t235 x12_1).f4)) := (blk_cell BK240.out 4).trans rfl
                  have hfz49_0 := blk_frozen BK240.out 0
                  have hfz49_1 := blk_frozen BK240.out 1
                  have hfz49_2 := blk_frozen BK240.out 2
                  have hfz49_3 := blk_frozen BK240.out 3
                  have hfz49_4 := blk_frozen BK240.out 4
                  have hcz50_0 : wc.cell? ⟨gb238, 0, none⟩ = some (.int .i64 x239000_1) := (blk_cell BK238.out 0).trans rfl
                  have hcz50_1 : wc.cell? ⟨gb238, 1, none⟩ = some (.int .i64 x239001_1) := (blk_cell BK238.out 1).trans rfl
                  have hcz50_2 : wc.cell? ⟨gb238, 2, none⟩ = some (.int .i64 x239002_1) := (blk_cell BK238.out 2).trans rfl
                  have hcz50_3 : wc.cell? ⟨gb238, 3, none⟩ = some (.int .i64 x239003_1) := (blk_cell BK238.out 3).trans rfl
                  have hcz50_4 : wc.cell? ⟨gb238, 4, none⟩ = some (.int .i64 x239004_1) := (blk_cell BK238.out 4).trans rfl
                  have hfz50_0 := blk_frozen BK238.out 0
                  have hfz50_1 := blk_frozen BK238.out 1
                  have hfz50_2 := blk_frozen BK238.out 2
                  have hfz50_3 := blk_frozen BK238.out 3
                  have hfz50_4 := blk_frozen BK238.out 4
                  go_wp2
                  go_roundg kj12
                  case measure => have := HK1.out; have := HJ12.out; omega
                  case rel => exact ⟨(true), (wrap64 (x12_1 + 1)), (((rd_T27 t235 x12_1).f0)), (((rd_T27 t235 x12_1).f1)), (((rd_T27 t235 x12_1).f2)), (((rd_T27 t235 x12_1).f3)), (((rd_T27 t235 x12_1).f4)), (by first | rfl | (simp; done) | (simp [*]; done)), (by first | rfl | (simp; done) | (simp [*]; done)), H', ⟨by have := HK1.out; have := HJ12.out; omega⟩, ⟨by (with_reducible repeat (first | apply Kd.R_alloc | apply Kd.R_drewN | apply Kd.R_drew)); exact Kd.R_mono (Kd.R_far (p := ⟨gb238, 4, none⟩) (Kd.R_far (p := ⟨gb238, 3, none⟩) (Kd.R_far (p := ⟨gb238, 2, none⟩) (Kd.R_far (p := ⟨gb238, 1, none⟩) (Kd.R_far (p := ⟨gb238, 0, none⟩) (Kd.R_mono HO_0.out (fun k_ hk => (⟨hk, hk.1⟩ : _ ∧ k_ ≠ gb238))) (fun _ hk => hk.2) (.int .i64 ((rd_T27 t235 x12_1).f0))) (fun _ hk => hk.2) (.int .i64 ((rd_T27 t235 x12_1).f1))) (fun _ hk => hk.2) (.int .i64 ((rd_T27 t235 x12_1).f2))) (fun _ hk => hk.2) (.int .i64 ((rd_T27 t235 x12_1).f3))) (fun _ hk => hk.2) (.int .i64 ((rd_T27 t235 x12_1).f4))) (fun _ hk => hk.1.1)⟩, ⟨by (with_reducible repeat (first | refine blk_drewN ?_ _ | refine blk_drew ?_ | refine blk_alloc ?_ _)); refine blk_put (cs := #[.int .i64 ((rd_T27 t235 x12_1).f0), .int .i64 ((rd_T27 t235 x12_1).f1), .int .i64 ((rd_T27 t235 x12_1).f2), .int .i64 ((rd_T27 t235 x12_1).f3), .int .i64 x239004_1]) ?_ 4 _ rfl; (with_reducible repeat (first | refine blk_drewN ?_ _ | refine blk_drew ?_ | refine blk_alloc ?_ _)); refine blk_put (cs := #[.int .i64 ((rd_T27 t235 x12_1).f0), .int .i64 ((rd_T27 t235 x12_1).f1), .int .i64 ((rd_T27 t235 x12_1).f2), .int .i64 x239003_1, .int .i64 x239004_1]) ?_ 3 _ rfl; (with_reducible repeat (first | refine blk_drewN ?_ _ | refine blk_drew ?_ | refine blk_alloc ?_ _)); refine blk_put (cs := #[.int .i64 ((rd_T27 t235 x12_1).f0), .int .i64 ((rd_T27 t235 x12_1).f1), .int .i64 x239002_1, .int .i64 x239003_1, .int .i64 x239004_1]) ?_ 2 _ rfl; (with_reducible repeat (first | refine blk_drewN ?_ _ | refine blk_drew ?_ | refine blk_alloc ?_ _)); refine blk_put (cs := #[.int .i64 ((rd_T27 t235 x12_1).f0), .int .i64 x239001_1, .int .i64 x239002_1, .int .i64 x239003_1, .int .i64 x239004_1]) ?_ 1 _ rfl; (with_reducible repeat (first | refine blk_drewN ?_ _ | refine blk_drew ?_ | refine blk_alloc ?_ _)); refine blk_put (cs := #[.int .i64 x239000_1, .int .i64 x239001_1, .int .i64 x239002_1, .int .i64 x239003_1, .int .i64 x239004_1]) ?_ 0 _ rfl; (with_reducible repeat (first | refine blk_drewN ?_ _ | refine blk_drew ?_ | refine blk_alloc ?_ _)); exact BK238.out⟩, ⟨by repeat (first | (with_reducible first | exact HB.out | apply below_alloc | apply pw_below_drewN | apply below_drew1 | refine below_set ?_ GE238.out | refine below_set ?_ GE240.out) | exact HB.out)⟩⟩
        · rw [if_neg c12] at H
          exact absurd H (by simp)
      · rw [if_neg c11] at H
        have c11b0 : decide (x12_1 < (t235.length : Int)) = false := decide_eq_false c11
        clear c11
        replace H := Option.bind_eq_some_iff.mp H
        obtain ⟨⟨t241, t242⟩, A510, H⟩ := H
        replace H : ((victim_Choose.f k1 t235 a1 0 a2 0 a3).bind fun bt245 => (if t242 = true then (if (t241.length : Int) = 0 then (if (bt245.2 != x10_1) = true then (some false) else (if t234 = true then (if x10_1 = true then ((millwrightlaw12_same.f k1 bt245.1 (([x239000_1] : List Int))).bind fun t252 => (if t252 = true then (some true) else (some false))) else (some ((bt245.1.length : Int) == 0))) else (some false))) else (some false)) else (some false))) = some r := H
        have A51 := Aside0.mk A510
        clear A510
        replace H := Option.bind_eq_some_iff.mp H
        obtain ⟨⟨t245, t246⟩, A520, H⟩ := H
        replace H : (if t242 = true then (if (t241.length : Int) = 0 then (if (t246 != x10_1) = true then (some false) else (if t234 = true then (if x10_1 = true then ((millwrightlaw12_same.f k1 t245 (([x239000_1] : List Int))).bind fun t252 => (if t252 = true then (some true) else (some false))) else (some ((t245.length : Int) == 0))) else (some false))) else (some false)) else (some false)) = some r := H
        have A52 := Aside0.mk A520
        clear A520
        by_cases c53 : t242 = true
        · subst c53
          have H1 : (if (t241.length : Int) = 0 then (if (t246 != x10_1) = true then (some false) else (if t234 = true then (if x10_1 = true then ((millwrightlaw12_same.f k1 t245 (([x239000_1] : List Int))).bind fun t252 => (if t252 = true then (some true) else (some false))) else (some ((t245.length : Int) == 0))) else (some false))) else (some false)) = some r := by rw [if_pos rfl] at H; exact H
          clear H
          have H := H1
          clear H1
          by_cases c54 : (t241.length : Int) = 0
          · rw [if_pos c54] at H
            have c54b0 : ((t241.length : Int) == 0) = true := beq_iff_eq.mpr c54
            have c54b1 : ((t241.length : Int) != 0) = false := bne_eq_false_iff_eq.mpr c54
            clear c54
            by_cases c55 : (t246 != x10_1) = true
            · rw [if_pos c55] at H
              have c55b0 : (t246 != x10_1) = true := c55
              (try (have c55b1 : decide (t246 = x10_1) = false := by simpa using c55))
              (try (have c55b2 : (t246 == x10_1) = false := by simpa using c55))
              (try (have c55b3 : ¬ (t246 = x10_1) := by simpa using c55))
              clear c55
              obtain rfl := Option.some.inj H
              obtain ⟨Ao56, co56, eo56⟩ := Kd.R_slice HO_0.out
              subst eo56
              go_wp2_with (first | ((with_reducible refine gate_callee (f := 10) rfl ?_); refine goesL_ (some 85) rfl rfl Try.func10 (by kernel_rfl) rfl #[.slice Ao56 t235.length co56, .int .i64 a1, .int .i64 0, .int .i64 a2, .int .i64 1, .int .i64 a3] rfl (by (try simp only [List.map_toArray, List.map_cons, List.map_nil]); first | done | rfl | (simp only [List.length_drop, List.length_take]; rfl)) ?_; (with_reducible refine (victim_Choose.calls k1 _ _ t235 a1 0 a2 1 a3 t241 true _ ?side1 ?side2 A51.out).mono ?_); (case side1 => repeat (first | exact (Kd.R_reads' HO_0.out).2.2 | (with_reducible refine Kd.C_alloc ?_ _) | (with_reducible refine Kd.C_drewN ?_ _) | (with_reducible refine Kd.C_drew ?_))); (case side2 => exact (Kd.R_reads' HO_0.out).2.1); rintro e w57 ⟨v243, rfl, ho0, hb⟩; refine ⟨_, rfl, ?_⟩; have n0_ := Aside0.mk (Kd.R_below (by (with_reducible repeat (first | apply Kd.R_alloc | apply Kd.R_drewN | apply Kd.R_drew)); exact HO_0.out) hb); have n1_ := Aside0.mk (Kd.R_lower ho0 (below_size (by repeat (first | (with_reducible first | exact HB.out | apply below_alloc | apply pw_below_drewN | apply below_drew1 | refine below_set ?_ GE238.out) | exact HB.out)))); have n2_ := Aside0.mk (blk_below (g := gb238) (o := .cells #[.int .i64 x239000_1, .int .i64 x239001_1, .int .i64 x239002_1, .int .i64 x239003_1, .int .i64 x239004_1] 27 (0, 0)) (by (with_reducible repeat (first | refine blk_drewN ?_ _ | refine blk_drew ?_ | refine blk_alloc ?_ _)); exact BK238.out) hb); have n3_ := Aside0.mk (below_step (by repeat (first | (with_reducible first | exact HB.out | apply below_alloc | apply pw_below_drewN | apply below_drew1 | refine below_set ?_ GE238.out) | exact HB.out)) hb); clear HO_0; clear BK238; clear HB; have HO_0 := n0_; have HO244 := n1_; have BK238 := n2_; have HB := n3_; clear n0_ n1_ n2_ n3_; (try clear hb); (try clear hb2); (try clear hk); (try clear hi); (try clear ho0)) | ((with_reducible refine gate_callee (f := 10) rfl ?_); refine goesL_ (some 93) rfl rfl Try.func10 (by kernel_rfl) rfl #[.slice Ao56 t235.length co56, .int .i64 a1, .int .i64 0, .int .i64 a2, .int .i64 0, .int .i64 a3] rfl (by (try simp only [List.map_toArray, List.map_cons, List.map_nil]); first | done | rfl | (simp only [List.length_drop, List.length_take]; rfl)) ?_; (with_reducible refine (victim_Choose.calls k1 _ _ t235 a1 0 a2 0 a3 t245 t246 _ ?side1 ?side2 A52.out).mono ?_); (case side1 => repeat (first | exact (Kd.R_reads' HO_0.out).2.2 | (with_reducible refine Kd.C_alloc ?_ _) | (with_reducible refine Kd.C_drewN ?_ _) | (with_reducible refine Kd.C_drew ?_))); (case side2 => exact (Kd.R_reads' HO_0.out).2.1); rintro e w58 ⟨v247, rfl, ho0, hb⟩; refine ⟨_, rfl, ?_⟩; have n0_ := Aside0.mk (Kd.R_below (by (with_reducible repeat (first | apply Kd.R_alloc | apply Kd.R_drewN | apply Kd.R_drew)); exact HO_0.out) hb); have n1_ := Aside0.mk (Kd.R_elder' (by (with_reducible repeat (first | apply Kd.R_alloc | apply Kd.R_drewN | apply Kd.R_drew)); exact HO244.out) (Kd.R_base ho0) hb); have n2_ := Aside0.mk (Kd.R_lower (Kd.R_new' ho0 (Kd.R_lt (by (with_reducible repeat (first | apply Kd.R_alloc | apply Kd.R_drewN | apply Kd.R_drew)); exact HO244.out))) (below_size (by repeat (first | (with_reducible first | exact HB.out | apply below_alloc | apply pw_below_drewN | apply below_drew1 | refine below_set ?_ GE238.out) | exact HB.out)))); have n3_ := Aside0.mk (blk_below (g := gb238) (o := .cells #[.int .i64 x239000_1, .int .i64 x239001_1, .int .i64 x239002_1, .int .i64 x239003_1, .int .i64 x239004_1] 27 (0, 0)) (by (with_reducible repeat (first | refine blk_drewN ?_ _ | refine blk_drew ?_ | refine blk_alloc ?_ _)); exact BK238.out) hb); have n4_ := Aside0.mk (below_step (by repeat (first | (with_reducible first | exact HB.out | apply below_alloc | apply pw_below_drewN | apply below_drew1 | refine below_set ?_ GE238.out) | exact HB.out)) hb); clear HO_0; clear HO244; clear BK238; clear HB; have HO_0 := n0_; have HO244 := n1_; have HO248 := n2_; have BK238 := n3_; have HB := n4_; clear n0_ n1_ n2_ n3_ n4_; (try clear hb); (try clear hb2); (try clear hk); (try clear hi); (try clear ho0); obtain ⟨Ao59, co59, eo59⟩ := Kd.R_slice HO244.out; subst eo59))
              go_ret
              exact ⟨by first | rfl | (simp [errW_none, errW_some] <;> rfl) | (simp [*, errW_none, errW_some] <;> rfl), by repeat (first | (with_reducible first | exact HB.out | apply below_alloc | apply pw_below_drewN | apply below_drew1 | refine below_set ?_ GE238.out) | exact HB.out)⟩
            · rw [if_neg c55] at H
              have c55b0 : (t246 != x10_1) = false := by simpa using c55
              (try (have c55b1 : decide (t246 = x10_1) = true := by simpa using c55))
              (try (have c55b2 : (t246 == x10_1) = true := by simpa using c55))
              clear c55
              by_cases c60 : t234 = true
              · subst c60
                have H1 : (if x10_1 = true then ((millwrightlaw12_same.f k1 t245 (([x239000_1] : List Int))).bind fun t252 => (if t252 = true then (some true) else (some false))) else (some ((t245.length : Int) == 0))) = some r := by rw [if_pos rfl] at H; exact H
                clear H
                have H := H1
                clear H1
                by_cases c61 : x10_1 = true
                · subst c61
                  have H1 : ((millwrightlaw12_same.f k1 t245 (([x239000_1] : List Int))).bind fun t252 => (if t252 = true then (some true) else (some false))) = some r := by rw [if_pos rfl] at H; exact H
                  clear H
                  have H := H1
                  clear H1
                  obtain ⟨y249, hy249⟩ : ∃ y_ : List Int, y_ = (([x239000_1] : List Int)) := ⟨_, rfl⟩
                  replace H : ((millwrightlaw12_same.f k1 t245 y249).bind fun t252 => (if t252 = true then (some true) else (some false))) = some r := by first | (rw [hy249]; with_reducible exact H) | (have H2_ := (Option.bind_some _ _).symm.trans H; rw [hy249]; with_reducible exact H2_) | (have H2_ := (Option.bind_some _ _).symm.trans H; with_reducible exact H2_) | with_reducible exact H | (rw [hy249]; exact H) | exact H
                  have Ny249 := Aside0.mk hy249
                  clear hy249
                  replace H := Option.bind_eq_some_iff.mp H
                  obtain ⟨t252, A620, H⟩ := H
                  replace H : (if t252 = true then (some true) else (some false)) = some r := H
                  have A62 := Aside0.mk A620
                  clear A620
                  by_cases c63 : t252 = true
                  · subst c63
                    have H1 : (some true) = some r := by rw [if_pos rfl] at H; exact H
                    clear H
                    have H := H1
                    clear H1
                    obtain rfl := Option.some.inj H
                    obtain ⟨Ao64, co64, eo64⟩ := Kd.R_slice HO_0.out
                    subst eo64
                    go_wp2_with (first | ((with_reducible refine gate_callee (f := 10) rfl ?_); refine goesL_ (some 85) rfl rfl Try.func10 (by kernel_rfl) rfl #[.slice Ao64 t235.length co64, .int .i64 a1, .int .i64 0, .int .i64 a2, .int .i64 1, .int .i64 a3] rfl (by (try simp only [List.map_toArray, List.map_cons, List.map_nil]); first | done | rfl | (simp only [List.length_drop, List.length_take]; rfl)) ?_; (with_reducible refine (victim_Choose.calls k1 _ _ t235 a1 0 a2 1 a3 t241 true _ ?side1 ?side2 A51.out).mono ?_); (case side1 => repeat (first | exact (Kd.R_reads' HO_0.out).2.2 | (with_reducible refine Kd.C_alloc ?_ _) | (with_reducible refine Kd.C_drewN ?_ _) | (with_reducible refine Kd.C_drew ?_))); (case side2 => exact (Kd.R_reads' HO_0.out).2.1); rintro e w65 ⟨v243, rfl, ho0, hb⟩; refine ⟨_, rfl, ?_⟩; have n0_ := Aside0.mk (Kd.R_below (by (with_reducible repeat (first | apply Kd.R_alloc | apply Kd.R_drewN | apply Kd.R_drew)); exact HO_0.out) hb); have n1_ := Aside0.mk (Kd.R_lower ho0 (below_size (by repeat (first | (with_reducible first | exact HB.out | apply below_alloc | apply pw_below_drewN | apply below_drew1 | refine below_set ?_ GE238.out) | exact HB.out)))); have n2_ := Aside0.mk (blk_below (g := gb238) (o := .cells #[.int .i64 x239000_1, .int .i64 x239001_1, .int .i64 x239002_1, .int .i64 x239003_1, .int .i64 x239004_1] 27 (0, 0)) (by (with_reducible repeat (first | refine blk_drewN ?_ _ | refine blk_drew ?_ | refine blk_alloc ?_ _)); exact BK238.out) hb); have n3_ := Aside0.mk (below_step (by repeat (first | (with_reducible first | exact HB.out | apply below_alloc | apply pw_below_drewN | apply below_drew1 | refine below_set ?_ GE238.out) | exact HB.out)) hb); clear HO_0; clear BK238; clear HB; have HO_0 := n0_; have HO244 := n1_; have BK238 := n2_; have HB := n3_; clear n0_ n1_ n2_ n3_; (try clear hb); (try clear hb2); (try clear hk); (try clear hi); (try clear ho0)) | ((with_reducible refine gate_callee (f := 10) rfl ?_); refine goesL_ (some 93) rfl rfl Try.func10 (by kernel_rfl) rfl #[.slice Ao64 t235.length co64, .int .i64 a1, .int .i64 0, .int .i64 a2, .int .i64 0, .int .i64 a3] rfl (by (try simp only [List.map_toArray, List.map_cons, List.map_nil]); first | done | rfl | (simp only [List.length_drop, List.length_take]; rfl)) ?_; (with_reducible refine (victim_Choose.calls k1 _ _ t235 a1 0 a2 0 a3 t245 t246 _ ?side1 ?side2 A52.out).mono ?_); (case side1 => repeat (first | exact (Kd.R_reads' HO_0.out).2.2 | (with_reducible refine Kd.C_alloc ?_ _) | (with_reducible refine Kd.C_drewN ?_ _) | (with_reducible refine Kd.C_drew ?_))); (case side2 => exact (Kd.R_reads' HO_0.out).2.1); rintro e w66 ⟨v247, rfl, ho0, hb⟩; refine ⟨_, rfl, ?_⟩; have n0_ := Aside0.mk (Kd.R_below (by (with_reducible repeat (first | apply Kd.R_alloc | apply Kd.R_drewN | apply Kd.R_drew)); exact HO_0.out) hb); have n1_ := Aside0.mk (Kd.R_elder' (by (with_reducible repeat (first | apply Kd.R_alloc | apply Kd.R_drewN | apply Kd.R_drew)); exact HO244.out) (Kd.R_base ho0) hb); have n2_ := Aside0.mk (Kd.R_lower (Kd.R_new' ho0 (Kd.R_lt (by (with_reducible repeat (first | apply Kd.R_alloc | apply Kd.R_drewN | apply Kd.R_drew)); exact HO244.out))) (below_size (by repeat (first | (with_reducible first | exact HB.out | apply below_alloc | apply pw_below_drewN | apply below_drew1 | refine below_set ?_ GE238.out) | exact HB.out)))); have n3_ := Aside0.mk (blk_below (g := gb238) (o := .cells #[.int .i64 x239000_1, .int .i64 x239001_1, .int .i64 x239002_1, .int .i64 x239003_1, .int .i64 x239004_1] 27 (0, 0)) (by (with_reducible repeat (first | refine blk_drewN ?_ _ | refine blk_drew ?_ | refine blk_alloc ?_ _)); exact BK238.out) hb); have n4_ := Aside0.mk (below_step (by repeat (first | (with_reducible first | exact HB.out | apply below_alloc | apply pw_below_drewN | apply below_drew1 | refine below_set ?_ GE238.out) | exact HB.out)) hb); clear HO_0; clear HO244; clear BK238; clear HB; have HO_0 := n0_; have HO244 := n1_; have HO248 := n2_; have BK238 := n3_; have HB := n4_; clear n0_ n1_ n2_ n3_ n4_; (try clear hb); (try clear hb2); (try clear hk); (try clear hi); (try clear ho0); obtain ⟨Ao67, co67, eo67⟩ := Kd.R_slice HO244.out; subst eo67; have hcz68_0 : w66.cell? ⟨gb238, 0, none⟩ = some (.int .i64 x239000_1) := (blk_cell BK238.out 0).trans rfl; have hcz68_1 : w66.cell? ⟨gb238, 1, none⟩ = some (.int .i64 x239001_1) := (blk_cell BK238.out 1).trans rfl; have hcz68_2 : w66.cell? ⟨gb238, 2, none⟩ = some (.int .i64 x239002_1) := (blk_cell BK238.out 2).trans rfl; have hcz68_3 : w66.cell? ⟨gb238, 3, none⟩ = some (.int .i64 x239003_1) := (blk_cell BK238.out 3).trans rfl; have hcz68_4 : w66.cell? ⟨gb238, 4, none⟩ = some (.int .i64 x239004_1) := (blk_cell BK238.out 4).trans rfl; have hfz68_0 := blk_frozen BK238.out 0; have hfz68_1 := blk_frozen BK238.out 1; have hfz68_2 := blk_frozen BK238.out 2; have hfz68_3 := blk_frozen BK238.out 3; have hfz68_4 := blk_frozen BK238.out 4) | ((with_reducible refine gate_dst (N := 115) rfl ?_); (try (refine gate_guard (by rfl) ?_; dsimp only)); refine Kd.R_lit (Kd.int .i64) _ 3 ?hg (N := 115) ?hd (xs := ([x239000_1] : List Int)) (inner := [.int .i64 x239000_1]) (ok := fun _ => True) (okp := fun _ => True) ?hr ?hp (fun _ hk => hk) trivial (Below.refl _ _) (Nat.le_refl _) (by simp) ?_; (case hd => rfl); (case hg => rfl); (case hr => first | (go_simp; done) | (go_simp; rfl)); (case hp => exact (Reps.one (show Kd.M (Kd.int .i64) _ _ _ x239000_1 [.int .i64 x239000_1] from rfl) (Reps.none _ _))); intro v250 w69 ho70 hb hg_ hnew_; clear hg_ hnew_; (first | rw [← Ny249.out] at ho70 | (simp only [Int.reduceToNat] at ho70; rw [← Ny249.out] at ho70)); have n0_ := Aside0.mk (Kd.R_below (by (with_reducible repeat (first | apply Kd.R_alloc | apply Kd.R_drewN | apply Kd.R_drew)); exact HO_0.out) hb); have n1_ := Aside0.mk (Kd.R_elder' (by (with_reducible repeat (first | apply Kd.R_alloc | apply Kd.R_drewN | apply Kd.R_drew)); exact HO244.out) (Kd.R_base ho70) hb); have n2_ := Aside0.mk (Kd.R_elder' (by (with_reducible repeat (first | apply Kd.R_alloc | apply Kd.R_drewN | apply Kd.R_drew)); exact HO248.out) (Kd.R_base ho70) hb); have n3_ := Aside0.mk (Kd.R_lower (Kd.R_new' (Kd.R_new' ho70 (Kd.R_lt (by (with_reducible repeat (first | apply Kd.R_alloc | apply Kd.R_drewN | apply Kd.R_drew)); exact HO244.out))) (Kd.R_lt (by (with_reducible repeat (first | apply Kd.R_alloc | apply Kd.R_drewN | apply Kd.R_drew)); exact HO248.out))) (below_size (by repeat (first | (with_reducible first | exact HB.out | apply below_alloc | apply pw_below_drewN | apply below_drew1 | refine below_set ?_ GE238.out) | exact HB.out)))); have n4_ := Aside0.mk (blk_below (g := gb238) (o := .cells #[.int .i64 x239000_1, .int .i64 x239001_1, .int .i64 x239002_1, .int .i64 x239003_1, .int .i64 x239004_1] 27 (0, 0)) (by (with_reducible repeat (first | refine blk_drewN ?_ _ | refine blk_drew ?_ | refine blk_alloc ?_ _)); exact BK238.out) hb); have n5_ := Aside0.mk (below_step (by repeat (first | (with_reducible first | exact HB.out | apply below_alloc | apply pw_below_drewN | apply below_drew1 | refine below_set ?_ GE238.out) | exact HB.out)) hb); clear HO_0; clear HO244; clear HO248; clear BK238; clear HB; have HO_0 := n0_; have HO244 := n1_; have HO248 := n2_; have HO251 := n3_; have BK238 := n4_; have HB := n5_; clear n0_ n1_ n2_ n3_ n4_ n5_; clear hb ho70; obtain ⟨Ao71, co71, eo71⟩ := Kd.R_slice HO248.out; subst eo71; obtain ⟨Ao72, co72, eo72⟩ := Kd.R_slice HO251.out; subst eo72) | (go_at_call 12; (with_reducible refine (millwrightlaw12_same.calls k1 _ _ t245 _ _ y249 true _ ?side1 ?side2 ?side3 ?side4 A62.out).mono ?_); (case side1 => repeat (first | exact (Kd.R_reads' HO248.out).2.2 | (with_reducible refine Kd.C_alloc ?_ _) | (with_reducible refine Kd.C_drewN ?_ _) | (with_reducible refine Kd.C_drew ?_))); (case side2 => exact (Kd.R_reads' HO248.out).2.1); (case side3 => repeat (first | exact (Kd.R_reads' HO251.out).2.2 | (with_reducible refine Kd.C_alloc ?_ _) | (with_reducible refine Kd.C_drewN ?_ _) | (with_reducible refine Kd.C_drew ?_))); (case side4 => exact (Kd.R_reads' HO251.out).2.1); rintro e w' ⟨rfl, ⟨nd, rfl⟩⟩))
                    go_ret
                    exact ⟨by first | rfl | (simp [errW_none, errW_some] <;> rfl) | (simp [*, errW_none, errW_some] <;> rfl), by repeat (first | (with_reducible first | exact HB.out | apply below_alloc | apply pw_below_drewN | apply below_drew1 | refine below_set ?_ GE238.out) | exact HB.out)⟩
                  · replace c63 := Bool.eq_false_iff.mpr c63
                    subst c63
                    have H1 : (some false) = some r := by rw [if_neg (show ¬ (false = true) by decide)] at H; exact H
                    clear H
                    have H := H1
                    clear H1
                    obtain rfl := Option.some.inj H
                    obtain ⟨Ao73, co73, eo73⟩ := Kd.R_slice HO_0.out
                    subst eo73
                    go_wp2_with (first | ((with_reducible refine gate_callee (f := 10) rfl ?_); refine goesL_ (some 85) rfl rfl Try.func10 (by kernel_rfl) rfl #[.slice Ao73 t235.length co73, .int .i64 a1, .int .i64 0, .int .i64 a2, .int .i64 1, .int .i64 a3] rfl (by (try simp only [List.map_toArray, List.map_cons, List.map_nil]); first | done | rfl | (simp only [List.length_drop, List.length_take]; rfl)) ?_; (with_reducible refine (victim_Choose.calls k1 _ _ t235 a1 0 a2 1 a3 t241 true _ ?side1 ?side2 A51.out).mono ?_); (case side1 => repeat (first | exact (Kd.R_reads' HO_0.out).2.2 | (with_reducible refine Kd.C_alloc ?_ _) | (with_reducible refine Kd.C_drewN ?_ _) | (with_reducible refine Kd.C_drew ?_))); (case side2 => exact (Kd.R_reads' HO_0.out).2.1); rintro e w74 ⟨v243, rfl, ho0, hb⟩; refine ⟨_, rfl, ?_⟩; have n0_ := Aside0.mk (Kd.R_below (by (with_reducible repeat (first | apply Kd.R_alloc | apply Kd.R_drewN | apply Kd.R_drew)); exact HO_0.out) hb); have n1_ := Aside0.mk (Kd.R_lower ho0 (below_size (by repeat (first | (with_reducible first | exact HB.out | apply below_alloc | apply pw_below_drewN | apply below_drew1 | refine below_set ?_ GE238.out) | exact HB.out)))); have n2_ := Aside0.mk (blk_below (g := gb238) (o := .cells #[.int .i64 x239000_1, .int .i64 x239001_1, .int .i64 x239002_1, .int .i64 x239003_1, .int .i64 x239004_1] 27 (0, 0)) (by (with_reducible repeat (first | refine blk_drewN ?_ _ | refine blk_drew ?_ | refine blk_alloc ?_ _)); exact BK238.out) hb); have n3_ := Aside0.mk (below_step (by repeat (first | (with_reducible first | exact HB.out | apply below_alloc | apply pw_below_drewN | apply below_drew1 | refine below_set ?_ GE238.out) | exact HB.out)) hb); clear HO_0; clear BK238; clear HB; have HO_0 := n0_; have HO244 := n1_; have BK238 := n2_; have HB := n3_; clear n0_ n1_ n2_ n3_; (try clear hb); (try clear hb2); (try clear hk); (try clear hi); (try clear ho0)) | ((with_reducible refine gate_callee (f := 10) rfl ?_); refine goesL_ (some 93) rfl rfl Try.func10 (by kernel_rfl) rfl #[.slice Ao73 t235.length co73, .int .i64 a1, .int .i64 0, .int .i64 a2, .int .i64 0, .int .i64 a3] rfl (by (try simp only [List.map_toArray, List.map_cons, List.map_nil]); first | done | rfl | (simp only [List.length_drop, List.length_take]; rfl)) ?_; (with_reducible refine (victim_Choose.calls k1 _ _ t235 a1 0 a2 0 a3 t245 t246 _ ?side1 ?side2 A52.out).mono ?_); (case side1 => repeat (first | exact (Kd.R_reads' HO_0.out).2.2 | (with_reducible refine Kd.C_alloc ?_ _) | (with_reducible refine Kd.C_drewN ?_ _) | (with_reducible refine Kd.C_drew ?_))); (case side2 => exact (Kd.R_reads' HO_0.out).2.1); rintro e w75 ⟨v247, rfl, ho0, hb⟩; refine ⟨_, rfl, ?_⟩; have n0_ := Aside0.mk (Kd.R_below (by (with_reducible repeat (first | apply Kd.R_alloc | apply Kd.R_drewN | apply Kd.R_drew)); exact HO_0.out) hb); have n1_ := Aside0.mk (Kd.R_elder' (by (with_reducible repeat (first | apply Kd.R_alloc | apply Kd.R_drewN | apply Kd.R_drew)); exact HO244.out) (Kd.R_base ho0) hb); have n2_ := Aside0.mk (Kd.R_lower (Kd.R_new' ho0 (Kd.R_lt (by (with_reducible repeat (first | apply Kd.R_alloc | apply Kd.R_drewN | apply Kd.R_drew)); exact HO244.out))) (below_size (by repeat (first | (with_reducible first | exact HB.out | apply below_alloc | apply pw_below_drewN | apply below_drew1 | refine below_set ?_ GE238.out) | exact HB.out)))); have n3_ := Aside0.mk (blk_below (g := gb238) (o := .cells #[.int .i64 x239000_1, .int .i64 x239001_1, .int .i64 x239002_1, .int .i64 x239003_1, .int .i64 x239004_1] 27 (0, 0)) (by (with_reducible repeat (first | refine blk_drewN ?_ _ | refine blk_drew ?_ | refine blk_alloc ?_ _)); exact BK238.out) hb); have n4_ := Aside0.mk (below_step (by repeat (first | (with_reducible first | exact HB.out | apply below_alloc | apply pw_below_drewN | apply below_drew1 | refine below_set ?_ GE238.out) | exact HB.out)) hb); clear HO_0; clear HO244; clear BK238; clear HB; have HO_0 := n0_; have HO244 := n1_; have HO248 := n2_; have BK238 := n3_; have HB := n4_; clear n0_ n1_ n2_ n3_ n4_; (try clear hb); (try clear hb2); (try clear hk); (try clear hi); (try clear ho0); obtain ⟨Ao76, co76, eo76⟩ := Kd.R_slice HO244.out; subst eo76; have hcz77_0 : w75.cell? ⟨gb238, 0, none⟩ = some (.int .i64 x239000_1) := (blk_cell BK238.out 0).trans rfl; have hcz77_1 : w75.cell? ⟨gb238, 1, none⟩ = some (.int .i64 x239001_1) := (blk_cell BK238.out 1).trans rfl; have hcz77_2 : w75.cell? ⟨gb238, 2, none⟩ = some (.int .i64 x239002_1) := (blk_cell BK238.out 2).trans rfl; have hcz77_3 : w75.cell? ⟨gb238, 3, none⟩ = some (.int .i64 x239003_1) := (blk_cell BK238.out 3).trans rfl; have hcz77_4 : w75.cell? ⟨gb238, 4, none⟩ = some (.int .i64 x239004_1) := (blk_cell BK238.out 4).trans rfl; have hfz77_0 := blk_frozen BK238.out 0; have hfz77_1 := blk_frozen BK238.out 1; have hfz77_2 := blk_frozen BK238.out 2; have hfz77_3 := blk_frozen BK238.out 3; have hfz77_4 := blk_frozen BK238.out 4) | ((with_reducible refine gate_dst (N := 115) rfl ?_); (try (refine gate_guard (by rfl) ?_; dsimp only)); refine Kd.R_lit (Kd.int .i64) _ 3 ?hg (N := 115) ?hd (xs := ([x239000_1] : List Int)) (inner := [.int .i64 x239000_1]) (ok := fun _ => True) (okp := fun _ => True) ?hr ?hp (fun _ hk => hk) trivial (Below.refl _ _) (Nat.le_refl _) (by simp) ?_; (case hd => rfl); (case hg => rfl); (case hr => first | (go_simp; done) | (go_simp; rfl)); (case hp => exact (Reps.one (show Kd.M (Kd.int .i64) _ _ _ x239000_1 [.int .i64 x239000_1] from rfl) (Reps.none _ _))); intro v250 w78 ho79 hb hg_ hnew_; clear hg_ hnew_; (first | rw [← Ny249.out] at ho79 | (simp only [Int.reduceToNat] at ho79; rw [← Ny249.out] at ho79)); have n0_ := Aside0.mk (Kd.R_below (by (with_reducible repeat (first | apply Kd.R_alloc | apply Kd.R_drewN | apply Kd.R_drew)); exact HO_0.out) hb); have n1_ := Aside0.mk (Kd.R_elder' (by (with_reducible repeat (first | apply Kd.R_alloc | apply Kd.R_drewN | apply Kd.R_drew)); exact HO244.out) (Kd.R_base ho79) hb); have n2_ := Aside0.mk (Kd.R_elder' (by (with_reducible repeat (first | apply Kd.R_alloc | apply Kd.R_drewN | apply Kd.R_drew)); exact HO248.out) (Kd.R_base ho79) hb); have n3_ := Aside0.mk (Kd.R_lower (Kd.R_new' (Kd.R_new' ho79 (Kd.R_lt (by (with_reducible repeat (first | apply Kd.R_alloc | apply Kd.R_drewN | apply Kd.R_drew)); exact HO244.out))) (Kd.R_lt (by (with_reducible repeat (first | apply Kd.R_alloc | apply Kd.R_drewN | apply Kd.R_drew)); exact HO248.out))) (below_size (by repeat (first | (with_reducible first | exact HB.out | apply below_alloc | apply pw_below_drewN | apply below_drew1 | refine below_set ?_ GE238.out) | exact HB.out)))); have n4_ := Aside0.mk (blk_below (g := gb238) (o := .cells #[.int .i64 x239000_1, .int .i64 x239001_1, .int .i64 x239002_1, .int .i64 x239003_1, .int .i64 x239004_1] 27 (0, 0)) (by (with_reducible repeat (first | refine blk_drewN ?_ _ | refine blk_drew ?_ | refine blk_alloc ?_ _)); exact BK238.out) hb); have n5_ := Aside0.mk (below_step (by repeat (first | (with_reducible first | exact HB.out | apply below_alloc | apply pw_below_drewN | apply below_drew1 | refine below_set ?_ GE238.out) | exact HB.out)) hb); clear HO_0; clear HO244; clear HO248; clear BK238; clear HB; have HO_0 := n0_; have HO244 := n1_; have HO248 := n2_; have HO251 := n3_; have BK238 := n4_; have HB := n5_; clear n0_ n1_ n2_ n3_ n4_ n5_; clear hb ho79; obtain ⟨Ao80, co80, eo80⟩ := Kd.R_slice HO248.out; subst eo80; obtain ⟨Ao81, co81, eo81⟩ := Kd.R_slice HO251.out; subst eo81) | (go_at_call 12; (with_reducible refine (millwrightlaw12_same.calls k1 _ _ t245 _ _ y249 false _ ?side1 ?side2 ?side3 ?side4 A62.out).mono ?_); (case side1 => repeat (first | exact (Kd.R_reads' HO248.out).2.2 | (with_reducible refine Kd.C_alloc ?_ _) | (with_reducible refine Kd.C_drewN ?_ _) | (with_reducible refine Kd.C_drew ?_))); (case side2 => exact (Kd.R_reads' HO248.out).2.1); (case side3 => repeat (first | exact (Kd.R_reads' HO251.out).2.2 | (with_reducible refine Kd.C_alloc ?_ _) | (with_reducible refine Kd.C_drewN ?_ _) | (with_reducible refine Kd.C_drew ?_))); (case side4 => exact (Kd.R_reads' HO251.out).2.1); rintro e w' ⟨rfl, ⟨nd, rfl⟩⟩))
                    go_ret
                    exact ⟨by first | rfl | (simp [errW_none, errW_some] <;> rfl) | (simp [*, errW_none, errW_some] <;> rfl), by repeat (first | (with_reducible first | exact HB.out | apply below_alloc | apply pw_below_drewN | apply below_drew1 | refine below_set ?_ GE238.out) | exact HB.out)⟩
                · replace c61 := Bool.eq_false_iff.mpr c61
                  subst c61
                  have H1 : (some ((t245.length : Int) == 0)) = some r := by rw [if_neg (show ¬ (false = true) by decide)] at H; exact H
                  clear H
                  have H := H1
                  clear H1
                  obtain rfl := Option.some.inj H
                  obtain ⟨Ao82, co82, eo82⟩ := Kd.R_slice HO_0.out
                  subst eo82
                  go_wp2_with (first | ((with_reducible refine gate_callee (f := 10) rfl ?_); refine goesL_ (some 85) rfl rfl Try.func10 (by kernel_rfl) rfl #[.slice Ao82 t235.length co82, .int .i64 a1, .int .i64 0, .int .i64 a2, .int .i64 1, .int .i64 a3] rfl (by (try simp only [List.map_toArray, List.map_cons, List.map_nil]); first | done | rfl | (simp only [List.length_drop, List.length_take]; rfl)) ?_; (with_reducible refine (victim_Choose.calls k1 _ _ t235 a1 0 a2 1 a3 t241 true _ ?side1 ?side2 A51.out).mono ?_); (case side1 => repeat (first | exact (Kd.R_reads' HO_0.out).2.2 | (with_reducible refine Kd.C_alloc ?_ _) | (with_reducible refine Kd.C_drewN ?_ _) | (with_reducible refine Kd.C_drew ?_))); (case side2 => exact (Kd.R_reads' HO_0.out).2.1); rintro e w83 ⟨v243, rfl, ho0, hb⟩; refine ⟨_, rfl, ?_⟩; have n0_ := Aside0.mk (Kd.R_below (by (with_reducible repeat (first | apply Kd.R_alloc | apply Kd.R_drewN | apply Kd.R_drew)); exact HO_0.out) hb); have n1_ := Aside0.mk (Kd.R_lower ho0 (below_size (by repeat (first | (with_reducible first | exact HB.out | apply below_alloc | apply pw_below_drewN | apply below_drew1 | refine below_set ?_ GE238.out) | exact HB.out)))); have n2_ := Aside0.mk (blk_below (g := gb238) (o := .cells #[.int .i64 x239000_1, .int .i64 x239001_1, .int .i64 x239002_1, .int .i64 x239003_1, .int .i64 x239004_1] 27 (0, 0)) (by (with_reducible repeat (first | refine blk_drewN ?_ _ | refine blk_drew ?_ | refine blk_alloc ?_ _)); exact BK238.out) hb); have n3_ := Aside0.mk (below_step (by repeat (first | (with_reducible first | exact HB.out | apply below_alloc | apply pw_below_drewN | apply below_drew1 | refine below_set ?_ GE238.out) | exact HB.out)) hb); clear HO_0; clear BK238; clear HB; have HO_0 := n0_; have HO244 := n1_; have BK238 := n2_; have HB := n3_; clear n0_ n1_ n2_ n3_; (try clear hb); (try clear hb2); (try clear hk); (try clear hi); (try clear ho0)) | ((with_reducible refine gate_callee (f := 10) rfl ?_); refine goesL_ (some 93) rfl rfl Try.func10 (by kernel_rfl) rfl #[.slice Ao82 t235.length co82, .int .i64 a1, .int .i64 0, .int .i64 a2, .int .i64 0, .int .i64 a3] rfl (by (try simp only [List.map_toArray, List.map_cons, List.map_nil]); first | done | rfl | (simp only [List.length_drop, List.length_take]; rfl)) ?_; (with_reducible refine (victim_Choose.calls k1 _ _ t235 a1 0 a2 0 a3 t245 t246 _ ?side1 ?side2 A52.out).mono ?_); (case side1 => repeat (first | exact (Kd.R_reads' HO_0.out).2.2 | (with_reducible refine Kd.C_alloc ?_ _) | (with_reducible refine Kd.C_drewN ?_ _) | (with_reducible refine Kd.C_drew ?_))); (case side2 => exact (Kd.R_reads' HO_0.out).2.1); rintro e w84 ⟨v247, rfl, ho0, hb⟩; refine ⟨_, rfl, ?_⟩; have n0_ := Aside0.mk (Kd.R_below (by (with_reducible repeat (first | apply Kd.R_alloc | apply Kd.R_drewN | apply Kd.R_drew)); exact HO_0.out) hb); have n1_ := Aside0.mk (Kd.R_elder' (by (with_reducible repeat (first | apply Kd.R_alloc | apply Kd.R_drewN | apply Kd.R_drew)); exact HO244.out) (Kd.R_base ho0) hb); have n2_ := Aside0.mk (Kd.R_lower (Kd.R_new' ho0 (Kd.R_lt (by (with_reducible repeat (first | apply Kd.R_alloc | apply Kd.R_drewN | apply Kd.R_drew)); exact HO244.out))) (below_size (by repeat (first | (with_reducible first | exact HB.out | apply below_alloc | apply pw_below_drewN | apply below_drew1 | refine below_set ?_ GE238.out) | exact HB.out)))); have n3_ := Aside0.mk (blk_below (g := gb238) (o := .cells #[.int .i64 x239000_1, .int .i64 x239001_1, .int .i64 x239002_1, .int .i64 x239003_1, .int .i64 x239004_1] 27 (0, 0)) (by (with_reducible repeat (first | refine blk_drewN ?_ _ | refine blk_drew ?_ | refine blk_alloc ?_ _)); exact BK238.out) hb); have n4_ := Aside0.mk (below_step (by repeat (first | (with_reducible first | exact HB.out | apply below_alloc | apply pw_below_drewN | apply below_drew1 | refine below_set ?_ GE238.out) | exact HB.out)) hb); clear HO_0; clear HO244; clear BK238; clear HB; have HO_0 := n0_; have HO244 := n1_; have HO248 := n2_; have BK238 := n3_; have HB := n4_; clear n0_ n1_ n2_ n3_ n4_; (try clear hb); (try clear hb2); (try clear hk); (try clear hi); (try clear ho0); obtain ⟨Ao85, co85, eo85⟩ := Kd.R_slice HO244.out; subst eo85; obtain ⟨Ao86, co86, eo86⟩ := Kd.R_slice HO248.out; subst eo86))
                  go_ret
                  exact ⟨by first | rfl | (simp [errW_none, errW_some] <;> rfl) | (simp [*, errW_none, errW_some] <;> rfl), by repeat (first | (with_reducible first | exact HB.out | apply below_alloc | apply pw_below_drewN | apply below_drew1 | refine below_set ?_ GE238.out) | exact HB.out)⟩
              · replace c60 := Bool.eq_false_iff.mpr c60
                subst c60
                have H1 : (some false) = some r := by rw [if_neg (show ¬ (false = true) by decide)] at H; exact H
                clear H
                have H := H1
                clear H1
                obtain rfl := Option.some.inj H
                obtain ⟨Ao87, co87, eo87⟩ := Kd.R_slice HO_0.out
                subst eo87
                go_wp2_with (first | ((with_reducible refine gate_callee (f := 10) rfl ?_); refine goesL_ (some 85) rfl rfl Try.func10 (by kernel_rfl) rfl #[.slice Ao87 t235.length co87, .int .i64 a1, .int .i64 0, .int .i64 a2, .int .i64 1, .int .i64 a3] rfl (by (try simp only [List.map_toArray, List.map_cons, List.map_nil]); first | done | rfl | (simp only [List.length_drop, List.length_take]; rfl)) ?_; (with_reducible refine (victim_Choose.calls k1 _ _ t235 a1 0 a2 1 a3 t241 true _ ?side1 ?side2 A51.out).mono ?_); (case side1 => repeat (first | exact (Kd.R_reads' HO_0.out).2.2 | (with_reducible refine Kd.C_alloc ?_ _) | (with_reducible refine Kd.C_drewN ?_ _) | (with_reducible refine Kd.C_drew ?_))); (case side2 => exact (Kd.R_reads' HO_0.out).2.1); rintro e w88 ⟨v243, rfl, ho0, hb⟩; refine ⟨_, rfl, ?_⟩; have n0_ := Aside0.mk (Kd.R_below (by (with_reducible repeat (first | apply Kd.R_alloc | apply Kd.R_drewN | apply Kd.R_drew)); exact HO_0.out) hb); have n1_ := Aside0.mk (Kd.R_lower ho0 (below_size (by repeat (first | (with_reducible first | exact HB.out | apply below_alloc | apply pw_below_drewN | apply below_drew1 | refine below_set ?_ GE238.out) | exact HB.out)))); have n2_ := Aside0.mk (blk_below (g := gb238) (o := .cells #[.int .i64 x239000_1, .int .i64 x239001_1, .int .i64 x239002_1, .int .i64 x239003_1, .int .i64 x239004_1] 27 (0, 0)) (by (with_reducible repeat (first | refine blk_drewN ?_ _ | refine blk_drew ?_ | refine blk_alloc ?_ _)); exact BK238.out) hb); have n3_ := Aside0.mk (below_step (by repeat (first | (with_reducible first | exact HB.out | apply below_alloc | apply pw_below_drewN | apply below_drew1 | refine below_set ?_ GE238.out) | exact HB.out)) hb); clear HO_0; clear BK238; clear HB; have HO_0 := n0_; have HO244 := n1_; have BK238 := n2_; have HB := n3_; clear n0_ n1_ n2_ n3_; (try clear hb); (try clear hb2); (try clear hk); (try clear hi); (try clear ho0)) | ((with_reducible refine gate_callee (f := 10) rfl ?_); refine goesL_ (some 93) rfl rfl Try.func10 (by kernel_rfl) rfl #[.slice Ao87 t235.length co87, .int .i64 a1, .int .i64 0, .int .i64 a2, .int .i64 0, .int .i64 a3] rfl (by (try simp only [List.map_toArray, List.map_cons, List.map_nil]); first | done | rfl | (simp only [List.length_drop, List.length_take]; rfl)) ?_; (with_reducible refine (victim_Choose.calls k1 _ _ t235 a1 0 a2 0 a3 t245 t246 _ ?side1 ?side2 A52.out).mono ?_); (case side1 => repeat (first | exact (Kd.R_reads' HO_0.out).2.2 | (with_reducible refine Kd.C_alloc ?_ _) | (with_reducible refine Kd.C_drewN ?_ _) | (with_reducible refine Kd.C_drew ?_))); (case side2 => exact (Kd.R_reads' HO_0.out).2.1); rintro e w89 ⟨v247, rfl, ho0, hb⟩; refine ⟨_, rfl, ?_⟩; have n0_ := Aside0.mk (Kd.R_below (by (with_reducible repeat (first | apply Kd.R_alloc | apply Kd.R_drewN | apply Kd.R_drew)); exact HO_0.out) hb); have n1_ := Aside0.mk (Kd.R_elder' (by (with_reducible repeat (first | apply Kd.R_alloc | apply Kd.R_drewN | apply Kd.R_drew)); exact HO244.out) (Kd.R_base ho0) hb); have n2_ := Aside0.mk (Kd.R_lower (Kd.R_new' ho0 (Kd.R_lt (by (with_reducible repeat (first | apply Kd.R_alloc | apply Kd.R_drewN | apply Kd.R_drew)); exact HO244.out))) (below_size (by repeat (first | (with_reducible first | exact HB.out | apply below_alloc | apply pw_below_drewN | apply below_drew1 | refine below_set ?_ GE238.out) | exact HB.out)))); have n3_ := Aside0.mk (blk_below (g := gb238) (o := .cells #[.int .i64 x239000_1, .int .i64 x239001_1, .int .i64 x239002_1, .int .i64 x239003_1, .int .i64 x239004_1] 27 (0, 0)) (by (with_reducible repeat (first | refine blk_drewN ?_ _ | refine blk_drew ?_ | refine blk_alloc ?_ _)); exact BK238.out) hb); have n4_ := Aside0.mk (below_step (by repeat (first | (with_reducible first | exact HB.out | apply below_alloc | apply pw_below_drewN | apply below_drew1 | refine below_set ?_ GE238.out) | exact HB.out)) hb); clear HO_0; clear HO244; clear BK238; clear HB; have HO_0 := n0_; have HO244 := n1_; have HO248 := n2_; have BK238 := n3_; have HB := n4_; clear n0_ n1_ n2_ n3_ n4_; (try clear hb); (try clear hb2); (try clear hk); (try clear hi); (try clear ho0); obtain ⟨Ao90, co90, eo90⟩ := Kd.R_slice HO244.out; subst eo90))
                go_ret
                exact ⟨by first | rfl | (simp [errW_none, errW_some] <;> rfl) | (simp [*, errW_none, errW_some] <;> rfl), by repeat (first | (with_reducible first | exact HB.out | apply below_alloc | apply pw_below_drewN | apply below_drew1 | refine below_set ?_ GE238.out) | exact HB.out)⟩
          · rw [if_neg c54] at H
            have c54b0 : ((t241.length : Int) == 0) = false := beq_eq_false_iff_ne.mpr c54
            have c54b1 : ((t241.length : Int) != 0) = true := bne_iff_ne.mpr c54
            have c54b2 : ¬ (t241 = []) := fun h_ => c54 (by rw [h_]; rfl)
            obtain rfl := Option.some.inj H
            obtain ⟨Ao91, co91, eo91⟩ := Kd.R_slice HO_0.out
            subst eo91
            go_wp2_with (first | ((with_reducible refine gate_callee (f := 10) rfl ?_); refine goesL_ (some 85) rfl rfl Try.func10 (by kernel_rfl) rfl #[.slice Ao91 t235.length co91, .int .i64 a1, .int .i64 0, .int .i64 a2, .int .i64 1, .int .i64 a3] rfl (by (try simp only [List.map_toArray, List.map_cons, List.map_nil]); first | done | rfl | (simp only [List.length_drop, List.length_take]; rfl)) ?_; (with_reducible refine (victim_Choose.calls k1 _ _ t235 a1 0 a2 1 a3 t241 true _ ?side1 ?side2 A51.out).mono ?_); (case side1 => repeat (first | exact (Kd.R_reads' HO_0.out).2.2 | (with_reducible refine Kd.C_alloc ?_ _) | (with_reducible refine Kd.C_drewN ?_ _) | (with_reducible refine Kd.C_drew ?_))); (case side2 => exact (Kd.R_reads' HO_0.out).2.1); rintro e w92 ⟨v243, rfl, ho0, hb⟩; refine ⟨_, rfl, ?_⟩; have n0_ := Aside0.mk (Kd.R_below (by (with_reducible repeat (first | apply Kd.R_alloc | apply Kd.R_drewN | apply Kd.R_drew)); exact HO_0.out) hb); have n1_ := Aside0.mk (Kd.R_lower ho0 (below_size (by repeat (first | (with_reducible first | exact HB.out | apply below_alloc | apply pw_below_drewN | apply below_drew1 | refine below_set ?_ GE238.out) | exact HB.out)))); have n2_ := Aside0.mk (blk_below (g := gb238) (o := .cells #[.int .i64 x239000_1, .int .i64 x239001_1, .int .i64 x239002_1, .int .i64 x239003_1, .int .i64 x239004_1] 27 (0, 0)) (by (with_reducible repeat (first | refine blk_drewN ?_ _ | refine blk_drew ?_ | refine blk_alloc ?_ _)); exact BK238.out) hb); have n3_ := Aside0.mk (below_step (by repeat (first | (with_reducible first | exact HB.out | apply below_alloc | apply pw_below_drewN | apply below_drew1 | refine below_set ?_ GE238.out) | exact HB.out)) hb); clear HO_0; clear BK238; clear HB; have HO_0 := n0_; have HO244 := n1_; have BK238 := n2_; have HB := n3_; clear n0_ n1_ n2_ n3_; (try clear hb); (try clear hb2); (try clear hk); (try clear hi); (try clear ho0)) | ((with_reducible refine gate_callee (f := 10) rfl ?_); refine goesL_ (some 93) rfl rfl Try.func10 (by kernel_rfl) rfl #[.slice Ao91 t235.length co91, .int .i64 a1, .int .i64 0, .int .i64 a2, .int .i64 0, .int .i64 a3] rfl (by (try simp only [List.map_toArray, List.map_cons, List.map_nil]); first | done | rfl | (simp only [List.length_drop, List.length_take]; rfl)) ?_; (with_reducible refine (victim_Choose.calls k1 _ _ t235 a1 0 a2 0 a3 t245 t246 _ ?side1 ?side2 A52.out).mono ?_); (case side1 => repeat (first | exact (Kd.R_reads' HO_0.out).2.2 | (with_reducible refine Kd.C_alloc ?_ _) | (with_reducible refine Kd.C_drewN ?_ _) | (with_reducible refine Kd.C_drew ?_))); (case side2 => exact (Kd.R_reads' HO_0.out).2.1); rintro e w93 ⟨v247, rfl, ho0, hb⟩; refine ⟨_, rfl, ?_⟩; have n0_ := Aside0.mk (Kd.R_below (by (with_reducible repeat (first | apply Kd.R_alloc | apply Kd.R_drewN | apply Kd.R_drew)); exact HO_0.out) hb); have n1_ := Aside0.mk (Kd.R_elder' (by (with_reducible repeat (first | apply Kd.R_alloc | apply Kd.R_drewN | apply Kd.R_drew)); exact HO244.out) (Kd.R_base ho0) hb); have n2_ := Aside0.mk (Kd.R_lower (Kd.R_new' ho0 (Kd.R_lt (by (with_reducible repeat (first | apply Kd.R_alloc | apply Kd.R_drewN | apply Kd.R_drew)); exact HO244.out))) (below_size (by repeat (first | (with_reducible first | exact HB.out | apply below_alloc | apply pw_below_drewN | apply below_drew1 | refine below_set ?_ GE238.out) | exact HB.out)))); have n3_ := Aside0.mk (blk_below (g := gb238) (o := .cells #[.int .i64 x239000_1, .int .i64 x239001_1, .int .i64 x239002_1, .int .i64 x239003_1, .int .i64 x239004_1] 27 (0, 0)) (by (with_reducible repeat (first | refine blk_drewN ?_ _ | refine blk_drew ?_ | refine blk_alloc ?_ _)); exact BK238.out) hb); have n4_ := Aside0.mk (below_step (by repeat (first | (with_reducible first | exact HB.out | apply below_alloc | apply pw_below_drewN | apply below_drew1 | refine below_set ?_ GE238.out) | exact HB.out)) hb); clear HO_0; clear HO244; clear BK238; clear HB; have HO_0 := n0_; have HO244 := n1_; have HO248 := n2_; have BK238 := n3_; have HB := n4_; clear n0_ n1_ n2_ n3_ n4_; (try clear hb); (try clear hb2); (try clear hk); (try clear hi); (try clear ho0); obtain ⟨Ao94, co94, eo94⟩ := Kd.R_slice HO244.out; subst eo94))
            go_ret
            exact ⟨by first | rfl | (simp [errW_none, errW_some] <;> rfl) | (simp [*, errW_none, errW_some] <;> rfl), by repeat (first | (with_reducible first | exact HB.out | apply below_alloc | apply pw_below_drewN | apply below_drew1 | refine below_set ?_ GE238.out) | exact HB.out)⟩
        · replace c53 := Bool.eq_false_iff.mpr c53
          subst c53
          have H1 : (some false) = some r := by rw [if_neg (show ¬ (false = true) by decide)] at H; exact H
          clear H
          have H := H1
          clear H1
          obtain rfl := Option.some.inj H
          obtain ⟨Ao95, co95, eo95⟩ := Kd.R_slice HO_0.out
          subst eo95
          go_wp2_with (first | ((with_reducible refine gate_callee (f := 10) rfl ?_); refine goesL_ (some 85) rfl rfl Try.func10 (by kernel_rfl) rfl #[.slice Ao95 t235.length co95, .int .i64 a1, .int .i64 0, .int .i64 a2, .int .i64 1, .int .i64 a3] rfl (by (try simp only [List.map_toArray, List.map_cons, List.map_nil]); first | done | rfl | (simp only [List.length_drop, List.length_take]; rfl)) ?_; (with_reducible refine (victim_Choose.calls k1 _ _ t235 a1 0 a2 1 a3 t241 false _ ?side1 ?side2 A51.out).mono ?_); (case side1 => repeat (first | exact (Kd.R_reads' HO_0.out).2.2 | (with_reducible refine Kd.C_alloc ?_ _) | (with_reducible refine Kd.C_drewN ?_ _) | (with_reducible refine Kd.C_drew ?_))); (case side2 => exact (Kd.R_reads' HO_0.out).2.1); rintro e w96 ⟨v243, rfl, ho0, hb⟩; refine ⟨_, rfl, ?_⟩; have n0_ := Aside0.mk (Kd.R_below (by (with_reducible repeat (first | apply Kd.R_alloc | apply Kd.R_drewN | apply Kd.R_drew)); exact HO_0.out) hb); have n1_ := Aside0.mk (Kd.R_lower ho0 (below_size (by repeat (first | (with_reducible first | exact HB.out | apply below_alloc | apply pw_below_drewN | apply below_drew1 | refine below_set ?_ GE238.out) | exact HB.out)))); have n2_ := Aside0.mk (blk_below (g := gb238) (o := .cells #[.int .i64 x239000_1, .int .i64 x239001_1, .int .i64 x239002_1, .int .i64 x239003_1, .int .i64 x239004_1] 27 (0, 0)) (by (with_reducible repeat (first | refine blk_drewN ?_ _ | refine blk_drew ?_ | refine blk_alloc ?_ _)); exact BK238.out) hb); have n3_ := Aside0.mk (below_step (by repeat (first | (with_reducible first | exact HB.out | apply below_alloc | apply pw_below_drewN | apply below_drew1 | refine below_set ?_ GE238.out) | exact HB.out)) hb); clear HO_0; clear BK238; clear HB; have HO_0 := n0_; have HO244 := n1_; have BK238 := n2_; have HB := n3_; clear n0_ n1_ n2_ n3_; (try clear hb); (try clear hb2); (try clear hk); (try clear hi); (try clear ho0)) | ((with_reducible refine gate_callee (f := 10) rfl ?_); refine goesL_ (some 93) rfl rfl Try.func10 (by kernel_rfl) rfl #[.slice Ao95 t235.length co95, .int .i64 a1, .int .i64 0, .int .i64 a2, .int .i64 0, .int .i64 a3] rfl (by (try simp only [List.map_toArray, List.map_cons, List.map_nil]); first | done | rfl | (simp only [List.length_drop, List.length_take]; rfl)) ?_; (with_reducible refine (victim_Choose.calls k1 _ _ t235 a1 0 a2 0 a3 t245 t246 _ ?side1 ?side2 A52.out).mono ?_); (case side1 => repeat (first | exact (Kd.R_reads' HO_0.out).2.2 | (with_reducible refine Kd.C_alloc ?_ _) | (with_reducible refine Kd.C_drewN ?_ _) | (with_reducible refine Kd.C_drew ?_))); (case side2 => exact (Kd.R_reads' HO_0.out).2.1); rintro e w97 ⟨v247, rfl, ho0, hb⟩; refine ⟨_, rfl, ?_⟩; have n0_ := Aside0.mk (Kd.R_below (by (with_reducible repeat (first | apply Kd.R_alloc | apply Kd.R_drewN | apply Kd.R_drew)); exact HO_0.out) hb); have n1_ := Aside0.mk (Kd.R_elder' (by (with_reducible repeat (first | apply Kd.R_alloc | apply Kd.R_drewN | apply Kd.R_drew)); exact HO244.out) (Kd.R_base ho0) hb); have n2_ := Aside0.mk (Kd.R_lower (Kd.R_new' ho0 (Kd.R_lt (by (with_reducible repeat (first | apply Kd.R_alloc | apply Kd.R_drewN | apply Kd.R_drew)); exact HO244.out))) (below_size (by repeat (first | (with_reducible first | exact HB.out | apply below_alloc | apply pw_below_drewN | apply below_drew1 | refine below_set ?_ GE238.out) | exact HB.out)))); have n3_ := Aside0.mk (blk_below (g := gb238) (o := .cells #[.int .i64 x239000_1, .int .i64 x239001_1, .int .i64 x239002_1, .int .i64 x239003_1, .int .i64 x239004_1] 27 (0, 0)) (by (with_reducible repeat (first | refine blk_drewN ?_ _ | refine blk_drew ?_ | refine blk_alloc ?_ _)); exact BK238.out) hb); have n4_ := Aside0.mk (below_step (by repeat (first | (with_reducible first | exact HB.out | apply below_alloc | apply pw_below_drewN | apply below_drew1 | refine below_set ?_ GE238.out) | exact HB.out)) hb); clear HO_0; clear HO244; clear BK238; clear HB; have HO_0 := n0_; have HO244 := n1_; have HO248 := n2_; have BK238 := n3_; have HB := n4_; clear n0_ n1_ n2_ n3_ n4_; (try clear hb); (try clear hb2); (try clear hk); (try clear hi); (try clear ho0)))
          go_ret
          exact ⟨by first | rfl | (simp [errW_none, errW_some] <;> rfl) | (simp [*, errW_none, errW_some] <;> rfl), by repeat (first | (with_reducible first | exact HB.out | apply below_alloc | apply pw_below_drewN | apply below_drew1 | refine below_set ?_ GE238.out) | exact HB.out)⟩

end Go.Proofs.Ytnegchdooapoiaa.PVic
