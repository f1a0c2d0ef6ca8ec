-- Printed for this claim by a program of this project's own, over the kit's printer; some functions are told by hand.
import Derived.Test.YtnegchdooapoiaaPVicx0
import Derived.Test.YtnegchdooapoiaaPVicx1
import Derived.Test.YtnegchdooapoiaaVicC
import Derived.Test.YtnegchdooapoiaaPVicx8
import Derived.Test.YtnegchdooapoiaaPVicx9
namespace Go.Proofs.Ytnegchdooapoiaa.PVic
open Go.RowKit Go.Proofs.YtnegchdooapoiaaW.PrintWords Go.Proofs.YtnegchdooapoiaaW.PrintLast Go.Proofs.YtnegchdooapoiaaW.PrintMore
attribute [local go_sem] max2_int min2_int max_two min_two max_three min_three max_four min_four   -- for this text's walks alone
set_option linter.unusedVariables false
set_option linter.unusedSimpArgs false

attribute [local go_sem high] eqA27
/-! ### millwrightlaw12_VictimTells: function 3 -/
mutual
def millwrightlaw12_VictimTells.l0 : Nat → List (S27) → Int → Int → Int → Int → Int → Bool → List (S28) → Int → Option (Bool)
  | 0, _, _, _, _, _, _, _, _, _ => none
  | k + 1, x0, x1, x2, x3, x4, x5, x13, x14, x15 => if x15 < (x0.length : Int) then (if 0 ≤ x15 then (if x14.length < 3518437208883 then (millwrightlaw12_VictimTells.l0 k x0 x1 x2 x3 x4 x5 x13 (x14 ++ [(⟨(rd_T27 x0 x15).f0, (rd_T27 x0 x15).f1, (rd_T27 x0 x15).f2, (rd_T27 x0 x15).f3, (rd_T27 x0 x15).f4⟩ : S28)]) (wrap64 (x15 + 1))) else (none)) else (none)) else ((millwrightlaw12_few.f x0).bind fun t269 => ((victim_Choose.f k x0 x1 x2 x3 x4 x5).bind fun bt272 => ((millwrightref12_Choose.f k x14 x1 x2 x3 x4 x5).bind fun bt276 => (millwrightlaw12_VictimTells.l1 k x0 x13 t269 bt272.1 bt272.2 bt276.1 bt276.2 0))))
def millwrightlaw12_VictimTells.l1 : Nat → List (S27) → Bool → List (S27) → List Int → Bool → List Int → Bool → Int → Option (Bool)
  | 0, _, _, _, _, _, _, _, _ => none
  | k + 1, x0, x13, x16, x17, x18, x19, x20, x21 => if x21 < (x0.length : Int) then (if 0 ≤ x21 then (if x21 < (x16.length : Int) then (if (!(((rd_T27 x0 x21).f0) == ((rd_T27 x16 x21).f0)) || (!(((rd_T27 x0 x21).f1) == ((rd_T27 x16 x21).f1)) || (!(((rd_T27 x0 x21).f2) == ((rd_T27 x16 x21).f2)) || (!(((rd_T27 x0 x21).f3) == ((rd_T27 x16 x21).f3)) || (!(((rd_T27 x0 x21).f4) == ((rd_T27 x16 x21).f4))))))) = true then (some false) else (millwrightlaw12_VictimTells.l1 k x0 x13 x16 x17 x18 x19 x20 (wrap64 (x21 + 1)))) else (none)) else (none)) else (if x13 = true then ((millwrightlaw12_same.f k x17 x19).bind fun t282 => (if t282 = true then (some (x18 == x20)) else (some false))) else (some false))
end
def millwrightlaw12_VictimTells.f (k : Nat) (l0 : List (S27)) (a1 : Int) (a2 : Int) (a3 : Int) (a4 : Int) (a5 : Int) : Option (Bool) := (millwrightlaw12_shown.f k).bind fun t257 => ((millwrightlaw12_few.f l0).bind fun t258 => (millwrightlaw12_VictimTells.l0 k t258 a1 a2 a3 a4 a5 t257 ([] : List (S28)) 0))
theorem millwrightlaw12_VictimTells.mono_l : ∀ k, (∀ y0 y1 y2 y3 y4 y5 y6 y7 y8, LeO (millwrightlaw12_VictimTells.l0 k y0 y1 y2 y3 y4 y5 y6 y7 y8) (millwrightlaw12_VictimTells.l0 (k + 1) y0 y1 y2 y3 y4 y5 y6 y7 y8)) ∧ (∀ y0 y1 y2 y3 y4 y5 y6 y7, LeO (millwrightlaw12_VictimTells.l1 k y0 y1 y2 y3 y4 y5 y6 y7) (millwrightlaw12_VictimTells.l1 (k + 1) y0 y1 y2 y3 y4 y5 y6 y7))
  | 0 => ⟨fun _ _ _ _ _ _ _ _ _ r h => by simp [millwrightlaw12_VictimTells.l0] at h, fun _ _ _ _ _ _ _ _ r h => by simp [millwrightlaw12_VictimTells.l1] at h⟩
  | k + 1 => by
    obtain ⟨ih0, ih1⟩ := millwrightlaw12_VictimTells.mono_l k
    refine ⟨?_, ?_⟩
    · intro y0 y1 y2 y3 y4 y5 y6 y7 y8
      unfold millwrightlaw12_VictimTells.l0
      repeat' first
      | (with_reducible exact ih0 _ _ _ _ _ _ _ _ _)
      | (with_reducible exact ih1 _ _ _ _ _ _ _ _)
      | (with_reducible exact millwrightlaw12_same.mono _ _ _)
      | (with_reducible exact millwrightlaw12_shown.mono _)
      | (with_reducible exact millwrightref12_Choose.mono _ _ _ _ _ _ _)
      | (with_reducible exact victim_Choose.mono _ _ _ _ _ _ _)
      | (with_reducible exact LeO.refl _)
      | (with_reducible exact LeO.none _)
      | (with_reducible refine LeO.ite ?_ ?_)
      | (with_reducible refine LeO.bind ?_ (fun _ => ?_))
      | exact ih0 _ _ _ _ _ _ _ _ _
      | exact ih1 _ _ _ _ _ _ _ _
      | exact millwrightlaw12_same.mono _ _ _
      | exact millwrightlaw12_shown.mono _
      | exact millwrightref12_Choose.mono _ _ _ _ _ _ _
      | exact victim_Choose.mono _ _ _ _ _ _ _
      | exact LeO.none _
      | refine LeO.ite ?_ ?_
      | refine LeO.bind ?_ (fun _ => ?_)
    · intro y0 y1 y2 y3 y4 y5 y6 y7
      unfold millwrightlaw12_VictimTells.l1
      repeat' first
      | (with_reducible exact ih0 _ _ _ _ _ _ _ _ _)
      | (with_reducible exact ih1 _ _ _ _ _ _ _ _)
      | (with_reducible exact millwrightlaw12_same.mono _ _ _)
      | (with_reducible exact millwrightlaw12_shown.mono _)
      | (with_reducible exact millwrightref12_Choose.mono _ _ _ _ _ _ _)
      | (with_reducible exact victim_Choose.mono _ _ _ _ _ _ _)
      | (with_reducible exact LeO.refl _)
      | (with_reducible exact LeO.none _)
      | (with_reducible refine LeO.ite ?_ ?_)
      | (with_reducible refine LeO.bind ?_ (fun _ => ?_))
      | exact ih0 _ _ _ _ _ _ _ _ _
      | exact ih1 _ _ _ _ _ _ _ _
      | exact millwrightlaw12_same.mono _ _ _
      | exact millwrightlaw12_shown.mono _
      | exact millwrightref12_Choose.mono _ _ _ _ _ _ _
      | exact victim_Choose.mono _ _ _ _ _ _ _
      | exact LeO.none _
      | refine LeO.ite ?_ ?_
      | refine LeO.bind ?_ (fun _ => ?_)
theorem millwrightlaw12_VictimTells.mono : ∀ a0 a1 a2 a3 a4 a5 k, LeO (millwrightlaw12_VictimTells.f k a0 a1 a2 a3 a4 a5) (millwrightlaw12_VictimTells.f (k + 1) a0 a1 a2 a3 a4 a5) := by
  intro a0 a1 a2 a3 a4 a5 k
  obtain ⟨ih0, ih1⟩ := millwrightlaw12_VictimTells.mono_l k
  unfold millwrightlaw12_VictimTells.f
  repeat' first
      | (with_reducible exact ih0 _ _ _ _ _ _ _ _ _)
      | (with_reducible exact ih1 _ _ _ _ _ _ _ _)
      | (with_reducible exact millwrightlaw12_same.mono _ _ _)
      | (with_reducible exact millwrightlaw12_shown.mono _)
      | (with_reducible exact millwrightref12_Choose.mono _ _ _ _ _ _ _)
      | (with_reducible exact victim_Choose.mono _ _ _ _ _ _ _)
      | (with_reducible exact LeO.refl _)
      | (with_reducible exact LeO.none _)
      | (with_reducible refine LeO.ite ?_ ?_)
      | (with_reducible refine LeO.bind ?_ (fun _ => ?_))
      | exact ih0 _ _ _ _ _ _ _ _ _
      | exact ih1 _ _ _ _ _ _ _ _
      | exact millwrightlaw12_same.mono _ _ _
      | exact millwrightlaw12_shown.mono _
      | exact millwrightref12_Choose.mono _ _ _ _ _ _ _
      | exact victim_Choose.mono _ _ _ _ _ _ _
      | exact LeO.none _
      | refine LeO.ite ?_ ?_
      | refine LeO.bind ?_ (fun _ => ?_)
def millwrightlaw12_VictimTells.T7 : Bool × List (List Nat × List Nat) := (true, [([], []), ([], []), ([], []), ([1, 2], [1, 2]), ([3], [3]), ([4], [4]), ([], []), ([], []), ([6, 7], [6, 7]), ([8], [8]), ([9], [9]), ([], []), ([], []), ([11, 12], [11, 12]), ([13], [13]), ([14], [14]), ([], []), ([], []), ([16, 17], [16, 17]), ([18], [18]), ([19], [19]), ([], []), ([], []), ([21, 22], [21, 22]), ([23], [23]), ([24], [24]), ([5, 10, 15, 20, 25], [5, 10, 15, 20, 25]), ([26], [26]), ([0, 27], [0, 27]), ([28, 28, 0, 1, 2, 3, 4, 5, 6, 7, 8, 9, 10, 11, 12, 13, 14, 15, 16, 17, 18, 19, 20, 21, 22, 23, 24, 25, 26, 27, 28], [0, 28])])
def millwrightlaw12_VictimTells.B7 : List Nat := [0, 0, 0, 6, 14, 30, 0, 0, 192, 448, 960, 0, 0, 6144, 14336, 30720, 0, 0, 196608, 458752, 983040, 0, 0, 6291456, 14680064, 31457280, 67108862, 134217726, 268435455, 536870911]
theorem millwrightlaw12_VictimTells.tab7 : rtab .any (opsOf Try.f3 7) = millwrightlaw12_VictimTells.T7 := by kernel_rfl
theorem millwrightlaw12_VictimTells.bits7 : waitsOk millwrightlaw12_VictimTells.T7.2 millwrightlaw12_VictimTells.B7 = true := by kernel_rfl
def millwrightlaw12_VictimTells.T14 : Bool × List (List Nat × List Nat) := (true, [([], []), ([], []), ([0, 1], [0, 1]), ([2], [2]), ([], []), ([], []), ([4, 5], [4, 5]), ([6], [6]), ([3, 7], [3, 7])])
def millwrightlaw12_VictimTells.B14 : List Nat := [0, 0, 3, 7, 0, 0, 48, 112, 255]
theorem millwrightlaw12_VictimTells.tab14 : rtab .any (opsOf Try.f3 14) = millwrightlaw12_VictimTells.T14 := by kernel_rfl
theorem millwrightlaw12_VictimTells.bits14 : waitsOk millwrightlaw12_VictimTells.T14.2 millwrightlaw12_VictimTells.B14 = true := by kernel_rfl
set_option maxHeartbeats 8000000 in
set_option maxRecDepth 100000 in
theorem millwrightlaw12_VictimTells.calls (k : Nat) (A0 : Option Addr) (c0 : Nat) (l0 : List (S27)) (a1 : Int) (a2 : Int) (a3 : Int) (a4 : Int) (a5 : Int) (r : Bool) (w : World) (hr0 : Kd.C k27 w A0 l0.length l0) (hc0 : l0.length ≤ c0) (h : millwrightlaw12_VictimTells.f k l0 a1 a2 a3 a4 a5 = some r) :
    Calls Try.prog 3 #[.slice A0 l0.length c0, .int .i64 a1, .int .i64 a2, .int .i64 a3, .int .i64 a4, .int .i64 a5] w fun e w' => e = .returned (.bool r) ∧ Below w.heap.size w w' := by
  have hu28 := Try.underlying28
  have hu27 := Try.underlying27
  have HR0 := Aside0.mk hr0
  have HC0 := Aside0.mk hc0
  clear hr0 hc0
  have HB := Aside0.mk (Below.refl w.heap.size w)
  have H : ((millwrightlaw12_shown.f k).bind fun t257 => ((millwrightlaw12_few.f l0).bind fun t258 => (millwrightlaw12_VictimTells.l0 k t258 a1 a2 a3 a4 a5 t257 ([] : List (S28)) 0))) = some r := h
  clear h
  replace H := Option.bind_eq_some_iff.mp H
  obtain ⟨t257, A70, H⟩ := H
  replace H : ((millwrightlaw12_few.f l0).bind fun t258 => (millwrightlaw12_VictimTells.l0 k t258 a1 a2 a3 a4 a5 t257 ([] : List (S28)) 0)) = some r := H
  have A7 := Aside0.mk A70
  clear A70
  replace H := Option.bind_eq_some_iff.mp H
  obtain ⟨t258, A80, H⟩ := H
  replace H : (millwrightlaw12_VictimTells.l0 k t258 a1 a2 a3 a4 a5 t257 ([] : List (S28)) 0) = some r := H
  have A8 := Aside0.mk A80
  clear A80
  have H' := Aside0.mk H
  clear H
  go_enter Try.func3, Try.ntmps3
  go_wp2_with (first | ((with_reducible refine gate_callee (f := 8) rfl ?_); refine goesL_ (some 22) rfl rfl Try.func8 (by kernel_rfl) rfl #[] rfl (by (try simp only [List.map_toArray, List.map_cons, List.map_nil]); first | done | rfl | (simp only [List.length_drop, List.length_take]; rfl)) ?_; (with_reducible refine (millwrightlaw12_shown.calls k  t257 _ A7.out).mono ?_); rintro e w9 ⟨rfl, hb⟩; refine ⟨_, rfl, ?_⟩; have n0_ := Aside0.mk (below_step (by repeat (first | (with_reducible first | exact HB.out | apply below_alloc | apply pw_below_drewN | apply below_drew1) | exact HB.out)) hb); clear HB; have HB := n0_; clear n0_; (try clear hb); (try clear hb2); (try clear hk); (try clear hi)) | ((with_reducible refine gate_callee (f := 9) rfl ?_); refine goesL_ (some 24) rfl rfl Try.func9 (by kernel_rfl) rfl #[.slice A0 l0.length c0] rfl (by (try simp only [List.map_toArray, List.map_cons, List.map_nil]); first | done | rfl | (simp only [List.length_drop, List.length_take]; rfl)) ?_; (with_reducible refine (millwrightlaw12_few.calls _ _ l0 t258 _ ?side1 ?side2 A8.out).mono ?_); (case side1 => repeat (first | exact (Kd.C_below HR0.out HB.out) | (with_reducible refine Kd.C_alloc ?_ _) | (with_reducible refine Kd.C_drewN ?_ _) | (with_reducible refine Kd.C_drew ?_))); (case side2 => exact HC0.out); rintro e w10 ⟨v259, rfl, ho0, hb⟩; refine ⟨_, rfl, ?_⟩; have n0_ := Aside0.mk (Kd.R_lower ho0 (below_size (by repeat (first | (with_reducible first | exact HB.out | apply below_alloc | apply pw_below_drewN | apply below_drew1) | exact HB.out)))); have n1_ := Aside0.mk (below_step (by repeat (first | (with_reducible first | exact HB.out | apply below_alloc | apply pw_below_drewN | apply below_drew1) | exact HB.out)) hb); clear HB; have HO260 := n0_; have HB := n1_; clear n0_ n1_; (try clear hb); (try clear hb2); (try clear hk); (try clear hi); (try clear ho0)))
  go_loopg [14, 15] k (fun kq v14 v15 w' => ∃ (x14_1 : List (S28)) (x15_1 : Int), v15 = .int .i64 x15_1 ∧ Aside0 (millwrightlaw12_VictimTells.l0 kq t258 a1 a2 a3 a4 a5 t257 x14_1 x15_1 = some r) ∧ Aside0 (kq ≤ k) ∧ Aside0 (Kd.R k27 27 w' w.heap.size (fun _ => True) v259 t258) ∧ Aside0 (Kd.R k28 28 w' w.heap.size (fun _ => True) v14 x14_1) ∧ Aside0 (Below w.heap.size w w'))
  case atStart => exact ⟨(([] : List (S28))), (0), (by first | rfl | (simp; done) | (simp [*]; done)), H', ⟨Nat.le_refl _⟩, ⟨by (with_reducible repeat (first | apply Kd.R_alloc | apply Kd.R_drewN | apply Kd.R_drew)); exact HO260.out⟩, ⟨by first | exact Kd.R_nil _ _ _ _ _ | exact Kd.N_nil _ _ _ _ _ | exact Kd.V_nil _ _ _ _ _ | exact Kd.Q_nil _ _ _ _ _ | exact Kd.S_nil _ _ _ _ _⟩, ⟨by repeat (first | (with_reducible first | exact HB.out | apply below_alloc | apply pw_below_drewN | apply below_drew1) | exact HB.out)⟩⟩
  case round =>
    clear H'
    try clear p2
    try clear c3
    try clear c8
    try clear c9
    obtain ⟨x14_1, x15_1, rfl, HA, HK1, HO_0, HO_14, HB⟩ := hrel
    cases gk with
    | zero => exact absurd HA.out (by simp [millwrightlaw12_VictimTells.l0])
    | succ k1 =>
      have H := HA.out
      clear HA
      simp only [millwrightlaw12_VictimTells.l0] at H
      by_cases c11 : x15_1 < (t258.length : Int)
      · rw [if_pos c11] at H
        have c11b0 : decide (x15_1 < (t258.length : Int)) = true := decide_eq_true c11
        clear c11
        by_cases c12 : 0 ≤ x15_1
        · rw [if_pos c12] at H
          have c12b0 : decide (0 ≤ x15_1) = true := decide_eq_true c12
          clear c12
          by_cases c13 : x14_1.length < 3518437208883
          · rw [if_pos c13] at H
            have LMc13 := Aside0.mk c13
            clear c13
            obtain ⟨y266, hy266⟩ : ∃ y_ : List (S28), y_ = (x14_1 ++ [(⟨(rd_T27 t258 x15_1).f0, (rd_T27 t258 x15_1).f1, (rd_T27 t258 x15_1).f2, (rd_T27 t258 x15_1).f3, (rd_T27 t258 x15_1).f4⟩ : S28)]) := ⟨_, rfl⟩
            replace H : (millwrightlaw12_VictimTells.l0 k1 t258 a1 a2 a3 a4 a5 t257 y266 (wrap64 (x15_1 + 1))) = some r := by first | (rw [hy266]; with_reducible exact H) | (have H2_ := (Option.bind_some _ _).symm.trans H; rw [hy266]; with_reducible exact H2_) | (have H2_ := (Option.bind_some _ _).symm.trans H; with_reducible exact H2_) | with_reducible exact H | (rw [hy266]; exact H) | exact H
            have Ny266 := Aside0.mk hy266
            clear hy266
            have H' := Aside0.mk H
            clear H
            obtain ⟨Ao14, co14, eo14⟩ := Kd.R_slice HO_0.out
            subst eo14
            try go_wp2
            have n0_ := Aside0.mk (Kd.R_drew HO_0.out)
            have n1_ := Aside0.mk (Kd.R_drew HO_14.out)
            have n2_ := Aside0.mk (below_drew1 HB.out)
            clear HO_0
            clear HO_14
            clear HB
            have HO_0 := n0_
            have HO_14 := n1_
            have HB := n2_
            clear n0_ n1_ n2_
            have p261 : 0 ≤ (x15_1 : Int) := of_decide_eq_true (by first | (with_reducible assumption) | assumption)
            have q261 : x15_1 < (t258.length : Int) := of_decide_eq_true (by first | (with_reducible assumption) | assumption)
            obtain ⟨ad261, e261, hx261_0, hx261_1, hx261_2, hx261_3, hx261_4⟩ := at_T27 (Kd.R_reads' HO_0.out).2.2 x15_1 p261 q261
            cases e261
            replace p261 := eq_true p261
            replace q261 := eq_true q261
            have p262 : 0 ≤ (x15_1 : Int) := of_decide_eq_true (by first | (with_reducible assumption) | assumption)
            have q262 : x15_1 < (t258.length : Int) := of_decide_eq_true (by first | (with_reducible assumption) | assumption)
            obtain ⟨ad262, e262, hx262_0, hx262_1, hx262_2, hx262_3, hx262_4⟩ := at_T27 (Kd.R_reads' HO_0.out).2.2 x15_1 p262 q262
            obtain rfl : ad261 = ad262 := (by injection e262)
            replace p262 := eq_true p262
            replace q262 := eq_true q262
            have p263 : 0 ≤ (x15_1 : Int) := of_decide_eq_true (by first | (with_reducible assumption) | assumption)
            have q263 : x15_1 < (t258.length : Int) := of_decide_eq_true (by first | (with_reducible assumption) | assumption)
            obtain ⟨ad263, e263, hx263_0, hx263_1, hx263_2, hx263_3, hx263_4⟩ := at_T27 (Kd.R_reads' HO_0.out).2.2 x15_1 p263 q263
            obtain rfl : ad261 = ad263 := (by injection e263)
            replace p263 := eq_true p263
            replace q263 := eq_true q263
            have p264 : 0 ≤ (x15_1 : Int) := of_decide_eq_true (by first | (with_reducible assumption) | assumption)
            have q264 : x15_1 < (t258.length : Int) := of_decide_eq_true (by first | (with_reducible assumption) | assumption)
            obtain ⟨ad264, e264, hx264_0, hx264_1, hx264_2, hx264_3, hx264_4⟩ := at_T27 (Kd.R_reads' HO_0.out).2.2 x15_1 p264 q264
            obtain rfl : ad261 = ad264 := (by injection e264)
            replace p264 := eq_true p264
            replace q264 := eq_true q264
            have p265 : 0 ≤ (x15_1 : Int) := of_decide_eq_true (by first | (with_reducible assumption) | assumption)
            have q265 : x15_1 < (t258.length : Int) := of_decide_eq_true (by first | (with_reducible assumption) | assumption)
            obtain ⟨ad265, e265, hx265_0, hx265_1, hx265_2, hx265_3, hx265_4⟩ := at_T27 (Kd.R_reads' HO_0.out).2.2 x15_1 p265 q265
            obtain rfl : ad261 = ad265 := (by injection e265)
            replace p265 := eq_true p265
            replace q265 := eq_true q265
            refine start_ (n := 30) (S := fun w' => w'.cell? (ad261.add ((x15_1).toNat * 5)) = some (.int .i64 ((rd_T27 t258 x15_1).f0)) ∧ w'.cell? ⟨(ad261.add ((x15_1).toNat * 5)).block, (ad261.add ((x15_1).toNat * 5)).off + 1, none⟩ = some (.int .i64 ((rd_T27 t258 x15_1).f1)) ∧ w'.cell? ⟨(ad261.add ((x15_1).toNat * 5)).block, (ad261.add ((x15_1).toNat * 5)).off + 2, none⟩ = some (.int .i64 ((rd_T27 t258 x15_1).f2)) ∧ w'.cell? ⟨(ad261.add ((x15_1).toNat * 5)).block, (ad261.add ((x15_1).toNat * 5)).off + 3, none⟩ = some (.int .i64 ((rd_T27 t258 x15_1).f3)) ∧ w'.cell? ⟨(ad261.add ((x15_1).toNat * 5)).block, (ad261.add ((x15_1).toNat * 5)).off + 4, none⟩ = some (.int .i64 ((rd_T27 t258 x15_1).f4)) ∧ w'.cell? (ad261.add ((x15_1).toNat * 5)) = some (.int .i64 ((rd_T27 t258 x15_1).f0)) ∧ w'.cell? ⟨(ad261.add ((x15_1).toNat * 5)).block, (ad261.add ((x15_1).toNat * 5)).off + 1, none⟩ = some (.int .i64 ((rd_T27 t258 x15_1).f1)) ∧ w'.cell? ⟨(ad261.add ((x15_1).toNat * 5)).block, (ad261.add ((x15_1).toNat * 5)).off + 2, none⟩ = some (.int .i64 ((rd_T27 t258 x15_1).f2)) ∧ w'.cell? ⟨(ad261.add ((x15_1).toNat * 5)).block, (ad261.add ((x15_1).toNat * 5)).off + 3, none⟩ = some (.int .i64 ((rd_T27 t258 x15_1).f3)) ∧ w'.cell? ⟨(ad261.add ((x15_1).toNat * 5)).block, (ad261.add ((x15_1).toNat * 5)).off + 4, none⟩ = some (.int .i64 ((rd_T27 t258 x15_1).f4)) ∧ w'.cell? (ad261.add ((x15_1).toNat * 5)) = some (.int .i64 ((rd_T27 t258 x15_1).f0)) ∧ w'.cell? ⟨(ad261.add ((x15_1).toNat * 5)).block, (ad261.add ((x15_1).toNat * 5)).off + 1, none⟩ = some (.int .i64 ((rd_T27 t258 x15_1).f1)) ∧ w'.cell? ⟨(ad261.add ((x15_1).toNat * 5)).block, (ad261.add ((x15_1).toNat * 5)).off + 2, none⟩ = some (.int .i64 ((rd_T27 t258 x15_1).f2)) ∧ w'.cell? ⟨(ad261.add ((x15_1).toNat * 5)).block, (ad261.add ((x15_1).toNat * 5)).off + 3, none⟩ = some (.int .i64 ((rd_T27 t258 x15_1).f3)) ∧ w'.cell? ⟨(ad261.add ((x15_1).toNat * 5)).block, (ad261.add ((x15_1).toNat * 5)).off + 4, none⟩ = some (.int .i64 ((rd_T27 t258 x15_1).f4)) ∧ w'.cell? (ad261.add ((x15_1).toNat * 5)) = some (.int .i64 ((rd_T27 t258 x15_1).f0)) ∧ w'.cell? ⟨(ad261.add ((x15_1).toNat * 5)).block, (ad261.add ((x15_1).toNat * 5)).off + 1, none⟩ = some (.int .i64 ((rd_T27 t258 x15_1).f1)) ∧ w'.cell? ⟨(ad261.add ((x15_1).toNat * 5)).block, (ad261.add ((x15_1).toNat * 5)).off + 2, none⟩ = some (.int .i64 ((rd_T27 t258 x15_1).f2)) ∧ w'.cell? ⟨(ad261.add ((x15_1).toNat * 5)).block, (ad261.add ((x15_1).toNat * 5)).off + 3, none⟩ = some (.int .i64 ((rd_T27 t258 x15_1).f3)) ∧ w'.cell? ⟨(ad261.add ((x15_1).toNat * 5)).block, (ad261.add ((x15_1).toNat * 5)).off + 4, none⟩ = some (.int .i64 ((rd_T27 t258 x15_1).f4)) ∧ w'.cell? (ad261.add ((x15_1).toNat * 5)) = some (.int .i64 ((rd_T27 t258 x15_1).f0)) ∧ w'.cell? ⟨(ad261.add ((x15_1).toNat * 5)).block, (ad261.add ((x15_1).toNat * 5)).off + 1, none⟩ = some (.int .i64 ((rd_T27 t258 x15_1).f1)) ∧ w'.cell? ⟨(ad261.add ((x15_1).toNat * 5)).block, (ad261.add ((x15_1).toNat * 5)).off + 2, none⟩ = some (.int .i64 ((rd_T27 t258 x15_1).f2)) ∧ w'.cell? ⟨(ad261.add ((x15_1).toNat * 5)).block, (ad261.add ((x15_1).toNat * 5)).off + 3, none⟩ = some (.int .i64 ((rd_T27 t258 x15_1).f3)) ∧ w'.cell? ⟨(ad261.add ((x15_1).toNat * 5)).block, (ad261.add ((x15_1).toNat * 5)).off + 4, none⟩ = some (.int .i64 ((rd_T27 t258 x15_1).f4))) (ds := [27, 28]) #[false, false, false, false, false, false, false, false, false, false, false, false, false, false, false, false, false, false, false, false, false, false, false, false, false, false, false, false, false, false] (by kernel_rfl) rfl rfl ⟨hx261_0, hx261_1, hx261_2, hx261_3, hx261_4, hx262_0, hx262_1, hx262_2, hx262_3, hx262_4, hx263_0, hx263_1, hx263_2, hx263_3, hx263_4, hx264_0, hx264_1, hx264_2, hx264_3, hx264_4, hx265_0, hx265_1, hx265_2, hx265_3, hx265_4⟩ (fun hHeld => ?_); refine with_tabW millwrightlaw12_VictimTells.tab7 millwrightlaw12_VictimTells.bits7 (fun HT_ HW_ => ?_)
            generalize wr.drew = w15 at HO_0 HO_14 HB hx261_0 hx261_1 hx261_2 hx261_3 hx261_4 hx262_0 hx262_1 hx262_2 hx262_3 hx262_4 hx263_0 hx263_1 hx263_2 hx263_3 hx263_4 hx264_0 hx264_1 hx264_2 hx264_3 hx264_4 hx265_0 hx265_1 hx265_2 hx265_3 hx265_4 hHeld ⊢
            refine pure_ (i := 0) (N := some 31) (v := ?_) (a' := ?_) #[true, false, false, false, false, false, false, false, false, false, false, false, false, false, false, false, false, false, false, false, false, false, false, false, false, false, false, false, false, false] rfl rfl (any_of HT_.out (by kernel_rfl)) (fun _ _ _ h => h) (Or.inl ⟨by rfl, ?_⟩) ?_ ?_
            rotate_left
            · intro w'
              go_simp
              with_reducible rfl
            rotate_left
            · simp only [Act.put, List.setIfInBounds_toArray, List.set_cons_zero, List.set_cons_succ, i64_w, i32_w]
              rfl
            refine pure_ (i := 1) (N := some 32) (v := ?_) (a' := ?_) #[true, true, false, false, false, false, false, false, false, false, false, false, false, false, false, false, false, false, false, false, false, false, false, false, false, false, false, false, false, false] rfl rfl (any_of HT_.out (by kernel_rfl)) (fun _ _ _ h => h) (Or.inl ⟨by rfl, ?_⟩) ?_ ?_
            rotate_left
            · intro w'
              go_simp
              with_reducible rfl
            rotate_left
            · simp only [Act.put, List.setIfInBounds_toArray, List.set_cons_zero, List.set_cons_succ, i64_w, i32_w]
              rfl
            refine pure_ (i := 2) (N := some 33) (v := ?_) (a' := ?_) #[true, true, true, false, false, false, false, false, false, false, false, false, false, false, false, false, false, false, false, false, false, false, false, false, false, false, false, false, false, false] rfl rfl (any_of HT_.out (by kernel_rfl)) (fun _ _ _ h => h) (Or.inl ⟨by rfl, ?_⟩) ?_ ?_
            rotate_left
            · intro w'
              go_simp
              with_reducible rfl
            rotate_left
            · simp only [Act.put, List.setIfInBounds_toArray, List.set_cons_zero, List.set_cons_succ, i64_w, i32_w]
              rfl
            refine pure_ (i := 3) (N := some 34) (v := ?_) (a' := ?_) #[true, true, true, true, false, false, false, false, false, false, false, false, false, false, false, false, false, false, false, false, false, false, false, false, false, false, false, false, false, false] rfl rfl (any_of HT_.out (by kernel_rfl)) (fun _ _ _ h => h) (Or.inl ⟨by rfl, ?_⟩) ?_ ?_
            rotate_left
            · intro w'
              go_simp
              with_reducible rfl
            rotate_left
            · simp only [Act.put, List.setIfInBounds_toArray, List.set_cons_zero, List.set_cons_succ, i64_w, i32_w]
              rfl
            refine pure_ (i := 4) (N := some 35) (v := ?_) (a' := ?_) #[true, true, true, true, true, false, false, false, false, false, false, false, false, false, false, false, false, false, false, false, false, false, false, false, false, false, false, false, false, false] rfl rfl (any_of HT_.out (by kernel_rfl)) (fun _ _ _ h => h) (Or.inl ⟨by rfl, ?_⟩) ?_ ?_
            rotate_left
            · intro w'
              go_simp
              with_reducible rfl
            rotate_left
            · simp only [Act.put, List.setIfInBounds_toArray, List.set_cons_zero, List.set_cons_succ, i64_w, i32_w]
              rfl
            refine pure_ (i := 6) (N := some 37) (v := ?_) (a' := ?_) #[true, true, true, true, true, false, true, false, false, false, false, false, false, false, false, false, false, false, false, false, false, false, false, false, false, false, false, false, false, false] rfl rfl (any_of HT_.out (by kernel_rfl)) (fun _ _ _ h => h) (Or.inl ⟨by rfl, ?_⟩) ?_ ?_
            rotate_left
            · intro w'
              go_simp
              with_reducible rfl
            rotate_left
            · simp only [Act.put, List.setIfInBounds_toArray, List.set_cons_zero, List.set_cons_succ, i64_w, i32_w]
              rfl
            refine pure_ (i := 7) (N := some 38) (v := ?_) (a' := ?_) #[true, true, true, true, true, false, true, true, false, false, false, false, false, false, false, false, false, false, false, false, false, false, false, false, false, false, false, false, false, false] rfl rfl (any_of HT_.out (by kernel_rfl)) (fun _ _ _ h => h) (Or.inl ⟨by rfl, ?_⟩) ?_ ?_
            rotate_left
            · intro w'
              go_simp
              with_reducible rfl
            rotate_left
            · simp only [Act.put, List.setIfInBounds_toArray, List.set_cons_zero, List.set_cons_succ, i64_w, i32_w]
              rfl
            refine pure_ (i := 8) (N := some 39) (v := ?_) (a' := ?_) #[true, true, true, true, true, false, true, true, true, false, false, false, false, false, false, false, false, false, false, false, false, false, false, false, false, false, false, false, false, false] rfl rfl (any_of HT_.out (by kernel_rfl)) (fun _ _ _ h => h) (Or.inl ⟨by rfl, ?_⟩) ?_ ?_
            rotate_left
            · intro w'
              go_simp
              with_reducible rfl
            rotate_left
            · simp only [Act.put, List.setIfInBounds_toArray, List.set_cons_zero, List.set_cons_succ, i64_w, i32_w]
              rfl
            refine pure_ (i := 9) (N := some 40) (v := ?_) (a' := ?_) #[true, true, true, true, true, false, true, true, true, true, false, false, false, false, false, false, false, false, false, false, false, false, false, false, false, false, false, false, false, false] rfl rfl (any_of HT_.out (by kernel_rfl)) (fun _ _ _ h => h) (Or.inl ⟨by rfl, ?_⟩) ?_ ?_
            rotate_left
            · intro w'
              go_simp
              with_reducible rfl
            rotate_left
            · simp only [Act.put, List.setIfInBounds_toArray, List.set_cons_zero, List.set_cons_succ, i64_w, i32_w]
              rfl
            refine pure_ (i := 11) (N := some 42) (v := ?_) (a' := ?_) #[true, true, true, true, true, false, true, true, true, true, false, true, false, false, false, false, false, false, false, false, false, false, false, false, false, false, false, false, false, false] rfl rfl (any_of HT_.out (by kernel_rfl)) (fun _ _ _ h => h) (Or.inl ⟨by rfl, ?_⟩) ?_ ?_
            rotate_left
            · intro w'
              go_simp
              with_reducible rfl
            rotate_left
            · simp only [Act.put, List.setIfInBounds_toArray, List.set_cons_zero, List.set_cons_succ, i64_w, i32_w]
              rfl
            refine pure_ (i := 12) (N := some 43) (v := ?_) (a' := ?_) #[true, true, true, true, true, false, true, true, true, true, false, true, true, false, false, false, false, false, false, false, false, false, false, false, false, false, false, false, false, false] rfl rfl (any_of HT_.out (by kernel_rfl)) (fun _ _ _ h => h) (Or.inl ⟨by rfl, ?_⟩) ?_ ?_
            rotate_left
            · intro w'
              go_simp
              with_reducible rfl
            rotate_left
            · simp only [Act.put, List.setIfInBounds_toArray, List.set_cons_zero, List.set_cons_succ, i64_w, i32_w]
              rfl
            refine pure_ (i := 13) (N := some 44) (v := ?_) (a' := ?_) #[true, true, true, true, true, false, true, true, true, true, false, true, true, true, false, false, false, false, false, false, false, false, false, false, false, false, false, false, false, false] rfl rfl (any_of HT_.out (by kernel_rfl)) (fun _ _ _ h => h) (Or.inl ⟨by rfl, ?_⟩) ?_ ?_
            rotate_left
            · intro w'
              go_simp
              with_reducible rfl
            rotate_left
            · simp only [Act.put, List.setIfInBounds_toArray, List.set_cons_zero, List.set_cons_succ, i64_w, i32_w]
              rfl
            refine pure_ (i := 14) (N := some 45) (v := ?_) (a' := ?_) #[true, true, true, true, true, false, true, true, true, true, false, true, true, true, true, false, false, false, false, false, false, false, false, false, false, false, false, false, false, false] rfl rfl (any_of HT_.out (by kernel_rfl)) (fun _ _ _ h => h) (Or.inl ⟨by rfl, ?_⟩) ?_ ?_
            rotate_left
            · intro w'
              go_simp
              with_reducible rfl
            rotate_left
            · simp only [Act.put, List.setIfInBounds_toArray, List.set_cons_zero, List.set_cons_succ, i64_w, i32_w]
              rfl
            refine pure_ (i := 16) (N := some 47) (v := ?_) (a' := ?_) #[true, true, true, true, true, false, true, true, true, true, false, true, true, true, true, false, true, false, false, false, false, false, false, false, false, false, false, false, false, false] rfl rfl (any_of HT_.out (by kernel_rfl)) (fun _ _ _ h => h) (Or.inl ⟨by rfl, ?_⟩) ?_ ?_
            rotate_left
            · intro w'
              go_simp
              with_reducible rfl
            rotate_left
            · simp only [Act.put, List.setIfInBounds_toArray, List.set_cons_zero, List.set_cons_succ, i64_w, i32_w]
              rfl
            refine pure_ (i := 17) (N := some 48) (v := ?_) (a' := ?_) #[true, true, true, true, true, false, true, true, true, true, false, true, true, true, true, false, true, true, false, false, false, false, false, false, false, false, false, false, false, false] rfl rfl (any_of HT_.out (by kernel_rfl)) (fun _ _ _ h => h) (Or.inl ⟨by rfl, ?_⟩) ?_ ?_
            rotate_left
            · intro w'
              go_simp
              with_reducible rfl
            rotate_left
            · simp only [Act.put, List.setIfInBounds_toArray, List.set_cons_zero, List.set_cons_succ, i64_w, i32_w]
              rfl
            refine pure_ (i := 18) (N := some 49) (v := ?_) (a' := ?_) #[true, true, true, true, true, false, true, true, true, true, false, true, true, true, true, false, true, true, true, false, false, false, false, false, false, false, false, false, false, false] rfl rfl (any_of HT_.out (by kernel_rfl)) (fun _ _ _ h => h) (Or.inl ⟨by rfl, ?_⟩) ?_ ?_
            rotate_left
            · intro w'
              go_simp
              with_reducible rfl
            rotate_left
            · simp only [Act.put, List.setIfInBounds_toArray, List.set_cons_zero, List.set_cons_succ, i64_w, i32_w]
              rfl
            refine pure_ (i := 19) (N := some 50) (v := ?_) (a' := ?_) #[true, true, true, true, true, false, true, true, true, true, false, true, true, true, true, false, true, true, true, true, false, false, false, false, false, false, false, false, false, false] rfl rfl (any_of HT_.out (by kernel_rfl)) (fun _ _ _ h => h) (Or.inl ⟨by rfl, ?_⟩) ?_ ?_
            rotate_left
            · intro w'
              go_simp
              with_reducible rfl
            rotate_left
            · simp only [Act.put, List.setIfInBounds_toArray, List.set_cons_zero, List.set_cons_succ, i64_w, i32_w]
              rfl
            refine pure_ (i := 21) (N := some 52) (v := ?_) (a' := ?_) #[true, true, true, true, true, false, true, true, true, true, false, true, true, true, true, false, true, true, true, true, false, true, false, false, false, false, false, false, false, false] rfl rfl (any_of HT_.out (by kernel_rfl)) (fun _ _ _ h => h) (Or.inl ⟨by rfl, ?_⟩) ?_ ?_
            rotate_left
            · intro w'
              go_simp
              with_reducible rfl
            rotate_left
            · simp only [Act.put, List.setIfInBounds_toArray, List.set_cons_zero, List.set_cons_succ, i64_w, i32_w]
              rfl
            refine pure_ (i := 22) (N := some 53) (v := ?_) (a' := ?_) #[true, true, true, true, true, false, true, true, true, true, false, true, true, true, true, false, true, true, true, true, false, true, true, false, false, false, false, false, false, false] rfl rfl (any_of HT_.out (by kernel_rfl)) (fun _ _ _ h => h) (Or.inl ⟨by rfl, ?_⟩) ?_ ?_
            rotate_left
            · intro w'
              go_simp
              with_reducible rfl
            rotate_left
            · simp only [Act.put, List.setIfInBounds_toArray, List.set_cons_zero, List.set_cons_succ, i64_w, i32_w]
              rfl
            refine pure_ (i := 23) (N := some 54) (v := ?_) (a' := ?_) #[true, true, true, true, true, false, true, true, true, true, false, true, true, true, true, false, true, true, true, true, false, true, true, true, false, false, false, false, false, false] rfl rfl (any_of HT_.out (by kernel_rfl)) (fun _ _ _ h => h) (Or.inl ⟨by rfl, ?_⟩) ?_ ?_
            rotate_left
            · intro w'
              go_simp
              with_reducible rfl
            rotate_left
            · simp only [Act.put, List.setIfInBounds_toArray, List.set_cons_zero, List.set_cons_succ, i64_w, i32_w]
              rfl
            refine pure_ (i := 24) (N := some 55) (v := ?_) (a' := ?_) #[true, true, true, true, true, false, true, true, true, true, false, true, true, true, true, false, true, true, true, true, false, true, true, true, true, false, false, false, false, false] rfl rfl (any_of HT_.out (by kernel_rfl)) (fun _ _ _ h => h) (Or.inl ⟨by rfl, ?_⟩) ?_ ?_
            rotate_left
            · intro w'
              go_simp
              with_reducible rfl
            rotate_left
            · simp only [Act.put, List.setIfInBounds_toArray, List.set_cons_zero, List.set_cons_succ, i64_w, i32_w]
              rfl
            refine take_ (i := 5) (N := some 36) (v := ?_) (a' := ?_) #[true, true, true, true, true, true, true, true, true, true, false, true, true, true, true, false, true, true, true, true, false, true, true, true, true, false, false, false, false, false] rfl rfl (take_ofW HT_.out HW_.out (by kernel_rfl)) (fun _ _ _ h => h) (Or.inl ⟨by rfl, ?_⟩) hHeld ?_ ?_
            rotate_left
            · rintro w' ⟨s0, s1, s2, s3, s4, s5, s6, s7, s8, s9, s10, s11, s12, s13, s14, s15, s16, s17, s18, s19, s20, s21, s22, s23, s24⟩
              go_simp
              with_reducible rfl
            rotate_left
            · simp only [Act.put, List.setIfInBounds_toArray, List.set_cons_zero, List.set_cons_succ, i64_w, i32_w]
              rfl
            refine take_ (i := 10) (N := some 41) (v := ?_) (a' := ?_) #[true, true, true, true, true, true, true, true, true, true, true, true, true, true, true, false, true, true, true, true, false, true, true, true, true, false, false, false, false, false] rfl rfl (take_ofW HT_.out HW_.out (by kernel_rfl)) (fun _ _ _ h => h) (Or.inl ⟨by rfl, ?_⟩) hHeld ?_ ?_
            rotate_left
            · rintro w' ⟨s0, s1, s2, s3, s4, s5, s6, s7, s8, s9, s10, s11, s12, s13, s14, s15, s16, s17, s18, s19, s20, s21, s22, s23, s24⟩
              go_simp
              with_reducible rfl
            rotate_left
            · simp only [Act.put, List.setIfInBounds_toArray, List.set_cons_zero, List.set_cons_succ, i64_w, i32_w]
              rfl
            refine take_ (i := 15) (N := some 46) (v := ?_) (a' := ?_) #[true, true, true, true, true, true, true, true, true, true, true, true, true, true, true, true, true, true, true, true, false, true, true, true, true, false, false, false, false, false] rfl rfl (take_ofW HT_.out HW_.out (by kernel_rfl)) (fun _ _ _ h => h) (Or.inl ⟨by rfl, ?_⟩) hHeld ?_ ?_
            rotate_left
            · rintro w' ⟨s0, s1, s2, s3, s4, s5, s6, s7, s8, s9, s10, s11, s12, s13, s14, s15, s16, s17, s18, s19, s20, s21, s22, s23, s24⟩
              go_simp
              with_reducible rfl
            rotate_left
            · simp only [Act.put, List.setIfInBounds_toArray, List.set_cons_zero, List.set_cons_succ, i64_w, i32_w]
              rfl
            refine take_ (i := 20) (N := some 51) (v := ?_) (a' := ?_) #[true, true, true, true, true, true, true, true, true, true, true, true, true, true, true, true, true, true, true, true, true, true, true, true, true, false, false, false, false, false] rfl rfl (take_ofW HT_.out HW_.out (by kernel_rfl)) (fun _ _ _ h => h) (Or.inl ⟨by rfl, ?_⟩) hHeld ?_ ?_
            rotate_left
            · rintro w' ⟨s0, s1, s2, s3, s4, s5, s6, s7, s8, s9, s10, s11, s12, s13, s14, s15, s16, s17, s18, s19, s20, s21, s22, s23, s24⟩
              go_simp
              with_reducible rfl
            rotate_left
            · simp only [Act.put, List.setIfInBounds_toArray, List.set_cons_zero, List.set_cons_succ, i64_w, i32_w]
              rfl
            refine take_ (i := 25) (N := some 56) (v := ?_) (a' := ?_) #[true, true, true, true, true, true, true, true, true, true, true, true, true, true, true, true, true, true, true, true, true, true, true, true, true, true, false, false, false, false] rfl rfl (take_ofW HT_.out HW_.out (by kernel_rfl)) (fun _ _ _ h => h) (Or.inl ⟨by rfl, ?_⟩) hHeld ?_ ?_
            rotate_left
            · rintro w' ⟨s0, s1, s2, s3, s4, s5, s6, s7, s8, s9, s10, s11, s12, s13, s14, s15, s16, s17, s18, s19, s20, s21, s22, s23, s24⟩
              go_simp
              with_reducible rfl
            rotate_left
            · simp only [Act.put, List.setIfInBounds_toArray, List.set_cons_zero, List.set_cons_succ, i64_w, i32_w]
              rfl
            refine pure_ (i := 26) (N := some 57) (v := ?_) (a' := ?_) #[true, true, true, true, true, true, true, true, true, true, true, true, true, true, true, true, true, true, true, true, true, true, true, true, true, true, true, false, false, false] rfl rfl (any_of HT_.out (by kernel_rfl)) (fun _ _ _ h => h) (Or.inl ⟨by rfl, ?_⟩) ?_ ?_
            rotate_left
            · intro w'
              go_simp
              with_reducible rfl
            rotate_left
            · simp only [Act.put, List.setIfInBounds_toArray, List.set_cons_zero, List.set_cons_succ, i64_w, i32_w]
              rfl
            refine last_ (i := 27) (N := some 58) #[true, true, true, true, true, true, true, true, true, true, true, true, true, true, true, true, true, true, true, true, true, true, true, true, true, true, true, true, false, false] rfl rfl (one_of HT_.out (by kernel_rfl)) (by decide) (fun K hK => ?_)
            refine value_ (w1 := ?_) (v := ?_) (by rfl) rfl ?_ ?_
            rotate_left 2
            · go_simp
              constructor
              · rfl
              · rfl
            refine hK.out _ _ ?_
            clear hK K
            refine norm_ (a' := ?_) ?_ ?_
            rotate_left
            · show Act.put _ (some 58) _ = _
              simp only [Act.put, List.setIfInBounds_toArray, List.set_cons_zero, List.set_cons_succ, i64_w, i32_w]
              rfl
            refine last_ (i := 28) (N := some 59) #[true, true, true, true, true, true, true, true, true, true, true, true, true, true, true, true, true, true, true, true, true, true, true, true, true, true, true, true, true, false] rfl rfl (one_of HT_.out (by kernel_rfl)) (by decide) (fun K hK => ?_)
            refine Kd.R_append_step k28 (w0 := w) w.heap.size (by rfl) (.tmp 31) (.tmp 58) 25 28 (.agg #[(.int .i64 0), (.int .i64 0), (.int .i64 0), (.int .i64 0), (.int .i64 0)]) 40 rfl Try.underlying25 info28 rfl (by decide) (by omega) u14 x14_1 (⟨(rd_T27 t258 x15_1).f0, (rd_T27 t258 x15_1).f1, (rd_T27 t258 x15_1).f2, (rd_T27 t258 x15_1).f3, (rd_T27 t258 x15_1).f4⟩ : S28) [.int .i64 ((rd_T27 t258 x15_1).f0), .int .i64 ((rd_T27 t258 x15_1).f1), .int .i64 ((rd_T27 t258 x15_1).f2), .int .i64 ((rd_T27 t258 x15_1).f3), .int .i64 ((rd_T27 t258 x15_1).f4)] (fun _ => True) (fun _ => False) rfl rfl ?aP (fun _ hk => hk.elim) ?aF ?aO ?aB ?aS ?aL ?_
            (case aP => exact k28_mkM _ _ _ (⟨(rd_T27 t258 x15_1).f0, (rd_T27 t258 x15_1).f1, (rd_T27 t258 x15_1).f2, (rd_T27 t258 x15_1).f3, (rd_T27 t258 x15_1).f4⟩ : S28))
            (case aB => exact (by repeat (first | (with_reducible first | exact HB.out | apply below_alloc | apply pw_below_drewN | apply below_drew1) | exact HB.out)))
            (case aF => exact (fun _ _ => trivial))
            (case aO => exact (by (with_reducible repeat (first | apply Kd.R_alloc | apply Kd.R_drewN | apply Kd.R_drew)); exact HO_14.out))
            (case aS => exact (below_size (by repeat (first | (with_reducible first | exact HB.out | apply below_alloc | apply pw_below_drewN | apply below_drew1) | exact HB.out))))
            (case aL => have := LMc13.out; omega)
            intro v267 w16 ho hb hg hat
            rw [← Ny266.out] at ho
            have n0_ := Aside0.mk (Kd.R_over' (by (with_reducible repeat (first | apply Kd.R_alloc | apply Kd.R_drewN | apply Kd.R_drew)); exact HO_0.out) (Kd.R_typed (by (with_reducible repeat (first | apply Kd.R_alloc | apply Kd.R_drewN | apply Kd.R_drew)); exact HO_14.out)) (by decide) hg)
            have n1_ := Aside0.mk (hb)
            have n2_ := Aside0.mk (ho)
            clear HO_0
            clear HB
            clear HO_14
            have HO_0 := n0_
            have HB := n1_
            have HO268 := n2_
            clear n0_ n1_ n2_
            clear ho hb hg hat
            refine hK.out _ _ ?_
            clear hK K
            refine norm_ (a' := ?_) ?_ ?_
            rotate_left
            · show Act.put _ (some 59) _ = _
              simp only [Act.put, List.setIfInBounds_toArray, List.set_cons_zero, List.set_cons_succ, i64_w, i32_w]
              rfl
            refine pure_ (i := 29) (N := some 14) (v := ?_) (a' := ?_) #[true, true, true, true, true, true, true, true, true, true, true, true, true, true, true, true, true, true, true, true, true, true, true, true, true, true, true, true, true, true] rfl rfl (any_of HT_.out (by kernel_rfl)) (fun _ _ _ h => h) (Or.inl ⟨by rfl, ?_⟩) ?_ ?_
            rotate_left
            · intro w'
              go_simp
              with_reducible rfl
            rotate_left
            · simp only [Act.put, List.setIfInBounds_toArray, List.set_cons_zero, List.set_cons_succ, i64_w, i32_w]
              rfl
            refine done_ (done_of HT_.out (by kernel_rfl)) ?_
            try go_wp2
            go_roundg k1
            case measure => have := HK1.out; omega
            case rel => exact ⟨(y266), (wrap64 (x15_1 + 1)), (by first | rfl | (simp; done) | (simp [*]; done)), H', ⟨by have := HK1.out; omega⟩, ⟨by (with_reducible repeat (first | apply Kd.R_alloc | apply Kd.R_drewN | apply Kd.R_drew)); exact HO_0.out⟩, ⟨by (with_reducible repeat (first | apply Kd.R_alloc | apply Kd.R_drewN | apply Kd.R_drew)); exact HO268.out⟩, ⟨by repeat (first | (with_reducible first | exact HB.out | apply below_alloc | apply pw_below_drewN | apply below_drew1) | exact HB.out)⟩⟩
          · rw [if_neg c13] at H
            exact absurd H (by simp)
        · rw [if_neg c12] at H
          exact absurd H (by simp)
      · rw [if_neg c11] at H
        have c11b0 : decide (x15_1 < (t258.length : Int)) = false := decide_eq_false c11
        clear c11
        replace H := Option.bind_eq_some_iff.mp H
        obtain ⟨t269, A170, H⟩ := H
        replace H : ((victim_Choose.f k1 t258 a1 a2 a3 a4 a5).bind fun bt272 => ((millwrightref12_Choose.f k1 x14_1 a1 a2 a3 a4 a5).bind fun bt276 => (millwrightlaw12_VictimTells.l1 k1 t258 t257 t269 bt272.1 bt272.2 bt276.1 bt276.2 0))) = some r := H
        have A17 := Aside0.mk A170
        clear A170
        replace H := Option.bind_eq_some_iff.mp H
        obtain ⟨⟨t272, t273⟩, A180, H⟩ := H
        replace H : ((millwrightref12_Choose.f k1 x14_1 a1 a2 a3 a4 a5).bind fun bt276 => (millwrightlaw12_VictimTells.l1 k1 t258 t257 t269 t272 t273 bt276.1 bt276.2 0)) = some r := H
        have A18 := Aside0.mk A180
        clear A180
        replace H := Option.bind_eq_some_iff.mp H
        obtain ⟨⟨t276, t277⟩, A190, H⟩ := H
        replace H : (millwrightlaw12_VictimTells.l1 k1 t258 t257 t269 t272 t273 t276 t277 0) = some r := H
        have A19 := Aside0.mk A190
        clear A190
        have H' := Aside0.mk H
        clear H
        obtain ⟨Ao20, co20, eo20⟩ := Kd.R_slice HO_0.out
        subst eo20
        go_wp2_with (first | ((with_reducible refine gate_callee (f := 9) rfl ?_); refine goesL_ (some 61) rfl rfl Try.func9 (by kernel_rfl) rfl #[.slice Ao20 t258.length co20] rfl (by (try simp only [List.map_toArray, List.map_cons, List.map_nil]); first | done | rfl | (simp only [List.length_drop, List.length_take]; rfl)) ?_; (with_reducible refine (millwrightlaw12_few.calls _ _ t258 t269 _ ?side1 ?side2 A17.out).mono ?_); (case side1 => repeat (first | exact (Kd.R_reads' HO_0.out).2.2 | (with_reducible refine Kd.C_alloc ?_ _) | (with_reducible refine Kd.C_drewN ?_ _) | (with_reducible refine Kd.C_drew ?_))); (case side2 => exact (Kd.R_reads' HO_0.out).2.1); rintro e w21 ⟨v270, rfl, ho0, hb⟩; refine ⟨_, rfl, ?_⟩; have n0_ := Aside0.mk (Kd.R_elder' (by (with_reducible repeat (first | apply Kd.R_alloc | apply Kd.R_drewN | apply Kd.R_drew)); exact HO_0.out) (Kd.R_base ho0) hb); have n1_ := Aside0.mk (Kd.R_below (by (with_reducible repeat (first | apply Kd.R_alloc | apply Kd.R_drewN | apply Kd.R_drew)); exact HO_14.out) hb); have n2_ := Aside0.mk (Kd.R_lower (Kd.R_new' ho0 (Kd.R_lt (by (with_reducible repeat (first | apply Kd.R_alloc | apply Kd.R_drewN | apply Kd.R_drew)); exact HO_0.out))) (below_size (by repeat (first | (with_reducible first | exact HB.out | apply below_alloc | apply pw_below_drewN | apply below_drew1) | exact HB.out)))); have n3_ := Aside0.mk (below_step (by repeat (first | (with_reducible first | exact HB.out | apply below_alloc | apply pw_below_drewN | apply below_drew1) | exact HB.out)) hb); clear HO_0; clear HO_14; clear HB; have HO_0 := n0_; have HO_14 := n1_; have HO271 := n2_; have HB := n3_; clear n0_ n1_ n2_ n3_; (try clear hb); (try clear hb2); (try clear hk); (try clear hi); (try clear ho0)) | ((with_reducible refine gate_callee (f := 10) rfl ?_); refine goesL_ (some 69) rfl rfl Try.func10 (by kernel_rfl) rfl #[.slice Ao20 t258.length co20, .int .i64 a1, .int .i64 a2, .int .i64 a3, .int .i64 a4, .int .i64 a5] rfl (by (try simp only [List.map_toArray, List.map_cons, List.map_nil]); first | done | rfl | (simp only [List.length_drop, List.length_take]; rfl)) ?_; (with_reducible refine (victim_Choose.calls k1 _ _ t258 a1 a2 a3 a4 a5 t272 t273 _ ?side1 ?side2 A18.out).mono ?_); (case side1 => repeat (first | exact (Kd.R_reads' HO_0.out).2.2 | (with_reducible refine Kd.C_alloc ?_ _) | (with_reducible refine Kd.C_drewN ?_ _) | (with_reducible refine Kd.C_drew ?_))); (case side2 => exact (Kd.R_reads' HO_0.out).2.1); rintro e w22 ⟨v274, rfl, ho0, hb⟩; refine ⟨_, rfl, ?_⟩; have n0_ := Aside0.mk (Kd.R_below (by (with_reducible repeat (first | apply Kd.R_alloc | apply Kd.R_drewN | apply Kd.R_drew)); exact HO_0.out) hb); have n1_ := Aside0.mk (Kd.R_below (by (with_reducible repeat (first | apply Kd.R_alloc | apply Kd.R_drewN | apply Kd.R_drew)); exact HO_14.out) hb); have n2_ := Aside0.mk (Kd.R_below (by (with_reducible repeat (first | apply Kd.R_alloc | apply Kd.R_drewN | apply Kd.R_drew)); exact HO271.out) hb); have n3_ := Aside0.mk (Kd.R_lower ho0 (below_size (by repeat (first | (with_reducible first | exact HB.out | apply below_alloc | apply pw_below_drewN | apply below_drew1) | exact HB.out)))); have n4_ := Aside0.mk (below_step (by repeat (first | (with_reducible first | exact HB.out | apply below_alloc | apply pw_below_drewN | apply below_drew1) | exact HB.out)) hb); clear HO_0; clear HO_14; clear HO271; clear HB; have HO_0 := n0_; have HO_14 := n1_; have HO271 := n2_; have HO275 := n3_; have HB := n4_; clear n0_ n1_ n2_ n3_ n4_; (try clear hb); (try clear hb2); (try clear hk); (try clear hi); (try clear ho0); obtain ⟨Ao23, co23, eo23⟩ := Kd.R_slice HO_14.out; subst eo23) | ((with_reducible refine gate_callee (f := 11) rfl ?_); refine goesL_ (some 79) rfl rfl Try.func11 (by kernel_rfl) rfl #[.slice Ao23 x14_1.length co23, .int .i64 a1, .int .i64 a2, .int .i64 a3, .int .i64 a4, .int .i64 a5] rfl (by (try simp only [List.map_toArray, List.map_cons, List.map_nil]); first | done | rfl | (simp only [List.length_drop, List.length_take]; rfl)) ?_; (with_reducible refine (millwrightref12_Choose.calls k1 _ _ x14_1 a1 a2 a3 a4 a5 t276 t277 _ ?side1 ?side2 A19.out).mono ?_); (case side1 => repeat (first | exact (Kd.R_reads' HO_14.out).2.2 | (with_reducible refine Kd.C_alloc ?_ _) | (with_reducible refine Kd.C_drewN ?_ _) | (with_reducible refine Kd.C_drew ?_))); (case side2 => exact (Kd.R_reads' HO_14.out).2.1); rintro e w24 ⟨v278, rfl, ho0, hb⟩; refine ⟨_, rfl, ?_⟩; have n0_ := Aside0.mk (Kd.R_below (by (with_reducible repeat (first | apply Kd.R_alloc | apply Kd.R_drewN | apply Kd.R_drew)); exact HO_0.out) hb); have n1_ := Aside0.mk (Kd.R_below (by (with_reducible repeat (first | apply Kd.R_alloc | apply Kd.R_drewN | apply Kd.R_drew)); exact HO_14.out) hb); have n2_ := Aside0.mk (Kd.R_below (by (with_reducible repeat (first | apply Kd.R_alloc | apply Kd.R_drewN | apply Kd.R_drew)); exact HO271.out) hb); have n3_ := Aside0.mk (Kd.R_elder' (by (with_reducible repeat (first | apply Kd.R_alloc | apply Kd.R_drewN | apply Kd.R_drew)); exact HO275.out) (Kd.R_base ho0) hb); have n4_ := Aside0.mk (Kd.R_lower (Kd.R_new' ho0 (Kd.R_lt (by (with_reducible repeat (first | apply Kd.R_alloc | apply Kd.R_drewN | apply Kd.R_drew)); exact HO275.out))) (below_size (by repeat (first | (with_reducible first | exact HB.out | apply below_alloc | apply pw_below_drewN | apply below_drew1) | exact HB.out)))); have n5_ := Aside0.mk (below_step (by repeat (first | (with_reducible first | exact HB.out | apply below_alloc | apply pw_below_drewN | apply below_drew1) | exact HB.out)) hb); clear HO_0; clear HO_14; clear HO271; clear HO275; clear HB; have HO_0 := n0_; have HO_14 := n1_; have HO271 := n2_; have HO275 := n3_; have HO279 := n4_; have HB := n5_; clear n0_ n1_ n2_ n3_ n4_ n5_; (try clear hb); (try clear hb2); (try clear hk); (try clear hi); (try clear ho0)))
        go_loopg [21] k1 (fun kq v21 w' => ∃ (x21_2 : Int), v21 = .int .i64 x21_2 ∧ Aside0 (millwrightlaw12_VictimTells.l1 kq t258 t257 t269 t272 t273 t276 t277 x21_2 = some r) ∧ Aside0 (kq ≤ k1) ∧ Aside0 (Kd.R k27 27 w' w.heap.size (fun k_ => some k_ ≠ (v270 : Value).ownBlock) (.slice Ao20 t258.length co20) t258) ∧ Aside0 (Kd.R k27 27 w' w.heap.size (fun k_ => some k_ ≠ ((.slice Ao20 t258.length co20) : Value).ownBlock) v270 t269) ∧ Aside0 (Kd.R (Kd.int .i64) 3 w' w.heap.size (fun k_ => some k_ ≠ (v278 : Value).ownBlock) v274 t272) ∧ Aside0 (Kd.R (Kd.int .i64) 3 w' w.heap.size (fun k_ => some k_ ≠ (v274 : Value).ownBlock) v278 t276) ∧ Aside0 (Below w.heap.size w w'))
        case atStart => exact ⟨(0), (by first | rfl | (simp; done) | (simp [*]; done)), H', ⟨Nat.le_refl _⟩, ⟨by (with_reducible repeat (first | apply Kd.R_alloc | apply Kd.R_drewN | apply Kd.R_drew)); exact Kd.R_mono HO_0.out (fun _ hk => hk.2)⟩, ⟨by (with_reducible repeat (first | apply Kd.R_alloc | apply Kd.R_drewN | apply Kd.R_drew)); exact Kd.R_mono HO271.out (fun _ hk => hk.2)⟩, ⟨by (with_reducible repeat (first | apply Kd.R_alloc | apply Kd.R_drewN | apply Kd.R_drew)); exact Kd.R_mono HO275.out (fun _ hk => hk.2)⟩, ⟨by (with_reducible repeat (first | apply Kd.R_alloc | apply Kd.R_drewN | apply Kd.R_drew)); exact Kd.R_mono HO279.out (fun _ hk => hk.2)⟩, ⟨by repeat (first | (with_reducible first | exact HB.out | apply below_alloc | apply pw_below_drewN | apply below_drew1) | exact HB.out)⟩⟩
        case round =>
          clear H'
          try clear c1
          try clear p2
          try clear q2
          try clear hx2
          try clear c3
          try clear p6
          try clear c8
          try clear c9
          try clear c10
          try clear c11
          try clear c11b0
          try clear c12
          try clear c12b0
          try clear c13
          try clear hx261_0
          try clear hx261_1
          try clear hx261_2
          try clear hx261_3
          try clear hx261_4
          try clear hx262_0
          try clear hx262_1
          try clear hx262_2
          try clear hx262_3
          try clear hx262_4
          try clear hx263_0
          try clear hx263_1
          try clear hx263_2
          try clear hx263_3
          try clear hx263_4
          try clear hx264_0
          try clear hx264_1
          try clear hx264_2
          try clear hx264_3
          try clear hx264_4
          try clear hx265_0
          try clear hx265_1
          try clear hx265_2
          try clear hx265_3
          try clear hx265_4
          try clear p2
          try clear p261
          try clear p262
          try clear p263
          try clear p264
          try clear p265
          try clear q261
          try clear q262
          try clear q263
          try clear q264
          try clear q265
          obtain ⟨x21_2, rfl, HA, HK2, HO_0, HO_16, HO_17, HO_19, HB⟩ := hrel
          cases gk with
          | zero => exact absurd HA.out (by simp [millwrightlaw12_VictimTells.l1])
          | succ k2 =>
            have H := HA.out
            clear HA
            simp only [millwrightlaw12_VictimTells.l1] at H
            by_cases c25 : x21_2 < (t258.length : Int)
            · rw [if_pos c25] at H
              have c25b0 : decide (x21_2 < (t258.length : Int)) = true := decide_eq_true c25
              clear c25
              by_cases c26 : 0 ≤ x21_2
              · rw [if_pos c26] at H
                have c26b0 : decide (0 ≤ x21_2) = true := decide_eq_true c26
                clear c26
                by_cases c27 : x21_2 < (t269.length : Int)
                · rw [if_pos c27] at H
                  have c27b0 : decide (x21_2 < (t269.length : Int)) = true := decide_eq_true c27
                  clear c27
                  by_cases c28 : (!(((rd_T27 t258 x21_2).f0) == ((rd_T27 t269 x21_2).f0)) || (!(((rd_T27 t258 x21_2).f1) == ((rd_T27 t269 x21_2).f1)) || (!(((rd_T27 t258 x21_2).f2) == ((rd_T27 t269 x21_2).f2)) || (!(((rd_T27 t258 x21_2).f3) == ((rd_T27 t269 x21_2).f3)) || (!(((rd_T27 t258 x21_2).f4) == ((rd_T27 t269 x21_2).f4))))))) = true
                  · rw [if_pos c28] at H
                    have c28b0 : (!(((rd_T27 t258 x21_2).f0) == ((rd_T27 t269 x21_2).f0)) || (!(((rd_T27 t258 x21_2).f1) == ((rd_T27 t269 x21_2).f1)) || (!(((rd_T27 t258 x21_2).f2) == ((rd_T27 t269 x21_2).f2)) || (!(((rd_T27 t258 x21_2).f3) == ((rd_T27 t269 x21_2).f3)) || (!(((rd_T27 t258 x21_2).f4) == ((rd_T27 t269 x21_2).f4))))))) = true := c28
                    clear c28
                    obtain rfl := Option.some.inj H
                    try go_wp2
                    have n0_ := Aside0.mk (Kd.R_drew HO_0.out)
                    have n1_ := Aside0.mk (Kd.R_drew HO_16.out)
                    have n2_ := Aside0.mk (Kd.R_drew HO_17.out)
                    have n3_ := Aside0.mk (Kd.R_drew HO_19.out)
                    have n4_ := Aside0.mk (below_drew1 HB.out)
                    clear HO_0
                    clear HO_16
                    clear HO_17
                    clear HO_19
                    clear HB
                    have HO_0 := n0_
                    have HO_16 := n1_
                    have HO_17 := n2_
                    have HO_19 := n3_
                    have HB := n4_
                    clear n0_ n1_ n2_ n3_ n4_
                    have p280 : 0 ≤ (x21_2 : Int) := of_decide_eq_true (by first | (with_reducible assumption) | assumption)
                    have q280 : x21_2 < (t258.length : Int) := of_decide_eq_true (by first | (with_reducible assumption) | assumption)
                    obtain ⟨ad280, e280, hx280_0, hx280_1, hx280_2, hx280_3, hx280_4⟩ := at_T27 (Kd.R_reads' HO_0.out).2.2 x21_2 p280 q280
                    cases e280
                    replace p280 := eq_true p280
                    replace q280 := eq_true q280
                    obtain ⟨Ao30, co30, eo30⟩ := Kd.R_slice HO_16.out
                    (first | subst eo30 | (injection eo30 with f1_ f2_ f3_; have f4_ := f1_.symm; have f5_ := f3_.symm; clear f1_ f2_ f3_; subst f4_; subst f5_))
                    have p281 : 0 ≤ (x21_2 : Int) := of_decide_eq_true (by first | (with_reducible assumption) | assumption)
                    have q281 : x21_2 < (t269.length : Int) := of_decide_eq_true (by first | (with_reducible assumption) | assumption)
                    obtain ⟨ad281, e281, hx281_0, hx281_1, hx281_2, hx281_3, hx281_4⟩ := at_T27 (Kd.R_reads' HO_16.out).2.2 x21_2 p281 q281
                    cases e281
                    replace p281 := eq_true p281
                    replace q281 := eq_true q281
                    refine start_ (n := 9) (S := fun w' => w'.cell? (ad280.add ((x21_2).toNat * 5)) = some (.int .i64 ((rd_T27 t258 x21_2).f0)) ∧ w'.cell? ⟨(ad280.add ((x21_2).toNat * 5)).block, (ad280.add ((x21_2).toNat * 5)).off + 1, none⟩ = some (.int .i64 ((rd_T27 t258 x21_2).f1)) ∧ w'.cell? ⟨(ad280.add ((x21_2).toNat * 5)).block, (ad280.add ((x21_2).toNat * 5)).off + 2, none⟩ = some (.int .i64 ((rd_T27 t258 x21_2).f2)) ∧ w'.cell? ⟨(ad280.add ((x21_2).toNat * 5)).block, (ad280.add ((x21_2).toNat * 5)).off + 3, none⟩ = some (.int .i64 ((rd_T27 t258 x21_2).f3)) ∧ w'.cell? ⟨(ad280.add ((x21_2).toNat * 5)).block, (ad280.add ((x21_2).toNat * 5)).off + 4, none⟩ = some (.int .i64 ((rd_T27 t258 x21_2).f4)) ∧ w'.cell? (ad281.add ((x21_2).toNat * 5)) = some (.int .i64 ((rd_T27 t269 x21_2).f0)) ∧ w'.cell? ⟨(ad281.add ((x21_2).toNat * 5)).block, (ad281.add ((x21_2).toNat * 5)).off + 1, none⟩ = some (.int .i64 ((rd_T27 t269 x21_2).f1)) ∧ w'.cell? ⟨(ad281.add ((x21_2).toNat * 5)).block, (ad281.add ((x21_2).toNat * 5)).off + 2, none⟩ = some (.int .i64 ((rd_T27 t269 x21_2).f2)) ∧ w'.cell? ⟨(ad281.add ((x21_2).toNat * 5)).block, (ad281.add ((x21_2).toNat * 5)).off + 3, none⟩ = some (.int .i64 ((rd_T27 t269 x21_2).f3)) ∧ w'.cell? ⟨(ad281.add ((x21_2).toNat * 5)).block, (ad281.add ((x21_2).toNat * 5)).off + 4, none⟩ = some (.int .i64 ((rd_T27 t269 x21_2).f4))) (ds := []) #[false, false, false, false, false, false, false, false, false] (by kernel_rfl) rfl rfl ⟨hx280_0, hx280_1, hx280_2, hx280_3, hx280_4, hx281_0, hx281_1, hx281_2, hx281_3, hx281_4⟩ (fun hHeld => ?_); refine with_tabW millwrightlaw12_VictimTells.tab14 millwrightlaw12_VictimTells.bits14 (fun HT_ HW_ => ?_)
                    generalize wr.drew = w29 at HO_0 HO_16 HO_17 HO_19 HB hx280_0 hx280_1 hx280_2 hx280_3 hx280_4 hx281_0 hx281_1 hx281_2 hx281_3 hx281_4 hHeld ⊢
                    refine pure_ (i := 0) (N := some 88) (v := ?_) (a' := ?_) #[true, false, false, false, false, false, false, false, false] rfl rfl (any_of HT_.out (by kernel_rfl)) (fun _ _ _ h => h) (Or.inl ⟨by rfl, ?_⟩) ?_ ?_
                    rotate_left
                    · intro w'
                      go_simp
                      with_reducible rfl
                    rotate_left
                    · simp only [Act.put, List.setIfInBounds_toArray, List.set_cons_zero, List.set_cons_succ, i64_w, i32_w]
                      rfl
                    refine pure_ (i := 1) (N := some 89) (v := ?_) (a' := ?_) #[true, true, false, false, false, false, false, false, false] rfl rfl (any_of HT_.out (by kernel_rfl)) (fun _ _ _ h => h) (Or.inl ⟨by rfl, ?_⟩) ?_ ?_
                    rotate_left
                    · intro w'
                      go_simp
                      with_reducible rfl
                    rotate_left
                    · simp only [Act.put, List.setIfInBounds_toArray, List.set_cons_zero, List.set_cons_succ, i64_w, i32_w]
                      rfl
                    refine pure_ (i := 2) (N := some 90) (v := ?_) (a' := ?_) #[true, true, true, false, false, false, false, false, false] rfl rfl (any_of HT_.out (by kernel_rfl)) (fun _ _ _ h => h) (Or.inl ⟨by rfl, ?_⟩) ?_ ?_
                    rotate_left
                    · intro w'
                      go_simp
                      with_reducible rfl
                    rotate_left
                    · simp only [Act.put, List.setIfInBounds_toArray, List.set_cons_zero, List.set_cons_succ, i64_w, i32_w]
                      rfl
                    refine pure_ (i := 4) (N := some 92) (v := ?_) (a' := ?_) #[true, true, true, false, true, false, false, false, false] rfl rfl (any_of HT_.out (by kernel_rfl)) (fun _ _ _ h => h) (Or.inl ⟨by rfl, ?_⟩) ?_ ?_
                    rotate_left
                    · intro w'
                      go_simp
                      with_reducible rfl
                    rotate_left
                    · simp only [Act.put, List.setIfInBounds_toArray, List.set_cons_zero, List.set_cons_succ, i64_w, i32_w]
                      rfl
                    refine pure_ (i := 5) (N := some 93) (v := ?_) (a' := ?_) #[true, true, true, false, true, true, false, false, false] rfl rfl (any_of HT_.out (by kernel_rfl)) (fun _ _ _ h => h) (Or.inl ⟨by rfl, ?_⟩) ?_ ?_
                    rotate_left
                    · intro w'
                      go_simp
                      with_reducible rfl
                    rotate_left
                    · simp only [Act.put, List.setIfInBounds_toArray, List.set_cons_zero, List.set_cons_succ, i64_w, i32_w]
                      rfl
                    refine pure_ (i := 6) (N := some 94) (v := ?_) (a' := ?_) #[true, true, true, false, true, true, true, false, false] rfl rfl (any_of HT_.out (by kernel_rfl)) (fun _ _ _ h => h) (Or.inl ⟨by rfl, ?_⟩) ?_ ?_
                    rotate_left
                    · intro w'
                      go_simp
                      with_reducible rfl
                    rotate_left
                    · simp only [Act.put, List.setIfInBounds_toArray, List.set_cons_zero, List.set_cons_succ, i64_w, i32_w]
                      rfl
                    refine take_ (i := 3) (N := some 91) (v := ?_) (a' := ?_) #[true, true, true, true, true, true, true, false, false] rfl rfl (take_ofW HT_.out HW_.out (by kernel_rfl)) (fun _ _ _ h => h) (Or.inl ⟨by rfl, ?_⟩) hHeld ?_ ?_
                    rotate_left
                    · rintro w' ⟨s0, s1, s2, s3, s4, s5, s6, s7, s8, s9⟩
                      go_simp
                      with_reducible rfl
                    rotate_left
                    · simp only [Act.put, List.setIfInBounds_toArray, List.set_cons_zero, List.set_cons_succ, i64_w, i32_w]
                      rfl
                    refine take_ (i := 7) (N := some 95) (v := ?_) (a' := ?_) #[true, true, true, true, true, true, true, true, false] rfl rfl (take_ofW HT_.out HW_.out (by kernel_rfl)) (fun _ _ _ h => h) (Or.inl ⟨by rfl, ?_⟩) hHeld ?_ ?_
                    rotate_left
                    · rintro w' ⟨s0, s1, s2, s3, s4, s5, s6, s7, s8, s9⟩
                      go_simp
                      with_reducible rfl
                    rotate_left
                    · simp only [Act.put, List.setIfInBounds_toArray, List.set_cons_zero, List.set_cons_succ, i64_w, i32_w]
                      rfl
                    refine pure_ (i := 8) (N := some 96) (v := ?_) (a' := ?_) #[true, true, true, true, true, true, true, true, true] rfl rfl (any_of HT_.out (by kernel_rfl)) (fun _ _ _ h => h) (Or.inl ⟨by rfl, ?_⟩) ?_ ?_
                    rotate_left
                    · intro w'
                      go_simp
                      with_reducible rfl
                    rotate_left
                    · simp only [Act.put, List.setIfInBounds_toArray, List.set_cons_zero, List.set_cons_succ, i64_w, i32_w]
                      rfl
                    refine done_ (done_of HT_.out (by kernel_rfl)) ?_
                    try go_wp2
                    go_ret
                    exact ⟨by first | rfl | (simp [errW_none, errW_some] <;> rfl) | (simp [*, errW_none, errW_some] <;> rfl), by repeat (first | (with_reducible first | exact HB.out | apply below_alloc | apply pw_below_drewN | apply below_drew1) | exact HB.out)⟩
                  · rw [if_neg c28] at H
                    have c28b0 : (!(((rd_T27 t258 x21_2).f0) == ((rd_T27 t269 x21_2).f0)) || (!(((rd_T27 t258 x21_2).f1) == ((rd_T27 t269 x21_2).f1)) || (!(((rd_T27 t258 x21_2).f2) == ((rd_T27 t269 x21_2).f2)) || (!(((rd_T27 t258 x21_2).f3) == ((rd_T27 t269 x21_2).f3)) || (!(((rd_T27 t258 x21_2).f4) == ((rd_T27 t269 x21_2).f4))))))) = false := by simpa using c28
                    clear c28
                    have H' := Aside0.mk H
                    clear H
                    try go_wp2
                    have n0_ := Aside0.mk (Kd.R_drew HO_0.out)
                    have n1_ := Aside0.mk (Kd.R_drew HO_16.out)
                    have n2_ := Aside0.mk (Kd.R_drew HO_17.out)
                    have n3_ := Aside0.mk (Kd.R_drew HO_19.out)
                    have n4_ := Aside0.mk (below_drew1 HB.out)
                    clear HO_0
                    clear HO_16
                    clear HO_17
                    clear HO_19
                    clear HB
                    have HO_0 := n0_
                    have HO_16 := n1_
                    have HO_17 := n2_
                    have HO_19 := n3_
                    have HB := n4_
                    clear n0_ n1_ n2_ n3_ n4_
                    have p280 : 0 ≤ (x21_2 : Int) := of_decide_eq_true (by first | (with_reducible assumption) | assumption)
                    have q280 : x21_2 < (t258.length : Int) := of_decide_eq_true (by first | (with_reducible assumption) | assumption)
                    obtain ⟨ad280, e280, hx280_0, hx280_1, hx280_2, hx280_3, hx280_4⟩ := at_T27 (Kd.R_reads' HO_0.out).2.2 x21_2 p280 q280
                    cases e280
                    replace p280 := eq_true p280
                    replace q280 := eq_true q280
                    obtain ⟨Ao32, co32, eo32⟩ := Kd.R_slice HO_16.out
                    (first | subst eo32 | (injection eo32 with f1_ f2_ f3_; have f4_ := f1_.symm; have f5_ := f3_.symm; clear f1_ f2_ f3_; subst f4_; subst f5_))
                    have p281 : 0 ≤ (x21_2 : Int) := of_decide_eq_true (by first | (with_reducible assumption) | assumption)
                    have q281 : x21_2 < (t269.length : Int) := of_decide_eq_true (by first | (with_reducible assumption) | assumption)
                    obtain ⟨ad281, e281, hx281_0, hx281_1, hx281_2, hx281_3, hx281_4⟩ := at_T27 (Kd.R_reads' HO_16.out).2.2 x21_2 p281 q281
                    cases e281
                    replace p281 := eq_true p281
                    replace q281 := eq_true q281
                    refine start_ (n := 9) (S := fun w' => w'.cell? (ad280.add ((x21_2).toNat * 5)) = some (.int .i64 ((rd_T27 t258 x21_2).f0)) ∧ w'.cell? ⟨(ad280.add ((x21_2).toNat * 5)).block, (ad280.add ((x21_2).toNat * 5)).off + 1, none⟩ = some (.int .i64 ((rd_T27 t258 x21_2).f1)) ∧ w'.cell? ⟨(ad280.add ((x21_2).toNat * 5)).block, (ad280.add ((x21_2).toNat * 5)).off + 2, none⟩ = some (.int .i64 ((rd_T27 t258 x21_2).f2)) ∧ w'.cell? ⟨(ad280.add ((x21_2).toNat * 5)).block, (ad280.add ((x21_2).toNat * 5)).off + 3, none⟩ = some (.int .i64 ((rd_T27 t258 x21_2).f3)) ∧ w'.cell? ⟨(ad280.add ((x21_2).toNat * 5)).block, (ad280.add ((x21_2).toNat * 5)).off + 4, none⟩ = some (.int .i64 ((rd_T27 t258 x21_2).f4)) ∧ w'.cell? (ad281.add ((x21_2).toNat * 5)) = some (.int .i64 ((rd_T27 t269 x21_2).f0)) ∧ w'.cell? ⟨(ad281.add ((x21_2).toNat * 5)).block, (ad281.add ((x21_2).toNat * 5)).off + 1, none⟩ = some (.int .i64 ((rd_T27 t269 x21_2).f1)) ∧ w'.cell? ⟨(ad281.add ((x21_2).toNat * 5)).block, (ad281.add ((x21_2).toNat * 5)).off + 2, none⟩ = some (.int .i64 ((rd_T27 t269 x21_2).f2)) ∧ w'.cell? ⟨(ad281.add ((x21_2).toNat * 5)).block, (ad281.add ((x21_2).toNat * 5)).off + 3, none⟩ = some (.int .i64 ((rd_T27 t269 x21_2).f3)) ∧ w'.cell? ⟨(ad281.add ((x21_2).toNat * 5)).block, (ad281.add ((x21_2).toNat * 5)).off + 4, none⟩ = some (.int .i64 ((rd_T27 t269 x21_2).f4))) (ds := []) #[false, false, false, false, false, false, false, false, false] (by kernel_rfl) rfl rfl ⟨hx280_0, hx280_1, hx280_2, hx280_3, hx280_4, hx281_0, hx281_1, hx281_2, hx281_3, hx281_4⟩ (fun hHeld => ?_); refine with_tabW millwrightlaw12_VictimTells.tab14 millwrightlaw12_VictimTells.bits14 (fun HT_ HW_ => ?_)
                    generalize wr.drew = w31 at HO_0 HO_16 HO_17 HO_19 HB hx280_0 hx280_1 hx280_2 hx280_3 hx280_4 hx281_0 hx281_1 hx281_2 hx281_3 hx281_4 hHeld ⊢
                    refine pure_ (i := 0) (N := some 88) (v := ?_) (a' := ?_) #[true, false, false, false, false, false, false, false, false] rfl rfl (any_of HT_.out (by kernel_rfl)) (fun _ _ _ h => h) (Or.inl ⟨by rfl, ?_⟩) ?_ ?_
                    rotate_left
                    · intro w'
                      go_simp
                      with_reducible rfl
                    rotate_left
                    · simp only [Act.put, List.setIfInBounds_toArray, List.set_cons_zero, List.set_cons_succ, i64_w, i32_w]
                      rfl
                    refine pure_ (i := 1) (N := some 89) (v := ?_) (a' := ?_) #[true, true, false, false, false, false, false, false, false] rfl rfl (any_of HT_.out (by kernel_rfl)) (fun _ _ _ h => h) (Or.inl ⟨by rfl, ?_⟩) ?_ ?_
                    rotate_left
                    · intro w'
                      go_simp
                      with_reducible rfl
                    rotate_left
                    · simp only [Act.put, List.setIfInBounds_toArray, List.set_cons_zero, List.set_cons_succ, i64_w, i32_w]
                      rfl
                    refine pure_ (i := 2) (N := some 90) (v := ?_) (a' := ?_) #[true, true, true, false, false, false, false, false, false] rfl rfl (any_of HT_.out (by kernel_rfl)) (fun _ _ _ h => h) (Or.inl ⟨by rfl, ?_⟩) ?_ ?_
                    rotate_left
                    · intro w'
                      go_simp
                      with_reducible rfl
                    rotate_left
                    · simp only [Act.put, List.setIfInBounds_toArray, List.set_cons_zero, List.set_cons_succ, i64_w, i32_w]
                      rfl
                    refine pure_ (i := 4) (N := some 92) (v := ?_) (a' := ?_) #[true, true, true, false, true, false, false, false, false] rfl rfl (any_of HT_.out (by kernel_rfl)) (fun _ _ _ h => h) (Or.inl ⟨by rfl, ?_⟩) ?_ ?_
                    rotate_left
                    · intro w'
                      go_simp
                      with_reducible rfl
                    rotate_left
                    · simp only [Act.put, List.setIfInBounds_toArray, List.set_cons_zero, List.set_cons_succ, i64_w, i32_w]
                      rfl
                    refine pure_ (i := 5) (N := some 93) (v := ?_) (a' := ?_) #[true, true, true, false, true, true, false, false, false] rfl rfl (any_of HT_.out (by kernel_rfl)) (fun _ _ _ h => h) (Or.inl ⟨by rfl, ?_⟩) ?_ ?_
                    rotate_left
                    · intro w'
                      go_simp
                      with_reducible rfl
                    rotate_left
                    · simp only [Act.put, List.setIfInBounds_toArray, List.set_cons_zero, List.set_cons_succ, i64_w, i32_w]
                      rfl
                    refine pure_ (i := 6) (N := some 94) (v := ?_) (a' := ?_) #[true, true, true, false, true, true, true, false, false] rfl rfl (any_of HT_.out (by kernel_rfl)) (fun _ _ _ h => h) (Or.inl ⟨by rfl, ?_⟩) ?_ ?_
                    rotate_left
                    · intro w'
                      go_simp
                      with_reducible rfl
                    rotate_left
                    · simp only [Act.put, List.setIfInBounds_toArray, List.set_cons_zero, List.set_cons_succ, i64_w, i32_w]
                      rfl
                    refine take_ (i := 3) (N := some 91) (v := ?_) (a' := ?_) #[true, true, true, true, true, true, true, false, false] rfl rfl (take_ofW HT_.out HW_.out (by kernel_rfl)) (fun _ _ _ h => h) (Or.inl ⟨by rfl, ?_⟩) hHeld ?_ ?_
                    rotate_left
                    · rintro w' ⟨s0, s1, s2, s3, s4, s5, s6, s7, s8, s9⟩
                      go_simp
                      with_reducible rfl
                    rotate_left
                    · simp only [Act.put, List.setIfInBounds_toArray, List.set_cons_zero, List.set_cons_succ, i64_w, i32_w]
                      rfl
                    refine take_ (i := 7) (N := some 95) (v := ?_) (a' := ?_) #[true, true, true, true, true, true, true, true, false] rfl rfl (take_ofW HT_.out HW_.out (by kernel_rfl)) (fun _ _ _ h => h) (Or.inl ⟨by rfl, ?_⟩) hHeld ?_ ?_
                    rotate_left
                    · rintro w' ⟨s0, s1, s2, s3, s4, s5, s6, s7, s8, s9⟩
                      go_simp
                      with_reducible rfl
                    rotate_left
                    · simp only [Act.put, List.setIfInBounds_toArray, List.set_cons_zero, List.set_cons_succ, i64_w, i32_w]
                      rfl
                    refine pure_ (i := 8) (N := some 96) (v := ?_) (a' := ?_) #[true, true, true, true, true, true, true, true, true] rfl rfl (any_of HT_.out (by kernel_rfl)) (fun _ _ _ h => h) (Or.inl ⟨by rfl, ?_⟩) ?_ ?_
                    rotate_left
                    · intro w'
                      go_simp
                      with_reducible rfl
                    rotate_left
                    · simp only [Act.put, List.setIfInBounds_toArray, List.set_cons_zero, List.set_cons_succ, i64_w, i32_w]
                      rfl
                    refine done_ (done_of HT_.out (by kernel_rfl)) ?_
                    try go_wp2
                    go_roundg k2
                    case measure => have := HK1.out; have := HK2.out; omega
                    case rel => exact ⟨(wrap64 (x21_2 + 1)), (by first | rfl | (simp; done) | (simp [*]; done)), H', ⟨by have := HK1.out; have := HK2.out; omega⟩, ⟨by (with_reducible repeat (first | apply Kd.R_alloc | apply Kd.R_drewN | apply Kd.R_drew)); exact HO_0.out⟩, ⟨by (with_reducible repeat (first | apply Kd.R_alloc | apply Kd.R_drewN | apply Kd.R_drew)); exact HO_16.out⟩, ⟨by (with_reducible repeat (first | apply Kd.R_alloc | apply Kd.R_drewN | apply Kd.R_drew)); exact HO_17.out⟩, ⟨by (with_reducible repeat (first | apply Kd.R_alloc | apply Kd.R_drewN | apply Kd.R_drew)); exact HO_19.out⟩, ⟨by repeat (first | (with_reducible first | exact HB.out | apply below_alloc | apply pw_below_drewN | apply below_drew1) | exact HB.out)⟩⟩
                · rw [if_neg c27] at H
                  exact absurd H (by simp)
              · rw [if_neg c26] at H
                exact absurd H (by simp)
            · rw [if_neg c25] at H
              have c25b0 : decide (x21_2 < (t258.length : Int)) = false := decide_eq_false c25
              clear c25
              by_cases c33 : t257 = true
              · subst c33
                have H1 : ((millwrightlaw12_same.f k2 t272 t276).bind fun t282 => (if t282 = true then (some (t273 == t277)) else (some false))) = some r := by rw [if_pos rfl] at H; exact H
                clear H
                have H := H1
                clear H1
                replace H := Option.bind_eq_some_iff.mp H
                obtain ⟨t282, A340, H⟩ := H
                replace H : (if t282 = true then (some (t273 == t277)) else (some false)) = some r := H
                have A34 := Aside0.mk A340
                clear A340
                by_cases c35 : t282 = true
                · subst c35
                  have H1 : (some (t273 == t277)) = some r := by rw [if_pos rfl] at H; exact H
                  clear H
                  have H := H1
                  clear H1
                  obtain rfl := Option.some.inj H
                  obtain ⟨Ao36, co36, eo36⟩ := Kd.R_slice HO_17.out
                  subst eo36
                  obtain ⟨Ao37, co37, eo37⟩ := Kd.R_slice HO_19.out
                  subst eo37
                  go_wp2_with (first | (go_at_call 12; (with_reducible refine (millwrightlaw12_same.calls k2 _ _ t272 _ _ t276 true _ ?side1 ?side2 ?side3 ?side4 A34.out).mono ?_); (case side1 => repeat (first | exact (Kd.R_reads' HO_17.out).2.2 | (with_reducible refine Kd.C_alloc ?_ _) | (with_reducible refine Kd.C_drewN ?_ _) | (with_reducible refine Kd.C_drew ?_))); (case side2 => exact (Kd.R_reads' HO_17.out).2.1); (case side3 => repeat (first | exact (Kd.R_reads' HO_19.out).2.2 | (with_reducible refine Kd.C_alloc ?_ _) | (with_reducible refine Kd.C_drewN ?_ _) | (with_reducible refine Kd.C_drew ?_))); (case side4 => exact (Kd.R_reads' HO_19.out).2.1); rintro e w' ⟨rfl, ⟨nd, rfl⟩⟩))
                  go_ret
                  exact ⟨by first | rfl | (simp [errW_none, errW_some] <;> rfl) | (simp [*, errW_none, errW_some] <;> rfl), by repeat (first | (with_reducible first | exact HB.out | apply below_alloc | apply pw_below_drewN | apply below_drew1) | exact HB.out)⟩
                · replace c35 := Bool.eq_false_iff.mpr c35
                  subst c35
                  have H1 : (some false) = some r := by rw [if_neg (show ¬ (false = true) by decide)] at H; exact H
                  clear H
                  have H := H1
                  clear H1
                  obtain rfl := Option.some.inj H
                  obtain ⟨Ao38, co38, eo38⟩ := Kd.R_slice HO_17.out
                  subst eo38
                  obtain ⟨Ao39, co39, eo39⟩ := Kd.R_slice HO_19.out
                  subst eo39
                  go_wp2_with (first | (go_at_call 12; (with_reducible refine (millwrightlaw12_same.calls k2 _ _ t272 _ _ t276 false _ ?side1 ?side2 ?side3 ?side4 A34.out).mono ?_); (case side1 => repeat (first | exact (Kd.R_reads' HO_17.out).2.2 | (with_reducible refine Kd.C_alloc ?_ _) | (with_reducible refine Kd.C_drewN ?_ _) | (with_reducible refine Kd.C_drew ?_))); (case side2 => exact (Kd.R_reads' HO_17.out).2.1); (case side3 => repeat (first | exact (Kd.R_reads' HO_19.out).2.2 | (with_reducible refine Kd.C_alloc ?_ _) | (with_reducible refine Kd.C_drewN ?_ _) | (with_reducible refine Kd.C_drew ?_))); (case side4 => exact (Kd.R_reads' HO_19.out).2.1); rintro e w' ⟨rfl, ⟨nd, rfl⟩⟩))
                  go_ret
                  exact ⟨by first | rfl | (simp [errW_none, errW_some] <;> rfl) | (simp [*, errW_none, errW_some] <;> rfl), by repeat (first | (with_reducible first | exact HB.out | apply below_alloc | apply pw_below_drewN | apply below_drew1) | exact HB.out)⟩
              · replace c33 := Bool.eq_false_iff.mpr c33
                subst c33
                have H1 : (some false) = some r := by rw [if_neg (show ¬ (false = true) by decide)] at H; exact H
                clear H
                have H := H1
                clear H1
                obtain rfl := Option.some.inj H
                go_wp2
                go_ret
                exact ⟨by first | rfl | (simp [errW_none, errW_some] <;> rfl) | (simp [*, errW_none, errW_some] <;> rfl), by repeat (first | (with_reducible first | exact HB.out | apply below_alloc | apply pw_below_drewN | apply below_drew1) | exact HB.out)⟩

end Go.Proofs.Ytnegchdooapoiaa.PVic
