-- Printed for this claim by a program of this project's own, over the kit's printer; some functions are told by hand.
import Derived.Test.YtnegchdooapoiaaPVicx0
import Derived.Test.YtnegchdooapoiaaPVicx8
namespace Go.Proofs.Ytnegchdooapoiaa.PVic
open Go.RowKit Go.Proofs.YtnegchdooapoiaaW.PrintWords Go.Proofs.YtnegchdooapoiaaW.PrintLast Go.Proofs.YtnegchdooapoiaaW.PrintMore
attribute [local go_sem] max2_int min2_int max_two min_two max_three min_three max_four min_four   -- for this text's walks alone
set_option linter.unusedVariables false
set_option linter.unusedSimpArgs false

/-! ### millwrightref12_Choose: function 11 -/
mutual
def millwrightref12_Choose.l0 : Nat → List (S28) → Int → Int → Int → List Int → Int → Bool → List Bool → Option (List Int × Bool)
  | 0, _, _, _, _, _, _, _, _ => none
  | k + 1, x0, x1, x2, x5, x14, x15, x16, x17 => if x16 = true then ((millwrightref12_memory.f x2).bind fun t243 => (millwrightref12_Choose.j1 k x0 x1 x2 x5 x14 x15 x17 (decide (t243 > x15)))) else (millwrightref12_Choose.j1 k x0 x1 x2 x5 x14 x15 x17 true)
def millwrightref12_Choose.j1 : Nat → List (S28) → Int → Int → Int → List Int → Int → List Bool → Bool → Option (List Int × Bool)
  | 0, _, _, _, _, _, _, _, _ => none
  | k + 1, x0, x1, x2, x5, x14, x15, x17, x36 => if x36 = true then (millwrightref12_Choose.l1 k x0 x1 x2 x5 x14 x15 x17 (-1) 0) else (some (x14, true))
def millwrightref12_Choose.l1 : Nat → List (S28) → Int → Int → Int → List Int → Int → List Bool → Int → Int → Option (List Int × Bool)
  | 0, _, _, _, _, _, _, _, _, _ => none
  | k + 1, x0, x1, x2, x5, x14, x15, x17, x18, x19 => if x19 < (x0.length : Int) then (if 0 ≤ x19 then (if x19 < (x17.length : Int) then (if rdOf false x17 x19 = true then (millwrightref12_Choose.j3 k x0 x1 x2 x5 x14 x15 x17 x18 x19 true) else (if ((rd_T28 x0 x19).f1) ≥ x1 then (millwrightref12_Choose.j3 k x0 x1 x2 x5 x14 x15 x17 x18 x19 true) else (millwrightref12_Choose.j3 k x0 x1 x2 x5 x14 x15 x17 x18 x19 (decide (((rd_T28 x0 x19).f3) ≥ x5))))) else (none)) else (none)) else (if x18 < 0 then (some (([] : List Int), false)) else (if 0 ≤ x18 then (if x18 < (x17.length : Int) then (if x18 < (x0.length : Int) then ((millwrightref12_memory.f ((rd_T28 x0 x18).f2)).bind fun t246 => (if x14.length < 17592186044416 then (millwrightref12_Choose.l0 k x0 x1 x2 x5 (x14 ++ [(rd_T28 x0 x18).f0]) (wrap64 (x15 + t246)) true (x17.set (x18 : Int).toNat true)) else (none))) else (none)) else (none)) else (none)))
def millwrightref12_Choose.j3 : Nat → List (S28) → Int → Int → Int → List Int → Int → List Bool → Int → Int → Bool → Option (List Int × Bool)
  | 0, _, _, _, _, _, _, _, _, _, _ => none
  | k + 1, x0, x1, x2, x5, x14, x15, x17, x18, x19, x64 => if x64 = true then (millwrightref12_Choose.l1 k x0 x1 x2 x5 x14 x15 x17 x18 (wrap64 (x19 + 1))) else (if x18 < 0 then (millwrightref12_Choose.l1 k x0 x1 x2 x5 x14 x15 x17 x19 (wrap64 (x19 + 1))) else (if 0 ≤ x19 then (if x19 < (x0.length : Int) then (if 0 ≤ x18 then (if x18 < (x0.length : Int) then ((millwrightref12_ahead.f ((rd_T28 x0 x19).f0) ((rd_T28 x0 x19).f1) ((rd_T28 x0 x19).f2) ((rd_T28 x0 x19).f3) ((rd_T28 x0 x19).f4) ((rd_T28 x0 x18).f0) ((rd_T28 x0 x18).f1) ((rd_T28 x0 x18).f2) ((rd_T28 x0 x18).f3) ((rd_T28 x0 x18).f4)).bind fun t256 => (if t256 = true then (millwrightref12_Choose.l1 k x0 x1 x2 x5 x14 x15 x17 x19 (wrap64 (x19 + 1))) else (millwrightref12_Choose.l1 k x0 x1 x2 x5 x14 x15 x17 x18 (wrap64 (x19 + 1))))) else (none)) else (none)) else (none)) else (none)))
end
def millwrightref12_Choose.f (k : Nat) (l0 : List (S28)) (a1 : Int) (a2 : Int) (a3 : Int) (a4 : Int) (a5 : Int) : Option (List Int × Bool) := (millwrightref12_memory.f a3).bind fun t239 => (if 0 ≤ (l0.length : Int) then (if ((l0.length : Int) : Int).toNat ≤ 281474976710656 then (millwrightref12_Choose.l0 k l0 a1 a2 a5 (([] : List Int)) t239 (decide (a4 ≥ 1)) (List.replicate ((l0.length : Int) : Int).toNat false)) else (none)) else (none))
theorem millwrightref12_Choose.mono_l : ∀ k, (∀ y0 y1 y2 y3 y4 y5 y6 y7, LeO (millwrightref12_Choose.l0 k y0 y1 y2 y3 y4 y5 y6 y7) (millwrightref12_Choose.l0 (k + 1) y0 y1 y2 y3 y4 y5 y6 y7)) ∧ (∀ y0 y1 y2 y3 y4 y5 y6 y7, LeO (millwrightref12_Choose.j1 k y0 y1 y2 y3 y4 y5 y6 y7) (millwrightref12_Choose.j1 (k + 1) y0 y1 y2 y3 y4 y5 y6 y7)) ∧ (∀ y0 y1 y2 y3 y4 y5 y6 y7 y8, LeO (millwrightref12_Choose.l1 k y0 y1 y2 y3 y4 y5 y6 y7 y8) (millwrightref12_Choose.l1 (k + 1) y0 y1 y2 y3 y4 y5 y6 y7 y8)) ∧ (∀ y0 y1 y2 y3 y4 y5 y6 y7 y8 y9, LeO (millwrightref12_Choose.j3 k y0 y1 y2 y3 y4 y5 y6 y7 y8 y9) (millwrightref12_Choose.j3 (k + 1) y0 y1 y2 y3 y4 y5 y6 y7 y8 y9))
  | 0 => ⟨fun _ _ _ _ _ _ _ _ r h => by simp [millwrightref12_Choose.l0] at h, fun _ _ _ _ _ _ _ _ r h => by simp [millwrightref12_Choose.j1] at h, fun _ _ _ _ _ _ _ _ _ r h => by simp [millwrightref12_Choose.l1] at h, fun _ _ _ _ _ _ _ _ _ _ r h => by simp [millwrightref12_Choose.j3] at h⟩
  | k + 1 => by
    obtain ⟨ih0, ih1, ih2, ih3⟩ := millwrightref12_Choose.mono_l k
    refine ⟨?_, ?_, ?_, ?_⟩
    · intro y0 y1 y2 y3 y4 y5 y6 y7
      unfold millwrightref12_Choose.l0
      repeat' first
      | (with_reducible exact ih0 _ _ _ _ _ _ _ _)
      | (with_reducible exact ih1 _ _ _ _ _ _ _ _)
      | (with_reducible exact ih2 _ _ _ _ _ _ _ _ _)
      | (with_reducible exact ih3 _ _ _ _ _ _ _ _ _ _)
      | (with_reducible exact LeO.refl _)
      | (with_reducible exact LeO.none _)
      | (with_reducible refine LeO.ite ?_ ?_)
      | (with_reducible refine LeO.bind ?_ (fun _ => ?_))
      | exact ih0 _ _ _ _ _ _ _ _
      | exact ih1 _ _ _ _ _ _ _ _
      | exact ih2 _ _ _ _ _ _ _ _ _
      | exact ih3 _ _ _ _ _ _ _ _ _ _
      | exact LeO.none _
      | refine LeO.ite ?_ ?_
      | refine LeO.bind ?_ (fun _ => ?_)
    · intro y0 y1 y2 y3 y4 y5 y6 y7
      unfold millwrightref12_Choose.j1
      repeat' first
      | (with_reducible exact ih0 _ _ _ _ _ _ _ _)
      | (with_reducible exact ih1 _ _ _ _ _ _ _ _)
      | (with_reducible exact ih2 _ _ _ _ _ _ _ _ _)
      | (with_reducible exact ih3 _ _ _ _ _ _ _ _ _ _)
      | (with_reducible exact LeO.refl _)
      | (with_reducible exact LeO.none _)
      | (with_reducible refine LeO.ite ?_ ?_)
      | (with_reducible refine LeO.bind ?_ (fun _ => ?_))
      | exact ih0 _ _ _ _ _ _ _ _
      | exact ih1 _ _ _ _ _ _ _ _
      | exact ih2 _ _ _ _ _ _ _ _ _
      | exact ih3 _ _ _ _ _ _ _ _ _ _
      | exact LeO.none _
      | refine LeO.ite ?_ ?_
      | refine LeO.bind ?_ (fun _ => ?_)
    · intro y0 y1 y2 y3 y4 y5 y6 y7 y8
      unfold millwrightref12_Choose.l1
      repeat' first
      | (with_reducible exact ih0 _ _ _ _ _ _ _ _)
      | (with_reducible exact ih1 _ _ _ _ _ _ _ _)
      | (with_reducible exact ih2 _ _ _ _ _ _ _ _ _)
      | (with_reducible exact ih3 _ _ _ _ _ _ _ _ _ _)
      | (with_reducible exact LeO.refl _)
      | (with_reducible exact LeO.none _)
      | (with_reducible refine LeO.ite ?_ ?_)
      | (with_reducible refine LeO.bind ?_ (fun _ => ?_))
      | exact ih0 _ _ _ _ _ _ _ _
      | exact ih1 _ _ _ _ _ _ _ _
      | exact ih2 _ _ _ _ _ _ _ _ _
      | exact ih3 _ _ _ _ _ _ _ _ _ _
      | exact LeO.none _
      | refine LeO.ite ?_ ?_
      | refine LeO.bind ?_ (fun _ => ?_)
    · intro y0 y1 y2 y3 y4 y5 y6 y7 y8 y9
      unfold millwrightref12_Choose.j3
      repeat' first
      | (with_reducible exact ih0 _ _ _ _ _ _ _ _)
      | (with_reducible exact ih1 _ _ _ _ _ _ _ _)
      | (with_reducible exact ih2 _ _ _ _ _ _ _ _ _)
      | (with_reducible exact ih3 _ _ _ _ _ _ _ _ _ _)
      | (with_reducible exact LeO.refl _)
      | (with_reducible exact LeO.none _)
      | (with_reducible refine LeO.ite ?_ ?_)
      | (with_reducible refine LeO.bind ?_ (fun _ => ?_))
      | exact ih0 _ _ _ _ _ _ _ _
      | exact ih1 _ _ _ _ _ _ _ _
      | exact ih2 _ _ _ _ _ _ _ _ _
      | exact ih3 _ _ _ _ _ _ _ _ _ _
      | exact LeO.none _
      | refine LeO.ite ?_ ?_
      | refine LeO.bind ?_ (fun _ => ?_)
theorem millwrightref12_Choose.mono : ∀ a0 a1 a2 a3 a4 a5 k, LeO (millwrightref12_Choose.f k a0 a1 a2 a3 a4 a5) (millwrightref12_Choose.f (k + 1) a0 a1 a2 a3 a4 a5) := by
  intro a0 a1 a2 a3 a4 a5 k
  obtain ⟨ih0, ih1, ih2, ih3⟩ := millwrightref12_Choose.mono_l k
  unfold millwrightref12_Choose.f
  repeat' first
      | (with_reducible exact ih0 _ _ _ _ _ _ _ _)
      | (with_reducible exact ih1 _ _ _ _ _ _ _ _)
      | (with_reducible exact ih2 _ _ _ _ _ _ _ _ _)
      | (with_reducible exact ih3 _ _ _ _ _ _ _ _ _ _)
      | (with_reducible exact LeO.refl _)
      | (with_reducible exact LeO.none _)
      | (with_reducible refine LeO.ite ?_ ?_)
      | (with_reducible refine LeO.bind ?_ (fun _ => ?_))
      | exact ih0 _ _ _ _ _ _ _ _
      | exact ih1 _ _ _ _ _ _ _ _
      | exact ih2 _ _ _ _ _ _ _ _ _
      | exact ih3 _ _ _ _ _ _ _ _ _ _
      | exact LeO.none _
      | refine LeO.ite ?_ ?_
      | refine LeO.bind ?_ (fun _ => ?_)
def millwrightref12_Choose.T13 : Bool × List (List Nat × List Nat) := (true, [([], []), ([], []), ([0, 1], [0, 1]), ([2], [2]), ([], []), ([], []), ([4, 5], [4, 5]), ([6], [6]), ([3, 7], [3, 7]), ([8, 8, 0, 1, 2, 3, 4, 5, 6, 7, 8], [8])])
def millwrightref12_Choose.B13 : List Nat := [0, 0, 3, 7, 0, 0, 48, 112, 255, 511]
theorem millwrightref12_Choose.tab13 : rtab .any (opsOf Try.f11 13) = millwrightref12_Choose.T13 := by kernel_rfl
theorem millwrightref12_Choose.bits13 : waitsOk millwrightref12_Choose.T13.2 millwrightref12_Choose.B13 = true := by kernel_rfl
set_option maxHeartbeats 8000000 in
set_option maxRecDepth 100000 in
theorem millwrightref12_Choose.calls (k : Nat) (A0 : Option Addr) (c0 : Nat) (l0 : List (S28)) (a1 : Int) (a2 : Int) (a3 : Int) (a4 : Int) (a5 : Int) (r1 : List Int) (r2 : Bool) (w : World) (hr0 : Kd.C k28 w A0 l0.length l0) (hc0 : l0.length ≤ c0) (h : millwrightref12_Choose.f k l0 a1 a2 a3 a4 a5 = some (r1, r2)) :
    Calls Try.prog 11 #[.slice A0 l0.length c0, .int .i64 a1, .int .i64 a2, .int .i64 a3, .int .i64 a4, .int .i64 a5] w fun e w' => ∃ v0_ : Value, e = .returned (.tuple #[v0_, .bool r2]) ∧ Kd.R (Kd.int .i64) 3 w' w.heap.size (fun _ => True) v0_ r1 ∧ Below w.heap.size w w' := by
  have hu28 := Try.underlying28
  have HR0 := Aside0.mk hr0
  have HC0 := Aside0.mk hc0
  clear hr0 hc0
  have HB := Aside0.mk (Below.refl w.heap.size w)
  have H : ((millwrightref12_memory.f a3).bind fun t239 => (if 0 ≤ (l0.length : Int) then (if ((l0.length : Int) : Int).toNat ≤ 281474976710656 then (millwrightref12_Choose.l0 k l0 a1 a2 a5 (([] : List Int)) t239 (decide (a4 ≥ 1)) (List.replicate ((l0.length : Int) : Int).toNat false)) else (none)) else (none))) = some (r1, r2) := h
  clear h
  obtain ⟨y236, hy236⟩ : ∃ y_ : List Int, y_ = (([] : List Int)) := ⟨_, rfl⟩
  replace H : ((millwrightref12_memory.f a3).bind fun t239 => (if 0 ≤ (l0.length : Int) then (if ((l0.length : Int) : Int).toNat ≤ 281474976710656 then (millwrightref12_Choose.l0 k l0 a1 a2 a5 y236 t239 (decide (a4 ≥ 1)) (List.replicate ((l0.length : Int) : Int).toNat false)) else (none)) else (none))) = some (r1, r2) := by first | (rw [hy236]; with_reducible exact H) | (have H2_ := (Option.bind_some _ _).symm.trans H; rw [hy236]; with_reducible exact H2_) | (have H2_ := (Option.bind_some _ _).symm.trans H; with_reducible exact H2_) | with_reducible exact H | (rw [hy236]; exact H) | exact H
  have Ny236 := Aside0.mk hy236
  clear hy236
  replace H := Option.bind_eq_some_iff.mp H
  obtain ⟨t239, A70, H⟩ := H
  replace H : (if 0 ≤ (l0.length : Int) then (if ((l0.length : Int) : Int).toNat ≤ 281474976710656 then (millwrightref12_Choose.l0 k l0 a1 a2 a5 y236 t239 (decide (a4 ≥ 1)) (List.replicate ((l0.length : Int) : Int).toNat false)) else (none)) else (none)) = some (r1, r2) := H
  have A7 := Aside0.mk A70
  clear A70
  by_cases c8 : 0 ≤ (l0.length : Int)
  · rw [if_pos c8] at H
    have c8b0 := eq_true c8
    have c8b1 : decide (0 ≤ (l0.length : Int)) = true := decide_eq_true c8
    clear c8
    by_cases c9 : ((l0.length : Int) : Int).toNat ≤ 281474976710656
    · rw [if_pos c9] at H
      have c9b0 := eq_true c9
      have c9b1 : decide (((l0.length : Int) : Int).toNat ≤ 281474976710656) = true := decide_eq_true c9
      clear c9
      obtain ⟨y240, hy240⟩ : ∃ y_ : List Bool, y_ = (List.replicate ((l0.length : Int) : Int).toNat false) := ⟨_, rfl⟩
      replace H : (millwrightref12_Choose.l0 k l0 a1 a2 a5 y236 t239 (decide (a4 ≥ 1)) y240) = some (r1, r2) := by first | (rw [hy240]; with_reducible exact H) | (have H2_ := (Option.bind_some _ _).symm.trans H; rw [hy240]; with_reducible exact H2_) | (have H2_ := (Option.bind_some _ _).symm.trans H; with_reducible exact H2_) | with_reducible exact H | (rw [hy240]; exact H) | exact H
      have Ny240 := Aside0.mk hy240
      clear hy240
      have H' := Aside0.mk H
      clear H
      go_enter Try.func11, Try.ntmps11
      go_wp2_with (first | ((with_reducible refine gate_dst (N := 21) rfl ?_); refine Kd.R_lit (Kd.int .i64) _ 3 ?hg (N := 21) ?hd (xs := ([] : List Int)) (inner := []) (ok := fun _ => True) (okp := fun _ => True) ?hr ?hp (fun _ hk => hk) trivial (Below.refl _ _) (Nat.le_refl _) (by simp) ?_; (case hd => rfl); (case hg => rfl); (case hr => first | (go_simp; done) | (go_simp; rfl)); (case hp => exact (Reps.none _ _)); intro v237 w10 ho11 hb hg_ hnew_; clear hg_ hnew_; (first | rw [← Ny236.out] at ho11 | (simp only [Int.reduceToNat] at ho11; rw [← Ny236.out] at ho11)); have n0_ := Aside0.mk (Kd.R_lower ho11 (below_size (by repeat (first | (with_reducible first | exact HB.out | apply below_alloc | apply pw_below_drewN | apply below_drew1) | exact HB.out)))); have n1_ := Aside0.mk (below_step (by repeat (first | (with_reducible first | exact HB.out | apply below_alloc | apply pw_below_drewN | apply below_drew1) | exact HB.out)) hb); clear HB; have HO238 := n0_; have HB := n1_; clear n0_ n1_; clear hb ho11) | ((with_reducible refine gate_callee (f := 20) rfl ?_); refine goesL_ (some 23) rfl rfl Try.func20 (by kernel_rfl) rfl #[.int .i64 a3] rfl (by (try simp only [List.map_toArray, List.map_cons, List.map_nil]); first | done | rfl | (simp only [List.length_drop, List.length_take]; rfl)) ?_; (with_reducible refine (millwrightref12_memory.calls a3 t239 _ A7.out).mono ?_); rintro e w12 ⟨rfl, hb⟩; refine ⟨_, rfl, ?_⟩; have n0_ := Aside0.mk (Kd.R_below (by (with_reducible repeat (first | apply Kd.R_alloc | apply Kd.R_drewN | apply Kd.R_drew)); exact HO238.out) hb); have n1_ := Aside0.mk (below_step (by repeat (first | (with_reducible first | exact HB.out | apply below_alloc | apply pw_below_drewN | apply below_drew1) | exact HB.out)) hb); clear HO238; clear HB; have HO238 := n0_; have HB := n1_; clear n0_ n1_; (try clear hb); (try clear hb2); (try clear hk); (try clear hi)) | ((with_reducible refine gate_dst (N := 28) rfl ?_); refine Kd.R_make Kd.bool _ 4 rfl (N := 28) rfl 49 _ _ rfl (l0.length : Int) rfl rfl Try.underlying49 (.bool false) 1 info4 rfl (by decide) (by omega) false (ok := fun _ => True) (okp := fun _ => True) rfl (fun _ hk => hk) trivial (of_decide_eq_true (by first | (with_reducible assumption) | assumption)) (Nat.le_trans (Nat.mul_le_mul_right _ (of_decide_eq_true (by first | (with_reducible assumption) | assumption) : (l0.length : Int).toNat ≤ 281474976710656)) (by omega)) (Below.refl _ _) (Nat.le_refl _) ?_; intro v241 w13 ho14 hb hg_ hnew_; clear hg_ hnew_; (first | rw [← Ny240.out] at ho14 | (simp only [Int.reduceToNat] at ho14; rw [← Ny240.out] at ho14)); have n0_ := Aside0.mk (Kd.R_below (by (with_reducible repeat (first | apply Kd.R_alloc | apply Kd.R_drewN | apply Kd.R_drew)); exact HO238.out) hb); have n1_ := Aside0.mk (Kd.R_lower ho14 (below_size (by repeat (first | (with_reducible first | exact HB.out | apply below_alloc | apply pw_below_drewN | apply below_drew1) | exact HB.out)))); have n2_ := Aside0.mk (below_step (by repeat (first | (with_reducible first | exact HB.out | apply below_alloc | apply pw_below_drewN | apply below_drew1) | exact HB.out)) hb); clear HO238; clear HB; have HO238 := n0_; have HO242 := n1_; have HB := n2_; clear n0_ n1_ n2_; clear hb ho14))
      go_loopg [14, 15, 16] k (fun kq v14 v15 v16 w' => ∃ (x14_1 : List Int) (x15_1 : Int) (x16_1 : Bool) (x17_1 : List Bool), v15 = .int .i64 x15_1 ∧ v16 = .bool x16_1 ∧ Aside0 (millwrightref12_Choose.l0 kq l0 a1 a2 a5 x14_1 x15_1 x16_1 x17_1 = some (r1, r2)) ∧ Aside0 (kq ≤ k) ∧ Aside0 (Kd.R (Kd.int .i64) 3 w' w.heap.size (fun _ => True) v14 x14_1) ∧ Aside0 (Kd.R Kd.bool 4 w' w.heap.size (fun _ => True) v241 x17_1) ∧ Aside0 (Below w.heap.size w w'))
      case atStart => exact ⟨(y236), (t239), (decide (a4 ≥ 1)), (y240), (by first | rfl | (simp; done) | (simp [*]; done)), (by first | rfl | (simp; done) | (simp [*]; done)), H', ⟨Nat.le_refl _⟩, ⟨by (with_reducible repeat (first | apply Kd.R_alloc | apply Kd.R_drewN | apply Kd.R_drew)); exact HO238.out⟩, ⟨by (with_reducible repeat (first | apply Kd.R_alloc | apply Kd.R_drewN | apply Kd.R_drew)); exact HO242.out⟩, ⟨by repeat (first | (with_reducible first | exact HB.out | apply below_alloc | apply pw_below_drewN | apply below_drew1) | exact HB.out)⟩⟩
      case round =>
        clear H'
        try clear c1
        try clear c2
        try clear p2
        try clear c8
        try clear c8b0
        try clear c8b1
        try clear c9
        try clear c9b0
        try clear c9b1
        try clear c11
        obtain ⟨x14_1, x15_1, x16_1, x17_1, rfl, rfl, HA, HK1, HO_14, HO_17, HB⟩ := hrel
        cases gk with
        | zero => exact absurd HA.out (by simp [millwrightref12_Choose.l0])
        | succ k1 =>
          have H := HA.out
          clear HA
          simp only [millwrightref12_Choose.l0] at H
          have HC15 := Aside0.mk H
          clear H
          go_upto_region 5 with (fail)
          go_cut [36] (fun v36 wc => ∃ (kq : Nat) (x36_14 : Bool), v36 = .bool x36_14 ∧ Aside0 (millwrightref12_Choose.j1 kq l0 a1 a2 a5 x14_1 x15_1 x17_1 x36_14 = some (r1, r2)) ∧ Aside0 (kq ≤ k1) ∧ Aside0 (Kd.R (Kd.int .i64) 3 wc w.heap.size (fun _ => True) u14 x14_1) ∧ Aside0 (Kd.R Kd.bool 4 wc w.heap.size (fun _ => True) v241 x17_1) ∧ Aside0 (Below w.heap.size w wc))
          case first =>
            have H := HC15.out
            clear HC15
            by_cases c16 : x16_1 = true
            · subst c16
              have H1 : ((millwrightref12_memory.f a2).bind fun t243 => (millwrightref12_Choose.j1 k1 l0 a1 a2 a5 x14_1 x15_1 x17_1 (decide (t243 > x15_1)))) = some (r1, r2) := by rw [if_pos rfl] at H; exact H
              clear H
              have H := H1
              clear H1
              replace H := Option.bind_eq_some_iff.mp H
              obtain ⟨t243, A170, H⟩ := H
              replace H : (millwrightref12_Choose.j1 k1 l0 a1 a2 a5 x14_1 x15_1 x17_1 (decide (t243 > x15_1))) = some (r1, r2) := H
              have A17 := Aside0.mk A170
              clear A170
              have H' := Aside0.mk H
              clear H
              go_wp2_with (first | (go_at_call 20; (with_reducible refine (millwrightref12_memory.calls a2 t243 _ A17.out).mono ?_); rintro e w18 ⟨rfl, hb⟩; have n0_ := Aside0.mk (Kd.R_below (by (with_reducible repeat (first | apply Kd.R_alloc | apply Kd.R_drewN | apply Kd.R_drew)); exact HO_14.out) hb); have n1_ := Aside0.mk (Kd.R_below (by (with_reducible repeat (first | apply Kd.R_alloc | apply Kd.R_drewN | apply Kd.R_drew)); exact HO_17.out) hb); have n2_ := Aside0.mk (below_step (by repeat (first | (with_reducible first | exact HB.out | apply below_alloc | apply pw_below_drewN | apply below_drew1) | exact HB.out)) hb); clear HO_14; clear HO_17; clear HB; have HO_14 := n0_; have HO_17 := n1_; have HB := n2_; clear n0_ n1_ n2_; (try clear hb); (try clear hb2); (try clear hk); (try clear hi)))
              go_meet
              case rel => exact ⟨_, (decide (t243 > x15_1)), (by first | rfl | (simp; done) | (simp [*]; done)), H', ⟨by have := HK1.out; first | omega | exact Nat.le_refl _⟩, ⟨by (with_reducible repeat (first | apply Kd.R_alloc | apply Kd.R_drewN | apply Kd.R_drew)); exact HO_14.out⟩, ⟨by (with_reducible repeat (first | apply Kd.R_alloc | apply Kd.R_drewN | apply Kd.R_drew)); exact HO_17.out⟩, ⟨by repeat (first | (with_reducible first | exact HB.out | apply below_alloc | apply pw_below_drewN | apply below_drew1) | exact HB.out)⟩⟩
            · replace c16 := Bool.eq_false_iff.mpr c16
              subst c16
              have H1 : (millwrightref12_Choose.j1 k1 l0 a1 a2 a5 x14_1 x15_1 x17_1 true) = some (r1, r2) := by rw [if_neg (show ¬ (false = true) by decide)] at H; exact H
              clear H
              have H := H1
              clear H1
              have H' := Aside0.mk H
              clear H
              go_wp2
              go_meet
              case rel => exact ⟨_, (true), (by first | rfl | (simp; done) | (simp [*]; done)), H', ⟨by have := HK1.out; first | omega | exact Nat.le_refl _⟩, ⟨by (with_reducible repeat (first | apply Kd.R_alloc | apply Kd.R_drewN | apply Kd.R_drew)); exact HO_14.out⟩, ⟨by (with_reducible repeat (first | apply Kd.R_alloc | apply Kd.R_drewN | apply Kd.R_drew)); exact HO_17.out⟩, ⟨by repeat (first | (with_reducible first | exact HB.out | apply below_alloc | apply pw_below_drewN | apply below_drew1) | exact HB.out)⟩⟩
          case rest =>
            clear HC15
            try clear c1
            try clear c2
            try clear p2
            try clear c8
            try clear c8b0
            try clear c8b1
            try clear c9
            try clear c9b0
            try clear c9b1
            try clear c11
            try clear c16
            try clear p2
            obtain ⟨kq, x36_14, rfl, HA, HJ14, HO_14, HO_17, HB⟩ := hcut
            cases kq with
            | zero => exact absurd HA.out (by simp [millwrightref12_Choose.j1])
            | succ kj14 =>
              have H := HA.out
              clear HA
              simp only [millwrightref12_Choose.j1] at H
              by_cases c19 : x36_14 = true
              · subst c19
                have H1 : (millwrightref12_Choose.l1 kj14 l0 a1 a2 a5 x14_1 x15_1 x17_1 (-1) 0) = some (r1, r2) := by rw [if_pos rfl] at H; exact H
                clear H
                have H := H1
                clear H1
                have H' := Aside0.mk H
                clear H
                go_wp2
                go_loopg [18, 19] kj14 (fun kq v18 v19 w' => ∃ (x18_3 : Int) (x19_3 : Int), v18 = .int .i64 x18_3 ∧ v19 = .int .i64 x19_3 ∧ Aside0 (millwrightref12_Choose.l1 kq l0 a1 a2 a5 x14_1 x15_1 x17_1 x18_3 x19_3 = some (r1, r2)) ∧ Aside0 (kq ≤ kj14) ∧ Aside0 (Kd.R (Kd.int .i64) 3 w' w.heap.size (fun _ => True) u14 x14_1) ∧ Aside0 (Kd.R Kd.bool 4 w' w.heap.size (fun _ => True) v241 x17_1) ∧ Aside0 (Below w.heap.size w w'))
                case atStart => exact ⟨((-1)), (0), (by first | rfl | (simp; done) | (simp [*]; done)), (by first | rfl | (simp; done) | (simp [*]; done)), H', ⟨Nat.le_refl _⟩, ⟨by (with_reducible repeat (first | apply Kd.R_alloc | apply Kd.R_drewN | apply Kd.R_drew)); exact HO_14.out⟩, ⟨by (with_reducible repeat (first | apply Kd.R_alloc | apply Kd.R_drewN | apply Kd.R_drew)); exact HO_17.out⟩, ⟨by repeat (first | (with_reducible first | exact HB.out | apply below_alloc | apply pw_below_drewN | apply below_drew1) | exact HB.out)⟩⟩
                case round =>
                  clear H'
                  try clear c1
                  try clear c2
                  try clear p2
                  try clear c8
                  try clear c8b0
                  try clear c8b1
                  try clear c9
                  try clear c9b0
                  try clear c9b1
                  try clear c11
                  try clear c16
                  try clear c19
                  try clear p2
                  obtain ⟨x18_3, x19_3, rfl, rfl, HA, HK3, HO_14, HO_17, HB⟩ := hrel
                  cases gk with
                  | zero => exact absurd HA.out (by simp [millwrightref12_Choose.l1])
                  | succ k3 =>
                    have H := HA.out
                    clear HA
                    simp only [millwrightref12_Choose.l1] at H
                    by_cases c20 : x19_3 < (l0.length : Int)
                    · rw [if_pos c20] at H
                      have c20b0 : decide (x19_3 < (l0.length : Int)) = true := decide_eq_true c20
                      clear c20
                      have HC21 := Aside0.mk H
                      clear H
                      go_upto_region 10 with (fail)
                      go_cut [64] (fun v64 wc => ∃ (kq : Nat) (x64_20 : Bool), v64 = .bool x64_20 ∧ Aside0 (millwrightref12_Choose.j3 kq l0 a1 a2 a5 x14_1 x15_1 x17_1 x18_3 x19_3 x64_20 = some (r1, r2)) ∧ Aside0 (kq ≤ k3) ∧ Aside0 (Kd.R (Kd.int .i64) 3 wc w.heap.size (fun _ => True) u14 x14_1) ∧ Aside0 (Kd.R Kd.bool 4 wc w.heap.size (fun _ => True) v241 x17_1) ∧ Aside0 (Below w.heap.size w wc))
                      case first =>
                        have H := HC21.out
                        clear HC21
                        by_cases c22 : 0 ≤ x19_3
                        · rw [if_pos c22] at H
                          have c22b0 : decide (0 ≤ x19_3) = true := decide_eq_true c22
                          clear c22
                          (first | rw [c22b0] | (simp only [i64_w, i32_w]; rw [c22b0]) | skip)
                          by_cases c23 : x19_3 < (x17_1.length : Int)
                          · rw [if_pos c23] at H
                            have c23b0 : decide (x19_3 < (x17_1.length : Int)) = true := decide_eq_true c23
                            clear c23
                            obtain ⟨bq24, hbq24⟩ : ∃ b_ : Bool, b_ = (rdOf false x17_1 x19_3) := ⟨_, rfl⟩
                            replace H : (if bq24 = true then (millwrightref12_Choose.j3 k3 l0 a1 a2 a5 x14_1 x15_1 x17_1 x18_3 x19_3 true) else (if ((rd_T28 l0 x19_3).f1) ≥ a1 then (millwrightref12_Choose.j3 k3 l0 a1 a2 a5 x14_1 x15_1 x17_1 x18_3 x19_3 true) else (millwrightref12_Choose.j3 k3 l0 a1 a2 a5 x14_1 x15_1 x17_1 x18_3 x19_3 (decide (((rd_T28 l0 x19_3).f3) ≥ a5))))) = some (r1, r2) := by rw [← hbq24] at H; exact H
                            have Nbq24 := Aside0.mk hbq24
                            clear hbq24
                            by_cases c25 : bq24 = true
                            · subst c25
                              have H1 : (millwrightref12_Choose.j3 k3 l0 a1 a2 a5 x14_1 x15_1 x17_1 x18_3 x19_3 true) = some (r1, r2) := by rw [if_pos rfl] at H; exact H
                              clear H
                              have H := H1
                              clear H1
                              have H' := Aside0.mk H
                              clear H
                              obtain ⟨Ao26, co26, eo26⟩ := Kd.R_slice HO_17.out
                              subst eo26
                              have p251 : 0 ≤ (x19_3 : Int) := of_decide_eq_true (by first | (with_reducible assumption) | assumption)
                              have q251 : x19_3 < (x17_1.length : Int) := of_decide_eq_true (by first | (with_reducible assumption) | assumption)
                              obtain ⟨ad251, e251, hx251_0⟩ := Kd.at_bool (Kd.R_reads' HO_17.out).2.2 x19_3 p251 q251
                              (try rw [← Nbq24.out] at hx251_0)
                              cases e251
                              replace p251 := eq_true p251
                              replace q251 := eq_true q251
                              go_wp2
                              go_meet
                              case rel => exact ⟨_, (true), (by first | rfl | (simp; done) | (simp [*]; done)), H', ⟨by have := HK1.out; have := HJ14.out; have := HK3.out; first | omega | exact Nat.le_refl _⟩, ⟨by (with_reducible repeat (first | apply Kd.R_alloc | apply Kd.R_drewN | apply Kd.R_drew)); exact HO_14.out⟩, ⟨by (with_reducible repeat (first | apply Kd.R_alloc | apply Kd.R_drewN | apply Kd.R_drew)); exact HO_17.out⟩, ⟨by repeat (first | (with_reducible first | exact HB.out | apply below_alloc | apply pw_below_drewN | apply below_drew1) | exact HB.out)⟩⟩
                            · replace c25 := Bool.eq_false_iff.mpr c25
                              subst c25
                              have H1 : (if ((rd_T28 l0 x19_3).f1) ≥ a1 then (millwrightref12_Choose.j3 k3 l0 a1 a2 a5 x14_1 x15_1 x17_1 x18_3 x19_3 true) else (millwrightref12_Choose.j3 k3 l0 a1 a2 a5 x14_1 x15_1 x17_1 x18_3 x19_3 (decide (((rd_T28 l0 x19_3).f3) ≥ a5)))) = some (r1, r2) := by rw [if_neg (show ¬ (false = true) by decide)] at H; exact H
                              clear H
                              have H := H1
                              clear H1
                              by_cases c27 : ((rd_T28 l0 x19_3).f1) ≥ a1
                              · rw [if_pos c27] at H
                                have c27b0 : decide (a1 ≤ ((rd_T28 l0 x19_3).f1)) = true := decide_eq_true c27
                                clear c27
                                have H' := Aside0.mk H
                                clear H
                                obtain ⟨Ao28, co28, eo28⟩ := Kd.R_slice HO_17.out
                                subst eo28
                                have p251 : 0 ≤ (x19_3 : Int) := of_decide_eq_true (by first | (with_reducible assumption) | assumption)
                                have q251 : x19_3 < (x17_1.length : Int) := of_decide_eq_true (by first | (with_reducible assumption) | assumption)
                                obtain ⟨ad251, e251, hx251_0⟩ := Kd.at_bool (Kd.R_reads' HO_17.out).2.2 x19_3 p251 q251
                                (try rw [← Nbq24.out] at hx251_0)
                                cases e251
                                replace p251 := eq_true p251
                                replace q251 := eq_true q251
                                have p252 : 0 ≤ (x19_3 : Int) := of_decide_eq_true (by first | (with_reducible assumption) | assumption)
                                have q252 : x19_3 < (l0.length : Int) := of_decide_eq_true (by first | (with_reducible assumption) | assumption)
                                obtain ⟨ad252, e252, hx252_0, hx252_1, hx252_2, hx252_3, hx252_4⟩ := at_T28 HR0.out x19_3 p252 q252
                                cases e252
                                replace hx252_0 := (HB.out.cell (World.block_lt_of_cell? w _ hx252_0)).trans hx252_0
                                replace hx252_1 := (HB.out.cell (World.block_lt_of_cell? w _ hx252_1)).trans hx252_1
                                replace hx252_2 := (HB.out.cell (World.block_lt_of_cell? w _ hx252_2)).trans hx252_2
                                replace hx252_3 := (HB.out.cell (World.block_lt_of_cell? w _ hx252_3)).trans hx252_3
                                replace hx252_4 := (HB.out.cell (World.block_lt_of_cell? w _ hx252_4)).trans hx252_4
                                replace p252 := eq_true p252
                                replace q252 := eq_true q252
                                go_wp2
                                go_meet
                                case rel => exact ⟨_, (true), (by first | rfl | (simp; done) | (simp [*]; done)), H', ⟨by have := HK1.out; have := HJ14.out; have := HK3.out; first | omega | exact Nat.le_refl _⟩, ⟨by (with_reducible repeat (first | apply Kd.R_alloc | apply Kd.R_drewN | apply Kd.R_drew)); exact HO_14.out⟩, ⟨by (with_reducible repeat (first | apply Kd.R_alloc | apply Kd.R_drewN | apply Kd.R_drew)); exact HO_17.out⟩, ⟨by repeat (first | (with_reducible first | exact HB.out | apply below_alloc | apply pw_below_drewN | apply below_drew1) | exact HB.out)⟩⟩
                              · rw [if_neg c27] at H
                                have c27b0 : decide (a1 ≤ ((rd_T28 l0 x19_3).f1)) = false := decide_eq_false c27
                                clear c27
                                have H' := Aside0.mk H
                                clear H
                                obtain ⟨Ao29, co29, eo29⟩ := Kd.R_slice HO_17.out
                                subst eo29
                                have p251 : 0 ≤ (x19_3 : Int) := of_decide_eq_true (by first | (with_reducible assumption) | assumption)
                                have q251 : x19_3 < (x17_1.length : Int) := of_decide_eq_true (by first | (with_reducible assumption) | assumption)
                                obtain ⟨ad251, e251, hx251_0⟩ := Kd.at_bool (Kd.R_reads' HO_17.out).2.2 x19_3 p251 q251
                                (try rw [← Nbq24.out] at hx251_0)
                                cases e251
                                replace p251 := eq_true p251
                                replace q251 := eq_true q251
                                have p252 : 0 ≤ (x19_3 : Int) := of_decide_eq_true (by first | (with_reducible assumption) | assumption)
                                have q252 : x19_3 < (l0.length : Int) := of_decide_eq_true (by first | (with_reducible assumption) | assumption)
                                obtain ⟨ad252, e252, hx252_0, hx252_1, hx252_2, hx252_3, hx252_4⟩ := at_T28 HR0.out x19_3 p252 q252
                                cases e252
                                replace hx252_0 := (HB.out.cell (World.block_lt_of_cell? w _ hx252_0)).trans hx252_0
                                replace hx252_1 := (HB.out.cell (World.block_lt_of_cell? w _ hx252_1)).trans hx252_1
                                replace hx252_2 := (HB.out.cell (World.block_lt_of_cell? w _ hx252_2)).trans hx252_2
                                replace hx252_3 := (HB.out.cell (World.block_lt_of_cell? w _ hx252_3)).trans hx252_3
                                replace hx252_4 := (HB.out.cell (World.block_lt_of_cell? w _ hx252_4)).trans hx252_4
                                replace p252 := eq_true p252
                                replace q252 := eq_true q252
                                have p253 : 0 ≤ (x19_3 : Int) := of_decide_eq_true (by first | (with_reducible assumption) | assumption)
                                have q253 : x19_3 < (l0.length : Int) := of_decide_eq_true (by first | (with_reducible assumption) | assumption)
                                obtain ⟨ad253, e253, hx253_0, hx253_1, hx253_2, hx253_3, hx253_4⟩ := at_T28 HR0.out x19_3 p253 q253
                                obtain rfl : ad252 = ad253 := (by injection e253)
                                replace hx253_0 := (HB.out.cell (World.block_lt_of_cell? w _ hx253_0)).trans hx253_0
                                replace hx253_1 := (HB.out.cell (World.block_lt_of_cell? w _ hx253_1)).trans hx253_1
                                replace hx253_2 := (HB.out.cell (World.block_lt_of_cell? w _ hx253_2)).trans hx253_2
                                replace hx253_3 := (HB.out.cell (World.block_lt_of_cell? w _ hx253_3)).trans hx253_3
                                replace hx253_4 := (HB.out.cell (World.block_lt_of_cell? w _ hx253_4)).trans hx253_4
                                replace p253 := eq_true p253
                                replace q253 := eq_true q253
                                go_wp2
                                go_meet
                                case rel => exact ⟨_, (decide (((rd_T28 l0 x19_3).f3) ≥ a5)), (by first | rfl | (simp; done) | (simp [*]; done)), H', ⟨by have := HK1.out; have := HJ14.out; have := HK3.out; first | omega | exact Nat.le_refl _⟩, ⟨by (with_reducible repeat (first | apply Kd.R_alloc | apply Kd.R_drewN | apply Kd.R_drew)); exact HO_14.out⟩, ⟨by (with_reducible repeat (first | apply Kd.R_alloc | apply Kd.R_drewN | apply Kd.R_drew)); exact HO_17.out⟩, ⟨by repeat (first | (with_reducible first | exact HB.out | apply below_alloc | apply pw_below_drewN | apply below_drew1) | exact HB.out)⟩⟩
                          · rw [if_neg c23] at H
                            exact absurd H (by simp)
                        · rw [if_neg c22] at H
                          exact absurd H (by simp)
                      case rest =>
                        clear HC21
                        try clear c1
                        try clear c2
                        try clear p2
                        try clear q2
                        try clear hx2
                        try clear c8
                        try clear c8b0
                        try clear c8b1
                        try clear c9
                        try clear c9b0
                        try clear c9b1
                        try clear c11
                        try clear c16
                        try clear c19
                        try clear c20
                        try clear c20b0
                        try clear c22
                        try clear c22b0
                        try clear c23
                        try clear c23b0
                        try clear q24
                        try clear c25
                        try clear p25
                        try clear q25
                        try clear hx25
                        try clear c27
                        try clear c27b0
                        try clear hx251_0
                        try clear hx252_0
                        try clear hx252_1
                        try clear hx252_2
                        try clear hx252_3
                        try clear hx252_4
                        try clear hx253_0
                        try clear hx253_1
                        try clear hx253_2
                        try clear hx253_3
                        try clear hx253_4
                        try clear p2
                        try clear p251
                        try clear p252
                        try clear p253
                        try clear q251
                        try clear q252
                        try clear q253
                        obtain ⟨kq, x64_20, rfl, HA, HJ20, HO_14, HO_17, HB⟩ := hcut
                        cases kq with
                        | zero => exact absurd HA.out (by simp [millwrightref12_Choose.j3])
                        | succ kj20 =>
                          have H := HA.out
                          clear HA
                          simp only [millwrightref12_Choose.j3] at H
                          by_cases c30 : x64_20 = true
                          · subst c30
                            have H1 : (millwrightref12_Choose.l1 kj20 l0 a1 a2 a5 x14_1 x15_1 x17_1 x18_3 (wrap64 (x19_3 + 1))) = some (r1, r2) := by rw [if_pos rfl] at H; exact H
                            clear H
                            have H := H1
                            clear H1
                            have H' := Aside0.mk H
                            clear H
                            go_wp2
                            go_roundg kj20
                            case measure => have := HK1.out; have := HJ14.out; have := HK3.out; have := HJ20.out; omega
                            case rel => exact ⟨(x18_3), (wrap64 (x19_3 + 1)), (by first | rfl | (simp; done) | (simp [*]; done)), (by first | rfl | (simp; done) | (simp [*]; done)), H', ⟨by have := HK1.out; have := HJ14.out; have := HK3.out; have := HJ20.out; omega⟩, ⟨by (with_reducible repeat (first | apply Kd.R_alloc | apply Kd.R_drewN | apply Kd.R_drew)); exact HO_14.out⟩, ⟨by (with_reducible repeat (first | apply Kd.R_alloc | apply Kd.R_drewN | apply Kd.R_drew)); exact HO_17.out⟩, ⟨by repeat (first | (with_reducible first | exact HB.out | apply below_alloc | apply pw_below_drewN | apply below_drew1) | exact HB.out)⟩⟩
                          · replace c30 := Bool.eq_false_iff.mpr c30
                            subst c30
                            have H1 : (if x18_3 < 0 then (millwrightref12_Choose.l1 kj20 l0 a1 a2 a5 x14_1 x15_1 x17_1 x19_3 (wrap64 (x19_3 + 1))) else (if 0 ≤ x19_3 then (if x19_3 < (l0.length : Int) then (if 0 ≤ x18_3 then (if x18_3 < (l0.length : Int) then ((millwrightref12_ahead.f ((rd_T28 l0 x19_3).f0) ((rd_T28 l0 x19_3).f1) ((rd_T28 l0 x19_3).f2) ((rd_T28 l0 x19_3).f3) ((rd_T28 l0 x19_3).f4) ((rd_T28 l0 x18_3).f0) ((rd_T28 l0 x18_3).f1) ((rd_T28 l0 x18_3).f2) ((rd_T28 l0 x18_3).f3) ((rd_T28 l0 x18_3).f4)).bind fun t256 => (if t256 = true then (millwrightref12_Choose.l1 kj20 l0 a1 a2 a5 x14_1 x15_1 x17_1 x19_3 (wrap64 (x19_3 + 1))) else (millwrightref12_Choose.l1 kj20 l0 a1 a2 a5 x14_1 x15_1 x17_1 x18_3 (wrap64 (x19_3 + 1))))) else (none)) else (none)) else (none)) else (none))) = some (r1, r2) := by rw [if_neg (show ¬ (false = true) by decide)] at H; exact H
                            clear H
                            have H := H1
                            clear H1
                            by_cases c31 : x18_3 < 0
                            · rw [if_pos c31] at H
                              have c31b0 : decide (x18_3 < 0) = true := decide_eq_true c31
                              clear c31
                              have H' := Aside0.mk H
                              clear H
                              go_wp2
                              go_roundg kj20
                              case measure => have := HK1.out; have := HJ14.out; have := HK3.out; have := HJ20.out; omega
                              case rel => exact ⟨(x19_3), (wrap64 (x19_3 + 1)), (by first | rfl | (simp; done) | (simp [*]; done)), (by first | rfl | (simp; done) | (simp [*]; done)), H', ⟨by have := HK1.out; have := HJ14.out; have := HK3.out; have := HJ20.out; omega⟩, ⟨by (with_reducible repeat (first | apply Kd.R_alloc | apply Kd.R_drewN | apply Kd.R_drew)); exact HO_14.out⟩, ⟨by (with_reducible repeat (first | apply Kd.R_alloc | apply Kd.R_drewN | apply Kd.R_drew)); exact HO_17.out⟩, ⟨by repeat (first | (with_reducible first | exact HB.out | apply below_alloc | apply pw_below_drewN | apply below_drew1) | exact HB.out)⟩⟩
                            · rw [if_neg c31] at H
                              have c31b0 : decide (x18_3 < 0) = false := decide_eq_false c31
                              clear c31
                              by_cases c32 : 0 ≤ x19_3
                              · rw [if_pos c32] at H
                                have c32b0 : decide (0 ≤ x19_3) = true := decide_eq_true c32
                                clear c32
                                by_cases c33 : x19_3 < (l0.length : Int)
                                · rw [if_pos c33] at H
                                  have c33b0 : decide (x19_3 < (l0.length : Int)) = true := decide_eq_true c33
                                  clear c33
                                  by_cases c34 : 0 ≤ x18_3
                                  · rw [if_pos c34] at H
                                    have c34b0 : decide (0 ≤ x18_3) = true := decide_eq_true c34
                                    clear c34
                                    by_cases c35 : x18_3 < (l0.length : Int)
                                    · rw [if_pos c35] at H
                                      have c35b0 : decide (x18_3 < (l0.length : Int)) = true := decide_eq_true c35
                                      clear c35
                                      replace H := Option.bind_eq_some_iff.mp H
                                      obtain ⟨t256, A360, H⟩ := H
                                      replace H : (if t256 = true then (millwrightref12_Choose.l1 kj20 l0 a1 a2 a5 x14_1 x15_1 x17_1 x19_3 (wrap64 (x19_3 + 1))) else (millwrightref12_Choose.l1 kj20 l0 a1 a2 a5 x14_1 x15_1 x17_1 x18_3 (wrap64 (x19_3 + 1)))) = some (r1, r2) := H
                                      have A36 := Aside0.mk A360
                                      clear A360
                                      by_cases c37 : t256 = true
                                      · subst c37
                                        have H1 : (millwrightref12_Choose.l1 kj20 l0 a1 a2 a5 x14_1 x15_1 x17_1 x19_3 (wrap64 (x19_3 + 1))) = some (r1, r2) := by rw [if_pos rfl] at H; exact H
                                        clear H
                                        have H := H1
                                        clear H1
                                        have H' := Aside0.mk H
                                        clear H
                                        try go_wp2
                                        have n0_ := Aside0.mk (Kd.R_drew HO_14.out)
                                        have n1_ := Aside0.mk (Kd.R_drew HO_17.out)
                                        have n2_ := Aside0.mk (below_drew1 HB.out)
                                        clear HO_14
                                        clear HO_17
                                        clear HB
                                        have HO_14 := n0_
                                        have HO_17 := n1_
                                        have HB := n2_
                                        clear n0_ n1_ n2_
                                        have p254 : 0 ≤ (x19_3 : Int) := of_decide_eq_true (by first | (with_reducible assumption) | assumption)
                                        have q254 : x19_3 < (l0.length : Int) := of_decide_eq_true (by first | (with_reducible assumption) | assumption)
                                        obtain ⟨ad254, e254, hx254_0, hx254_1, hx254_2, hx254_3, hx254_4⟩ := at_T28 HR0.out x19_3 p254 q254
                                        have hw254_4 := hx254_4
                                        have hw254_3 := hx254_3
                                        have hw254_2 := hx254_2
                                        have hw254_1 := hx254_1
                                        have hw254_0 := hx254_0
                                        cases e254
                                        replace hx254_0 := (HB.out.cell (World.block_lt_of_cell? w _ hx254_0)).trans hx254_0
                                        replace hx254_1 := (HB.out.cell (World.block_lt_of_cell? w _ hx254_1)).trans hx254_1
                                        replace hx254_2 := (HB.out.cell (World.block_lt_of_cell? w _ hx254_2)).trans hx254_2
                                        replace hx254_3 := (HB.out.cell (World.block_lt_of_cell? w _ hx254_3)).trans hx254_3
                                        replace hx254_4 := (HB.out.cell (World.block_lt_of_cell? w _ hx254_4)).trans hx254_4
                                        replace p254 := eq_true p254
                                        replace q254 := eq_true q254
                                        have p255 : 0 ≤ (x18_3 : Int) := of_decide_eq_true (by first | (with_reducible assumption) | assumption)
                                        have q255 : x18_3 < (l0.length : Int) := of_decide_eq_true (by first | (with_reducible assumption) | assumption)
                                        obtain ⟨ad255, e255, hx255_0, hx255_1, hx255_2, hx255_3, hx255_4⟩ := at_T28 HR0.out x18_3 p255 q255
                                        have hw255_4 := hx255_4
                                        have hw255_3 := hx255_3
                                        have hw255_2 := hx255_2
                                        have hw255_1 := hx255_1
                                        have hw255_0 := hx255_0
                                        obtain rfl : ad254 = ad255 := (by injection e255)
                                        replace hx255_0 := (HB.out.cell (World.block_lt_of_cell? w _ hx255_0)).trans hx255_0
                                        replace hx255_1 := (HB.out.cell (World.block_lt_of_cell? w _ hx255_1)).trans hx255_1
                                        replace hx255_2 := (HB.out.cell (World.block_lt_of_cell? w _ hx255_2)).trans hx255_2
                                        replace hx255_3 := (HB.out.cell (World.block_lt_of_cell? w _ hx255_3)).trans hx255_3
                                        replace hx255_4 := (HB.out.cell (World.block_lt_of_cell? w _ hx255_4)).trans hx255_4
                                        replace p255 := eq_true p255
                                        replace q255 := eq_true q255
                                        refine start_ (n := 10) (S := fun w' => w'.cell? (ad254.add ((x19_3).toNat * 5)) = some (.int .i64 ((rd_T28 l0 x19_3).f0)) ∧ w'.cell? ⟨(ad254.add ((x19_3).toNat * 5)).block, (ad254.add ((x19_3).toNat * 5)).off + 1, none⟩ = some (.int .i64 ((rd_T28 l0 x19_3).f1)) ∧ w'.cell? ⟨(ad254.add ((x19_3).toNat * 5)).block, (ad254.add ((x19_3).toNat * 5)).off + 2, none⟩ = some (.int .i64 ((rd_T28 l0 x19_3).f2)) ∧ w'.cell? ⟨(ad254.add ((x19_3).toNat * 5)).block, (ad254.add ((x19_3).toNat * 5)).off + 3, none⟩ = some (.int .i64 ((rd_T28 l0 x19_3).f3)) ∧ w'.cell? ⟨(ad254.add ((x19_3).toNat * 5)).block, (ad254.add ((x19_3).toNat * 5)).off + 4, none⟩ = some (.int .i64 ((rd_T28 l0 x19_3).f4)) ∧ w'.cell? (ad254.add ((x18_3).toNat * 5)) = some (.int .i64 ((rd_T28 l0 x18_3).f0)) ∧ w'.cell? ⟨(ad254.add ((x18_3).toNat * 5)).block, (ad254.add ((x18_3).toNat * 5)).off + 1, none⟩ = some (.int .i64 ((rd_T28 l0 x18_3).f1)) ∧ w'.cell? ⟨(ad254.add ((x18_3).toNat * 5)).block, (ad254.add ((x18_3).toNat * 5)).off + 2, none⟩ = some (.int .i64 ((rd_T28 l0 x18_3).f2)) ∧ w'.cell? ⟨(ad254.add ((x18_3).toNat * 5)).block, (ad254.add ((x18_3).toNat * 5)).off + 3, none⟩ = some (.int .i64 ((rd_T28 l0 x18_3).f3)) ∧ w'.cell? ⟨(ad254.add ((x18_3).toNat * 5)).block, (ad254.add ((x18_3).toNat * 5)).off + 4, none⟩ = some (.int .i64 ((rd_T28 l0 x18_3).f4))) (ds := []) #[false, false, false, false, false, false, false, false, false, false] (by kernel_rfl) rfl rfl ⟨((HB.out.cell (World.block_lt_of_cell? w _ hw254_0)).trans hw254_0), ((HB.out.cell (World.block_lt_of_cell? w _ hw254_1)).trans hw254_1), ((HB.out.cell (World.block_lt_of_cell? w _ hw254_2)).trans hw254_2), ((HB.out.cell (World.block_lt_of_cell? w _ hw254_3)).trans hw254_3), ((HB.out.cell (World.block_lt_of_cell? w _ hw254_4)).trans hw254_4), ((HB.out.cell (World.block_lt_of_cell? w _ hw255_0)).trans hw255_0), ((HB.out.cell (World.block_lt_of_cell? w _ hw255_1)).trans hw255_1), ((HB.out.cell (World.block_lt_of_cell? w _ hw255_2)).trans hw255_2), ((HB.out.cell (World.block_lt_of_cell? w _ hw255_3)).trans hw255_3), ((HB.out.cell (World.block_lt_of_cell? w _ hw255_4)).trans hw255_4)⟩ (fun hHeld => ?_); refine with_tabW millwrightref12_Choose.tab13 millwrightref12_Choose.bits13 (fun HT_ HW_ => ?_)
                                        generalize wc.drew = w38 at HO_14 HO_17 HB hx254_0 hx254_1 hx254_2 hx254_3 hx254_4 hx255_0 hx255_1 hx255_2 hx255_3 hx255_4 hHeld ⊢
                                        refine pure_ (i := 0) (N := some 68) (v := ?_) (a' := ?_) #[true, false, false, false, false, false, false, false, false, false] rfl rfl (any_of HT_.out (by kernel_rfl)) (fun _ _ _ h => h) (Or.inl ⟨by rfl, ?_⟩) ?_ ?_
                                        rotate_left
                                        · intro w'
                                          go_simp
                                          with_reducible rfl
                                        rotate_left
                                        · simp only [Act.put, List.setIfInBounds_toArray, List.set_cons_zero, List.set_cons_succ, i64_w, i32_w]
                                          rfl
                                        refine pure_ (i := 1) (N := some 69) (v := ?_) (a' := ?_) #[true, true, false, false, false, false, false, false, false, false] rfl rfl (any_of HT_.out (by kernel_rfl)) (fun _ _ _ h => h) (Or.inl ⟨by rfl, ?_⟩) ?_ ?_
                                        rotate_left
                                        · intro w'
                                          go_simp
                                          with_reducible rfl
                                        rotate_left
                                        · simp only [Act.put, List.setIfInBounds_toArray, List.set_cons_zero, List.set_cons_succ, i64_w, i32_w]
                                          rfl
                                        refine pure_ (i := 2) (N := some 70) (v := ?_) (a' := ?_) #[true, true, true, false, false, false, false, false, false, false] rfl rfl (any_of HT_.out (by kernel_rfl)) (fun _ _ _ h => h) (Or.inl ⟨by rfl, ?_⟩) ?_ ?_
                                        rotate_left
                                        · intro w'
                                          go_simp
                                          with_reducible rfl
                                        rotate_left
                                        · simp only [Act.put, List.setIfInBounds_toArray, List.set_cons_zero, List.set_cons_succ, i64_w, i32_w]
                                          rfl
                                        refine pure_ (i := 4) (N := some 72) (v := ?_) (a' := ?_) #[true, true, true, false, true, false, false, false, false, false] rfl rfl (any_of HT_.out (by kernel_rfl)) (fun _ _ _ h => h) (Or.inl ⟨by rfl, ?_⟩) ?_ ?_
                                        rotate_left
                                        · intro w'
                                          go_simp
                                          with_reducible rfl
                                        rotate_left
                                        · simp only [Act.put, List.setIfInBounds_toArray, List.set_cons_zero, List.set_cons_succ, i64_w, i32_w]
                                          rfl
                                        refine pure_ (i := 5) (N := some 73) (v := ?_) (a' := ?_) #[true, true, true, false, true, true, false, false, false, false] rfl rfl (any_of HT_.out (by kernel_rfl)) (fun _ _ _ h => h) (Or.inl ⟨by rfl, ?_⟩) ?_ ?_
                                        rotate_left
                                        · intro w'
                                          go_simp
                                          with_reducible rfl
                                        rotate_left
                                        · simp only [Act.put, List.setIfInBounds_toArray, List.set_cons_zero, List.set_cons_succ, i64_w, i32_w]
                                          rfl
                                        refine pure_ (i := 6) (N := some 74) (v := ?_) (a' := ?_) #[true, true, true, false, true, true, true, false, false, false] rfl rfl (any_of HT_.out (by kernel_rfl)) (fun _ _ _ h => h) (Or.inl ⟨by rfl, ?_⟩) ?_ ?_
                                        rotate_left
                                        · intro w'
                                          go_simp
                                          with_reducible rfl
                                        rotate_left
                                        · simp only [Act.put, List.setIfInBounds_toArray, List.set_cons_zero, List.set_cons_succ, i64_w, i32_w]
                                          rfl
                                        refine take_ (i := 3) (N := some 71) (v := ?_) (a' := ?_) #[true, true, true, true, true, true, true, false, false, false] rfl rfl (take_ofW HT_.out HW_.out (by kernel_rfl)) (fun _ _ _ h => h) (Or.inl ⟨by rfl, ?_⟩) hHeld ?_ ?_
                                        rotate_left
                                        · rintro w' ⟨s0, s1, s2, s3, s4, s5, s6, s7, s8, s9⟩
                                          go_simp
                                          with_reducible rfl
                                        rotate_left
                                        · simp only [Act.put, List.setIfInBounds_toArray, List.set_cons_zero, List.set_cons_succ, i64_w, i32_w]
                                          rfl
                                        refine take_ (i := 7) (N := some 75) (v := ?_) (a' := ?_) #[true, true, true, true, true, true, true, true, false, false] rfl rfl (take_ofW HT_.out HW_.out (by kernel_rfl)) (fun _ _ _ h => h) (Or.inl ⟨by rfl, ?_⟩) hHeld ?_ ?_
                                        rotate_left
                                        · rintro w' ⟨s0, s1, s2, s3, s4, s5, s6, s7, s8, s9⟩
                                          go_simp
                                          with_reducible rfl
                                        rotate_left
                                        · simp only [Act.put, List.setIfInBounds_toArray, List.set_cons_zero, List.set_cons_succ, i64_w, i32_w]
                                          rfl
                                        refine one_ (i := 8) (N := some 76) #[true, true, true, true, true, true, true, true, true, false] rfl rfl (one_of HT_.out (by kernel_rfl)) (by decide) (fun K hK => ?_)
                                        refine goes_ Try.func21 (by kernel_rfl) rfl #[.agg #[.int .i64 ((rd_T28 l0 x19_3).f0), .int .i64 ((rd_T28 l0 x19_3).f1), .int .i64 ((rd_T28 l0 x19_3).f2), .int .i64 ((rd_T28 l0 x19_3).f3), .int .i64 ((rd_T28 l0 x19_3).f4)], .agg #[.int .i64 ((rd_T28 l0 x18_3).f0), .int .i64 ((rd_T28 l0 x18_3).f1), .int .i64 ((rd_T28 l0 x18_3).f2), .int .i64 ((rd_T28 l0 x18_3).f3), .int .i64 ((rd_T28 l0 x18_3).f4)]] (by rfl) rfl rfl (by (try simp only [List.map_toArray, List.map_cons, List.map_nil]); first | done | rfl | (simp only [List.length_drop, List.length_take]; rfl)) ?_
                                        with_reducible refine (millwrightref12_ahead.calls ((rd_T28 l0 x19_3).f0) ((rd_T28 l0 x19_3).f1) ((rd_T28 l0 x19_3).f2) ((rd_T28 l0 x19_3).f3) ((rd_T28 l0 x19_3).f4) ((rd_T28 l0 x18_3).f0) ((rd_T28 l0 x18_3).f1) ((rd_T28 l0 x18_3).f2) ((rd_T28 l0 x18_3).f3) ((rd_T28 l0 x18_3).f4) true _ A36.out).mono ?_
                                        rintro e w39 ⟨rfl, hb⟩
                                        refine ⟨_, rfl, ?_⟩
                                        have n0_ := Aside0.mk (Kd.R_below (by (with_reducible repeat (first | apply Kd.R_alloc | apply Kd.R_drewN | apply Kd.R_drew)); exact HO_14.out) hb)
                                        have n1_ := Aside0.mk (Kd.R_below (by (with_reducible repeat (first | apply Kd.R_alloc | apply Kd.R_drewN | apply Kd.R_drew)); exact HO_17.out) hb)
                                        have n2_ := Aside0.mk (below_step (by repeat (first | (with_reducible first | exact HB.out | apply below_alloc | apply pw_below_drewN | apply below_drew1) | exact HB.out)) hb)
                                        clear HO_14
                                        clear HO_17
                                        clear HB
                                        have HO_14 := n0_
                                        have HO_17 := n1_
                                        have HB := n2_
                                        clear n0_ n1_ n2_
                                        (try clear hb)
                                        (try clear hb2)
                                        (try clear hk)
                                        (try clear hi)
                                        refine hK.out _ _ ⟨((HB.out.cell (World.block_lt_of_cell? w _ hw254_0)).trans hw254_0), ((HB.out.cell (World.block_lt_of_cell? w _ hw254_1)).trans hw254_1), ((HB.out.cell (World.block_lt_of_cell? w _ hw254_2)).trans hw254_2), ((HB.out.cell (World.block_lt_of_cell? w _ hw254_3)).trans hw254_3), ((HB.out.cell (World.block_lt_of_cell? w _ hw254_4)).trans hw254_4), ((HB.out.cell (World.block_lt_of_cell? w _ hw255_0)).trans hw255_0), ((HB.out.cell (World.block_lt_of_cell? w _ hw255_1)).trans hw255_1), ((HB.out.cell (World.block_lt_of_cell? w _ hw255_2)).trans hw255_2), ((HB.out.cell (World.block_lt_of_cell? w _ hw255_3)).trans hw255_3), ((HB.out.cell (World.block_lt_of_cell? w _ hw255_4)).trans hw255_4)⟩ (fun hHeld => ?_)
                                        clear hK K
                                        refine norm_ (a' := ?_) ?_ ?_
                                        rotate_left
                                        · show Act.put _ (some 76) _ = _
                                          simp only [Act.put, List.setIfInBounds_toArray, List.set_cons_zero, List.set_cons_succ, i64_w, i32_w]
                                          rfl
                                        refine pure_ (i := 9) (N := some 20) (v := ?_) (a' := ?_) #[true, true, true, true, true, true, true, true, true, true] rfl rfl (any_of HT_.out (by kernel_rfl)) (fun _ _ _ h => h) (Or.inl ⟨by rfl, ?_⟩) ?_ ?_
                                        rotate_left
                                        · intro w'
                                          go_simp
                                          with_reducible rfl
                                        rotate_left
                                        · simp only [Act.put, List.setIfInBounds_toArray, List.set_cons_zero, List.set_cons_succ, i64_w, i32_w]
                                          rfl
                                        refine done_ (done_of HT_.out (by kernel_rfl)) ?_
                                        try go_wp2
                                        go_roundg kj20
                                        case measure => have := HK1.out; have := HJ14.out; have := HK3.out; have := HJ20.out; omega
                                        case rel => exact ⟨(x19_3), (wrap64 (x19_3 + 1)), (by first | rfl | (simp; done) | (simp [*]; done)), (by first | rfl | (simp; done) | (simp [*]; done)), H', ⟨by have := HK1.out; have := HJ14.out; have := HK3.out; have := HJ20.out; omega⟩, ⟨by (with_reducible repeat (first | apply Kd.R_alloc | apply Kd.R_drewN | apply Kd.R_drew)); exact HO_14.out⟩, ⟨by (with_reducible repeat (first | apply Kd.R_alloc | apply Kd.R_drewN | apply Kd.R_drew)); exact HO_17.out⟩, ⟨by repeat (first | (with_reducible first | exact HB.out | apply below_alloc | apply pw_below_drewN | apply below_drew1) | exact HB.out)⟩⟩
                                      · replace c37 := Bool.eq_false_iff.mpr c37
                                        subst c37
                                        have H1 : (millwrightref12_Choose.l1 kj20 l0 a1 a2 a5 x14_1 x15_1 x17_1 x18_3 (wrap64 (x19_3 + 1))) = some (r1, r2) := by rw [if_neg (show ¬ (false = true) by decide)] at H; exact H
                                        clear H
                                        have H := H1
                                        clear H1
                                        have H' := Aside0.mk H
                                        clear H
                                        try go_wp2
                                        have n0_ := Aside0.mk (Kd.R_drew HO_14.out)
                                        have n1_ := Aside0.mk (Kd.R_drew HO_17.out)
                                        have n2_ := Aside0.mk (below_drew1 HB.out)
                                        clear HO_14
                                        clear HO_17
                                        clear HB
                                        have HO_14 := n0_
                                        have HO_17 := n1_
                                        have HB := n2_
                                        clear n0_ n1_ n2_
                                        have p254 : 0 ≤ (x19_3 : Int) := of_decide_eq_true (by first | (with_reducible assumption) | assumption)
                                        have q254 : x19_3 < (l0.length : Int) := of_decide_eq_true (by first | (with_reducible assumption) | assumption)
                                        obtain ⟨ad254, e254, hx254_0, hx254_1, hx254_2, hx254_3, hx254_4⟩ := at_T28 HR0.out x19_3 p254 q254
                                        have hw254_4 := hx254_4
                                        have hw254_3 := hx254_3
                                        have hw254_2 := hx254_2
                                        have hw254_1 := hx254_1
                                        have hw254_0 := hx254_0
                                        cases e254
                                        replace hx254_0 := (HB.out.cell (World.block_lt_of_cell? w _ hx254_0)).trans hx254_0
                                        replace hx254_1 := (HB.out.cell (World.block_lt_of_cell? w _ hx254_1)).trans hx254_1
                                        replace hx254_2 := (HB.out.cell (World.block_lt_of_cell? w _ hx254_2)).trans hx254_2
                                        replace hx254_3 := (HB.out.cell (World.block_lt_of_cell? w _ hx254_3)).trans hx254_3
                                        replace hx254_4 := (HB.out.cell (World.block_lt_of_cell? w _ hx254_4)).trans hx254_4
                                        replace p254 := eq_true p254
                                        replace q254 := eq_true q254
                                        have p255 : 0 ≤ (x18_3 : Int) := of_decide_eq_true (by first | (with_reducible assumption) | assumption)
                                        have q255 : x18_3 < (l0.length : Int) := of_decide_eq_true (by first | (with_reducible assumption) | assumption)
                                        obtain ⟨ad255, e255, hx255_0, hx255_1, hx255_2, hx255_3, hx255_4⟩ := at_T28 HR0.out x18_3 p255 q255
                                        have hw255_4 := hx255_4
                                        have hw255_3 := hx255_3
                                        have hw255_2 := hx255_2
                                        have hw255_1 := hx255_1
                                        have hw255_0 := hx255_0
                                        obtain rfl : ad254 = ad255 := (by injection e255)
                                        replace hx255_0 := (HB.out.cell (World.block_lt_of_cell? w _ hx255_0)).trans hx255_0
                                        replace hx255_1 := (HB.out.cell (World.block_lt_of_cell? w _ hx255_1)).trans hx255_1
                                        replace hx255_2 := (HB.out.cell (World.block_lt_of_cell? w _ hx255_2)).trans hx255_2
                                        replace hx255_3 := (HB.out.cell (World.block_lt_of_cell? w _ hx255_3)).trans hx255_3
                                        replace hx255_4 := (HB.out.cell (World.block_lt_of_cell? w _ hx255_4)).trans hx255_4
                                        replace p255 := eq_true p255
                                        replace q255 := eq_true q255
                                        refine start_ (n := 10) (S := fun w' => w'.cell? (ad254.add ((x19_3).toNat * 5)) = some (.int .i64 ((rd_T28 l0 x19_3).f0)) ∧ w'.cell? ⟨(ad254.add ((x19_3).toNat * 5)).block, (ad254.add ((x19_3).toNat * 5)).off + 1, none⟩ = some (.int .i64 ((rd_T28 l0 x19_3).f1)) ∧ w'.cell? ⟨(ad254.add ((x19_3).toNat * 5)).block, (ad254.add ((x19_3).toNat * 5)).off + 2, none⟩ = some (.int .i64 ((rd_T28 l0 x19_3).f2)) ∧ w'.cell? ⟨(ad254.add ((x19_3).toNat * 5)).block, (ad254.add ((x19_3).toNat * 5)).off + 3, none⟩ = some (.int .i64 ((rd_T28 l0 x19_3).f3)) ∧ w'.cell? ⟨(ad254.add ((x19_3).toNat * 5)).block, (ad254.add ((x19_3).toNat * 5)).off + 4, none⟩ = some (.int .i64 ((rd_T28 l0 x19_3).f4)) ∧ w'.cell? (ad254.add ((x18_3).toNat * 5)) = some (.int .i64 ((rd_T28 l0 x18_3).f0)) ∧ w'.cell? ⟨(ad254.add ((x18_3).toNat * 5)).block, (ad254.add ((x18_3).toNat * 5)).off + 1, none⟩ = some (.int .i64 ((rd_T28 l0 x18_3).f1)) ∧ w'.cell? ⟨(ad254.add ((x18_3).toNat * 5)).block, (ad254.add ((x18_3).toNat * 5)).off + 2, none⟩ = some (.int .i64 ((rd_T28 l0 x18_3).f2)) ∧ w'.cell? ⟨(ad254.add ((x18_3).toNat * 5)).block, (ad254.add ((x18_3).toNat * 5)).off + 3, none⟩ = some (.int .i64 ((rd_T28 l0 x18_3).f3)) ∧ w'.cell? ⟨(ad254.add ((x18_3).toNat * 5)).block, (ad254.add ((x18_3).toNat * 5)).off + 4, none⟩ = some (.int .i64 ((rd_T28 l0 x18_3).f4))) (ds := []) #[false, false, false, false, false, false, false, false, false, false] (by kernel_rfl) rfl rfl ⟨((HB.out.cell (World.block_lt_of_cell? w _ hw254_0)).trans hw254_0), ((HB.out.cell (World.block_lt_of_cell? w _ hw254_1)).trans hw254_1), ((HB.out.cell (World.block_lt_of_cell? w _ hw254_2)).trans hw254_2), ((HB.out.cell (World.block_lt_of_cell? w _ hw254_3)).trans hw254_3), ((HB.out.cell (World.block_lt_of_cell? w _ hw254_4)).trans hw254_4), ((HB.out.cell (World.block_lt_of_cell? w _ hw255_0)).trans hw255_0), ((HB.out.cell (World.block_lt_of_cell? w _ hw255_1)).trans hw255_1), ((HB.out.cell (World.block_lt_of_cell? w _ hw255_2)).trans hw255_2), ((HB.out.cell (World.block_lt_of_cell? w _ hw255_3)).trans hw255_3), ((HB.out.cell (World.block_lt_of_cell? w _ hw255_4)).trans hw255_4)⟩ (fun hHeld => ?_); refine with_tabW millwrightref12_Choose.tab13 millwrightref12_Choose.bits13 (fun HT_ HW_ => ?_)
                                        generalize wc.drew = w40 at HO_14 HO_17 HB hx254_0 hx254_1 hx254_2 hx254_3 hx254_4 hx255_0 hx255_1 hx255_2 hx255_3 hx255_4 hHeld ⊢
                                        refine pure_ (i := 0) (N := some 68) (v := ?_) (a' := ?_) #[true, false, false, false, false, false, false, false, false, false] rfl rfl (any_of HT_.out (by kernel_rfl)) (fun _ _ _ h => h) (Or.inl ⟨by rfl, ?_⟩) ?_ ?_
                                        rotate_left
                                        · intro w'
                                          go_simp
                                          with_reducible rfl
                                        rotate_left
                                        · simp only [Act.put, List.setIfInBounds_toArray, List.set_cons_zero, List.set_cons_succ, i64_w, i32_w]
                                          rfl
                                        refine pure_ (i := 1) (N := some 69) (v := ?_) (a' := ?_) #[true, true, false, false, false, false, false, false, false, false] rfl rfl (any_of HT_.out (by kernel_rfl)) (fun _ _ _ h => h) (Or.inl ⟨by rfl, ?_⟩) ?_ ?_
                                        rotate_left
                                        · intro w'
                                          go_simp
                                          with_reducible rfl
                                        rotate_left
                                        · simp only [Act.put, List.setIfInBounds_toArray, List.set_cons_zero, List.set_cons_succ, i64_w, i32_w]
                                          rfl
                                        refine pure_ (i := 2) (N := some 70) (v := ?_) (a' := ?_) #[true, true, true, false, false, false, false, false, false, false] rfl rfl (any_of HT_.out (by kernel_rfl)) (fun _ _ _ h => h) (Or.inl ⟨by rfl, ?_⟩) ?_ ?_
                                        rotate_left
                                        · intro w'
                                          go_simp
                                          with_reducible rfl
                                        rotate_left
                                        · simp only [Act.put, List.setIfInBounds_toArray, List.set_cons_zero, List.set_cons_succ, i64_w, i32_w]
                                          rfl
                                        refine pure_ (i := 4) (N := some 72) (v := ?_) (a' := ?_) #[true, true, true, false, true, false, false, false, false, false] rfl rfl (any_of HT_.out (by kernel_rfl)) (fun _ _ _ h => h) (Or.inl ⟨by rfl, ?_⟩) ?_ ?_
                                        rotate_left
                                        · intro w'
                                          go_simp
                                          with_reducible rfl
                                        rotate_left
                                        · simp only [Act.put, List.setIfInBounds_toArray, List.set_cons_zero, List.set_cons_succ, i64_w, i32_w]
                                          rfl
                                        refine pure_ (i := 5) (N := some 73) (v := ?_) (a' := ?_) #[true, true, true, false, true, true, false, false, false, false] rfl rfl (any_of HT_.out (by kernel_rfl)) (fun _ _ _ h => h) (Or.inl ⟨by rfl, ?_⟩) ?_ ?_
                                        rotate_left
                                        · intro w'
                                          go_simp
                                          with_reducible rfl
                                        rotate_left
                                        · simp only [Act.put, List.setIfInBounds_toArray, List.set_cons_zero, List.set_cons_succ, i64_w, i32_w]
                                          rfl
                                        refine pure_ (i := 6) (N := some 74) (v := ?_) (a' := ?_) #[true, true, true, false, true, true, true, false, false, false] rfl rfl (any_of HT_.out (by kernel_rfl)) (fun _ _ _ h => h) (Or.inl ⟨by rfl, ?_⟩) ?_ ?_
                                        rotate_left
                                        · intro w'
                                          go_simp
                                          with_reducible rfl
                                        rotate_left
                                        · simp only [Act.put, List.setIfInBounds_toArray, List.set_cons_zero, List.set_cons_succ, i64_w, i32_w]
                                          rfl
                                        refine take_ (i := 3) (N := some 71) (v := ?_) (a' := ?_) #[true, true, true, true, true, true, true, false, false, false] rfl rfl (take_ofW HT_.out HW_.out (by kernel_rfl)) (fun _ _ _ h => h) (Or.inl ⟨by rfl, ?_⟩) hHeld ?_ ?_
                                        rotate_left
                                        · rintro w' ⟨s0, s1, s2, s3, s4, s5, s6, s7, s8, s9⟩
                                          go_simp
                                          with_reducible rfl
                                        rotate_left
                                        · simp only [Act.put, List.setIfInBounds_toArray, List.set_cons_zero, List.set_cons_succ, i64_w, i32_w]
                                          rfl
                                        refine take_ (i := 7) (N := some 75) (v := ?_) (a' := ?_) #[true, true, true, true, true, true, true, true, false, false] rfl rfl (take_ofW HT_.out HW_.out (by kernel_rfl)) (fun _ _ _ h => h) (Or.inl ⟨by rfl, ?_⟩) hHeld ?_ ?_
                                        rotate_left
                                        · rintro w' ⟨s0, s1, s2, s3, s4, s5, s6, s7, s8, s9⟩
                                          go_simp
                                          with_reducible rfl
                                        rotate_left
                                        · simp only [Act.put, List.setIfInBounds_toArray, List.set_cons_zero, List.set_cons_succ, i64_w, i32_w]
                                          rfl
                                        refine one_ (i := 8) (N := some 76) #[true, true, true, true, true, true, true, true, true, false] rfl rfl (one_of HT_.out (by kernel_rfl)) (by decide) (fun K hK => ?_)
                                        refine goes_ Try.func21 (by kernel_rfl) rfl #[.agg #[.int .i64 ((rd_T28 l0 x19_3).f0), .int .i64 ((rd_T28 l0 x19_3).f1), .int .i64 ((rd_T28 l0 x19_3).f2), .int .i64 ((rd_T28 l0 x19_3).f3), .int .i64 ((rd_T28 l0 x19_3).f4)], .agg #[.int .i64 ((rd_T28 l0 x18_3).f0), .int .i64 ((rd_T28 l0 x18_3).f1), .int .i64 ((rd_T28 l0 x18_3).f2), .int .i64 ((rd_T28 l0 x18_3).f3), .int .i64 ((rd_T28 l0 x18_3).f4)]] (by rfl) rfl rfl (by (try simp only [List.map_toArray, List.map_cons, List.map_nil]); first | done | rfl | (simp only [List.length_drop, List.length_take]; rfl)) ?_
                                        with_reducible refine (millwrightref12_ahead.calls ((rd_T28 l0 x19_3).f0) ((rd_T28 l0 x19_3).f1) ((rd_T28 l0 x19_3).f2) ((rd_T28 l0 x19_3).f3) ((rd_T28 l0 x19_3).f4) ((rd_T28 l0 x18_3).f0) ((rd_T28 l0 x18_3).f1) ((rd_T28 l0 x18_3).f2) ((rd_T28 l0 x18_3).f3) ((rd_T28 l0 x18_3).f4) false _ A36.out).mono ?_
                                        rintro e w41 ⟨rfl, hb⟩
                                        refine ⟨_, rfl, ?_⟩
                                        have n0_ := Aside0.mk (Kd.R_below (by (with_reducible repeat (first | apply Kd.R_alloc | apply Kd.R_drewN | apply Kd.R_drew)); exact HO_14.out) hb)
                                        have n1_ := Aside0.mk (Kd.R_below (by (with_reducible repeat (first | apply Kd.R_alloc | apply Kd.R_drewN | apply Kd.R_drew)); exact HO_17.out) hb)
                                        have n2_ := Aside0.mk (below_step (by repeat (first | (with_reducible first | exact HB.out | apply below_alloc | apply pw_below_drewN | apply below_drew1) | exact HB.out)) hb)
                                        clear HO_14
                                        clear HO_17
                                        clear HB
                                        have HO_14 := n0_
                                        have HO_17 := n1_
                                        have HB := n2_
                                        clear n0_ n1_ n2_
                                        (try clear hb)
                                        (try clear hb2)
                                        (try clear hk)
                                        (try clear hi)
                                        refine hK.out _ _ ⟨((HB.out.cell (World.block_lt_of_cell? w _ hw254_0)).trans hw254_0), ((HB.out.cell (World.block_lt_of_cell? w _ hw254_1)).trans hw254_1), ((HB.out.cell (World.block_lt_of_cell? w _ hw254_2)).trans hw254_2), ((HB.out.cell (World.block_lt_of_cell? w _ hw254_3)).trans hw254_3), ((HB.out.cell (World.block_lt_of_cell? w _ hw254_4)).trans hw254_4), ((HB.out.cell (World.block_lt_of_cell? w _ hw255_0)).trans hw255_0), ((HB.out.cell (World.block_lt_of_cell? w _ hw255_1)).trans hw255_1), ((HB.out.cell (World.block_lt_of_cell? w _ hw255_2)).trans hw255_2), ((HB.out.cell (World.block_lt_of_cell? w _ hw255_3)).trans hw255_3), ((HB.out.cell (World.block_lt_of_cell? w _ hw255_4)).trans hw255_4)⟩ (fun hHeld => ?_)
                                        clear hK K
                                        refine norm_ (a' := ?_) ?_ ?_
                                        rotate_left
                                        · show Act.put _ (some 76) _ = _
                                          simp only [Act.put, List.setIfInBounds_toArray, List.set_cons_zero, List.set_cons_succ, i64_w, i32_w]
                                          rfl
                                        refine pure_ (i := 9) (N := some 20) (v := ?_) (a' := ?_) #[true, true, true, true, true, true, true, true, true, true] rfl rfl (any_of HT_.out (by kernel_rfl)) (fun _ _ _ h => h) (Or.inl ⟨by rfl, ?_⟩) ?_ ?_
                                        rotate_left
                                        · intro w'
                                          go_simp
                                          with_reducible rfl
                                        rotate_left
                                        · simp only [Act.put, List.setIfInBounds_toArray, List.set_cons_zero, List.set_cons_succ, i64_w, i32_w]
                                          rfl
                                        refine done_ (done_of HT_.out (by kernel_rfl)) ?_
                                        try go_wp2
                                        go_roundg kj20
                                        case measure => have := HK1.out; have := HJ14.out; have := HK3.out; have := HJ20.out; omega
                                        case rel => exact ⟨(x18_3), (wrap64 (x19_3 + 1)), (by first | rfl | (simp; done) | (simp [*]; done)), (by first | rfl | (simp; done) | (simp [*]; done)), H', ⟨by have := HK1.out; have := HJ14.out; have := HK3.out; have := HJ20.out; omega⟩, ⟨by (with_reducible repeat (first | apply Kd.R_alloc | apply Kd.R_drewN | apply Kd.R_drew)); exact HO_14.out⟩, ⟨by (with_reducible repeat (first | apply Kd.R_alloc | apply Kd.R_drewN | apply Kd.R_drew)); exact HO_17.out⟩, ⟨by repeat (first | (with_reducible first | exact HB.out | apply below_alloc | apply pw_below_drewN | apply below_drew1) | exact HB.out)⟩⟩
                                    · rw [if_neg c35] at H
                                      exact absurd H (by simp)
                                  · rw [if_neg c34] at H
                                    exact absurd H (by simp)
                                · rw [if_neg c33] at H
                                  exact absurd H (by simp)
                              · rw [if_neg c32] at H
                                exact absurd H (by simp)
                    · rw [if_neg c20] at H
                      have c20b0 : decide (x19_3 < (l0.length : Int)) = false := decide_eq_false c20
                      clear c20
                      by_cases c42 : x18_3 < 0
                      · rw [if_pos c42] at H
                        have c42b0 : decide (x18_3 < 0) = true := decide_eq_true c42
                        clear c42
                        simp only [Option.some.injEq, Prod.mk.injEq] at H
                        obtain ⟨rfl, rfl⟩ := H
                        go_wp2
                        go_ret2
                        exact ⟨_, by first | rfl | (simp [errW_none, errW_some] <;> rfl) | (simp [*, errW_none, errW_some] <;> rfl), by first | exact Kd.R_nil _ _ _ _ _ | exact Kd.N_nil _ _ _ _ _ | exact Kd.V_nil _ _ _ _ _ | exact Kd.Q_nil _ _ _ _ _ | exact Kd.S_nil _ _ _ _ _, by repeat (first | (with_reducible first | exact HB.out | apply below_alloc | apply pw_below_drewN | apply below_drew1) | exact HB.out)⟩
                      · rw [if_neg c42] at H
                        have c42b0 : decide (x18_3 < 0) = false := decide_eq_false c42
                        clear c42
                        by_cases c43 : 0 ≤ x18_3
                        · rw [if_pos c43] at H
                          have c43b0 : decide (0 ≤ x18_3) = true := decide_eq_true c43
                          clear c43
                          by_cases c44 : x18_3 < (x17_1.length : Int)
                          · rw [if_pos c44] at H
                            have c44b0 : decide (x18_3 < (x17_1.length : Int)) = true := decide_eq_true c44
                            clear c44
                            obtain ⟨y244, hy244⟩ : ∃ y_ : List Bool, y_ = (x17_1.set (x18_3 : Int).toNat true) := ⟨_, rfl⟩
                            replace H : (if x18_3 < (l0.length : Int) then ((millwrightref12_memory.f ((rd_T28 l0 x18_3).f2)).bind fun t246 => (if x14_1.length < 17592186044416 then (millwrightref12_Choose.l0 k3 l0 a1 a2 a5 (x14_1 ++ [(rd_T28 l0 x18_3).f0]) (wrap64 (x15_1 + t246)) true y244) else (none))) else (none)) = some (r1, r2) := by first | (rw [hy244]; with_reducible exact H) | (have H2_ := (Option.bind_some _ _).symm.trans H; rw [hy244]; with_reducible exact H2_) | (have H2_ := (Option.bind_some _ _).symm.trans H; with_reducible exact H2_) | with_reducible exact H | (rw [hy244]; exact H) | exact H
                            have Ny244 := Aside0.mk hy244
                            clear hy244
                            by_cases c46 : x18_3 < (l0.length : Int)
                            · rw [if_pos c46] at H
                              have c46b0 : decide (x18_3 < (l0.length : Int)) = true := decide_eq_true c46
                              clear c46
                              replace H := Option.bind_eq_some_iff.mp H
                              obtain ⟨t246, A470, H⟩ := H
                              replace H : (if x14_1.length < 17592186044416 then (millwrightref12_Choose.l0 k3 l0 a1 a2 a5 (x14_1 ++ [(rd_T28 l0 x18_3).f0]) (wrap64 (x15_1 + t246)) true y244) else (none)) = some (r1, r2) := H
                              have A47 := Aside0.mk A470
                              clear A470
                              by_cases c48 : x14_1.length < 17592186044416
                              · rw [if_pos c48] at H
                                have LMc48 := Aside0.mk c48
                                clear c48
                                obtain ⟨y248, hy248⟩ : ∃ y_ : List Int, y_ = (x14_1 ++ [(rd_T28 l0 x18_3).f0]) := ⟨_, rfl⟩
                                replace H : (millwrightref12_Choose.l0 k3 l0 a1 a2 a5 y248 (wrap64 (x15_1 + t246)) true y244) = some (r1, r2) := by first | (rw [hy248]; with_reducible exact H) | (have H2_ := (Option.bind_some _ _).symm.trans H; rw [hy248]; with_reducible exact H2_) | (have H2_ := (Option.bind_some _ _).symm.trans H; with_reducible exact H2_) | with_reducible exact H | (rw [hy248]; exact H) | exact H
                                have Ny248 := Aside0.mk hy248
                                clear hy248
                                have H' := Aside0.mk H
                                clear H
                                have p45 : 0 ≤ (x18_3 : Int) := of_decide_eq_true (by first | (with_reducible assumption) | assumption)
                                have q45 : (x18_3 : Int) < ((x17_1.length : Int) : Int) := of_decide_eq_true (by first | (with_reducible assumption) | assumption)
                                obtain ⟨go45, co45, eo45, gb45, gl45, cl45, HG45⟩ := Kd.R_form HO_17.out (by omega)
                                (first | cases eo45 | (injection eo45 with ea_ en_ ec_; (first | subst ea_ | (injection ea_ with ea_; subst ea_)); subst ec_; clear en_))
                                have GB45 := Aside0.mk gb45
                                have GG45 := Aside0.mk HG45
                                clear gb45 gl45 HG45
                                obtain ⟨hx45_0, hf45_0⟩ := Kd.R_celln false HO_17.out (x18_3 : Int) p45 q45
                                replace p45 := eq_true p45
                                replace q45 := eq_true q45
                                have HP49 := Kd.R_putg HO_17.out (x18_3 : Int) true
                                go_wp2_with (first | ((with_reducible refine gate_store (t := 4) (p := 83) rfl ?_); refine store_event (t := 4) (p := 83) (v := ?vo_w50) (w1 := (wr.setCell ⟨go45, (x18_3 : Int).toNat, none⟩ (.bool true))) ?hg ?ho ?hn ?hr ?_; (case ho => rfl); (case hg => rfl); (case hn => rfl); (case hr => first | (go_simp; done) | (go_simp; rfl)); intro w50 hw; have hg : wr.grownBy w50 (some go45) := (by rw [hw]; exact HP49.2); have hp_ : Kd.R Kd.bool 4 w50 w.heap.size (fun _ => True) (.slice (some ⟨go45, 0, none⟩) x17_1.length co45) y244 := (by rw [hw, Ny244.out]; exact HP49.1); clear HP49; have n0_ := Aside0.mk (Kd.R_over' (v := (.slice (some ⟨go45, 0, none⟩) x17_1.length co45)) (by (with_reducible repeat (first | apply Kd.R_alloc | apply Kd.R_drewN | apply Kd.R_drew)); exact HO_14.out) (Kd.R_typed HO_17.out) (by decide) hg); have n1_ := Aside0.mk (hp_); have n2_ := Aside0.mk ((by rw [hw]; exact below_set (HB.out) GB45.out : Below w.heap.size w w50)); clear HO_14; clear HO_17; clear HB; have HO_14 := n0_; have HO_17 := n1_; have HB := n2_; clear n0_ n1_ n2_; clear hg hw hp_; have p245 : 0 ≤ (x18_3 : Int) := of_decide_eq_true (by first | (with_reducible assumption) | assumption); have q245 : x18_3 < (l0.length : Int) := of_decide_eq_true (by first | (with_reducible assumption) | assumption); obtain ⟨ad245, e245, hx245_0, hx245_1, hx245_2, hx245_3, hx245_4⟩ := at_T28 HR0.out x18_3 p245 q245; cases e245; replace hx245_0 := (HB.out.cell (World.block_lt_of_cell? w _ hx245_0)).trans hx245_0; replace hx245_1 := (HB.out.cell (World.block_lt_of_cell? w _ hx245_1)).trans hx245_1; replace hx245_2 := (HB.out.cell (World.block_lt_of_cell? w _ hx245_2)).trans hx245_2; replace hx245_3 := (HB.out.cell (World.block_lt_of_cell? w _ hx245_3)).trans hx245_3; replace hx245_4 := (HB.out.cell (World.block_lt_of_cell? w _ hx245_4)).trans hx245_4; replace p245 := eq_true p245; replace q245 := eq_true q245) | ((with_reducible refine gate_callee (f := 20) rfl ?_); refine goesL_ (some 90) rfl rfl Try.func20 (by kernel_rfl) rfl #[.int .i64 ((rd_T28 l0 x18_3).f2)] rfl (by (try simp only [List.map_toArray, List.map_cons, List.map_nil]); first | done | rfl | (simp only [List.length_drop, List.length_take]; rfl)) ?_; (with_reducible refine (millwrightref12_memory.calls ((rd_T28 l0 x18_3).f2) t246 _ A47.out).mono ?_); rintro e w51 ⟨rfl, hb⟩; refine ⟨_, rfl, ?_⟩; have n0_ := Aside0.mk (Kd.R_below (by (with_reducible repeat (first | apply Kd.R_alloc | apply Kd.R_drewN | apply Kd.R_drew)); exact HO_14.out) hb); have n1_ := Aside0.mk (Kd.R_below (by (with_reducible repeat (first | apply Kd.R_alloc | apply Kd.R_drewN | apply Kd.R_drew)); exact HO_17.out) hb); have n2_ := Aside0.mk (below_step (by repeat (first | (with_reducible first | exact HB.out | apply below_alloc | apply pw_below_drewN | apply below_drew1) | exact HB.out)) hb); clear HO_14; clear HO_17; clear HB; have HO_14 := n0_; have HO_17 := n1_; have HB := n2_; clear n0_ n1_ n2_; (try clear hb); (try clear hb2); (try clear hk); (try clear hi); have p247 : 0 ≤ (x18_3 : Int) := of_decide_eq_true (by first | (with_reducible assumption) | assumption); have q247 : x18_3 < (l0.length : Int) := of_decide_eq_true (by first | (with_reducible assumption) | assumption); obtain ⟨ad247, e247, hx247_0, hx247_1, hx247_2, hx247_3, hx247_4⟩ := at_T28 HR0.out x18_3 p247 q247; obtain rfl : ad245 = ad247 := (by injection e247); replace hx247_0 := (HB.out.cell (World.block_lt_of_cell? w _ hx247_0)).trans hx247_0; replace hx247_1 := (HB.out.cell (World.block_lt_of_cell? w _ hx247_1)).trans hx247_1; replace hx247_2 := (HB.out.cell (World.block_lt_of_cell? w _ hx247_2)).trans hx247_2; replace hx247_3 := (HB.out.cell (World.block_lt_of_cell? w _ hx247_3)).trans hx247_3; replace hx247_4 := (HB.out.cell (World.block_lt_of_cell? w _ hx247_4)).trans hx247_4; replace p247 := eq_true p247; replace q247 := eq_true q247) | ((with_reducible refine gate_builtin (b := .append) (xs := #[.tmp 92, .tmp 98]) rfl ?_); at_builtin; refine Kd.R_append (Kd.int .i64) (w0 := w) w.heap.size rfl (.tmp 92) (.tmp 98) 29 3 (.int .i64 0) 8 rfl Try.underlying29 info3 rfl (by decide) (by omega) u14 x14_1 ((rd_T28 l0 x18_3).f0) [.int .i64 ((rd_T28 l0 x18_3).f0)] (fun _ => True) (fun _ => False) rfl rfl ?aP (fun _ hk => hk.elim) ?aF ?aO ?aB ?aS ?aL ?_; (case aP => exact rfl); (case aB => exact (by repeat (first | (with_reducible first | exact HB.out | apply below_alloc | apply pw_below_drewN | apply below_drew1) | exact HB.out))); (case aF => exact (fun _ _ => trivial)); (case aO => exact (by (with_reducible repeat (first | apply Kd.R_alloc | apply Kd.R_drewN | apply Kd.R_drew)); exact HO_14.out)); (case aS => exact (below_size (by repeat (first | (with_reducible first | exact HB.out | apply below_alloc | apply pw_below_drewN | apply below_drew1) | exact HB.out)))); (case aL => have := LMc48.out; omega); intro v249 w52 ho hb hg hat; rw [← Ny248.out] at ho; have n0_ := Aside0.mk (Kd.R_over' (by (with_reducible repeat (first | apply Kd.R_alloc | apply Kd.R_drewN | apply Kd.R_drew)); exact HO_17.out) (Kd.R_typed (by (with_reducible repeat (first | apply Kd.R_alloc | apply Kd.R_drewN | apply Kd.R_drew)); exact HO_14.out)) (by decide) hg); have n1_ := Aside0.mk (hb); have n2_ := Aside0.mk (ho); clear HO_17; clear HB; clear HO_14; have HO_17 := n0_; have HB := n1_; have HO250 := n2_; clear n0_ n1_ n2_; clear ho hb hg hat))
                                go_roundg k3
                                case measure => have := HK1.out; have := HJ14.out; have := HK3.out; omega
                                case rel => exact ⟨(y248), (wrap64 (x15_1 + t246)), (true), (y244), (by first | rfl | (simp; done) | (simp [*]; done)), (by first | rfl | (simp; done) | (simp [*]; done)), H', ⟨by have := HK1.out; have := HJ14.out; have := HK3.out; omega⟩, ⟨by (with_reducible repeat (first | apply Kd.R_alloc | apply Kd.R_drewN | apply Kd.R_drew)); exact HO250.out⟩, ⟨by (with_reducible repeat (first | apply Kd.R_alloc | apply Kd.R_drewN | apply Kd.R_drew)); exact HO_17.out⟩, ⟨by repeat (first | (with_reducible first | exact HB.out | apply below_alloc | apply pw_below_drewN | apply below_drew1) | exact HB.out)⟩⟩
                              · rw [if_neg c48] at H
                                exact absurd H (by simp)
                            · rw [if_neg c46] at H
                              exact absurd H (by simp)
                          · rw [if_neg c44] at H
                            exact absurd H (by simp)
                        · rw [if_neg c43] at H
                          exact absurd H (by simp)
              · replace c19 := Bool.eq_false_iff.mpr c19
                subst c19
                have H1 : (some (x14_1, true)) = some (r1, r2) := by rw [if_neg (show ¬ (false = true) by decide)] at H; exact H
                clear H
                have H := H1
                clear H1
                simp only [Option.some.injEq, Prod.mk.injEq] at H
                obtain ⟨rfl, rfl⟩ := H
                go_wp2
                go_ret2
                exact ⟨_, by first | rfl | (simp [errW_none, errW_some] <;> rfl) | (simp [*, errW_none, errW_some] <;> rfl), by (with_reducible repeat (first | apply Kd.R_alloc | apply Kd.R_drewN | apply Kd.R_drew)); exact HO_14.out, by repeat (first | (with_reducible first | exact HB.out | apply below_alloc | apply pw_below_drewN | apply below_drew1) | exact HB.out)⟩
    · rw [if_neg c9] at H
      exact absurd H (by simp)
  · rw [if_neg c8] at H
    exact absurd H (by simp)

end Go.Proofs.Ytnegchdooapoiaa.PVic
