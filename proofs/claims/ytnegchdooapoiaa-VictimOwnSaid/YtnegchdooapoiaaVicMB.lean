/- Lemmas for the walks. No condition. -/
import Derived.Test.YtnegchdooapoiaaPVicx6
namespace Go.Proofs.Ytnegchdooapoiaa.PVic
open Go.RowKit Go.Proofs.YtnegchdooapoiaaW.PrintWords Go.Proofs.YtnegchdooapoiaaW.PrintLast Go.Proofs.YtnegchdooapoiaaW.PrintMore
attribute [local go_sem] max2_int min2_int max_two min_two max_three min_three max_four min_four   -- for this text's walks alone
set_option linter.unusedVariables false
set_option linter.unusedSimpArgs false
set_option maxHeartbeats 8000000 in
set_option maxRecDepth 100000 in
theorem victim_Run_27.calls_B (k : Nat) (ih : ∀ m : Nat, m < k + 1 → ∀ (P0_ : Nat → Prop) (u9000_ : Value) (l0 : List (S27)) (a1 : Int) (a2 : Int) (a3 : Int) (a4 : Bool) (r : List (S27)) (w0 w : World) (hB : Below w0.heap.size w0 w) (ho0 : Kd.R k27 27 w w0.heap.size P0_ u9000_ l0) (h : victim_Run_27.f m l0 a1 a2 a3 a4 = some r),
      Calls Try.prog 27 #[u9000_, .int .i64 a1, .int .i64 a2, .int .i64 a3, .func (.func 18) #[] #[]] w fun e w' => e = .returned (.tuple #[]) ∧ Kd.R k27 27 w' w0.heap.size (fun k_ => (P0_ k_ ∨ w.heap.size ≤ k_)) u9000_ r ∧ Below w0.heap.size w0 w' ∧ Kept w w' (fun k_ => P0_ k_)) (P0_ : Nat → Prop) (u9000_ : Value) (l0 : List (S27)) (a1 : Int) (a2 : Int) (a3 : Int) (a4 : Bool) (r : List (S27)) (w0 w : World) (hB : Below w0.heap.size w0 w) (ho0 : Kd.R k27 27 w w0.heap.size P0_ u9000_ l0) (c6 : ¬ (wrap64 (a2 - a1)) = 1) (c33 : (wrap64 (a3 - a2)) = 1) (H : (victim_Run_27.l2 k l0 a2 a1 a2) = some r) :
    Calls Try.prog 27 #[u9000_, .int .i64 a1, .int .i64 a2, .int .i64 a3, .func (.func 18) #[] #[]] w fun e w' => e = .returned (.tuple #[]) ∧ Kd.R k27 27 w' w0.heap.size (fun k_ => (P0_ k_ ∨ w.heap.size ≤ k_)) u9000_ r ∧ Below w0.heap.size w0 w' ∧ Kept w w' (fun k_ => P0_ k_) := by
  have hu27 := Try.underlying27
  have HO0 := Aside0.mk (show Kd.R k27 27 w w0.heap.size (fun k_ => (P0_ k_ ∨ w.heap.size ≤ k_)) u9000_ l0 from Kd.R_mono ho0 (fun k_ hk => (.inl hk)))
  have HK := Aside0.mk (Kept.refl w (fun k_ => P0_ k_))
  have HW0 := Aside0.mk hB.size
  have HB := Aside0.mk hB
  clear hB
  have c6b0 : ((wrap64 (a2 - a1)) == 1) = false := beq_eq_false_iff_ne.mpr c6
  have c6b1 : ((wrap64 (a2 - a1)) != 1) = true := bne_iff_ne.mpr c6
  have c33b0 : ((wrap64 (a3 - a2)) == 1) = true := beq_iff_eq.mpr c33
  have c33b1 : ((wrap64 (a3 - a2)) != 1) = false := bne_eq_false_iff_eq.mpr c33
  clear c33
  have H' := Aside0.mk H
  clear H
  go_enter Try.func27, Try.ntmps27
  go_wp2
  go_loopg [14, 15] k (fun kq v14 v15 w' => ∃ (x14_1 : Int) (x15_1 : Int), v14 = .int .i64 x14_1 ∧ v15 = .int .i64 x15_1 ∧ Aside0 (victim_Run_27.l2 kq l0 a2 x14_1 x15_1 = some r) ∧ Aside0 (kq ≤ k) ∧ Aside0 (Kd.R k27 27 w' w0.heap.size (fun k_ => (P0_ k_ ∨ w.heap.size ≤ k_)) u9000_ l0) ∧ Aside0 (Kept w w' (fun k_ => P0_ k_)) ∧ Aside0 (Below w0.heap.size w0 w'))
  case atStart => exact ⟨(a1), (a2), (by first | rfl | (simp; done) | (simp [*]; done)), (by first | rfl | (simp; done) | (simp [*]; done)), H', ⟨Nat.le_refl _⟩, ⟨by (with_reducible repeat (first | apply Kd.R_alloc | apply Kd.R_drewN | apply Kd.R_drew)); exact HO0.out⟩, ⟨by repeat (first | (with_reducible first | exact HK.out | apply Kept.alloc | apply Kept.drewN | apply Kept.drew) | exact HK.out)⟩, ⟨by repeat (first | (with_reducible first | exact HB.out | apply below_alloc | apply pw_below_drewN | apply below_drew1) | exact HB.out)⟩⟩
  case round =>
    clear H'
    try clear c1
    try clear p1
    try clear q1
    try clear hx1
    try clear c2
    try clear p2
    try clear q2
    try clear hx2
    try clear c3
    try clear c6
    try clear c6b0
    try clear c6b1
    try clear p6
    try clear c7
    try clear c7b0
    try clear c9
    try clear c9b0
    try clear c10
    try clear c10b0
    try clear c11
    try clear c11b0
    try clear c12
    try clear c12b0
    try clear c14
    try clear c14b0
    try clear p14
    try clear q14
    try clear hx14
    try clear p15
    try clear q15
    try clear hx15
    try clear c18
    try clear c21
    try clear c21b0
    try clear c23
    try clear c23b0
    try clear c24
    try clear c24b0
    try clear c25
    try clear c25b0
    try clear c26
    try clear c26b0
    try clear c27
    try clear p27
    try clear q27
    try clear hx27
    try clear hf27
    try clear c28
    try clear p28
    try clear q28
    try clear hx28
    try clear hf28
    try clear c31
    try clear c32
    try clear c33
    try clear c33b0
    try clear c33b1
    try clear hx147_0
    try clear hx147_1
    try clear hx147_2
    try clear hx147_3
    try clear hx147_4
    try clear hx148_0
    try clear hx148_1
    try clear hx148_2
    try clear hx148_3
    try clear hx148_4
    try clear hx150_0
    try clear hx150_1
    try clear hx150_2
    try clear hx150_3
    try clear hx150_4
    try clear hx151_0
    try clear hx151_1
    try clear hx151_2
    try clear hx151_3
    try clear hx151_4
    try clear hx27_0
    try clear hx27_1
    try clear hx27_2
    try clear hx27_3
    try clear hx27_4
    try clear hx28_0
    try clear hx28_1
    try clear hx28_2
    try clear hx28_3
    try clear hx28_4
    try clear p1
    try clear p14
    try clear p147
    try clear p148
    try clear p150
    try clear p151
    try clear p2
    try clear p27
    try clear p28
    try clear p6
    try clear q1
    try clear q14
    try clear q147
    try clear q148
    try clear q150
    try clear q151
    try clear q27
    try clear q28
    obtain ⟨x14_1, x15_1, rfl, rfl, HA, HK1, HO_0, HK, HB⟩ := hrel
    cases gk with
    | zero => exact absurd HA.out (by simp [victim_Run_27.l2])
    | succ k1 =>
      have H := HA.out
      clear HA
      simp only [victim_Run_27.l2] at H
      by_cases c34 : x14_1 < x15_1
      · rw [if_pos c34] at H
        have c34b0 : decide (x14_1 < x15_1) = true := decide_eq_true c34
        clear c34
        by_cases c35 : 0 ≤ a2
        · rw [if_pos c35] at H
          have c35b0 : decide (0 ≤ a2) = true := decide_eq_true c35
          clear c35
          by_cases c36 : a2 < (l0.length : Int)
          · rw [if_pos c36] at H
            have c36b0 : decide (a2 < (l0.length : Int)) = true := decide_eq_true c36
            clear c36
            obtain ⟨ji37, hji37⟩ : ∃ j_ : Int, (wrap64 ((IntKind.u64.wrap (wrap64 (x14_1 + x15_1))) / 2)) = j_ := ⟨_, rfl⟩
            replace H : (if 0 ≤ (ji37) then (if (ji37) < (l0.length : Int) then ((victim_Run_compare.f k1 ((rd_T27 l0 a2).f0) ((rd_T27 l0 a2).f1) ((rd_T27 l0 a2).f2) ((rd_T27 l0 a2).f3) ((rd_T27 l0 a2).f4) ((rd_T27 l0 (ji37)).f0) ((rd_T27 l0 (ji37)).f1) ((rd_T27 l0 (ji37)).f2) ((rd_T27 l0 (ji37)).f3) ((rd_T27 l0 (ji37)).f4)).bind fun t156 => (if t156 < 0 then (victim_Run_27.l2 k1 l0 a2 x14_1 ji37) else (victim_Run_27.l2 k1 l0 a2 (wrap64 ((ji37) + 1)) x15_1))) else (none)) else (none)) = some r := by first | (rw [hji37] at H; exact H) | (simp only [hji37] at H ⊢; exact H)
            have hji37w : (IntKind.i64.wrap ((IntKind.u64.wrap (wrap64 (x14_1 + x15_1))) / 2)) = ji37 := (i64_w _).trans hji37
            by_cases c38 : 0 ≤ (ji37)
            · rw [if_pos c38] at H
              have c38b0 : decide (0 ≤ (ji37)) = true := decide_eq_true c38
              clear c38
              by_cases c39 : (ji37) < (l0.length : Int)
              · rw [if_pos c39] at H
                have c39b0 : decide ((ji37) < (l0.length : Int)) = true := decide_eq_true c39
                clear c39
                replace H := Option.bind_eq_some_iff.mp H
                obtain ⟨t156, A400, H⟩ := H
                replace H : (if t156 < 0 then (victim_Run_27.l2 k1 l0 a2 x14_1 ji37) else (victim_Run_27.l2 k1 l0 a2 (wrap64 ((ji37) + 1)) x15_1)) = some r := H
                have A40 := Aside0.mk A400
                clear A400
                by_cases c41 : t156 < 0
                · rw [if_pos c41] at H
                  have c41b0 : decide (t156 < 0) = true := decide_eq_true c41
                  clear c41
                  have H' := Aside0.mk H
                  clear H
                  try go_wp2
                  have n0_ := Aside0.mk (Kd.R_drew HO_0.out)
                  have n1_ := Aside0.mk (Kept.drew HK.out)
                  have n2_ := Aside0.mk (below_drew1 HB.out)
                  clear HO_0
                  clear HK
                  clear HB
                  have HO_0 := n0_
                  have HK := n1_
                  have HB := n2_
                  clear n0_ n1_ n2_
                  obtain ⟨Ao43, co43, eo43⟩ := Kd.R_slice HO_0.out
                  (first | subst eo43 | (injection eo43 with f1_ f2_ f3_; have f4_ := f1_.symm; have f5_ := f3_.symm; clear f1_ f2_ f3_; subst f4_; subst f5_))
                  have p154 : 0 ≤ (a2 : Int) := of_decide_eq_true (by first | (with_reducible assumption) | assumption)
                  have q154 : a2 < (l0.length : Int) := of_decide_eq_true (by first | (with_reducible assumption) | assumption)
                  obtain ⟨ad154, e154, hx154_0, hx154_1, hx154_2, hx154_3, hx154_4⟩ := at_T27 (Kd.R_reads' HO_0.out).2.2 a2 p154 q154
                  cases e154
                  replace p154 := eq_true p154
                  replace q154 := eq_true q154
                  have p155 : 0 ≤ ((ji37) : Int) := of_decide_eq_true (by first | (with_reducible assumption) | assumption)
                  have q155 : (ji37) < (l0.length : Int) := of_decide_eq_true (by first | (with_reducible assumption) | assumption)
                  obtain ⟨ad155, e155, hx155_0, hx155_1, hx155_2, hx155_3, hx155_4⟩ := at_T27 (Kd.R_reads' HO_0.out).2.2 (ji37) p155 q155
                  obtain rfl : ad154 = ad155 := (by injection e155)
                  replace p155 := eq_true p155
                  replace q155 := eq_true q155
                  refine start_ (n := 12) (S := fun w' => w'.cell? (ad154.add ((a2).toNat * 5)) = some (.int .i64 ((rd_T27 l0 a2).f0)) ∧ w'.cell? ⟨(ad154.add ((a2).toNat * 5)).block, (ad154.add ((a2).toNat * 5)).off + 1, none⟩ = some (.int .i64 ((rd_T27 l0 a2).f1)) ∧ w'.cell? ⟨(ad154.add ((a2).toNat * 5)).block, (ad154.add ((a2).toNat * 5)).off + 2, none⟩ = some (.int .i64 ((rd_T27 l0 a2).f2)) ∧ w'.cell? ⟨(ad154.add ((a2).toNat * 5)).block, (ad154.add ((a2).toNat * 5)).off + 3, none⟩ = some (.int .i64 ((rd_T27 l0 a2).f3)) ∧ w'.cell? ⟨(ad154.add ((a2).toNat * 5)).block, (ad154.add ((a2).toNat * 5)).off + 4, none⟩ = some (.int .i64 ((rd_T27 l0 a2).f4)) ∧ w'.cell? (ad154.add (((ji37)).toNat * 5)) = some (.int .i64 ((rd_T27 l0 (ji37)).f0)) ∧ w'.cell? ⟨(ad154.add (((ji37)).toNat * 5)).block, (ad154.add (((ji37)).toNat * 5)).off + 1, none⟩ = some (.int .i64 ((rd_T27 l0 (ji37)).f1)) ∧ w'.cell? ⟨(ad154.add (((ji37)).toNat * 5)).block, (ad154.add (((ji37)).toNat * 5)).off + 2, none⟩ = some (.int .i64 ((rd_T27 l0 (ji37)).f2)) ∧ w'.cell? ⟨(ad154.add (((ji37)).toNat * 5)).block, (ad154.add (((ji37)).toNat * 5)).off + 3, none⟩ = some (.int .i64 ((rd_T27 l0 (ji37)).f3)) ∧ w'.cell? ⟨(ad154.add (((ji37)).toNat * 5)).block, (ad154.add (((ji37)).toNat * 5)).off + 4, none⟩ = some (.int .i64 ((rd_T27 l0 (ji37)).f4))) (ds := []) #[false, false, false, false, false, false, false, false, false, false, false, false] (by kernel_rfl) rfl rfl ⟨hx154_0, hx154_1, hx154_2, hx154_3, hx154_4, hx155_0, hx155_1, hx155_2, hx155_3, hx155_4⟩ (fun hHeld => ?_); refine with_tabW victim_Run_27.tab17 victim_Run_27.bits17 (fun HT_ HW_ => ?_)
                  generalize wr.drew = w42 at HO_0 HK HB hx154_0 hx154_1 hx154_2 hx154_3 hx154_4 hx155_0 hx155_1 hx155_2 hx155_3 hx155_4 hHeld ⊢
                  refine pure_ (i := 0) (N := some 92) (v := ?_) (a' := ?_) #[true, false, false, false, false, false, false, false, false, false, false, false] rfl rfl (any_of HT_.out (by kernel_rfl)) (fun _ _ _ h => h) (Or.inl ⟨by rfl, ?_⟩) ?_ ?_
                  rotate_left
                  · intro w'
                    go_simp
                    with_reducible rfl
                  rotate_left
                  · simp only [Act.put, List.setIfInBounds_toArray, List.set_cons_zero, List.set_cons_succ, i64_w, i32_w]
                    rfl
                  refine pure_ (i := 1) (N := some 93) (v := ?_) (a' := ?_) #[true, true, false, false, false, false, false, false, false, false, false, false] rfl rfl (any_of HT_.out (by kernel_rfl)) (fun _ _ _ h => h) (Or.inl ⟨by rfl, ?_⟩) ?_ ?_
                  rotate_left
                  · intro w'
                    go_simp
                    with_reducible rfl
                  rotate_left
                  · simp only [Act.put, List.setIfInBounds_toArray, List.set_cons_zero, List.set_cons_succ, i64_w, i32_w]
                    rfl
                  refine pure_ (i := 2) (N := some 94) (v := ?_) (a' := ?_) #[true, true, true, false, false, false, false, false, false, false, false, false] rfl rfl (any_of HT_.out (by kernel_rfl)) (fun _ _ _ h => h) (Or.inl ⟨by rfl, ?_⟩) ?_ ?_
                  rotate_left
                  · intro w'
                    go_simp
                    with_reducible rfl
                  rotate_left
                  · simp only [Act.put, List.setIfInBounds_toArray, List.set_cons_zero, List.set_cons_succ, i64_w, i32_w]
                    rfl
                  refine pure_ (i := 3) (N := some 95) (v := ?_) (a' := ?_) #[true, true, true, true, false, false, false, false, false, false, false, false] rfl rfl (any_of HT_.out (by kernel_rfl)) (fun _ _ _ h => h) (Or.inl ⟨by rfl, ?_⟩) ?_ ?_
                  rotate_left
                  · intro w'
                    go_simp
                    with_reducible rfl
                  rotate_left
                  · simp only [Act.put, List.setIfInBounds_toArray, List.set_cons_zero, List.set_cons_succ, i64_w, i32_w]
                    rfl
                  refine pure_ (i := 5) (N := some 97) (v := ?_) (a' := ?_) #[true, true, true, true, false, true, false, false, false, false, false, false] rfl rfl (any_of HT_.out (by kernel_rfl)) (fun _ _ _ h => h) (Or.inl ⟨by rfl, ?_⟩) ?_ ?_
                  rotate_left
                  · intro w'
                    go_simp
                    with_reducible rfl
                  rotate_left
                  · simp only [Act.put, List.setIfInBounds_toArray, List.set_cons_zero, List.set_cons_succ, i64_w, i32_w]
                    rfl
                  refine pure_ (i := 6) (N := some 98) (v := ?_) (a' := ?_) #[true, true, true, true, false, true, true, false, false, false, false, false] rfl rfl (any_of HT_.out (by kernel_rfl)) (fun _ _ _ h => h) (Or.inl ⟨by rfl, ?_⟩) ?_ ?_
                  rotate_left
                  · intro w'
                    go_simp
                    with_reducible rfl
                  rotate_left
                  · simp only [Act.put, List.setIfInBounds_toArray, List.set_cons_zero, List.set_cons_succ, i64_w, i32_w]
                    rfl
                  refine pure_ (i := 7) (N := some 99) (v := ?_) (a' := ?_) #[true, true, true, true, false, true, true, true, false, false, false, false] rfl rfl (any_of HT_.out (by kernel_rfl)) (fun _ _ _ h => h) (Or.inl ⟨by rfl, ?_⟩) ?_ ?_
                  rotate_left
                  · intro w'
                    go_simp
                    with_reducible rfl
                  rotate_left
                  · simp only [Act.put, List.setIfInBounds_toArray, List.set_cons_zero, List.set_cons_succ, i64_w, i32_w]
                    rfl
                  refine take_ (i := 4) (N := some 96) (v := ?_) (a' := ?_) #[true, true, true, true, true, true, true, true, false, false, false, false] rfl rfl (take_ofW HT_.out HW_.out (by kernel_rfl)) (fun _ _ _ h => h) (Or.inl ⟨by rfl, ?_⟩) hHeld ?_ ?_
                  rotate_left
                  · rintro w' ⟨s0, s1, s2, s3, s4, s5, s6, s7, s8, s9⟩
                    go_simp
                    with_reducible rfl
                  rotate_left
                  · simp only [Act.put, List.setIfInBounds_toArray, List.set_cons_zero, List.set_cons_succ, i64_w, i32_w]
                    rfl
                  refine take_ (i := 8) (N := some 100) (v := ?_) (a' := ?_) #[true, true, true, true, true, true, true, true, true, false, false, false] rfl rfl (take_ofW HT_.out HW_.out (by kernel_rfl)) (fun _ _ _ h => h) (Or.inl ⟨by rfl, ?_⟩) hHeld ?_ ?_
                  rotate_left
                  · rintro w' ⟨s0, s1, s2, s3, s4, s5, s6, s7, s8, s9⟩
                    go_simp
                    with_reducible rfl
                  rotate_left
                  · simp only [Act.put, List.setIfInBounds_toArray, List.set_cons_zero, List.set_cons_succ, i64_w, i32_w]
                    rfl
                  refine one_ (i := 9) (N := some 101) #[true, true, true, true, true, true, true, true, true, true, false, false] rfl rfl (one_of HT_.out (by kernel_rfl)) (by decide) (fun K hK => ?_)
                  refine VicW.goesV_ Try.func18 (by kernel_rfl) rfl #[.agg #[.int .i64 ((rd_T27 l0 a2).f0), .int .i64 ((rd_T27 l0 a2).f1), .int .i64 ((rd_T27 l0 a2).f2), .int .i64 ((rd_T27 l0 a2).f3), .int .i64 ((rd_T27 l0 a2).f4)], .agg #[.int .i64 ((rd_T27 l0 (ji37)).f0), .int .i64 ((rd_T27 l0 (ji37)).f1), .int .i64 ((rd_T27 l0 (ji37)).f2), .int .i64 ((rd_T27 l0 (ji37)).f3), .int .i64 ((rd_T27 l0 (ji37)).f4)]] (by rfl) rfl rfl (by rfl) (by (try simp only [List.map_toArray, List.map_cons, List.map_nil]); first | done | (simp only [hji37]; rfl) | rfl | (simp only [List.length_drop, List.length_take]; rfl)) ?_
                  with_reducible refine (victim_Run_compare.calls k1 ((rd_T27 l0 a2).f0) ((rd_T27 l0 a2).f1) ((rd_T27 l0 a2).f2) ((rd_T27 l0 a2).f3) ((rd_T27 l0 a2).f4) ((rd_T27 l0 (ji37)).f0) ((rd_T27 l0 (ji37)).f1) ((rd_T27 l0 (ji37)).f2) ((rd_T27 l0 (ji37)).f3) ((rd_T27 l0 (ji37)).f4) t156 _ A40.out).mono ?_
                  rintro e w44 ⟨rfl, hb⟩
                  have HS0_ := (hb.cell (World.block_lt_of_cell? _ _ (hHeld.1))).trans (hHeld.1)
                  have HS1_ := (hb.cell (World.block_lt_of_cell? _ _ (hHeld.2.1))).trans (hHeld.2.1)
                  have HS2_ := (hb.cell (World.block_lt_of_cell? _ _ (hHeld.2.2.1))).trans (hHeld.2.2.1)
                  have HS3_ := (hb.cell (World.block_lt_of_cell? _ _ (hHeld.2.2.2.1))).trans (hHeld.2.2.2.1)
                  have HS4_ := (hb.cell (World.block_lt_of_cell? _ _ (hHeld.2.2.2.2.1))).trans (hHeld.2.2.2.2.1)
                  have HS5_ := (hb.cell (World.block_lt_of_cell? _ _ (hHeld.2.2.2.2.2.1))).trans (hHeld.2.2.2.2.2.1)
                  have HS6_ := (hb.cell (World.block_lt_of_cell? _ _ (hHeld.2.2.2.2.2.2.1))).trans (hHeld.2.2.2.2.2.2.1)
                  have HS7_ := (hb.cell (World.block_lt_of_cell? _ _ (hHeld.2.2.2.2.2.2.2.1))).trans (hHeld.2.2.2.2.2.2.2.1)
                  have HS8_ := (hb.cell (World.block_lt_of_cell? _ _ (hHeld.2.2.2.2.2.2.2.2.1))).trans (hHeld.2.2.2.2.2.2.2.2.1)
                  have HS9_ := (hb.cell (World.block_lt_of_cell? _ _ (hHeld.2.2.2.2.2.2.2.2.2))).trans (hHeld.2.2.2.2.2.2.2.2.2)
                  refine ⟨_, rfl, ?_⟩
                  have n0_ := Aside0.mk (Kd.R_below (by (with_reducible repeat (first | apply Kd.R_alloc | apply Kd.R_drewN | apply Kd.R_drew)); exact HO_0.out) hb)
                  have n1_ := Aside0.mk (Kept.below (S := (fun k_ => P0_ k_)) (by repeat (first | (with_reducible first | exact HK.out | apply Kept.alloc | apply Kept.drewN | apply Kept.drew) | exact HK.out)) hb)
                  have n2_ := Aside0.mk (below_step (by repeat (first | (with_reducible first | exact HB.out | apply below_alloc | apply pw_below_drewN | apply below_drew1) | exact HB.out)) hb)
                  clear HO_0
                  clear HK
                  clear HB
                  have HO_0 := n0_
                  have HK := n1_
                  have HB := n2_
                  clear n0_ n1_ n2_
                  (try clear hb)
                  (try clear hb2)
                  (try clear hk)
                  (try clear hi)
                  refine hK.out _ _ ⟨HS0_, HS1_, HS2_, HS3_, HS4_, HS5_, HS6_, HS7_, HS8_, HS9_⟩ (fun hHeld => ?_)
                  clear hK K
                  refine norm_ (a' := ?_) ?_ ?_
                  rotate_left
                  · show Act.put _ (some 101) _ = _
                    simp only [Act.put, List.setIfInBounds_toArray, List.set_cons_zero, List.set_cons_succ, i64_w, i32_w]
                    rfl
                  refine pure_ (i := 10) (N := some 102) (v := ?_) (a' := ?_) #[true, true, true, true, true, true, true, true, true, true, true, false] rfl rfl (any_of HT_.out (by kernel_rfl)) (fun _ _ _ h => h) (Or.inl ⟨by rfl, ?_⟩) ?_ ?_
                  rotate_left
                  · intro w'
                    go_simp
                    with_reducible rfl
                  rotate_left
                  · simp only [Act.put, List.setIfInBounds_toArray, List.set_cons_zero, List.set_cons_succ, i64_w, i32_w]
                    rfl
                  refine pure_ (i := 11) (N := some 103) (v := ?_) (a' := ?_) #[true, true, true, true, true, true, true, true, true, true, true, true] rfl rfl (any_of HT_.out (by kernel_rfl)) (fun _ _ _ h => h) (Or.inl ⟨by rfl, ?_⟩) ?_ ?_
                  rotate_left
                  · intro w'
                    go_simp
                    with_reducible rfl
                  rotate_left
                  · simp only [Act.put, List.setIfInBounds_toArray, List.set_cons_zero, List.set_cons_succ, i64_w, i32_w]
                    rfl
                  refine done_ (done_of HT_.out (by kernel_rfl)) ?_
                  try go_wp2
                  go_roundg k1
                  case measure => have := HK1.out; omega
                  case rel => exact ⟨(x14_1), (ji37), (by first | rfl | (simp; done) | (simp [*]; done)), (by first | rfl | (simp; done) | (simp only [← hji37] <;> (first | rfl | simp)) | (simp [*]; done)), H', ⟨by have := HK1.out; omega⟩, ⟨by (with_reducible repeat (first | apply Kd.R_alloc | apply Kd.R_drewN | apply Kd.R_drew)); exact HO_0.out⟩, ⟨by repeat (first | (with_reducible first | exact HK.out | apply Kept.alloc | apply Kept.drewN | apply Kept.drew) | exact HK.out)⟩, ⟨by repeat (first | (with_reducible first | exact HB.out | apply below_alloc | apply pw_below_drewN | apply below_drew1) | exact HB.out)⟩⟩
                · rw [if_neg c41] at H
                  have c41b0 : decide (t156 < 0) = false := decide_eq_false c41
                  clear c41
                  have H' := Aside0.mk H
                  clear H
                  try go_wp2
                  have n0_ := Aside0.mk (Kd.R_drew HO_0.out)
                  have n1_ := Aside0.mk (Kept.drew HK.out)
                  have n2_ := Aside0.mk (below_drew1 HB.out)
                  clear HO_0
                  clear HK
                  clear HB
                  have HO_0 := n0_
                  have HK := n1_
                  have HB := n2_
                  clear n0_ n1_ n2_
                  obtain ⟨Ao46, co46, eo46⟩ := Kd.R_slice HO_0.out
                  (first | subst eo46 | (injection eo46 with f1_ f2_ f3_; have f4_ := f1_.symm; have f5_ := f3_.symm; clear f1_ f2_ f3_; subst f4_; subst f5_))
                  have p154 : 0 ≤ (a2 : Int) := of_decide_eq_true (by first | (with_reducible assumption) | assumption)
                  have q154 : a2 < (l0.length : Int) := of_decide_eq_true (by first | (with_reducible assumption) | assumption)
                  obtain ⟨ad154, e154, hx154_0, hx154_1, hx154_2, hx154_3, hx154_4⟩ := at_T27 (Kd.R_reads' HO_0.out).2.2 a2 p154 q154
                  cases e154
                  replace p154 := eq_true p154
                  replace q154 := eq_true q154
                  have p155 : 0 ≤ ((ji37) : Int) := of_decide_eq_true (by first | (with_reducible assumption) | assumption)
                  have q155 : (ji37) < (l0.length : Int) := of_decide_eq_true (by first | (with_reducible assumption) | assumption)
                  obtain ⟨ad155, e155, hx155_0, hx155_1, hx155_2, hx155_3, hx155_4⟩ := at_T27 (Kd.R_reads' HO_0.out).2.2 (ji37) p155 q155
                  obtain rfl : ad154 = ad155 := (by injection e155)
                  replace p155 := eq_true p155
                  replace q155 := eq_true q155
                  refine start_ (n := 12) (S := fun w' => w'.cell? (ad154.add ((a2).toNat * 5)) = some (.int .i64 ((rd_T27 l0 a2).f0)) ∧ w'.cell? ⟨(ad154.add ((a2).toNat * 5)).block, (ad154.add ((a2).toNat * 5)).off + 1, none⟩ = some (.int .i64 ((rd_T27 l0 a2).f1)) ∧ w'.cell? ⟨(ad154.add ((a2).toNat * 5)).block, (ad154.add ((a2).toNat * 5)).off + 2, none⟩ = some (.int .i64 ((rd_T27 l0 a2).f2)) ∧ w'.cell? ⟨(ad154.add ((a2).toNat * 5)).block, (ad154.add ((a2).toNat * 5)).off + 3, none⟩ = some (.int .i64 ((rd_T27 l0 a2).f3)) ∧ w'.cell? ⟨(ad154.add ((a2).toNat * 5)).block, (ad154.add ((a2).toNat * 5)).off + 4, none⟩ = some (.int .i64 ((rd_T27 l0 a2).f4)) ∧ w'.cell? (ad154.add (((ji37)).toNat * 5)) = some (.int .i64 ((rd_T27 l0 (ji37)).f0)) ∧ w'.cell? ⟨(ad154.add (((ji37)).toNat * 5)).block, (ad154.add (((ji37)).toNat * 5)).off + 1, none⟩ = some (.int .i64 ((rd_T27 l0 (ji37)).f1)) ∧ w'.cell? ⟨(ad154.add (((ji37)).toNat * 5)).block, (ad154.add (((ji37)).toNat * 5)).off + 2, none⟩ = some (.int .i64 ((rd_T27 l0 (ji37)).f2)) ∧ w'.cell? ⟨(ad154.add (((ji37)).toNat * 5)).block, (ad154.add (((ji37)).toNat * 5)).off + 3, none⟩ = some (.int .i64 ((rd_T27 l0 (ji37)).f3)) ∧ w'.cell? ⟨(ad154.add (((ji37)).toNat * 5)).block, (ad154.add (((ji37)).toNat * 5)).off + 4, none⟩ = some (.int .i64 ((rd_T27 l0 (ji37)).f4))) (ds := []) #[false, false, false, false, false, false, false, false, false, false, false, false] (by kernel_rfl) rfl rfl ⟨hx154_0, hx154_1, hx154_2, hx154_3, hx154_4, hx155_0, hx155_1, hx155_2, hx155_3, hx155_4⟩ (fun hHeld => ?_); refine with_tabW victim_Run_27.tab17 victim_Run_27.bits17 (fun HT_ HW_ => ?_)
                  generalize wr.drew = w45 at HO_0 HK HB hx154_0 hx154_1 hx154_2 hx154_3 hx154_4 hx155_0 hx155_1 hx155_2 hx155_3 hx155_4 hHeld ⊢
                  refine pure_ (i := 0) (N := some 92) (v := ?_) (a' := ?_) #[true, false, false, false, false, false, false, false, false, false, false, false] rfl rfl (any_of HT_.out (by kernel_rfl)) (fun _ _ _ h => h) (Or.inl ⟨by rfl, ?_⟩) ?_ ?_
                  rotate_left
                  · intro w'
                    go_simp
                    with_reducible rfl
                  rotate_left
                  · simp only [Act.put, List.setIfInBounds_toArray, List.set_cons_zero, List.set_cons_succ, i64_w, i32_w]
                    rfl
                  refine pure_ (i := 1) (N := some 93) (v := ?_) (a' := ?_) #[true, true, false, false, false, false, false, false, false, false, false, false] rfl rfl (any_of HT_.out (by kernel_rfl)) (fun _ _ _ h => h) (Or.inl ⟨by rfl, ?_⟩) ?_ ?_
                  rotate_left
                  · intro w'
                    go_simp
                    with_reducible rfl
                  rotate_left
                  · simp only [Act.put, List.setIfInBounds_toArray, List.set_cons_zero, List.set_cons_succ, i64_w, i32_w]
                    rfl
                  refine pure_ (i := 2) (N := some 94) (v := ?_) (a' := ?_) #[true, true, true, false, false, false, false, false, false, false, false, false] rfl rfl (any_of HT_.out (by kernel_rfl)) (fun _ _ _ h => h) (Or.inl ⟨by rfl, ?_⟩) ?_ ?_
                  rotate_left
                  · intro w'
                    go_simp
                    with_reducible rfl
                  rotate_left
                  · simp only [Act.put, List.setIfInBounds_toArray, List.set_cons_zero, List.set_cons_succ, i64_w, i32_w]
                    rfl
                  refine pure_ (i := 3) (N := some 95) (v := ?_) (a' := ?_) #[true, true, true, true, false, false, false, false, false, false, false, false] rfl rfl (any_of HT_.out (by kernel_rfl)) (fun _ _ _ h => h) (Or.inl ⟨by rfl, ?_⟩) ?_ ?_
                  rotate_left
                  · intro w'
                    go_simp
                    with_reducible rfl
                  rotate_left
                  · simp only [Act.put, List.setIfInBounds_toArray, List.set_cons_zero, List.set_cons_succ, i64_w, i32_w]
                    rfl
                  refine pure_ (i := 5) (N := some 97) (v := ?_) (a' := ?_) #[true, true, true, true, false, true, false, false, false, false, false, false] rfl rfl (any_of HT_.out (by kernel_rfl)) (fun _ _ _ h => h) (Or.inl ⟨by rfl, ?_⟩) ?_ ?_
                  rotate_left
                  · intro w'
                    go_simp
                    with_reducible rfl
                  rotate_left
                  · simp only [Act.put, List.setIfInBounds_toArray, List.set_cons_zero, List.set_cons_succ, i64_w, i32_w]
                    rfl
                  refine pure_ (i := 6) (N := some 98) (v := ?_) (a' := ?_) #[true, true, true, true, false, true, true, false, false, false, false, false] rfl rfl (any_of HT_.out (by kernel_rfl)) (fun _ _ _ h => h) (Or.inl ⟨by rfl, ?_⟩) ?_ ?_
                  rotate_left
                  · intro w'
                    go_simp
                    with_reducible rfl
                  rotate_left
                  · simp only [Act.put, List.setIfInBounds_toArray, List.set_cons_zero, List.set_cons_succ, i64_w, i32_w]
                    rfl
                  refine pure_ (i := 7) (N := some 99) (v := ?_) (a' := ?_) #[true, true, true, true, false, true, true, true, false, false, false, false] rfl rfl (any_of HT_.out (by kernel_rfl)) (fun _ _ _ h => h) (Or.inl ⟨by rfl, ?_⟩) ?_ ?_
                  rotate_left
                  · intro w'
                    go_simp
                    with_reducible rfl
                  rotate_left
                  · simp only [Act.put, List.setIfInBounds_toArray, List.set_cons_zero, List.set_cons_succ, i64_w, i32_w]
                    rfl
                  refine take_ (i := 4) (N := some 96) (v := ?_) (a' := ?_) #[true, true, true, true, true, true, true, true, false, false, false, false] rfl rfl (take_ofW HT_.out HW_.out (by kernel_rfl)) (fun _ _ _ h => h) (Or.inl ⟨by rfl, ?_⟩) hHeld ?_ ?_
                  rotate_left
                  · rintro w' ⟨s0, s1, s2, s3, s4, s5, s6, s7, s8, s9⟩
                    go_simp
                    with_reducible rfl
                  rotate_left
                  · simp only [Act.put, List.setIfInBounds_toArray, List.set_cons_zero, List.set_cons_succ, i64_w, i32_w]
                    rfl
                  refine take_ (i := 8) (N := some 100) (v := ?_) (a' := ?_) #[true, true, true, true, true, true, true, true, true, false, false, false] rfl rfl (take_ofW HT_.out HW_.out (by kernel_rfl)) (fun _ _ _ h => h) (Or.inl ⟨by rfl, ?_⟩) hHeld ?_ ?_
                  rotate_left
                  · rintro w' ⟨s0, s1, s2, s3, s4, s5, s6, s7, s8, s9⟩
                    go_simp
                    with_reducible rfl
                  rotate_left
                  · simp only [Act.put, List.setIfInBounds_toArray, List.set_cons_zero, List.set_cons_succ, i64_w, i32_w]
                    rfl
                  refine one_ (i := 9) (N := some 101) #[true, true, true, true, true, true, true, true, true, true, false, false] rfl rfl (one_of HT_.out (by kernel_rfl)) (by decide) (fun K hK => ?_)
                  refine VicW.goesV_ Try.func18 (by kernel_rfl) rfl #[.agg #[.int .i64 ((rd_T27 l0 a2).f0), .int .i64 ((rd_T27 l0 a2).f1), .int .i64 ((rd_T27 l0 a2).f2), .int .i64 ((rd_T27 l0 a2).f3), .int .i64 ((rd_T27 l0 a2).f4)], .agg #[.int .i64 ((rd_T27 l0 (ji37)).f0), .int .i64 ((rd_T27 l0 (ji37)).f1), .int .i64 ((rd_T27 l0 (ji37)).f2), .int .i64 ((rd_T27 l0 (ji37)).f3), .int .i64 ((rd_T27 l0 (ji37)).f4)]] (by rfl) rfl rfl (by rfl) (by (try simp only [List.map_toArray, List.map_cons, List.map_nil]); first | done | (simp only [hji37]; rfl) | rfl | (simp only [List.length_drop, List.length_take]; rfl)) ?_
                  with_reducible refine (victim_Run_compare.calls k1 ((rd_T27 l0 a2).f0) ((rd_T27 l0 a2).f1) ((rd_T27 l0 a2).f2) ((rd_T27 l0 a2).f3) ((rd_T27 l0 a2).f4) ((rd_T27 l0 (ji37)).f0) ((rd_T27 l0 (ji37)).f1) ((rd_T27 l0 (ji37)).f2) ((rd_T27 l0 (ji37)).f3) ((rd_T27 l0 (ji37)).f4) t156 _ A40.out).mono ?_
                  rintro e w47 ⟨rfl, hb⟩
                  have HS0_ := (hb.cell (World.block_lt_of_cell? _ _ (hHeld.1))).trans (hHeld.1)
                  have HS1_ := (hb.cell (World.block_lt_of_cell? _ _ (hHeld.2.1))).trans (hHeld.2.1)
                  have HS2_ := (hb.cell (World.block_lt_of_cell? _ _ (hHeld.2.2.1))).trans (hHeld.2.2.1)
                  have HS3_ := (hb.cell (World.block_lt_of_cell? _ _ (hHeld.2.2.2.1))).trans (hHeld.2.2.2.1)
                  have HS4_ := (hb.cell (World.block_lt_of_cell? _ _ (hHeld.2.2.2.2.1))).trans (hHeld.2.2.2.2.1)
                  have HS5_ := (hb.cell (World.block_lt_of_cell? _ _ (hHeld.2.2.2.2.2.1))).trans (hHeld.2.2.2.2.2.1)
                  have HS6_ := (hb.cell (World.block_lt_of_cell? _ _ (hHeld.2.2.2.2.2.2.1))).trans (hHeld.2.2.2.2.2.2.1)
                  have HS7_ := (hb.cell (World.block_lt_of_cell? _ _ (hHeld.2.2.2.2.2.2.2.1))).trans (hHeld.2.2.2.2.2.2.2.1)
                  have HS8_ := (hb.cell (World.block_lt_of_cell? _ _ (hHeld.2.2.2.2.2.2.2.2.1))).trans (hHeld.2.2.2.2.2.2.2.2.1)
                  have HS9_ := (hb.cell (World.block_lt_of_cell? _ _ (hHeld.2.2.2.2.2.2.2.2.2))).trans (hHeld.2.2.2.2.2.2.2.2.2)
                  refine ⟨_, rfl, ?_⟩
                  have n0_ := Aside0.mk (Kd.R_below (by (with_reducible repeat (first | apply Kd.R_alloc | apply Kd.R_drewN | apply Kd.R_drew)); exact HO_0.out) hb)
                  have n1_ := Aside0.mk (Kept.below (S := (fun k_ => P0_ k_)) (by repeat (first | (with_reducible first | exact HK.out | apply Kept.alloc | apply Kept.drewN | apply Kept.drew) | exact HK.out)) hb)
                  have n2_ := Aside0.mk (below_step (by repeat (first | (with_reducible first | exact HB.out | apply below_alloc | apply pw_below_drewN | apply below_drew1) | exact HB.out)) hb)
                  clear HO_0
                  clear HK
                  clear HB
                  have HO_0 := n0_
                  have HK := n1_
                  have HB := n2_
                  clear n0_ n1_ n2_
                  (try clear hb)
                  (try clear hb2)
                  (try clear hk)
                  (try clear hi)
                  refine hK.out _ _ ⟨HS0_, HS1_, HS2_, HS3_, HS4_, HS5_, HS6_, HS7_, HS8_, HS9_⟩ (fun hHeld => ?_)
                  clear hK K
                  refine norm_ (a' := ?_) ?_ ?_
                  rotate_left
                  · show Act.put _ (some 101) _ = _
                    simp only [Act.put, List.setIfInBounds_toArray, List.set_cons_zero, List.set_cons_succ, i64_w, i32_w]
                    rfl
                  refine pure_ (i := 10) (N := some 102) (v := ?_) (a' := ?_) #[true, true, true, true, true, true, true, true, true, true, true, false] rfl rfl (any_of HT_.out (by kernel_rfl)) (fun _ _ _ h => h) (Or.inl ⟨by rfl, ?_⟩) ?_ ?_
                  rotate_left
                  · intro w'
                    go_simp
                    with_reducible rfl
                  rotate_left
                  · simp only [Act.put, List.setIfInBounds_toArray, List.set_cons_zero, List.set_cons_succ, i64_w, i32_w]
                    rfl
                  refine pure_ (i := 11) (N := some 103) (v := ?_) (a' := ?_) #[true, true, true, true, true, true, true, true, true, true, true, true] rfl rfl (any_of HT_.out (by kernel_rfl)) (fun _ _ _ h => h) (Or.inl ⟨by rfl, ?_⟩) ?_ ?_
                  rotate_left
                  · intro w'
                    go_simp
                    with_reducible rfl
                  rotate_left
                  · simp only [Act.put, List.setIfInBounds_toArray, List.set_cons_zero, List.set_cons_succ, i64_w, i32_w]
                    rfl
                  refine done_ (done_of HT_.out (by kernel_rfl)) ?_
                  try go_wp2
                  go_roundg k1
                  case measure => have := HK1.out; omega
                  case rel => exact ⟨(wrap64 ((ji37) + 1)), (x15_1), (by first | rfl | (simp; done) | (simp only [← hji37] <;> (first | rfl | simp)) | (simp [*]; done)), (by first | rfl | (simp; done) | (simp [*]; done)), H', ⟨by have := HK1.out; omega⟩, ⟨by (with_reducible repeat (first | apply Kd.R_alloc | apply Kd.R_drewN | apply Kd.R_drew)); exact HO_0.out⟩, ⟨by repeat (first | (with_reducible first | exact HK.out | apply Kept.alloc | apply Kept.drewN | apply Kept.drew) | exact HK.out)⟩, ⟨by repeat (first | (with_reducible first | exact HB.out | apply below_alloc | apply pw_below_drewN | apply below_drew1) | exact HB.out)⟩⟩
              · rw [if_neg c39] at H
                exact absurd H (by simp)
            · rw [if_neg c38] at H
              exact absurd H (by simp)
          · rw [if_neg c36] at H
            exact absurd H (by simp)
        · rw [if_neg c35] at H
          exact absurd H (by simp)
      · rw [if_neg c34] at H
        have c34b0 : decide (x14_1 < x15_1) = false := decide_eq_false c34
        clear c34
        have H' := Aside0.mk H
        clear H
        go_wp2
        go_loopg [17] k1 (fun kq v17 w' => ∃ (x0_2 : List (S27)) (x17_2 : Int), v17 = .int .i64 x17_2 ∧ Aside0 (victim_Run_27.l3 kq x0_2 x14_1 x17_2 = some r) ∧ Aside0 (kq ≤ k1) ∧ Aside0 (Kd.R k27 27 w' w0.heap.size (fun k_ => (P0_ k_ ∨ w.heap.size ≤ k_)) u9000_ x0_2) ∧ Aside0 (Kept w w' (fun k_ => P0_ k_)) ∧ Aside0 (Below w0.heap.size w0 w'))
        case atStart => exact ⟨(l0), (a2), (by first | rfl | (simp; done) | (simp [*]; done)), H', ⟨Nat.le_refl _⟩, ⟨by (with_reducible repeat (first | apply Kd.R_alloc | apply Kd.R_drewN | apply Kd.R_drew)); exact HO_0.out⟩, ⟨by repeat (first | (with_reducible first | exact HK.out | apply Kept.alloc | apply Kept.drewN | apply Kept.drew) | exact HK.out)⟩, ⟨by repeat (first | (with_reducible first | exact HB.out | apply below_alloc | apply pw_below_drewN | apply below_drew1) | exact HB.out)⟩⟩
        case round =>
          clear H'
          try clear c1
          try clear p1
          try clear q1
          try clear hx1
          try clear c2
          try clear p2
          try clear q2
          try clear hx2
          try clear c3
          try clear c4
          try clear c6
          try clear c6b0
          try clear c6b1
          try clear p6
          try clear c7
          try clear c7b0
          try clear c9
          try clear c9b0
          try clear c10
          try clear c10b0
          try clear c11
          try clear c11b0
          try clear c12
          try clear c12b0
          try clear c14
          try clear c14b0
          try clear p14
          try clear q14
          try clear hx14
          try clear p15
          try clear q15
          try clear hx15
          try clear c18
          try clear c21
          try clear c21b0
          try clear c23
          try clear c23b0
          try clear c24
          try clear c24b0
          try clear c25
          try clear c25b0
          try clear c26
          try clear c26b0
          try clear c27
          try clear p27
          try clear q27
          try clear hx27
          try clear hf27
          try clear c28
          try clear p28
          try clear q28
          try clear hx28
          try clear hf28
          try clear c31
          try clear c32
          try clear c33
          try clear c33b0
          try clear c33b1
          try clear c34
          try clear c34b0
          try clear c35
          try clear c35b0
          try clear c36
          try clear c36b0
          try clear c38
          try clear c38b0
          try clear c39
          try clear c39b0
          try clear c41
          try clear c41b0
          try clear hx147_0
          try clear hx147_1
          try clear hx147_2
          try clear hx147_3
          try clear hx147_4
          try clear hx148_0
          try clear hx148_1
          try clear hx148_2
          try clear hx148_3
          try clear hx148_4
          try clear hx150_0
          try clear hx150_1
          try clear hx150_2
          try clear hx150_3
          try clear hx150_4
          try clear hx151_0
          try clear hx151_1
          try clear hx151_2
          try clear hx151_3
          try clear hx151_4
          try clear hx154_0
          try clear hx154_1
          try clear hx154_2
          try clear hx154_3
          try clear hx154_4
          try clear hx155_0
          try clear hx155_1
          try clear hx155_2
          try clear hx155_3
          try clear hx155_4
          try clear hx27_0
          try clear hx27_1
          try clear hx27_2
          try clear hx27_3
          try clear hx27_4
          try clear hx28_0
          try clear hx28_1
          try clear hx28_2
          try clear hx28_3
          try clear hx28_4
          try clear p1
          try clear p14
          try clear p147
          try clear p148
          try clear p15
          try clear p150
          try clear p151
          try clear p154
          try clear p155
          try clear p2
          try clear p27
          try clear p28
          try clear p6
          try clear q1
          try clear q14
          try clear q147
          try clear q148
          try clear q15
          try clear q150
          try clear q151
          try clear q154
          try clear q155
          try clear q2
          try clear q27
          try clear q28
          obtain ⟨x0_2, x17_2, rfl, HA, HK2, HO_0, HK, HB⟩ := hrel
          cases gk with
          | zero => exact absurd HA.out (by simp [victim_Run_27.l3])
          | succ k2 =>
            have H := HA.out
            clear HA
            simp only [victim_Run_27.l3] at H
            by_cases c48 : x17_2 > x14_1
            · rw [if_pos c48] at H
              have c48b0 : decide (x14_1 < x17_2) = true := decide_eq_true c48
              clear c48
              obtain ⟨ji49, hji49⟩ : ∃ j_ : Int, (wrap64 (x17_2 - 1)) = j_ := ⟨_, rfl⟩
              replace H : (if 0 ≤ (ji49) then (if (ji49) < (x0_2.length : Int) then (if 0 ≤ x17_2 then (if x17_2 < (x0_2.length : Int) then (victim_Run_27.l3 k2 ((x0_2.set (x17_2 : Int).toNat (⟨(rd_T27 x0_2 (ji49)).f0, (rd_T27 x0_2 (ji49)).f1, (rd_T27 x0_2 (ji49)).f2, (rd_T27 x0_2 (ji49)).f3, (rd_T27 x0_2 (ji49)).f4⟩ : S27)).set ((ji49) : Int).toNat (⟨(rd_T27 x0_2 x17_2).f0, (rd_T27 x0_2 x17_2).f1, (rd_T27 x0_2 x17_2).f2, (rd_T27 x0_2 x17_2).f3, (rd_T27 x0_2 x17_2).f4⟩ : S27)) x14_1 ji49) else (none)) else (none)) else (none)) else (none)) = some r := by first | (rw [hji49] at H; exact H) | (simp only [hji49] at H ⊢; exact H)
              have hji49w : (IntKind.i64.wrap (x17_2 - 1)) = ji49 := (i64_w _).trans hji49
              by_cases c50 : 0 ≤ (ji49)
              · rw [if_pos c50] at H
                have c50b0 : decide (0 ≤ (ji49)) = true := decide_eq_true c50
                clear c50
                by_cases c51 : (ji49) < (x0_2.length : Int)
                · rw [if_pos c51] at H
                  have c51b0 : decide ((ji49) < (x0_2.length : Int)) = true := decide_eq_true c51
                  clear c51
                  by_cases c52 : 0 ≤ x17_2
                  · rw [if_pos c52] at H
                    have c52b0 : decide (0 ≤ x17_2) = true := decide_eq_true c52
                    clear c52
                    by_cases c53 : x17_2 < (x0_2.length : Int)
                    · rw [if_pos c53] at H
                      have c53b0 : decide (x17_2 < (x0_2.length : Int)) = true := decide_eq_true c53
                      clear c53
                      obtain ⟨y159, hy159⟩ : ∃ y_ : List (S27), y_ = (x0_2.set (x17_2 : Int).toNat (⟨(rd_T27 x0_2 (ji49)).f0, (rd_T27 x0_2 (ji49)).f1, (rd_T27 x0_2 (ji49)).f2, (rd_T27 x0_2 (ji49)).f3, (rd_T27 x0_2 (ji49)).f4⟩ : S27)) := ⟨_, rfl⟩
                      replace H : (victim_Run_27.l3 k2 (y159.set ((ji49) : Int).toNat (⟨(rd_T27 x0_2 x17_2).f0, (rd_T27 x0_2 x17_2).f1, (rd_T27 x0_2 x17_2).f2, (rd_T27 x0_2 x17_2).f3, (rd_T27 x0_2 x17_2).f4⟩ : S27)) x14_1 ji49) = some r := by first | (rw [hy159]; with_reducible exact H) | (have H2_ := (Option.bind_some _ _).symm.trans H; rw [hy159]; with_reducible exact H2_) | (have H2_ := (Option.bind_some _ _).symm.trans H; with_reducible exact H2_) | with_reducible exact H | (rw [hy159]; exact H) | exact H
                      have Ny159 := Aside0.mk hy159
                      clear hy159
                      obtain ⟨y160, hy160⟩ : ∃ y_ : List (S27), y_ = (y159.set ((ji49) : Int).toNat (⟨(rd_T27 x0_2 x17_2).f0, (rd_T27 x0_2 x17_2).f1, (rd_T27 x0_2 x17_2).f2, (rd_T27 x0_2 x17_2).f3, (rd_T27 x0_2 x17_2).f4⟩ : S27)) := ⟨_, rfl⟩
                      replace H : (victim_Run_27.l3 k2 y160 x14_1 ji49) = some r := by first | (rw [hy160]; with_reducible exact H) | (have H2_ := (Option.bind_some _ _).symm.trans H; rw [hy160]; with_reducible exact H2_) | (have H2_ := (Option.bind_some _ _).symm.trans H; with_reducible exact H2_) | with_reducible exact H | (rw [hy160]; exact H) | exact H
                      have Ny160 := Aside0.mk hy160
                      clear hy160
                      have H' := Aside0.mk H
                      clear H
                      try go_wp2
                      have n0_ := Aside0.mk (Kd.R_drew HO_0.out)
                      have n1_ := Aside0.mk (Kept.drew HK.out)
                      have n2_ := Aside0.mk (below_drew1 HB.out)
                      clear HO_0
                      clear HK
                      clear HB
                      have HO_0 := n0_
                      have HK := n1_
                      have HB := n2_
                      clear n0_ n1_ n2_
                      obtain ⟨Ao57, co57, eo57⟩ := Kd.R_slice HO_0.out
                      (first | subst eo57 | (injection eo57 with f1_ f2_ f3_; have f4_ := f1_.symm; have f5_ := f3_.symm; clear f1_ f2_ f3_; subst f4_; subst f5_))
                      have p157 : 0 ≤ ((ji49) : Int) := of_decide_eq_true (by first | (with_reducible assumption) | assumption)
                      have q157 : (ji49) < (x0_2.length : Int) := of_decide_eq_true (by first | (with_reducible assumption) | assumption)
                      obtain ⟨ad157, e157, hx157_0, hx157_1, hx157_2, hx157_3, hx157_4⟩ := at_T27 (Kd.R_reads' HO_0.out).2.2 (ji49) p157 q157
                      cases e157
                      replace p157 := eq_true p157
                      replace q157 := eq_true q157
                      have p158 : 0 ≤ (x17_2 : Int) := of_decide_eq_true (by first | (with_reducible assumption) | assumption)
                      have q158 : x17_2 < (x0_2.length : Int) := of_decide_eq_true (by first | (with_reducible assumption) | assumption)
                      obtain ⟨ad158, e158, hx158_0, hx158_1, hx158_2, hx158_3, hx158_4⟩ := at_T27 (Kd.R_reads' HO_0.out).2.2 x17_2 p158 q158
                      obtain rfl : ad157 = ad158 := (by injection e158)
                      replace p158 := eq_true p158
                      replace q158 := eq_true q158
                      have p54 : 0 ≤ (x17_2 : Int) := of_decide_eq_true (by first | (with_reducible assumption) | assumption)
                      have q54 : (x17_2 : Int) < ((x0_2.length : Int) : Int) := of_decide_eq_true (by first | (with_reducible assumption) | assumption)
                      obtain ⟨go54, co54, eo54, gb54, gl54, cl54, HG54⟩ := Kd.R_form HO_0.out (by omega)
                      (first | cases eo54 | (injection eo54 with ea_ en_ ec_; (first | subst ea_ | (injection ea_ with ea_; subst ea_)); subst ec_; clear en_))
                      have GB54 := Aside0.mk gb54
                      have GG54 := Aside0.mk HG54
                      clear gb54 gl54 HG54
                      have HMgo54 := Aside0.mk (show (P0_ go54 ∨ w.heap.size ≤ go54) from (HO_0.out.1 _ rfl))
                      (first | simp only [add_plain] at hx157_0 | skip)
                      (first | simp only [add_plain] at hx157_1 | skip)
                      (first | simp only [add_plain] at hx157_2 | skip)
                      (first | simp only [add_plain] at hx157_3 | skip)
                      (first | simp only [add_plain] at hx157_4 | skip)
                      (first | simp only [add_plain] at hx158_0 | skip)
                      (first | simp only [add_plain] at hx158_1 | skip)
                      (first | simp only [add_plain] at hx158_2 | skip)
                      (first | simp only [add_plain] at hx158_3 | skip)
                      (first | simp only [add_plain] at hx158_4 | skip)
                      obtain ⟨ce54, hcl54, hM54, hcc54, hfr54⟩ := Kd.R_elem HO_0.out z27 (x17_2 : Int) p54 q54
                      obtain rfl := k27_openM hM54
                      have hx54_0 : World.cell? _ ⟨go54, (x17_2 : Int).toNat * 5, none⟩ = some (.int .i64 ((rd_T27 x0_2 x17_2).f0)) := hcc54 0 _ rfl
                      have hx54_1 : World.cell? _ ⟨go54, (x17_2 : Int).toNat * 5 + 1, none⟩ = some (.int .i64 ((rd_T27 x0_2 x17_2).f1)) := hcc54 1 _ rfl
                      have hx54_2 : World.cell? _ ⟨go54, (x17_2 : Int).toNat * 5 + 2, none⟩ = some (.int .i64 ((rd_T27 x0_2 x17_2).f2)) := hcc54 2 _ rfl
                      have hx54_3 : World.cell? _ ⟨go54, (x17_2 : Int).toNat * 5 + 3, none⟩ = some (.int .i64 ((rd_T27 x0_2 x17_2).f3)) := hcc54 3 _ rfl
                      have hx54_4 : World.cell? _ ⟨go54, (x17_2 : Int).toNat * 5 + 4, none⟩ = some (.int .i64 ((rd_T27 x0_2 x17_2).f4)) := hcc54 4 _ rfl
                      have hf54_0 : World.frozen? _ ⟨go54, (x17_2 : Int).toNat * 5, none⟩ = false := hfr54 0
                      have hf54_1 : World.frozen? _ ⟨go54, (x17_2 : Int).toNat * 5 + 1, none⟩ = false := hfr54 1
                      have hf54_2 : World.frozen? _ ⟨go54, (x17_2 : Int).toNat * 5 + 2, none⟩ = false := hfr54 2
                      have hf54_3 : World.frozen? _ ⟨go54, (x17_2 : Int).toNat * 5 + 3, none⟩ = false := hfr54 3
                      have hf54_4 : World.frozen? _ ⟨go54, (x17_2 : Int).toNat * 5 + 4, none⟩ = false := hfr54 4
                      clear hcl54 hcc54 hfr54 hM54
                      replace p54 := eq_true p54
                      replace q54 := eq_true q54
                      obtain ⟨ce58, hcl58, hM58, hcc58, hfr58⟩ := Kd.R_elem HO_0.out z27 (x17_2 : Int) (of_decide_eq_true (by first | (with_reducible assumption) | assumption)) (by have h_ : (x17_2 : Int) < ((x0_2.length : Int) : Int) := of_decide_eq_true (by first | (with_reducible assumption) | assumption); first | exact h_ | (have e_ := (Kd.R_reads' HO_0.out).1; omega) | simpa using h_)
                      obtain rfl := k27_openM hM58
                      have HP58 := (Kd.R_seg HO_0.out (x17_2 : Int) (of_decide_eq_true (by first | (with_reducible assumption) | assumption)) (by have h_ : (x17_2 : Int) < ((x0_2.length : Int) : Int) := of_decide_eq_true (by first | (with_reducible assumption) | assumption); first | exact h_ | (have e_ := (Kd.R_reads' HO_0.out).1; omega) | simpa using h_) (seg := [.int .i64 ((rd_T27 x0_2 (ji49)).f0), .int .i64 ((rd_T27 x0_2 (ji49)).f1), .int .i64 ((rd_T27 x0_2 (ji49)).f2), .int .i64 ((rd_T27 x0_2 (ji49)).f3), .int .i64 ((rd_T27 x0_2 (ji49)).f4)]) (j := 0) hcl58 hcc58 (show 5 ≤ 5 from by decide) (x' := (⟨(rd_T27 x0_2 (ji49)).f0, (rd_T27 x0_2 (ji49)).f1, (rd_T27 x0_2 (ji49)).f2, (rd_T27 x0_2 (ji49)).f3, (rd_T27 x0_2 (ji49)).f4⟩ : S27)) (k27_mkM _ _ _ (⟨(rd_T27 x0_2 (ji49)).f0, (rd_T27 x0_2 (ji49)).f1, (rd_T27 x0_2 (ji49)).f2, (rd_T27 x0_2 (ji49)).f3, (rd_T27 x0_2 (ji49)).f4⟩ : S27) ) (fun _ hk => hk)).1
                      rw [← Ny159.out] at HP58
                      have HQ58 := Aside0.mk HP58
                      clear hcl58 hcc58 hfr58 hM58 HP58
                      refine start_ (n := 18) (S := fun w' => w'.cell? ⟨go54, ((ji49)).toNat * 5, none⟩ = some (.int .i64 ((rd_T27 x0_2 (ji49)).f0)) ∧ w'.cell? ⟨go54, ((ji49)).toNat * 5 + 1, none⟩ = some (.int .i64 ((rd_T27 x0_2 (ji49)).f1)) ∧ w'.cell? ⟨go54, ((ji49)).toNat * 5 + 2, none⟩ = some (.int .i64 ((rd_T27 x0_2 (ji49)).f2)) ∧ w'.cell? ⟨go54, ((ji49)).toNat * 5 + 3, none⟩ = some (.int .i64 ((rd_T27 x0_2 (ji49)).f3)) ∧ w'.cell? ⟨go54, ((ji49)).toNat * 5 + 4, none⟩ = some (.int .i64 ((rd_T27 x0_2 (ji49)).f4)) ∧ w'.cell? ⟨go54, ((x17_2).toNat * 5), none⟩ = some (.int .i64 ((rd_T27 x0_2 x17_2).f0)) ∧ w'.cell? ⟨go54, ((x17_2).toNat * 5) + 1, none⟩ = some (.int .i64 ((rd_T27 x0_2 x17_2).f1)) ∧ w'.cell? ⟨go54, ((x17_2).toNat * 5) + 2, none⟩ = some (.int .i64 ((rd_T27 x0_2 x17_2).f2)) ∧ w'.cell? ⟨go54, ((x17_2).toNat * 5) + 3, none⟩ = some (.int .i64 ((rd_T27 x0_2 x17_2).f3)) ∧ w'.cell? ⟨go54, ((x17_2).toNat * 5) + 4, none⟩ = some (.int .i64 ((rd_T27 x0_2 x17_2).f4))) (ds := [15, 17]) #[false, false, false, false, false, false, false, false, false, false, false, false, false, false, false, false, false, false] (by kernel_rfl) rfl rfl ⟨hx157_0, hx157_1, hx157_2, hx157_3, hx157_4, hx158_0, hx158_1, hx158_2, hx158_3, hx158_4⟩ (fun hHeld => ?_); refine with_tabW victim_Run_27.tab23 victim_Run_27.bits23 (fun HT_ HW_ => ?_)
                      generalize wr.drew = w56 at HO_0 HK HB GG54 HQ58 hf54_0 hf54_1 hf54_2 hf54_3 hf54_4 hx157_0 hx157_1 hx157_2 hx157_3 hx157_4 hx158_0 hx158_1 hx158_2 hx158_3 hx158_4 hx54_0 hx54_1 hx54_2 hx54_3 hx54_4 hHeld ⊢
                      refine pure_ (i := 0) (N := some 113) (v := ?_) (a' := ?_) #[true, false, false, false, false, false, false, false, false, false, false, false, false, false, false, false, false, false] rfl rfl (any_of HT_.out (by kernel_rfl)) (fun _ _ _ h => h) (Or.inl ⟨by rfl, ?_⟩) ?_ ?_
                      rotate_left
                      · intro w'
                        go_simp
                        with_reducible rfl
                      rotate_left
                      · simp only [Act.put, List.setIfInBounds_toArray, List.set_cons_zero, List.set_cons_succ, i64_w, i32_w]
                        rfl
                      refine pure_ (i := 1) (N := some 114) (v := ?_) (a' := ?_) #[true, true, false, false, false, false, false, false, false, false, false, false, false, false, false, false, false, false] rfl rfl (any_of HT_.out (by kernel_rfl)) (fun _ _ _ h => h) (Or.inl ⟨by rfl, ?_⟩) ?_ ?_
                      rotate_left
                      · intro w'
                        go_simp
                        with_reducible rfl
                      rotate_left
                      · simp only [Act.put, List.setIfInBounds_toArray, List.set_cons_zero, List.set_cons_succ, i64_w, i32_w]
                        rfl
                      refine pure_ (i := 2) (N := some 115) (v := ?_) (a' := ?_) #[true, true, true, false, false, false, false, false, false, false, false, false, false, false, false, false, false, false] rfl rfl (any_of HT_.out (by kernel_rfl)) (fun _ _ _ h => h) (Or.inl ⟨by rfl, ?_⟩) ?_ ?_
                      rotate_left
                      · intro w'
                        go_simp
                        with_reducible rfl
                      rotate_left
                      · simp only [Act.put, List.setIfInBounds_toArray, List.set_cons_zero, List.set_cons_succ, i64_w, i32_w]
                        rfl
                      refine pure_ (i := 3) (N := some 116) (v := ?_) (a' := ?_) #[true, true, true, true, false, false, false, false, false, false, false, false, false, false, false, false, false, false] rfl rfl (any_of HT_.out (by kernel_rfl)) (fun _ _ _ h => h) (Or.inl ⟨by rfl, ?_⟩) ?_ ?_
                      rotate_left
                      · intro w'
                        go_simp
                        with_reducible rfl
                      rotate_left
                      · simp only [Act.put, List.setIfInBounds_toArray, List.set_cons_zero, List.set_cons_succ, i64_w, i32_w]
                        rfl
                      refine pure_ (i := 4) (N := some 117) (v := ?_) (a' := ?_) #[true, true, true, true, true, false, false, false, false, false, false, false, false, false, false, false, false, false] rfl rfl (any_of HT_.out (by kernel_rfl)) (fun _ _ _ h => h) (Or.inl ⟨by rfl, ?_⟩) ?_ ?_
                      rotate_left
                      · intro w'
                        go_simp
                        with_reducible rfl
                      rotate_left
                      · simp only [Act.put, List.setIfInBounds_toArray, List.set_cons_zero, List.set_cons_succ, i64_w, i32_w]
                        rfl
                      refine pure_ (i := 5) (N := some 118) (v := ?_) (a' := ?_) #[true, true, true, true, true, true, false, false, false, false, false, false, false, false, false, false, false, false] rfl rfl (any_of HT_.out (by kernel_rfl)) (fun _ _ _ h => h) (Or.inl ⟨by rfl, ?_⟩) ?_ ?_
                      rotate_left
                      · intro w'
                        go_simp
                        with_reducible rfl
                      rotate_left
                      · simp only [Act.put, List.setIfInBounds_toArray, List.set_cons_zero, List.set_cons_succ, i64_w, i32_w]
                        rfl
                      refine pure_ (i := 6) (N := some 119) (v := ?_) (a' := ?_) #[true, true, true, true, true, true, true, false, false, false, false, false, false, false, false, false, false, false] rfl rfl (any_of HT_.out (by kernel_rfl)) (fun _ _ _ h => h) (Or.inl ⟨by rfl, ?_⟩) ?_ ?_
                      rotate_left
                      · intro w'
                        go_simp
                        with_reducible rfl
                      rotate_left
                      · simp only [Act.put, List.setIfInBounds_toArray, List.set_cons_zero, List.set_cons_succ, i64_w, i32_w]
                        rfl
                      refine pure_ (i := 7) (N := some 120) (v := ?_) (a' := ?_) #[true, true, true, true, true, true, true, true, false, false, false, false, false, false, false, false, false, false] rfl rfl (any_of HT_.out (by kernel_rfl)) (fun _ _ _ h => h) (Or.inl ⟨by rfl, ?_⟩) ?_ ?_
                      rotate_left
                      · intro w'
                        go_simp
                        with_reducible rfl
                      rotate_left
                      · simp only [Act.put, List.setIfInBounds_toArray, List.set_cons_zero, List.set_cons_succ, i64_w, i32_w]
                        rfl
                      refine pure_ (i := 8) (N := some 121) (v := ?_) (a' := ?_) #[true, true, true, true, true, true, true, true, true, false, false, false, false, false, false, false, false, false] rfl rfl (any_of HT_.out (by kernel_rfl)) (fun _ _ _ h => h) (Or.inl ⟨by rfl, ?_⟩) ?_ ?_
                      rotate_left
                      · intro w'
                        go_simp
                        with_reducible rfl
                      rotate_left
                      · simp only [Act.put, List.setIfInBounds_toArray, List.set_cons_zero, List.set_cons_succ, i64_w, i32_w]
                        rfl
                      refine pure_ (i := 10) (N := some 123) (v := ?_) (a' := ?_) #[true, true, true, true, true, true, true, true, true, false, true, false, false, false, false, false, false, false] rfl rfl (any_of HT_.out (by kernel_rfl)) (fun _ _ _ h => h) (Or.inl ⟨by rfl, ?_⟩) ?_ ?_
                      rotate_left
                      · intro w'
                        go_simp
                        with_reducible rfl
                      rotate_left
                      · simp only [Act.put, List.setIfInBounds_toArray, List.set_cons_zero, List.set_cons_succ, i64_w, i32_w]
                        rfl
                      refine pure_ (i := 11) (N := some 124) (v := ?_) (a' := ?_) #[true, true, true, true, true, true, true, true, true, false, true, true, false, false, false, false, false, false] rfl rfl (any_of HT_.out (by kernel_rfl)) (fun _ _ _ h => h) (Or.inl ⟨by rfl, ?_⟩) ?_ ?_
                      rotate_left
                      · intro w'
                        go_simp
                        with_reducible rfl
                      rotate_left
                      · simp only [Act.put, List.setIfInBounds_toArray, List.set_cons_zero, List.set_cons_succ, i64_w, i32_w]
                        rfl
                      refine pure_ (i := 12) (N := some 125) (v := ?_) (a' := ?_) #[true, true, true, true, true, true, true, true, true, false, true, true, true, false, false, false, false, false] rfl rfl (any_of HT_.out (by kernel_rfl)) (fun _ _ _ h => h) (Or.inl ⟨by rfl, ?_⟩) ?_ ?_
                      rotate_left
                      · intro w'
                        go_simp
                        with_reducible rfl
                      rotate_left
                      · simp only [Act.put, List.setIfInBounds_toArray, List.set_cons_zero, List.set_cons_succ, i64_w, i32_w]
                        rfl
                      refine take_ (i := 9) (N := some 122) (v := ?_) (a' := ?_) #[true, true, true, true, true, true, true, true, true, true, true, true, true, false, false, false, false, false] rfl rfl (take_ofW HT_.out HW_.out (by kernel_rfl)) (fun _ _ _ h => h) (Or.inl ⟨by rfl, ?_⟩) hHeld ?_ ?_
                      rotate_left
                      · rintro w' ⟨s0, s1, s2, s3, s4, s5, s6, s7, s8, s9⟩
                        go_simp
                        with_reducible rfl
                      rotate_left
                      · simp only [Act.put, List.setIfInBounds_toArray, List.set_cons_zero, List.set_cons_succ, i64_w, i32_w]
                        rfl
                      refine take_ (i := 13) (N := some 126) (v := ?_) (a' := ?_) #[true, true, true, true, true, true, true, true, true, true, true, true, true, true, false, false, false, false] rfl rfl (take_ofW HT_.out HW_.out (by kernel_rfl)) (fun _ _ _ h => h) (Or.inl ⟨by rfl, ?_⟩) hHeld ?_ ?_
                      rotate_left
                      · rintro w' ⟨s0, s1, s2, s3, s4, s5, s6, s7, s8, s9⟩
                        go_simp
                        with_reducible rfl
                      rotate_left
                      · simp only [Act.put, List.setIfInBounds_toArray, List.set_cons_zero, List.set_cons_succ, i64_w, i32_w]
                        rfl
                      refine pure_ (i := 14) (N := some 127) (v := ?_) (a' := ?_) #[true, true, true, true, true, true, true, true, true, true, true, true, true, true, true, false, false, false] rfl rfl (any_of HT_.out (by kernel_rfl)) (fun _ _ _ h => h) (Or.inl ⟨by rfl, ?_⟩) ?_ ?_
                      rotate_left
                      · intro w'
                        go_simp
                        with_reducible rfl
                      rotate_left
                      · simp only [Act.put, List.setIfInBounds_toArray, List.set_cons_zero, List.set_cons_succ, i64_w, i32_w]
                        rfl
                      refine last_ (i := 15) (N := none) #[true, true, true, true, true, true, true, true, true, true, true, true, true, true, true, true, false, false] rfl rfl (one_of HT_.out (by kernel_rfl)) (by decide) (fun K hK => ?_)
                      refine skip_ (w1 := ?_) (by rfl) rfl ?_ ?_
                      rotate_left
                      · go_simp
                        rfl
                      refine hK.out _ _ ?_
                      clear hK K
                      obtain ⟨w56s, hw56s, HQ58n⟩ := VicW.opqR (((((w56.setCell ⟨go54, (x17_2 : Int).toNat * 5, none⟩ (.int .i64 ((rd_T27 x0_2 (ji49)).f0))).setCell ⟨go54, (x17_2 : Int).toNat * 5 + 1, none⟩ (.int .i64 ((rd_T27 x0_2 (ji49)).f1))).setCell ⟨go54, (x17_2 : Int).toNat * 5 + 2, none⟩ (.int .i64 ((rd_T27 x0_2 (ji49)).f2))).setCell ⟨go54, (x17_2 : Int).toNat * 5 + 3, none⟩ (.int .i64 ((rd_T27 x0_2 (ji49)).f3))).setCell ⟨go54, (x17_2 : Int).toNat * 5 + 4, none⟩ (.int .i64 ((rd_T27 x0_2 (ji49)).f4))) HQ58 rfl
                      have n0_ := HQ58n
                      have n1_ : Aside0 (Kept w w56s _) := ⟨by rw [hw56s]; exact VicW.kept5 HK.out HMgo54.out _ _ _ _ _ _⟩
                      have n2_ := VicW.below5 HB.out GB54.out ((x17_2 : Int).toNat * 5) (.int .i64 ((rd_T27 x0_2 (ji49)).f0)) (.int .i64 ((rd_T27 x0_2 (ji49)).f1)) (.int .i64 ((rd_T27 x0_2 (ji49)).f2)) (.int .i64 ((rd_T27 x0_2 (ji49)).f3)) (.int .i64 ((rd_T27 x0_2 (ji49)).f4)) hw56s
                      rw [← hw56s]
                      clear HK HB HQ58 HQ58n hw56s
                      have HQ58 := n0_
                      have HK := n1_
                      have HB := n2_
                      clear n0_ n1_ n2_
                      have p55 : 0 ≤ ((ji49) : Int) := of_decide_eq_true (by first | (with_reducible assumption) | assumption)
                      have q55 : ((ji49) : Int) < ((x0_2.length : Int) : Int) := of_decide_eq_true (by first | (with_reducible assumption) | assumption)
                      obtain ⟨ce55, hcl55, hM55, hcc55, hfr55⟩ := Kd.R_elem HQ58.out z27 ((ji49) : Int) p55 q55
                      obtain rfl := k27_openM hM55
                      have hx55_0 : World.cell? _ ⟨go54, ((ji49) : Int).toNat * 5, none⟩ = some (.int .i64 ((rd_T27 y159 (ji49)).f0)) := hcc55 0 _ rfl
                      have hx55_1 : World.cell? _ ⟨go54, ((ji49) : Int).toNat * 5 + 1, none⟩ = some (.int .i64 ((rd_T27 y159 (ji49)).f1)) := hcc55 1 _ rfl
                      have hx55_2 : World.cell? _ ⟨go54, ((ji49) : Int).toNat * 5 + 2, none⟩ = some (.int .i64 ((rd_T27 y159 (ji49)).f2)) := hcc55 2 _ rfl
                      have hx55_3 : World.cell? _ ⟨go54, ((ji49) : Int).toNat * 5 + 3, none⟩ = some (.int .i64 ((rd_T27 y159 (ji49)).f3)) := hcc55 3 _ rfl
                      have hx55_4 : World.cell? _ ⟨go54, ((ji49) : Int).toNat * 5 + 4, none⟩ = some (.int .i64 ((rd_T27 y159 (ji49)).f4)) := hcc55 4 _ rfl
                      have hf55_0 : World.frozen? _ ⟨go54, ((ji49) : Int).toNat * 5, none⟩ = false := hfr55 0
                      have hf55_1 : World.frozen? _ ⟨go54, ((ji49) : Int).toNat * 5 + 1, none⟩ = false := hfr55 1
                      have hf55_2 : World.frozen? _ ⟨go54, ((ji49) : Int).toNat * 5 + 2, none⟩ = false := hfr55 2
                      have hf55_3 : World.frozen? _ ⟨go54, ((ji49) : Int).toNat * 5 + 3, none⟩ = false := hfr55 3
                      have hf55_4 : World.frozen? _ ⟨go54, ((ji49) : Int).toNat * 5 + 4, none⟩ = false := hfr55 4
                      clear hcl55 hcc55 hfr55 hM55
                      replace p55 := eq_true p55
                      replace q55 := eq_true q55
                      obtain ⟨ce59, hcl59, hM59, hcc59, hfr59⟩ := Kd.R_elem HQ58.out z27 ((ji49) : Int) (of_decide_eq_true (by first | (with_reducible assumption) | assumption)) (by have h_ : ((ji49) : Int) < ((x0_2.length : Int) : Int) := of_decide_eq_true (by first | (with_reducible assumption) | assumption); first | exact h_ | (have e_ := (Kd.R_reads' HO_0.out).1; omega) | simpa using h_)
                      obtain rfl := k27_openM hM59
                      have HP59 := (Kd.R_seg HQ58.out ((ji49) : Int) (of_decide_eq_true (by first | (with_reducible assumption) | assumption)) (by have h_ : ((ji49) : Int) < ((x0_2.length : Int) : Int) := of_decide_eq_true (by first | (with_reducible assumption) | assumption); first | exact h_ | (have e_ := (Kd.R_reads' HO_0.out).1; omega) | simpa using h_) (seg := [.int .i64 ((rd_T27 x0_2 x17_2).f0), .int .i64 ((rd_T27 x0_2 x17_2).f1), .int .i64 ((rd_T27 x0_2 x17_2).f2), .int .i64 ((rd_T27 x0_2 x17_2).f3), .int .i64 ((rd_T27 x0_2 x17_2).f4)]) (j := 0) hcl59 hcc59 (show 5 ≤ 5 from by decide) (x' := (⟨(rd_T27 x0_2 x17_2).f0, (rd_T27 x0_2 x17_2).f1, (rd_T27 x0_2 x17_2).f2, (rd_T27 x0_2 x17_2).f3, (rd_T27 x0_2 x17_2).f4⟩ : S27)) (k27_mkM _ _ _ (⟨(rd_T27 x0_2 x17_2).f0, (rd_T27 x0_2 x17_2).f1, (rd_T27 x0_2 x17_2).f2, (rd_T27 x0_2 x17_2).f3, (rd_T27 x0_2 x17_2).f4⟩ : S27) ) (fun _ hk => hk)).1
                      rw [← Ny160.out] at HP59
                      have HQ59 := Aside0.mk HP59
                      clear hcl59 hcc59 hfr59 hM59 HP59
                      refine pure_ (i := 16) (N := some 128) (v := ?_) (a' := ?_) #[true, true, true, true, true, true, true, true, true, true, true, true, true, true, true, true, true, false] rfl rfl (any_of HT_.out (by kernel_rfl)) (fun _ _ _ h => h) (Or.inl ⟨by rfl, ?_⟩) ?_ ?_
                      rotate_left
                      · intro w'
                        go_simp
                        with_reducible rfl
                      rotate_left
                      · simp only [Act.put, List.setIfInBounds_toArray, List.set_cons_zero, List.set_cons_succ, i64_w, i32_w]
                        rfl
                      refine last_ (i := 17) (N := none) #[true, true, true, true, true, true, true, true, true, true, true, true, true, true, true, true, true, true] rfl rfl (one_of HT_.out (by kernel_rfl)) (by decide) (fun K hK => ?_)
                      refine skip_ (w1 := ?_) (by rfl) rfl ?_ ?_
                      rotate_left
                      · go_simp
                        rfl
                      refine hK.out _ _ ?_
                      clear hK K
                      refine done_ (done_of HT_.out (by kernel_rfl)) ?_
                      try go_wp2
                      go_roundg k2
                      case measure => have := HK1.out; have := HK2.out; omega
                      case rel => exact ⟨(y160), (ji49), (by first | rfl | (simp; done) | (simp only [← hji49] <;> (first | rfl | simp)) | (simp [*]; done)), H', ⟨by have := HK1.out; have := HK2.out; omega⟩, ⟨by (with_reducible repeat (first | apply Kd.R_alloc | apply Kd.R_drewN | apply Kd.R_drew)); exact HQ59.out⟩, ⟨by repeat (first | (with_reducible first | exact HK.out | apply Kept.alloc | apply Kept.drewN | apply Kept.drew | refine Kept.setCell ?_ HMgo54.out _ | refine Kept.setCell ?_ HMgo54.out _ | refine Kept.setCell ?_ HMgo54.out _ | refine Kept.setCell ?_ HMgo54.out _ | refine Kept.setCell ?_ HMgo54.out _ | refine Kept.setCell ?_ HMgo54.out _ | refine Kept.setCell ?_ HMgo54.out _ | refine Kept.setCell ?_ HMgo54.out _ | refine Kept.setCell ?_ HMgo54.out _ | refine Kept.setCell ?_ HMgo54.out _) | exact HK.out)⟩, ⟨by repeat (first | (with_reducible first | exact HB.out | apply below_alloc | apply pw_below_drewN | apply below_drew1 | refine below_set ?_ GB54.out | refine below_set ?_ GB54.out | refine below_set ?_ GB54.out | refine below_set ?_ GB54.out | refine below_set ?_ GB54.out | refine below_set ?_ GB54.out | refine below_set ?_ GB54.out | refine below_set ?_ GB54.out | refine below_set ?_ GB54.out | refine below_set ?_ GB54.out) | exact HB.out)⟩⟩
                    · rw [if_neg c53] at H
                      exact absurd H (by simp)
                  · rw [if_neg c52] at H
                    exact absurd H (by simp)
                · rw [if_neg c51] at H
                  exact absurd H (by simp)
              · rw [if_neg c50] at H
                exact absurd H (by simp)
            · rw [if_neg c48] at H
              have c48b0 : decide (x14_1 < x17_2) = false := decide_eq_false c48
              clear c48
              obtain rfl := Option.some.inj H
              go_wp2
              first | go_end0 | ((try simp only [Exit.inBlock, Exit.then]); refine bodyPost_ret (results_none rfl _ _ _) rfl ?_)
              exact ⟨by first | rfl | (simp [errW_none, errW_some] <;> rfl) | (simp [*, errW_none, errW_some] <;> rfl), by (with_reducible repeat (first | apply Kd.R_alloc | apply Kd.R_drewN | apply Kd.R_drew)); exact HO_0.out, by repeat (first | (with_reducible first | exact HB.out | apply below_alloc | apply pw_below_drewN | apply below_drew1) | exact HB.out), by repeat (first | (with_reducible first | exact HK.out | apply Kept.alloc | apply Kept.drewN | apply Kept.drew) | exact HK.out)⟩
end Go.Proofs.Ytnegchdooapoiaa.PVic
