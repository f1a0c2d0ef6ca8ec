/- Lemmas for the walks. No condition. -/
import Derived.Test.YtnegchdooapoiaaPVicx6
namespace Go.Proofs.Ytnegchdooapoiaa.PVic
open Go.RowKit Go.Proofs.YtnegchdooapoiaaW.PrintWords Go.Proofs.YtnegchdooapoiaaW.PrintLast Go.Proofs.YtnegchdooapoiaaW.PrintMore
attribute [local go_sem] max2_int min2_int max_two min_two max_three min_three max_four min_four   -- for this text's walks alone
set_option linter.unusedVariables false
set_option linter.unusedSimpArgs false
set_option maxHeartbeats 8000000 in
set_option maxRecDepth 100000 in
theorem victim_Run_27.calls_C (k : Nat) (ih : ∀ m : Nat, m < k + 1 → ∀ (P0_ : Nat → Prop) (u9000_ : Value) (l0 : List (S27)) (a1 : Int) (a2 : Int) (a3 : Int) (a4 : Bool) (r : List (S27)) (w0 w : World) (hB : Below w0.heap.size w0 w) (ho0 : Kd.R k27 27 w w0.heap.size P0_ u9000_ l0) (h : victim_Run_27.f m l0 a1 a2 a3 a4 = some r),
      Calls Try.prog 27 #[u9000_, .int .i64 a1, .int .i64 a2, .int .i64 a3, .func (.func 18) #[] #[]] w fun e w' => e = .returned (.tuple #[]) ∧ Kd.R k27 27 w' w0.heap.size (fun k_ => (P0_ k_ ∨ w.heap.size ≤ k_)) u9000_ r ∧ Below w0.heap.size w0 w' ∧ Kept w w' (fun k_ => P0_ k_)) (P0_ : Nat → Prop) (u9000_ : Value) (l0 : List (S27)) (a1 : Int) (a2 : Int) (a3 : Int) (a4 : Bool) (r : List (S27)) (w0 w : World) (hB : Below w0.heap.size w0 w) (ho0 : Kd.R k27 27 w w0.heap.size P0_ u9000_ l0) (c6 : ¬ (wrap64 (a2 - a1)) = 1) (c33 : ¬ (wrap64 (a3 - a2)) = 1) (H : (if a2 > (wrap64 ((IntKind.u64.wrap (wrap64 (a1 + a3))) / 2)) then (victim_Run_27.j4 k l0 a1 a2 a3 a4 (wrap64 ((IntKind.u64.wrap (wrap64 (a1 + a3))) / 2)) (wrap64 ((wrap64 ((IntKind.u64.wrap (wrap64 (a1 + a3))) / 2)) + a2)) (wrap64 ((wrap64 ((wrap64 ((IntKind.u64.wrap (wrap64 (a1 + a3))) / 2)) + a2)) - a3)) (wrap64 ((IntKind.u64.wrap (wrap64 (a1 + a3))) / 2))) else (victim_Run_27.j4 k l0 a1 a2 a3 a4 (wrap64 ((IntKind.u64.wrap (wrap64 (a1 + a3))) / 2)) (wrap64 ((wrap64 ((IntKind.u64.wrap (wrap64 (a1 + a3))) / 2)) + a2)) a1 a2)) = some r) :
    Calls Try.prog 27 #[u9000_, .int .i64 a1, .int .i64 a2, .int .i64 a3, .func (.func 18) #[] #[]] w fun e w' => e = .returned (.tuple #[]) ∧ Kd.R k27 27 w' w0.heap.size (fun k_ => (P0_ k_ ∨ w.heap.size ≤ k_)) u9000_ r ∧ Below w0.heap.size w0 w' ∧ Kept w w' (fun k_ => P0_ k_) := by
  have hu27 := Try.underlying27
  have HO0 := Aside0.mk (show Kd.R k27 27 w w0.heap.size (fun k_ => (P0_ k_ ∨ w.heap.size ≤ k_)) u9000_ l0 from Kd.R_mono ho0 (fun k_ hk => (.inl hk)))
  have HK := Aside0.mk (Kept.refl w (fun k_ => P0_ k_))
  have HW0 := Aside0.mk hB.size
  have HB := Aside0.mk hB
  clear hB
  have c6b0 : ((wrap64 (a2 - a1)) == 1) = false := beq_eq_false_iff_ne.mpr c6
  have c6b1 : ((wrap64 (a2 - a1)) != 1) = true := bne_iff_ne.mpr c6
  have c33b0 : ((wrap64 (a3 - a2)) == 1) = false := beq_eq_false_iff_ne.mpr c33
  have c33b1 : ((wrap64 (a3 - a2)) != 1) = true := bne_iff_ne.mpr c33
  have HC60 := Aside0.mk H
  clear H
  go_enter Try.func27, Try.ntmps27
  go_upto_if 140 with (fail)
  go_cut [20, 21] (fun v20 v21 wc => ∃ (kq : Nat) (x20_59 : Int) (x21_59 : Int), v20 = .int .i64 x20_59 ∧ v21 = .int .i64 x21_59 ∧ Aside0 (victim_Run_27.j4 kq l0 a1 a2 a3 a4 (wrap64 ((IntKind.u64.wrap (wrap64 (a1 + a3))) / 2)) (wrap64 ((wrap64 ((IntKind.u64.wrap (wrap64 (a1 + a3))) / 2)) + a2)) x20_59 x21_59 = some r) ∧ Aside0 (kq ≤ k) ∧ Aside0 (Kd.R k27 27 wc w0.heap.size (fun k_ => (P0_ k_ ∨ w.heap.size ≤ k_)) u9000_ l0) ∧ Aside0 (Kept w wc (fun k_ => P0_ k_)) ∧ Aside0 (Below w0.heap.size w0 wc))
  case first =>
    have H := HC60.out
    clear HC60
    by_cases c61 : a2 > (wrap64 ((IntKind.u64.wrap (wrap64 (a1 + a3))) / 2))
    · rw [if_pos c61] at H
      have c61b0 : decide ((wrap64 ((IntKind.u64.wrap (wrap64 (a1 + a3))) / 2)) < a2) = true := decide_eq_true c61
      clear c61
      (first | rw [c61b0] | (simp only [i64_w, i32_w]; rw [c61b0]) | skip)
      have H' := Aside0.mk H
      clear H
      go_wp2
      go_meet
      case rel => exact ⟨_, (wrap64 ((wrap64 ((wrap64 ((IntKind.u64.wrap (wrap64 (a1 + a3))) / 2)) + a2)) - a3)), (wrap64 ((IntKind.u64.wrap (wrap64 (a1 + a3))) / 2)), (by first | rfl | (simp; done) | (simp [*]; done)), (by first | rfl | (simp; done) | (simp [*]; done)), H', ⟨by first | omega | exact Nat.le_refl _⟩, ⟨by (with_reducible repeat (first | apply Kd.R_alloc | apply Kd.R_drewN | apply Kd.R_drew)); exact HO0.out⟩, ⟨by repeat (first | (with_reducible first | exact HK.out | apply Kept.alloc | apply Kept.drewN | apply Kept.drew) | exact HK.out)⟩, ⟨by repeat (first | (with_reducible first | exact HB.out | apply below_alloc | apply pw_below_drewN | apply below_drew1) | exact HB.out)⟩⟩
    · rw [if_neg c61] at H
      have c61b0 : decide ((wrap64 ((IntKind.u64.wrap (wrap64 (a1 + a3))) / 2)) < a2) = false := decide_eq_false c61
      clear c61
      (first | rw [c61b0] | (simp only [i64_w, i32_w]; rw [c61b0]) | skip)
      have H' := Aside0.mk H
      clear H
      go_wp2
      go_meet
      case rel => exact ⟨_, (a1), (a2), (by first | rfl | (simp; done) | (simp [*]; done)), (by first | rfl | (simp; done) | (simp [*]; done)), H', ⟨by first | omega | exact Nat.le_refl _⟩, ⟨by (with_reducible repeat (first | apply Kd.R_alloc | apply Kd.R_drewN | apply Kd.R_drew)); exact HO0.out⟩, ⟨by repeat (first | (with_reducible first | exact HK.out | apply Kept.alloc | apply Kept.drewN | apply Kept.drew) | exact HK.out)⟩, ⟨by repeat (first | (with_reducible first | exact HB.out | apply below_alloc | apply pw_below_drewN | apply below_drew1) | exact HB.out)⟩⟩
  case rest =>
    clear HC60
    try clear c1
    try clear p1
    try clear q1
    try clear hx1
    try clear c2
    try clear p2
    try clear q2
    try clear hx2
    try clear c3
    try clear c4
    try clear c5
    try clear p5
    try clear q5
    try clear hx5
    try clear hf5
    try clear c6
    try clear c6b0
    try clear c6b1
    try clear p6
    try clear c7
    try clear c7b0
    try clear c9
    try clear c9b0
    try clear c10
    try clear c10b0
    try clear c11
    try clear c11b0
    try clear c12
    try clear c12b0
    try clear c14
    try clear c14b0
    try clear p14
    try clear q14
    try clear hx14
    try clear p15
    try clear q15
    try clear hx15
    try clear c18
    try clear c21
    try clear c21b0
    try clear c23
    try clear c23b0
    try clear c24
    try clear c24b0
    try clear c25
    try clear c25b0
    try clear c26
    try clear c26b0
    try clear c27
    try clear p27
    try clear q27
    try clear hx27
    try clear hf27
    try clear c28
    try clear p28
    try clear q28
    try clear hx28
    try clear hf28
    try clear c31
    try clear c32
    try clear c33
    try clear c33b0
    try clear c33b1
    try clear c34
    try clear c34b0
    try clear c35
    try clear c35b0
    try clear c36
    try clear c36b0
    try clear c38
    try clear c38b0
    try clear c39
    try clear c39b0
    try clear c41
    try clear c41b0
    try clear c48
    try clear c48b0
    try clear c50
    try clear c50b0
    try clear c51
    try clear c51b0
    try clear c52
    try clear c52b0
    try clear c53
    try clear c53b0
    try clear c54
    try clear p54
    try clear q54
    try clear hx54
    try clear hf54
    try clear c55
    try clear p55
    try clear q55
    try clear hx55
    try clear hf55
    try clear c58
    try clear c59
    try clear c61
    try clear c61b0
    try clear hx147_0
    try clear hx147_1
    try clear hx147_2
    try clear hx147_3
    try clear hx147_4
    try clear hx148_0
    try clear hx148_1
    try clear hx148_2
    try clear hx148_3
    try clear hx148_4
    try clear hx150_0
    try clear hx150_1
    try clear hx150_2
    try clear hx150_3
    try clear hx150_4
    try clear hx151_0
    try clear hx151_1
    try clear hx151_2
    try clear hx151_3
    try clear hx151_4
    try clear hx154_0
    try clear hx154_1
    try clear hx154_2
    try clear hx154_3
    try clear hx154_4
    try clear hx155_0
    try clear hx155_1
    try clear hx155_2
    try clear hx155_3
    try clear hx155_4
    try clear hx157_0
    try clear hx157_1
    try clear hx157_2
    try clear hx157_3
    try clear hx157_4
    try clear hx158_0
    try clear hx158_1
    try clear hx158_2
    try clear hx158_3
    try clear hx158_4
    try clear hx27_0
    try clear hx27_1
    try clear hx27_2
    try clear hx27_3
    try clear hx27_4
    try clear hx28_0
    try clear hx28_1
    try clear hx28_2
    try clear hx28_3
    try clear hx28_4
    try clear hx54_0
    try clear hx54_1
    try clear hx54_2
    try clear hx54_3
    try clear hx54_4
    try clear hx55_0
    try clear hx55_1
    try clear hx55_2
    try clear hx55_3
    try clear hx55_4
    try clear p1
    try clear p14
    try clear p147
    try clear p148
    try clear p15
    try clear p150
    try clear p151
    try clear p154
    try clear p155
    try clear p157
    try clear p158
    try clear p2
    try clear p27
    try clear p28
    try clear p54
    try clear p55
    try clear p6
    try clear q1
    try clear q14
    try clear q147
    try clear q148
    try clear q15
    try clear q150
    try clear q151
    try clear q154
    try clear q155
    try clear q157
    try clear q158
    try clear q2
    try clear q27
    try clear q28
    try clear q54
    try clear q55
    obtain ⟨kq, x20_59, x21_59, rfl, rfl, HA, HJ59, HO_0, HK, HB⟩ := hcut
    cases kq with
    | zero => exact absurd HA.out (by simp [victim_Run_27.j4])
    | succ kj59 =>
      have H := HA.out
      clear HA
      simp only [victim_Run_27.j4] at H
      have H' := Aside0.mk H
      clear H
      go_wp2
      go_loopg [20, 21] kj59 (fun kq v20 v21 w' => ∃ (x20_2 : Int) (x21_2 : Int), v20 = .int .i64 x20_2 ∧ v21 = .int .i64 x21_2 ∧ Aside0 (victim_Run_27.l4 kq l0 a1 a2 a3 a4 (wrap64 ((IntKind.u64.wrap (wrap64 (a1 + a3))) / 2)) (wrap64 ((wrap64 ((IntKind.u64.wrap (wrap64 (a1 + a3))) / 2)) + a2)) x20_2 x21_2 (wrap64 ((wrap64 ((wrap64 ((IntKind.u64.wrap (wrap64 (a1 + a3))) / 2)) + a2)) - 1)) = some r) ∧ Aside0 (kq ≤ kj59) ∧ Aside0 (Kd.R k27 27 w' w0.heap.size (fun k_ => (P0_ k_ ∨ w.heap.size ≤ k_)) u9000_ l0) ∧ Aside0 (Kept w w' (fun k_ => P0_ k_)) ∧ Aside0 (Below w0.heap.size w0 w'))
      case atStart => exact ⟨(x20_59), (x21_59), (by first | rfl | (simp; done) | (simp [*]; done)), (by first | rfl | (simp; done) | (simp [*]; done)), H', ⟨Nat.le_refl _⟩, ⟨by (with_reducible repeat (first | apply Kd.R_alloc | apply Kd.R_drewN | apply Kd.R_drew)); exact HO_0.out⟩, ⟨by repeat (first | (with_reducible first | exact HK.out | apply Kept.alloc | apply Kept.drewN | apply Kept.drew) | exact HK.out)⟩, ⟨by repeat (first | (with_reducible first | exact HB.out | apply below_alloc | apply pw_below_drewN | apply below_drew1) | exact HB.out)⟩⟩
      case round =>
        clear H'
        try clear c1
        try clear p1
        try clear q1
        try clear hx1
        try clear c2
        try clear p2
        try clear q2
        try clear hx2
        try clear c3
        try clear c4
        try clear c5
        try clear p5
        try clear q5
        try clear hx5
        try clear hf5
        try clear c6
        try clear c6b0
        try clear c6b1
        try clear p6
        try clear c7
        try clear c7b0
        try clear c9
        try clear c9b0
        try clear c10
        try clear c10b0
        try clear c11
        try clear c11b0
        try clear c12
        try clear c12b0
        try clear c14
        try clear c14b0
        try clear p14
        try clear q14
        try clear hx14
        try clear p15
        try clear q15
        try clear hx15
        try clear c18
        try clear c21
        try clear c21b0
        try clear c23
        try clear c23b0
        try clear c24
        try clear c24b0
        try clear c25
        try clear c25b0
        try clear c26
        try clear c26b0
        try clear c27
        try clear p27
        try clear q27
        try clear hx27
        try clear hf27
        try clear c28
        try clear p28
        try clear q28
        try clear hx28
        try clear hf28
        try clear c31
        try clear c32
        try clear c33
        try clear c33b0
        try clear c33b1
        try clear c34
        try clear c34b0
        try clear c35
        try clear c35b0
        try clear c36
        try clear c36b0
        try clear c38
        try clear c38b0
        try clear c39
        try clear c39b0
        try clear c41
        try clear c41b0
        try clear c48
        try clear c48b0
        try clear c50
        try clear c50b0
        try clear c51
        try clear c51b0
        try clear c52
        try clear c52b0
        try clear c53
        try clear c53b0
        try clear c54
        try clear p54
        try clear q54
        try clear hx54
        try clear hf54
        try clear c55
        try clear p55
        try clear q55
        try clear hx55
        try clear hf55
        try clear c58
        try clear c59
        try clear c61
        try clear c61b0
        try clear hx147_0
        try clear hx147_1
        try clear hx147_2
        try clear hx147_3
        try clear hx147_4
        try clear hx148_0
        try clear hx148_1
        try clear hx148_2
        try clear hx148_3
        try clear hx148_4
        try clear hx150_0
        try clear hx150_1
        try clear hx150_2
        try clear hx150_3
        try clear hx150_4
        try clear hx151_0
        try clear hx151_1
        try clear hx151_2
        try clear hx151_3
        try clear hx151_4
        try clear hx154_0
        try clear hx154_1
        try clear hx154_2
        try clear hx154_3
        try clear hx154_4
        try clear hx155_0
        try clear hx155_1
        try clear hx155_2
        try clear hx155_3
        try clear hx155_4
        try clear hx157_0
        try clear hx157_1
        try clear hx157_2
        try clear hx157_3
        try clear hx157_4
        try clear hx158_0
        try clear hx158_1
        try clear hx158_2
        try clear hx158_3
        try clear hx158_4
        try clear hx27_0
        try clear hx27_1
        try clear hx27_2
        try clear hx27_3
        try clear hx27_4
        try clear hx28_0
        try clear hx28_1
        try clear hx28_2
        try clear hx28_3
        try clear hx28_4
        try clear hx54_0
        try clear hx54_1
        try clear hx54_2
        try clear hx54_3
        try clear hx54_4
        try clear hx55_0
        try clear hx55_1
        try clear hx55_2
        try clear hx55_3
        try clear hx55_4
        try clear p1
        try clear p14
        try clear p147
        try clear p148
        try clear p15
        try clear p150
        try clear p151
        try clear p154
        try clear p155
        try clear p157
        try clear p158
        try clear p2
        try clear p27
        try clear p28
        try clear p5
        try clear p54
        try clear p55
        try clear p6
        try clear q1
        try clear q14
        try clear q147
        try clear q148
        try clear q15
        try clear q150
        try clear q151
        try clear q154
        try clear q155
        try clear q157
        try clear q158
        try clear q2
        try clear q27
        try clear q28
        try clear q5
        try clear q54
        try clear q55
        obtain ⟨x20_2, x21_2, rfl, rfl, HA, HK2, HO_0, HK, HB⟩ := hrel
        cases gk with
        | zero => exact absurd HA.out (by simp [victim_Run_27.l4])
        | succ k2 =>
          have H := HA.out
          clear HA
          simp only [victim_Run_27.l4] at H
          by_cases c62 : x20_2 < x21_2
          · rw [if_pos c62] at H
            have c62b0 : decide (x20_2 < x21_2) = true := decide_eq_true c62
            clear c62
            obtain ⟨ji63, hji63⟩ : ∃ j_ : Int, (wrap64 ((wrap64 ((wrap64 ((wrap64 ((IntKind.u64.wrap (wrap64 (a1 + a3))) / 2)) + a2)) - 1)) - (wrap64 ((IntKind.u64.wrap (wrap64 (x20_2 + x21_2))) / 2)))) = j_ := ⟨_, rfl⟩
            replace H : (if 0 ≤ (ji63) then (if (ji63) < (l0.length : Int) then (if 0 ≤ (wrap64 ((IntKind.u64.wrap (wrap64 (x20_2 + x21_2))) / 2)) then (if (wrap64 ((IntKind.u64.wrap (wrap64 (x20_2 + x21_2))) / 2)) < (l0.length : Int) then ((victim_Run_compare.f k2 ((rd_T27 l0 (ji63)).f0) ((rd_T27 l0 (ji63)).f1) ((rd_T27 l0 (ji63)).f2) ((rd_T27 l0 (ji63)).f3) ((rd_T27 l0 (ji63)).f4) ((rd_T27 l0 (wrap64 ((IntKind.u64.wrap (wrap64 (x20_2 + x21_2))) / 2))).f0) ((rd_T27 l0 (wrap64 ((IntKind.u64.wrap (wrap64 (x20_2 + x21_2))) / 2))).f1) ((rd_T27 l0 (wrap64 ((IntKind.u64.wrap (wrap64 (x20_2 + x21_2))) / 2))).f2) ((rd_T27 l0 (wrap64 ((IntKind.u64.wrap (wrap64 (x20_2 + x21_2))) / 2))).f3) ((rd_T27 l0 (wrap64 ((IntKind.u64.wrap (wrap64 (x20_2 + x21_2))) / 2))).f4)).bind fun t163 => (if t163 < 0 then (victim_Run_27.l4 k2 l0 a1 a2 a3 a4 (wrap64 ((IntKind.u64.wrap (wrap64 (a1 + a3))) / 2)) (wrap64 ((wrap64 ((IntKind.u64.wrap (wrap64 (a1 + a3))) / 2)) + a2)) x20_2 (wrap64 ((IntKind.u64.wrap (wrap64 (x20_2 + x21_2))) / 2)) (wrap64 ((wrap64 ((wrap64 ((IntKind.u64.wrap (wrap64 (a1 + a3))) / 2)) + a2)) - 1))) else (victim_Run_27.l4 k2 l0 a1 a2 a3 a4 (wrap64 ((IntKind.u64.wrap (wrap64 (a1 + a3))) / 2)) (wrap64 ((wrap64 ((IntKind.u64.wrap (wrap64 (a1 + a3))) / 2)) + a2)) (wrap64 ((wrap64 ((IntKind.u64.wrap (wrap64 (x20_2 + x21_2))) / 2)) + 1)) x21_2 (wrap64 ((wrap64 ((wrap64 ((IntKind.u64.wrap (wrap64 (a1 + a3))) / 2)) + a2)) - 1))))) else (none)) else (none)) else (none)) else (none)) = some r := by first | (rw [hji63] at H; exact H) | (simp only [hji63] at H ⊢; exact H)
            have hji63w : (IntKind.i64.wrap ((wrap64 ((wrap64 ((wrap64 ((IntKind.u64.wrap (wrap64 (a1 + a3))) / 2)) + a2)) - 1)) - (wrap64 ((IntKind.u64.wrap (wrap64 (x20_2 + x21_2))) / 2)))) = ji63 := (i64_w _).trans hji63
            by_cases c64 : 0 ≤ (ji63)
            · rw [if_pos c64] at H
              have c64b0 : decide (0 ≤ (ji63)) = true := decide_eq_true c64
              clear c64
              by_cases c65 : (ji63) < (l0.length : Int)
              · rw [if_pos c65] at H
                have c65b0 : decide ((ji63) < (l0.length : Int)) = true := decide_eq_true c65
                clear c65
                obtain ⟨ji66, hji66⟩ : ∃ j_ : Int, (wrap64 ((IntKind.u64.wrap (wrap64 (x20_2 + x21_2))) / 2)) = j_ := ⟨_, rfl⟩
                replace H : (if 0 ≤ (ji66) then (if (ji66) < (l0.length : Int) then ((victim_Run_compare.f k2 ((rd_T27 l0 (ji63)).f0) ((rd_T27 l0 (ji63)).f1) ((rd_T27 l0 (ji63)).f2) ((rd_T27 l0 (ji63)).f3) ((rd_T27 l0 (ji63)).f4) ((rd_T27 l0 (ji66)).f0) ((rd_T27 l0 (ji66)).f1) ((rd_T27 l0 (ji66)).f2) ((rd_T27 l0 (ji66)).f3) ((rd_T27 l0 (ji66)).f4)).bind fun t163 => (if t163 < 0 then (victim_Run_27.l4 k2 l0 a1 a2 a3 a4 (wrap64 ((IntKind.u64.wrap (wrap64 (a1 + a3))) / 2)) (wrap64 ((wrap64 ((IntKind.u64.wrap (wrap64 (a1 + a3))) / 2)) + a2)) x20_2 ji66 (wrap64 ((wrap64 ((wrap64 ((IntKind.u64.wrap (wrap64 (a1 + a3))) / 2)) + a2)) - 1))) else (victim_Run_27.l4 k2 l0 a1 a2 a3 a4 (wrap64 ((IntKind.u64.wrap (wrap64 (a1 + a3))) / 2)) (wrap64 ((wrap64 ((IntKind.u64.wrap (wrap64 (a1 + a3))) / 2)) + a2)) (wrap64 ((ji66) + 1)) x21_2 (wrap64 ((wrap64 ((wrap64 ((IntKind.u64.wrap (wrap64 (a1 + a3))) / 2)) + a2)) - 1))))) else (none)) else (none)) = some r := by first | (rw [hji66] at H; exact H) | (simp only [hji66] at H ⊢; exact H)
                have hji66w : (IntKind.i64.wrap ((IntKind.u64.wrap (wrap64 (x20_2 + x21_2))) / 2)) = ji66 := (i64_w _).trans hji66
                rw [hji66] at hji63 hji63w
                by_cases c67 : 0 ≤ (ji66)
                · rw [if_pos c67] at H
                  have c67b0 : decide (0 ≤ (ji66)) = true := decide_eq_true c67
                  clear c67
                  by_cases c68 : (ji66) < (l0.length : Int)
                  · rw [if_pos c68] at H
                    have c68b0 : decide ((ji66) < (l0.length : Int)) = true := decide_eq_true c68
                    clear c68
                    replace H := Option.bind_eq_some_iff.mp H
                    obtain ⟨t163, A690, H⟩ := H
                    replace H : (if t163 < 0 then (victim_Run_27.l4 k2 l0 a1 a2 a3 a4 (wrap64 ((IntKind.u64.wrap (wrap64 (a1 + a3))) / 2)) (wrap64 ((wrap64 ((IntKind.u64.wrap (wrap64 (a1 + a3))) / 2)) + a2)) x20_2 ji66 (wrap64 ((wrap64 ((wrap64 ((IntKind.u64.wrap (wrap64 (a1 + a3))) / 2)) + a2)) - 1))) else (victim_Run_27.l4 k2 l0 a1 a2 a3 a4 (wrap64 ((IntKind.u64.wrap (wrap64 (a1 + a3))) / 2)) (wrap64 ((wrap64 ((IntKind.u64.wrap (wrap64 (a1 + a3))) / 2)) + a2)) (wrap64 ((ji66) + 1)) x21_2 (wrap64 ((wrap64 ((wrap64 ((IntKind.u64.wrap (wrap64 (a1 + a3))) / 2)) + a2)) - 1)))) = some r := H
                    have A69 := Aside0.mk A690
                    clear A690
                    by_cases c70 : t163 < 0
                    · rw [if_pos c70] at H
                      have c70b0 : decide (t163 < 0) = true := decide_eq_true c70
                      clear c70
                      have H' := Aside0.mk H
                      clear H
                      try go_wp2
                      have n0_ := Aside0.mk (Kd.R_drew HO_0.out)
                      have n1_ := Aside0.mk (Kept.drew HK.out)
                      have n2_ := Aside0.mk (below_drew1 HB.out)
                      clear HO_0
                      clear HK
                      clear HB
                      have HO_0 := n0_
                      have HK := n1_
                      have HB := n2_
                      clear n0_ n1_ n2_
                      obtain ⟨Ao72, co72, eo72⟩ := Kd.R_slice HO_0.out
                      (first | subst eo72 | (injection eo72 with f1_ f2_ f3_; have f4_ := f1_.symm; have f5_ := f3_.symm; clear f1_ f2_ f3_; subst f4_; subst f5_))
                      have p161 : 0 ≤ ((ji63) : Int) := of_decide_eq_true (by first | (with_reducible assumption) | assumption)
                      have q161 : (ji63) < (l0.length : Int) := of_decide_eq_true (by first | (with_reducible assumption) | assumption)
                      obtain ⟨ad161, e161, hx161_0, hx161_1, hx161_2, hx161_3, hx161_4⟩ := at_T27 (Kd.R_reads' HO_0.out).2.2 (ji63) p161 q161
                      cases e161
                      replace p161 := eq_true p161
                      replace q161 := eq_true q161
                      have p162 : 0 ≤ ((ji66) : Int) := of_decide_eq_true (by first | (with_reducible assumption) | assumption)
                      have q162 : (ji66) < (l0.length : Int) := of_decide_eq_true (by first | (with_reducible assumption) | assumption)
                      obtain ⟨ad162, e162, hx162_0, hx162_1, hx162_2, hx162_3, hx162_4⟩ := at_T27 (Kd.R_reads' HO_0.out).2.2 (ji66) p162 q162
                      obtain rfl : ad161 = ad162 := (by injection e162)
                      replace p162 := eq_true p162
                      replace q162 := eq_true q162
                      refine start_ (n := 14) (S := fun w' => w'.cell? (ad161.add (((ji63)).toNat * 5)) = some (.int .i64 ((rd_T27 l0 (ji63)).f0)) ∧ w'.cell? ⟨(ad161.add (((ji63)).toNat * 5)).block, (ad161.add (((ji63)).toNat * 5)).off + 1, none⟩ = some (.int .i64 ((rd_T27 l0 (ji63)).f1)) ∧ w'.cell? ⟨(ad161.add (((ji63)).toNat * 5)).block, (ad161.add (((ji63)).toNat * 5)).off + 2, none⟩ = some (.int .i64 ((rd_T27 l0 (ji63)).f2)) ∧ w'.cell? ⟨(ad161.add (((ji63)).toNat * 5)).block, (ad161.add (((ji63)).toNat * 5)).off + 3, none⟩ = some (.int .i64 ((rd_T27 l0 (ji63)).f3)) ∧ w'.cell? ⟨(ad161.add (((ji63)).toNat * 5)).block, (ad161.add (((ji63)).toNat * 5)).off + 4, none⟩ = some (.int .i64 ((rd_T27 l0 (ji63)).f4)) ∧ w'.cell? (ad161.add (((ji66)).toNat * 5)) = some (.int .i64 ((rd_T27 l0 (ji66)).f0)) ∧ w'.cell? ⟨(ad161.add (((ji66)).toNat * 5)).block, (ad161.add (((ji66)).toNat * 5)).off + 1, none⟩ = some (.int .i64 ((rd_T27 l0 (ji66)).f1)) ∧ w'.cell? ⟨(ad161.add (((ji66)).toNat * 5)).block, (ad161.add (((ji66)).toNat * 5)).off + 2, none⟩ = some (.int .i64 ((rd_T27 l0 (ji66)).f2)) ∧ w'.cell? ⟨(ad161.add (((ji66)).toNat * 5)).block, (ad161.add (((ji66)).toNat * 5)).off + 3, none⟩ = some (.int .i64 ((rd_T27 l0 (ji66)).f3)) ∧ w'.cell? ⟨(ad161.add (((ji66)).toNat * 5)).block, (ad161.add (((ji66)).toNat * 5)).off + 4, none⟩ = some (.int .i64 ((rd_T27 l0 (ji66)).f4))) (ds := []) #[false, false, false, false, false, false, false, false, false, false, false, false, false, false] (by kernel_rfl) rfl rfl ⟨hx161_0, hx161_1, hx161_2, hx161_3, hx161_4, hx162_0, hx162_1, hx162_2, hx162_3, hx162_4⟩ (fun hHeld => ?_); refine with_tabW victim_Run_27.tab35 victim_Run_27.bits35 (fun HT_ HW_ => ?_)
                      generalize wr.drew = w71 at HO_0 HK HB hx161_0 hx161_1 hx161_2 hx161_3 hx161_4 hx162_0 hx162_1 hx162_2 hx162_3 hx162_4 hHeld ⊢
                      refine pure_ (i := 0) (N := some 158) (v := ?_) (a' := ?_) #[true, false, false, false, false, false, false, false, false, false, false, false, false, false] rfl rfl (any_of HT_.out (by kernel_rfl)) (fun _ _ _ h => h) (Or.inl ⟨by rfl, ?_⟩) ?_ ?_
                      rotate_left
                      · intro w'
                        go_simp
                        with_reducible rfl
                      rotate_left
                      · simp only [Act.put, List.setIfInBounds_toArray, List.set_cons_zero, List.set_cons_succ, i64_w, i32_w]
                        rfl
                      refine pure_ (i := 1) (N := some 159) (v := ?_) (a' := ?_) #[true, true, false, false, false, false, false, false, false, false, false, false, false, false] rfl rfl (any_of HT_.out (by kernel_rfl)) (fun _ _ _ h => h) (Or.inl ⟨by rfl, ?_⟩) ?_ ?_
                      rotate_left
                      · intro w'
                        go_simp
                        with_reducible rfl
                      rotate_left
                      · simp only [Act.put, List.setIfInBounds_toArray, List.set_cons_zero, List.set_cons_succ, i64_w, i32_w]
                        rfl
                      refine pure_ (i := 2) (N := some 160) (v := ?_) (a' := ?_) #[true, true, true, false, false, false, false, false, false, false, false, false, false, false] rfl rfl (any_of HT_.out (by kernel_rfl)) (fun _ _ _ h => h) (Or.inl ⟨by rfl, ?_⟩) ?_ ?_
                      rotate_left
                      · intro w'
                        go_simp
                        with_reducible rfl
                      rotate_left
                      · simp only [Act.put, List.setIfInBounds_toArray, List.set_cons_zero, List.set_cons_succ, i64_w, i32_w]
                        rfl
                      refine pure_ (i := 3) (N := some 161) (v := ?_) (a' := ?_) #[true, true, true, true, false, false, false, false, false, false, false, false, false, false] rfl rfl (any_of HT_.out (by kernel_rfl)) (fun _ _ _ h => h) (Or.inl ⟨by rfl, ?_⟩) ?_ ?_
                      rotate_left
                      · intro w'
                        go_simp
                        with_reducible rfl
                      rotate_left
                      · simp only [Act.put, List.setIfInBounds_toArray, List.set_cons_zero, List.set_cons_succ, i64_w, i32_w]
                        rfl
                      refine pure_ (i := 4) (N := some 162) (v := ?_) (a' := ?_) #[true, true, true, true, true, false, false, false, false, false, false, false, false, false] rfl rfl (any_of HT_.out (by kernel_rfl)) (fun _ _ _ h => h) (Or.inl ⟨by rfl, ?_⟩) ?_ ?_
                      rotate_left
                      · intro w'
                        go_simp
                        with_reducible rfl
                      rotate_left
                      · simp only [Act.put, List.setIfInBounds_toArray, List.set_cons_zero, List.set_cons_succ, i64_w, i32_w]
                        rfl
                      refine pure_ (i := 5) (N := some 163) (v := ?_) (a' := ?_) #[true, true, true, true, true, true, false, false, false, false, false, false, false, false] rfl rfl (any_of HT_.out (by kernel_rfl)) (fun _ _ _ h => h) (Or.inl ⟨by rfl, ?_⟩) ?_ ?_
                      rotate_left
                      · intro w'
                        go_simp
                        with_reducible rfl
                      rotate_left
                      · simp only [Act.put, List.setIfInBounds_toArray, List.set_cons_zero, List.set_cons_succ, i64_w, i32_w]
                        rfl
                      refine pure_ (i := 7) (N := some 165) (v := ?_) (a' := ?_) #[true, true, true, true, true, true, false, true, false, false, false, false, false, false] rfl rfl (any_of HT_.out (by kernel_rfl)) (fun _ _ _ h => h) (Or.inl ⟨by rfl, ?_⟩) ?_ ?_
                      rotate_left
                      · intro w'
                        go_simp
                        with_reducible rfl
                      rotate_left
                      · simp only [Act.put, List.setIfInBounds_toArray, List.set_cons_zero, List.set_cons_succ, i64_w, i32_w]
                        rfl
                      refine pure_ (i := 8) (N := some 166) (v := ?_) (a' := ?_) #[true, true, true, true, true, true, false, true, true, false, false, false, false, false] rfl rfl (any_of HT_.out (by kernel_rfl)) (fun _ _ _ h => h) (Or.inl ⟨by rfl, ?_⟩) ?_ ?_
                      rotate_left
                      · intro w'
                        go_simp
                        with_reducible rfl
                      rotate_left
                      · simp only [Act.put, List.setIfInBounds_toArray, List.set_cons_zero, List.set_cons_succ, i64_w, i32_w]
                        rfl
                      refine pure_ (i := 9) (N := some 167) (v := ?_) (a' := ?_) #[true, true, true, true, true, true, false, true, true, true, false, false, false, false] rfl rfl (any_of HT_.out (by kernel_rfl)) (fun _ _ _ h => h) (Or.inl ⟨by rfl, ?_⟩) ?_ ?_
                      rotate_left
                      · intro w'
                        go_simp
                        with_reducible rfl
                      rotate_left
                      · simp only [Act.put, List.setIfInBounds_toArray, List.set_cons_zero, List.set_cons_succ, i64_w, i32_w]
                        rfl
                      refine take_ (i := 6) (N := some 164) (v := ?_) (a' := ?_) #[true, true, true, true, true, true, true, true, true, true, false, false, false, false] rfl rfl (take_ofW HT_.out HW_.out (by kernel_rfl)) (fun _ _ _ h => h) (Or.inl ⟨by rfl, ?_⟩) hHeld ?_ ?_
                      rotate_left
                      · rintro w' ⟨s0, s1, s2, s3, s4, s5, s6, s7, s8, s9⟩
                        go_simp
                        with_reducible rfl
                      rotate_left
                      · simp only [Act.put, List.setIfInBounds_toArray, List.set_cons_zero, List.set_cons_succ, i64_w, i32_w]
                        rfl
                      refine take_ (i := 10) (N := some 168) (v := ?_) (a' := ?_) #[true, true, true, true, true, true, true, true, true, true, true, false, false, false] rfl rfl (take_ofW HT_.out HW_.out (by kernel_rfl)) (fun _ _ _ h => h) (Or.inl ⟨by rfl, ?_⟩) hHeld ?_ ?_
                      rotate_left
                      · rintro w' ⟨s0, s1, s2, s3, s4, s5, s6, s7, s8, s9⟩
                        go_simp
                        with_reducible rfl
                      rotate_left
                      · simp only [Act.put, List.setIfInBounds_toArray, List.set_cons_zero, List.set_cons_succ, i64_w, i32_w]
                        rfl
                      refine one_ (i := 11) (N := some 169) #[true, true, true, true, true, true, true, true, true, true, true, true, false, false] rfl rfl (one_of HT_.out (by kernel_rfl)) (by decide) (fun K hK => ?_)
                      refine VicW.goesV_ Try.func18 (by kernel_rfl) rfl #[.agg #[.int .i64 ((rd_T27 l0 (ji63)).f0), .int .i64 ((rd_T27 l0 (ji63)).f1), .int .i64 ((rd_T27 l0 (ji63)).f2), .int .i64 ((rd_T27 l0 (ji63)).f3), .int .i64 ((rd_T27 l0 (ji63)).f4)], .agg #[.int .i64 ((rd_T27 l0 (ji66)).f0), .int .i64 ((rd_T27 l0 (ji66)).f1), .int .i64 ((rd_T27 l0 (ji66)).f2), .int .i64 ((rd_T27 l0 (ji66)).f3), .int .i64 ((rd_T27 l0 (ji66)).f4)]] (by rfl) rfl rfl (by rfl) (by (try simp only [List.map_toArray, List.map_cons, List.map_nil]); first | done | (simp only [hji63, hji66]; rfl) | rfl | (simp only [List.length_drop, List.length_take]; rfl)) ?_
                      with_reducible refine (victim_Run_compare.calls k2 ((rd_T27 l0 (ji63)).f0) ((rd_T27 l0 (ji63)).f1) ((rd_T27 l0 (ji63)).f2) ((rd_T27 l0 (ji63)).f3) ((rd_T27 l0 (ji63)).f4) ((rd_T27 l0 (ji66)).f0) ((rd_T27 l0 (ji66)).f1) ((rd_T27 l0 (ji66)).f2) ((rd_T27 l0 (ji66)).f3) ((rd_T27 l0 (ji66)).f4) t163 _ A69.out).mono ?_
                      rintro e w73 ⟨rfl, hb⟩
                      have HS0_ := (hb.cell (World.block_lt_of_cell? _ _ (hHeld.1))).trans (hHeld.1)
                      have HS1_ := (hb.cell (World.block_lt_of_cell? _ _ (hHeld.2.1))).trans (hHeld.2.1)
                      have HS2_ := (hb.cell (World.block_lt_of_cell? _ _ (hHeld.2.2.1))).trans (hHeld.2.2.1)
                      have HS3_ := (hb.cell (World.block_lt_of_cell? _ _ (hHeld.2.2.2.1))).trans (hHeld.2.2.2.1)
                      have HS4_ := (hb.cell (World.block_lt_of_cell? _ _ (hHeld.2.2.2.2.1))).trans (hHeld.2.2.2.2.1)
                      have HS5_ := (hb.cell (World.block_lt_of_cell? _ _ (hHeld.2.2.2.2.2.1))).trans (hHeld.2.2.2.2.2.1)
                      have HS6_ := (hb.cell (World.block_lt_of_cell? _ _ (hHeld.2.2.2.2.2.2.1))).trans (hHeld.2.2.2.2.2.2.1)
                      have HS7_ := (hb.cell (World.block_lt_of_cell? _ _ (hHeld.2.2.2.2.2.2.2.1))).trans (hHeld.2.2.2.2.2.2.2.1)
                      have HS8_ := (hb.cell (World.block_lt_of_cell? _ _ (hHeld.2.2.2.2.2.2.2.2.1))).trans (hHeld.2.2.2.2.2.2.2.2.1)
                      have HS9_ := (hb.cell (World.block_lt_of_cell? _ _ (hHeld.2.2.2.2.2.2.2.2.2))).trans (hHeld.2.2.2.2.2.2.2.2.2)
                      refine ⟨_, rfl, ?_⟩
                      have n0_ := Aside0.mk (Kd.R_below (by (with_reducible repeat (first | apply Kd.R_alloc | apply Kd.R_drewN | apply Kd.R_drew)); exact HO_0.out) hb)
                      have n1_ := Aside0.mk (Kept.below (S := (fun k_ => P0_ k_)) (by repeat (first | (with_reducible first | exact HK.out | apply Kept.alloc | apply Kept.drewN | apply Kept.drew) | exact HK.out)) hb)
                      have n2_ := Aside0.mk (below_step (by repeat (first | (with_reducible first | exact HB.out | apply below_alloc | apply pw_below_drewN | apply below_drew1) | exact HB.out)) hb)
                      clear HO_0
                      clear HK
                      clear HB
                      have HO_0 := n0_
                      have HK := n1_
                      have HB := n2_
                      clear n0_ n1_ n2_
                      (try clear hb)
                      (try clear hb2)
                      (try clear hk)
                      (try clear hi)
                      refine hK.out _ _ ⟨HS0_, HS1_, HS2_, HS3_, HS4_, HS5_, HS6_, HS7_, HS8_, HS9_⟩ (fun hHeld => ?_)
                      clear hK K
                      refine norm_ (a' := ?_) ?_ ?_
                      rotate_left
                      · show Act.put _ (some 169) _ = _
                        simp only [Act.put, List.setIfInBounds_toArray, List.set_cons_zero, List.set_cons_succ, i64_w, i32_w]
                        rfl
                      refine pure_ (i := 12) (N := some 170) (v := ?_) (a' := ?_) #[true, true, true, true, true, true, true, true, true, true, true, true, true, false] rfl rfl (any_of HT_.out (by kernel_rfl)) (fun _ _ _ h => h) (Or.inl ⟨by rfl, ?_⟩) ?_ ?_
                      rotate_left
                      · intro w'
                        go_simp
                        with_reducible rfl
                      rotate_left
                      · simp only [Act.put, List.setIfInBounds_toArray, List.set_cons_zero, List.set_cons_succ, i64_w, i32_w]
                        rfl
                      refine pure_ (i := 13) (N := some 171) (v := ?_) (a' := ?_) #[true, true, true, true, true, true, true, true, true, true, true, true, true, true] rfl rfl (any_of HT_.out (by kernel_rfl)) (fun _ _ _ h => h) (Or.inl ⟨by rfl, ?_⟩) ?_ ?_
                      rotate_left
                      · intro w'
                        go_simp
                        with_reducible rfl
                      rotate_left
                      · simp only [Act.put, List.setIfInBounds_toArray, List.set_cons_zero, List.set_cons_succ, i64_w, i32_w]
                        rfl
                      refine done_ (done_of HT_.out (by kernel_rfl)) ?_
                      try go_wp2
                      go_roundg k2
                      case measure => have := HJ59.out; have := HK2.out; omega
                      case rel => exact ⟨(x20_2), (ji66), (by first | rfl | (simp; done) | (simp [*]; done)), (by first | rfl | (simp; done) | (simp only [← hji66] <;> (first | rfl | simp)) | (simp [*]; done)), H', ⟨by have := HJ59.out; have := HK2.out; omega⟩, ⟨by (with_reducible repeat (first | apply Kd.R_alloc | apply Kd.R_drewN | apply Kd.R_drew)); exact HO_0.out⟩, ⟨by repeat (first | (with_reducible first | exact HK.out | apply Kept.alloc | apply Kept.drewN | apply Kept.drew) | exact HK.out)⟩, ⟨by repeat (first | (with_reducible first | exact HB.out | apply below_alloc | apply pw_below_drewN | apply below_drew1) | exact HB.out)⟩⟩
                    · rw [if_neg c70] at H
                      have c70b0 : decide (t163 < 0) = false := decide_eq_false c70
                      clear c70
                      have H' := Aside0.mk H
                      clear H
                      try go_wp2
                      have n0_ := Aside0.mk (Kd.R_drew HO_0.out)
                      have n1_ := Aside0.mk (Kept.drew HK.out)
                      have n2_ := Aside0.mk (below_drew1 HB.out)
                      clear HO_0
                      clear HK
                      clear HB
                      have HO_0 := n0_
                      have HK := n1_
                      have HB := n2_
                      clear n0_ n1_ n2_
                      obtain ⟨Ao75, co75, eo75⟩ := Kd.R_slice HO_0.out
                      (first | subst eo75 | (injection eo75 with f1_ f2_ f3_; have f4_ := f1_.symm; have f5_ := f3_.symm; clear f1_ f2_ f3_; subst f4_; subst f5_))
                      have p161 : 0 ≤ ((ji63) : Int) := of_decide_eq_true (by first | (with_reducible assumption) | assumption)
                      have q161 : (ji63) < (l0.length : Int) := of_decide_eq_true (by first | (with_reducible assumption) | assumption)
                      obtain ⟨ad161, e161, hx161_0, hx161_1, hx161_2, hx161_3, hx161_4⟩ := at_T27 (Kd.R_reads' HO_0.out).2.2 (ji63) p161 q161
                      cases e161
                      replace p161 := eq_true p161
                      replace q161 := eq_true q161
                      have p162 : 0 ≤ ((ji66) : Int) := of_decide_eq_true (by first | (with_reducible assumption) | assumption)
                      have q162 : (ji66) < (l0.length : Int) := of_decide_eq_true (by first | (with_reducible assumption) | assumption)
                      obtain ⟨ad162, e162, hx162_0, hx162_1, hx162_2, hx162_3, hx162_4⟩ := at_T27 (Kd.R_reads' HO_0.out).2.2 (ji66) p162 q162
                      obtain rfl : ad161 = ad162 := (by injection e162)
                      replace p162 := eq_true p162
                      replace q162 := eq_true q162
                      refine start_ (n := 14) (S := fun w' => w'.cell? (ad161.add (((ji63)).toNat * 5)) = some (.int .i64 ((rd_T27 l0 (ji63)).f0)) ∧ w'.cell? ⟨(ad161.add (((ji63)).toNat * 5)).block, (ad161.add (((ji63)).toNat * 5)).off + 1, none⟩ = some (.int .i64 ((rd_T27 l0 (ji63)).f1)) ∧ w'.cell? ⟨(ad161.add (((ji63)).toNat * 5)).block, (ad161.add (((ji63)).toNat * 5)).off + 2, none⟩ = some (.int .i64 ((rd_T27 l0 (ji63)).f2)) ∧ w'.cell? ⟨(ad161.add (((ji63)).toNat * 5)).block, (ad161.add (((ji63)).toNat * 5)).off + 3, none⟩ = some (.int .i64 ((rd_T27 l0 (ji63)).f3)) ∧ w'.cell? ⟨(ad161.add (((ji63)).toNat * 5)).block, (ad161.add (((ji63)).toNat * 5)).off + 4, none⟩ = some (.int .i64 ((rd_T27 l0 (ji63)).f4)) ∧ w'.cell? (ad161.add (((ji66)).toNat * 5)) = some (.int .i64 ((rd_T27 l0 (ji66)).f0)) ∧ w'.cell? ⟨(ad161.add (((ji66)).toNat * 5)).block, (ad161.add (((ji66)).toNat * 5)).off + 1, none⟩ = some (.int .i64 ((rd_T27 l0 (ji66)).f1)) ∧ w'.cell? ⟨(ad161.add (((ji66)).toNat * 5)).block, (ad161.add (((ji66)).toNat * 5)).off + 2, none⟩ = some (.int .i64 ((rd_T27 l0 (ji66)).f2)) ∧ w'.cell? ⟨(ad161.add (((ji66)).toNat * 5)).block, (ad161.add (((ji66)).toNat * 5)).off + 3, none⟩ = some (.int .i64 ((rd_T27 l0 (ji66)).f3)) ∧ w'.cell? ⟨(ad161.add (((ji66)).toNat * 5)).block, (ad161.add (((ji66)).toNat * 5)).off + 4, none⟩ = some (.int .i64 ((rd_T27 l0 (ji66)).f4))) (ds := []) #[false, false, false, false, false, false, false, false, false, false, false, false, false, false] (by kernel_rfl) rfl rfl ⟨hx161_0, hx161_1, hx161_2, hx161_3, hx161_4, hx162_0, hx162_1, hx162_2, hx162_3, hx162_4⟩ (fun hHeld => ?_); refine with_tabW victim_Run_27.tab35 victim_Run_27.bits35 (fun HT_ HW_ => ?_)
                      generalize wr.drew = w74 at HO_0 HK HB hx161_0 hx161_1 hx161_2 hx161_3 hx161_4 hx162_0 hx162_1 hx162_2 hx162_3 hx162_4 hHeld ⊢
                      refine pure_ (i := 0) (N := some 158) (v := ?_) (a' := ?_) #[true, false, false, false, false, false, false, false, false, false, false, false, false, false] rfl rfl (any_of HT_.out (by kernel_rfl)) (fun _ _ _ h => h) (Or.inl ⟨by rfl, ?_⟩) ?_ ?_
                      rotate_left
                      · intro w'
                        go_simp
                        with_reducible rfl
                      rotate_left
                      · simp only [Act.put, List.setIfInBounds_toArray, List.set_cons_zero, List.set_cons_succ, i64_w, i32_w]
                        rfl
                      refine pure_ (i := 1) (N := some 159) (v := ?_) (a' := ?_) #[true, true, false, false, false, false, false, false, false, false, false, false, false, false] rfl rfl (any_of HT_.out (by kernel_rfl)) (fun _ _ _ h => h) (Or.inl ⟨by rfl, ?_⟩) ?_ ?_
                      rotate_left
                      · intro w'
                        go_simp
                        with_reducible rfl
                      rotate_left
                      · simp only [Act.put, List.setIfInBounds_toArray, List.set_cons_zero, List.set_cons_succ, i64_w, i32_w]
                        rfl
                      refine pure_ (i := 2) (N := some 160) (v := ?_) (a' := ?_) #[true, true, true, false, false, false, false, false, false, false, false, false, false, false] rfl rfl (any_of HT_.out (by kernel_rfl)) (fun _ _ _ h => h) (Or.inl ⟨by rfl, ?_⟩) ?_ ?_
                      rotate_left
                      · intro w'
                        go_simp
                        with_reducible rfl
                      rotate_left
                      · simp only [Act.put, List.setIfInBounds_toArray, List.set_cons_zero, List.set_cons_succ, i64_w, i32_w]
                        rfl
                      refine pure_ (i := 3) (N := some 161) (v := ?_) (a' := ?_) #[true, true, true, true, false, false, false, false, false, false, false, false, false, false] rfl rfl (any_of HT_.out (by kernel_rfl)) (fun _ _ _ h => h) (Or.inl ⟨by rfl, ?_⟩) ?_ ?_
                      rotate_left
                      · intro w'
                        go_simp
                        with_reducible rfl
                      rotate_left
                      · simp only [Act.put, List.setIfInBounds_toArray, List.set_cons_zero, List.set_cons_succ, i64_w, i32_w]
                        rfl
                      refine pure_ (i := 4) (N := some 162) (v := ?_) (a' := ?_) #[true, true, true, true, true, false, false, false, false, false, false, false, false, false] rfl rfl (any_of HT_.out (by kernel_rfl)) (fun _ _ _ h => h) (Or.inl ⟨by rfl, ?_⟩) ?_ ?_
                      rotate_left
                      · intro w'
                        go_simp
                        with_reducible rfl
                      rotate_left
                      · simp only [Act.put, List.setIfInBounds_toArray, List.set_cons_zero, List.set_cons_succ, i64_w, i32_w]
                        rfl
                      refine pure_ (i := 5) (N := some 163) (v := ?_) (a' := ?_) #[true, true, true, true, true, true, false, false, false, false, false, false, false, false] rfl rfl (any_of HT_.out (by kernel_rfl)) (fun _ _ _ h => h) (Or.inl ⟨by rfl, ?_⟩) ?_ ?_
                      rotate_left
                      · intro w'
                        go_simp
                        with_reducible rfl
                      rotate_left
                      · simp only [Act.put, List.setIfInBounds_toArray, List.set_cons_zero, List.set_cons_succ, i64_w, i32_w]
                        rfl
                      refine pure_ (i := 7) (N := some 165) (v := ?_) (a' := ?_) #[true, true, true, true, true, true, false, true, false, false, false, false, false, false] rfl rfl (any_of HT_.out (by kernel_rfl)) (fun _ _ _ h => h) (Or.inl ⟨by rfl, ?_⟩) ?_ ?_
                      rotate_left
                      · intro w'
                        go_simp
                        with_reducible rfl
                      rotate_left
                      · simp only [Act.put, List.setIfInBounds_toArray, List.set_cons_zero, List.set_cons_succ, i64_w, i32_w]
                        rfl
                      refine pure_ (i := 8) (N := some 166) (v := ?_) (a' := ?_) #[true, true, true, true, true, true, false, true, true, false, false, false, false, false] rfl rfl (any_of HT_.out (by kernel_rfl)) (fun _ _ _ h => h) (Or.inl ⟨by rfl, ?_⟩) ?_ ?_
                      rotate_left
                      · intro w'
                        go_simp
                        with_reducible rfl
                      rotate_left
                      · simp only [Act.put, List.setIfInBounds_toArray, List.set_cons_zero, List.set_cons_succ, i64_w, i32_w]
                        rfl
                      refine pure_ (i := 9) (N := some 167) (v := ?_) (a' := ?_) #[true, true, true, true, true, true, false, true, true, true, false, false, false, false] rfl rfl (any_of HT_.out (by kernel_rfl)) (fun _ _ _ h => h) (Or.inl ⟨by rfl, ?_⟩) ?_ ?_
                      rotate_left
                      · intro w'
                        go_simp
                        with_reducible rfl
                      rotate_left
                      · simp only [Act.put, List.setIfInBounds_toArray, List.set_cons_zero, List.set_cons_succ, i64_w, i32_w]
                        rfl
                      refine take_ (i := 6) (N := some 164) (v := ?_) (a' := ?_) #[true, true, true, true, true, true, true, true, true, true, false, false, false, false] rfl rfl (take_ofW HT_.out HW_.out (by kernel_rfl)) (fun _ _ _ h => h) (Or.inl ⟨by rfl, ?_⟩) hHeld ?_ ?_
                      rotate_left
                      · rintro w' ⟨s0, s1, s2, s3, s4, s5, s6, s7, s8, s9⟩
                        go_simp
                        with_reducible rfl
                      rotate_left
                      · simp only [Act.put, List.setIfInBounds_toArray, List.set_cons_zero, List.set_cons_succ, i64_w, i32_w]
                        rfl
                      refine take_ (i := 10) (N := some 168) (v := ?_) (a' := ?_) #[true, true, true, true, true, true, true, true, true, true, true, false, false, false] rfl rfl (take_ofW HT_.out HW_.out (by kernel_rfl)) (fun _ _ _ h => h) (Or.inl ⟨by rfl, ?_⟩) hHeld ?_ ?_
                      rotate_left
                      · rintro w' ⟨s0, s1, s2, s3, s4, s5, s6, s7, s8, s9⟩
                        go_simp
                        with_reducible rfl
                      rotate_left
                      · simp only [Act.put, List.setIfInBounds_toArray, List.set_cons_zero, List.set_cons_succ, i64_w, i32_w]
                        rfl
                      refine one_ (i := 11) (N := some 169) #[true, true, true, true, true, true, true, true, true, true, true, true, false, false] rfl rfl (one_of HT_.out (by kernel_rfl)) (by decide) (fun K hK => ?_)
                      refine VicW.goesV_ Try.func18 (by kernel_rfl) rfl #[.agg #[.int .i64 ((rd_T27 l0 (ji63)).f0), .int .i64 ((rd_T27 l0 (ji63)).f1), .int .i64 ((rd_T27 l0 (ji63)).f2), .int .i64 ((rd_T27 l0 (ji63)).f3), .int .i64 ((rd_T27 l0 (ji63)).f4)], .agg #[.int .i64 ((rd_T27 l0 (ji66)).f0), .int .i64 ((rd_T27 l0 (ji66)).f1), .int .i64 ((rd_T27 l0 (ji66)).f2), .int .i64 ((rd_T27 l0 (ji66)).f3), .int .i64 ((rd_T27 l0 (ji66)).f4)]] (by rfl) rfl rfl (by rfl) (by (try simp only [List.map_toArray, List.map_cons, List.map_nil]); first | done | (simp only [hji63, hji66]; rfl) | rfl | (simp only [List.length_drop, List.length_take]; rfl)) ?_
                      with_reducible refine (victim_Run_compare.calls k2 ((rd_T27 l0 (ji63)).f0) ((rd_T27 l0 (ji63)).f1) ((rd_T27 l0 (ji63)).f2) ((rd_T27 l0 (ji63)).f3) ((rd_T27 l0 (ji63)).f4) ((rd_T27 l0 (ji66)).f0) ((rd_T27 l0 (ji66)).f1) ((rd_T27 l0 (ji66)).f2) ((rd_T27 l0 (ji66)).f3) ((rd_T27 l0 (ji66)).f4) t163 _ A69.out).mono ?_
                      rintro e w76 ⟨rfl, hb⟩
                      have HS0_ := (hb.cell (World.block_lt_of_cell? _ _ (hHeld.1))).trans (hHeld.1)
                      have HS1_ := (hb.cell (World.block_lt_of_cell? _ _ (hHeld.2.1))).trans (hHeld.2.1)
                      have HS2_ := (hb.cell (World.block_lt_of_cell? _ _ (hHeld.2.2.1))).trans (hHeld.2.2.1)
                      have HS3_ := (hb.cell (World.block_lt_of_cell? _ _ (hHeld.2.2.2.1))).trans (hHeld.2.2.2.1)
                      have HS4_ := (hb.cell (World.block_lt_of_cell? _ _ (hHeld.2.2.2.2.1))).trans (hHeld.2.2.2.2.1)
                      have HS5_ := (hb.cell (World.block_lt_of_cell? _ _ (hHeld.2.2.2.2.2.1))).trans (hHeld.2.2.2.2.2.1)
                      have HS6_ := (hb.cell (World.block_lt_of_cell? _ _ (hHeld.2.2.2.2.2.2.1))).trans (hHeld.2.2.2.2.2.2.1)
                      have HS7_ := (hb.cell (World.block_lt_of_cell? _ _ (hHeld.2.2.2.2.2.2.2.1))).trans (hHeld.2.2.2.2.2.2.2.1)
                      have HS8_ := (hb.cell (World.block_lt_of_cell? _ _ (hHeld.2.2.2.2.2.2.2.2.1))).trans (hHeld.2.2.2.2.2.2.2.2.1)
                      have HS9_ := (hb.cell (World.block_lt_of_cell? _ _ (hHeld.2.2.2.2.2.2.2.2.2))).trans (hHeld.2.2.2.2.2.2.2.2.2)
                      refine ⟨_, rfl, ?_⟩
                      have n0_ := Aside0.mk (Kd.R_below (by (with_reducible repeat (first | apply Kd.R_alloc | apply Kd.R_drewN | apply Kd.R_drew)); exact HO_0.out) hb)
                      have n1_ := Aside0.mk (Kept.below (S := (fun k_ => P0_ k_)) (by repeat (first | (with_reducible first | exact HK.out | apply Kept.alloc | apply Kept.drewN | apply Kept.drew) | exact HK.out)) hb)
                      have n2_ := Aside0.mk (below_step (by repeat (first | (with_reducible first | exact HB.out | apply below_alloc | apply pw_below_drewN | apply below_drew1) | exact HB.out)) hb)
                      clear HO_0
                      clear HK
                      clear HB
                      have HO_0 := n0_
                      have HK := n1_
                      have HB := n2_
                      clear n0_ n1_ n2_
                      (try clear hb)
                      (try clear hb2)
                      (try clear hk)
                      (try clear hi)
                      refine hK.out _ _ ⟨HS0_, HS1_, HS2_, HS3_, HS4_, HS5_, HS6_, HS7_, HS8_, HS9_⟩ (fun hHeld => ?_)
                      clear hK K
                      refine norm_ (a' := ?_) ?_ ?_
                      rotate_left
                      · show Act.put _ (some 169) _ = _
                        simp only [Act.put, List.setIfInBounds_toArray, List.set_cons_zero, List.set_cons_succ, i64_w, i32_w]
                        rfl
                      refine pure_ (i := 12) (N := some 170) (v := ?_) (a' := ?_) #[true, true, true, true, true, true, true, true, true, true, true, true, true, false] rfl rfl (any_of HT_.out (by kernel_rfl)) (fun _ _ _ h => h) (Or.inl ⟨by rfl, ?_⟩) ?_ ?_
                      rotate_left
                      · intro w'
                        go_simp
                        with_reducible rfl
                      rotate_left
                      · simp only [Act.put, List.setIfInBounds_toArray, List.set_cons_zero, List.set_cons_succ, i64_w, i32_w]
                        rfl
                      refine pure_ (i := 13) (N := some 171) (v := ?_) (a' := ?_) #[true, true, true, true, true, true, true, true, true, true, true, true, true, true] rfl rfl (any_of HT_.out (by kernel_rfl)) (fun _ _ _ h => h) (Or.inl ⟨by rfl, ?_⟩) ?_ ?_
                      rotate_left
                      · intro w'
                        go_simp
                        with_reducible rfl
                      rotate_left
                      · simp only [Act.put, List.setIfInBounds_toArray, List.set_cons_zero, List.set_cons_succ, i64_w, i32_w]
                        rfl
                      refine done_ (done_of HT_.out (by kernel_rfl)) ?_
                      try go_wp2
                      go_roundg k2
                      case measure => have := HJ59.out; have := HK2.out; omega
                      case rel => exact ⟨(wrap64 ((ji66) + 1)), (x21_2), (by first | rfl | (simp; done) | (simp only [← hji66] <;> (first | rfl | simp)) | (simp [*]; done)), (by first | rfl | (simp; done) | (simp [*]; done)), H', ⟨by have := HJ59.out; have := HK2.out; omega⟩, ⟨by (with_reducible repeat (first | apply Kd.R_alloc | apply Kd.R_drewN | apply Kd.R_drew)); exact HO_0.out⟩, ⟨by repeat (first | (with_reducible first | exact HK.out | apply Kept.alloc | apply Kept.drewN | apply Kept.drew) | exact HK.out)⟩, ⟨by repeat (first | (with_reducible first | exact HB.out | apply below_alloc | apply pw_below_drewN | apply below_drew1) | exact HB.out)⟩⟩
                  · rw [if_neg c68] at H
                    exact absurd H (by simp)
                · rw [if_neg c67] at H
                  exact absurd H (by simp)
              · rw [if_neg c65] at H
                exact absurd H (by simp)
            · rw [if_neg c64] at H
              exact absurd H (by simp)
          · rw [if_neg c62] at H
            have c62b0 : decide (x20_2 < x21_2) = false := decide_eq_false c62
            clear c62
            have HC77 := Aside0.mk H
            clear H
            go_upto_region 39 with (fail)
            go_cut [185] (fun v185 wc => ∃ (kq : Nat) (x185_76 : Bool), v185 = .bool x185_76 ∧ Aside0 (victim_Run_27.j6 kq l0 a1 a2 a3 a4 (wrap64 ((IntKind.u64.wrap (wrap64 (a1 + a3))) / 2)) x20_2 (wrap64 ((wrap64 ((wrap64 ((IntKind.u64.wrap (wrap64 (a1 + a3))) / 2)) + a2)) - x20_2)) x185_76 = some r) ∧ Aside0 (kq ≤ k2) ∧ Aside0 (Kd.R k27 27 wc w0.heap.size (fun k_ => (P0_ k_ ∨ w.heap.size ≤ k_)) u9000_ l0) ∧ Aside0 (Kept w wc (fun k_ => P0_ k_)) ∧ Aside0 (Below w0.heap.size w0 wc))
            case first =>
              have H := HC77.out
              clear HC77
              by_cases c78 : x20_2 < a2
              · rw [if_pos c78] at H
                have c78b0 : decide (x20_2 < a2) = true := decide_eq_true c78
                clear c78
                (first | rw [c78b0] | (simp only [i64_w, i32_w]; rw [c78b0]) | skip)
                have H' := Aside0.mk H
                clear H
                go_wp2
                go_meet
                case rel => exact ⟨_, (decide (a2 < (wrap64 ((wrap64 ((wrap64 ((IntKind.u64.wrap (wrap64 (a1 + a3))) / 2)) + a2)) - x20_2)))), (by first | rfl | (simp; done) | (simp [*]; done)), H', ⟨by have := HJ59.out; have := HK2.out; first | omega | exact Nat.le_refl _⟩, ⟨by (with_reducible repeat (first | apply Kd.R_alloc | apply Kd.R_drewN | apply Kd.R_drew)); exact HO_0.out⟩, ⟨by repeat (first | (with_reducible first | exact HK.out | apply Kept.alloc | apply Kept.drewN | apply Kept.drew) | exact HK.out)⟩, ⟨by repeat (first | (with_reducible first | exact HB.out | apply below_alloc | apply pw_below_drewN | apply below_drew1) | exact HB.out)⟩⟩
              · rw [if_neg c78] at H
                have c78b0 : decide (x20_2 < a2) = false := decide_eq_false c78
                clear c78
                (first | rw [c78b0] | (simp only [i64_w, i32_w]; rw [c78b0]) | skip)
                have H' := Aside0.mk H
                clear H
                go_wp2
                go_meet
                case rel => exact ⟨_, (false), (by first | rfl | (simp; done) | (simp [*]; done)), H', ⟨by have := HJ59.out; have := HK2.out; first | omega | exact Nat.le_refl _⟩, ⟨by (with_reducible repeat (first | apply Kd.R_alloc | apply Kd.R_drewN | apply Kd.R_drew)); exact HO_0.out⟩, ⟨by repeat (first | (with_reducible first | exact HK.out | apply Kept.alloc | apply Kept.drewN | apply Kept.drew) | exact HK.out)⟩, ⟨by repeat (first | (with_reducible first | exact HB.out | apply below_alloc | apply pw_below_drewN | apply below_drew1) | exact HB.out)⟩⟩
            case rest =>
              clear HC77
              try clear c1
              try clear p1
              try clear q1
              try clear hx1
              try clear c2
              try clear p2
              try clear q2
              try clear hx2
              try clear c3
              try clear c4
              try clear c5
              try clear p5
              try clear q5
              try clear hx5
              try clear hf5
              try clear c6
              try clear p6
              try clear c7
              try clear c11
              try clear c11b0
              try clear c12
              try clear c12b0
              try clear c14
              try clear c14b0
              try clear p14
              try clear q14
              try clear hx14
              try clear p15
              try clear q15
              try clear hx15
              try clear p16
              try clear q16
              try clear hx16
              try clear c18
              try clear c21
              try clear c21b0
              try clear c23
              try clear c23b0
              try clear c24
              try clear c24b0
              try clear c25
              try clear c25b0
              try clear c26
              try clear c26b0
              try clear c27
              try clear p27
              try clear q27
              try clear hx27
              try clear hf27
              try clear c28
              try clear p28
              try clear q28
              try clear hx28
              try clear hf28
              try clear c31
              try clear c32
              try clear c33
              try clear c33b0
              try clear c33b1
              try clear c34
              try clear c34b0
              try clear c35
              try clear c35b0
              try clear c36
              try clear c36b0
              try clear c38
              try clear c38b0
              try clear c39
              try clear c39b0
              try clear c41
              try clear c41b0
              try clear c48
              try clear c48b0
              try clear c50
              try clear c50b0
              try clear c51
              try clear c51b0
              try clear c52
              try clear c52b0
              try clear c53
              try clear c53b0
              try clear c54
              try clear p54
              try clear q54
              try clear hx54
              try clear hf54
              try clear c55
              try clear p55
              try clear q55
              try clear hx55
              try clear hf55
              try clear c58
              try clear c59
              try clear c61
              try clear c61b0
              try clear c62
              try clear c62b0
              try clear c64
              try clear c64b0
              try clear p64
              try clear c65
              try clear c65b0
              try clear c67
              try clear c67b0
              try clear c68
              try clear c68b0
              try clear c70
              try clear c70b0
              try clear c78
              try clear c78b0
              try clear hx147_0
              try clear hx147_1
              try clear hx147_2
              try clear hx147_3
              try clear hx147_4
              try clear hx148_0
              try clear hx148_1
              try clear hx148_2
              try clear hx148_3
              try clear hx148_4
              try clear hx150_0
              try clear hx150_1
              try clear hx150_2
              try clear hx150_3
              try clear hx150_4
              try clear hx151_0
              try clear hx151_1
              try clear hx151_2
              try clear hx151_3
              try clear hx151_4
              try clear hx154_0
              try clear hx154_1
              try clear hx154_2
              try clear hx154_3
              try clear hx154_4
              try clear hx155_0
              try clear hx155_1
              try clear hx155_2
              try clear hx155_3
              try clear hx155_4
              try clear hx157_0
              try clear hx157_1
              try clear hx157_2
              try clear hx157_3
              try clear hx157_4
              try clear hx158_0
              try clear hx158_1
              try clear hx158_2
              try clear hx158_3
              try clear hx158_4
              try clear hx161_0
              try clear hx161_1
              try clear hx161_2
              try clear hx161_3
              try clear hx161_4
              try clear hx162_0
              try clear hx162_1
              try clear hx162_2
              try clear hx162_3
              try clear hx162_4
              try clear hx27_0
              try clear hx27_1
              try clear hx27_2
              try clear hx27_3
              try clear hx27_4
              try clear hx28_0
              try clear hx28_1
              try clear hx28_2
              try clear hx28_3
              try clear hx28_4
              try clear hx54_0
              try clear hx54_1
              try clear hx54_2
              try clear hx54_3
              try clear hx54_4
              try clear hx55_0
              try clear hx55_1
              try clear hx55_2
              try clear hx55_3
              try clear hx55_4
              try clear p1
              try clear p14
              try clear p147
              try clear p148
              try clear p15
              try clear p150
              try clear p151
              try clear p154
              try clear p155
              try clear p157
              try clear p158
              try clear p161
              try clear p162
              try clear p2
              try clear p27
              try clear p28
              try clear p5
              try clear p54
              try clear p55
              try clear p6
              try clear q1
              try clear q14
              try clear q147
              try clear q148
              try clear q15
              try clear q150
              try clear q151
              try clear q154
              try clear q155
              try clear q157
              try clear q158
              try clear q161
              try clear q162
              try clear q2
              try clear q27
              try clear q28
              try clear q5
              try clear q54
              try clear q55
              obtain ⟨kq, x185_76, rfl, HA, HJ76, HO_0, HK, HB⟩ := hcut
              cases kq with
              | zero => exact absurd HA.out (by simp [victim_Run_27.j6])
              | succ kj76 =>
                have H := HA.out
                clear HA
                simp only [victim_Run_27.j6] at H
                have HC79 := Aside0.mk H
                clear H
                go_upto_if 185 with (fail)
                go_cut [] (fun wc => ∃ (kq : Nat) (x0_78 : List (S27)), Aside0 (victim_Run_27.j7 kq x0_78 a1 a3 a4 (wrap64 ((IntKind.u64.wrap (wrap64 (a1 + a3))) / 2)) x20_2 (wrap64 ((wrap64 ((wrap64 ((IntKind.u64.wrap (wrap64 (a1 + a3))) / 2)) + a2)) - x20_2)) = some r) ∧ Aside0 (kq ≤ kj76) ∧ Aside0 (Kd.R k27 27 wc w0.heap.size (fun k_ => (P0_ k_ ∨ w.heap.size ≤ k_)) u9000_ x0_78) ∧ Aside0 (Kept w wc (fun k_ => P0_ k_)) ∧ Aside0 (Below w0.heap.size w0 wc))
                case first =>
                  have H := HC79.out
                  clear HC79
                  by_cases c80 : x185_76 = true
                  · subst c80
                    have H1 : ((victim_Run_29.f kj76 l0 x20_2 a2 (wrap64 ((wrap64 ((wrap64 ((IntKind.u64.wrap (wrap64 (a1 + a3))) / 2)) + a2)) - x20_2)) a4).bind fun t164 => (victim_Run_27.j7 kj76 t164 a1 a3 a4 (wrap64 ((IntKind.u64.wrap (wrap64 (a1 + a3))) / 2)) x20_2 (wrap64 ((wrap64 ((wrap64 ((IntKind.u64.wrap (wrap64 (a1 + a3))) / 2)) + a2)) - x20_2)))) = some r := by rw [if_pos rfl] at H; exact H
                    clear H
                    have H := H1
                    clear H1
                    replace H := Option.bind_eq_some_iff.mp H
                    obtain ⟨t164, A810, H⟩ := H
                    replace H : (victim_Run_27.j7 kj76 t164 a1 a3 a4 (wrap64 ((IntKind.u64.wrap (wrap64 (a1 + a3))) / 2)) x20_2 (wrap64 ((wrap64 ((wrap64 ((IntKind.u64.wrap (wrap64 (a1 + a3))) / 2)) + a2)) - x20_2))) = some r := H
                    have A81 := Aside0.mk A810
                    clear A810
                    have H' := Aside0.mk H
                    clear H
                    obtain ⟨Ao82, co82, eo82⟩ := Kd.R_slice HO_0.out
                    subst eo82
                    go_wp2_with (first | ((with_reducible refine gate_callee (f := 29) rfl ?_); refine goesL_ (some 191) rfl rfl Try.func29 (by kernel_rfl) rfl #[.slice Ao82 l0.length co82, .int .i64 x20_2, .int .i64 a2, .int .i64 (wrap64 ((wrap64 ((wrap64 ((IntKind.u64.wrap (wrap64 (a1 + a3))) / 2)) + a2)) - x20_2)), .func (.func 18) #[] #[]] rfl (by (try simp only [List.map_toArray, List.map_cons, List.map_nil]); first | done | rfl | (simp only [List.length_drop, List.length_take]; rfl)) ?_; (with_reducible refine (victim_Run_29.calls kj76 (fun k_ => some k_ = (.slice Ao82 l0.length co82 : Value).ownBlock) (.slice Ao82 l0.length co82) l0 x20_2 a2 (wrap64 ((wrap64 ((wrap64 ((IntKind.u64.wrap (wrap64 (a1 + a3))) / 2)) + a2)) - x20_2)) a4 t164 w0 _ ?side1 ?side2 A81.out).mono ?_); (case side1 => repeat (first | (with_reducible first | exact HB.out | apply below_alloc | apply pw_below_drewN | apply below_drew1) | exact HB.out)); (case side2 => exact Kd.R_tight rfl HO_0.out); rintro e w83 ⟨rfl, hy0, hb, hkp⟩; refine ⟨_, rfl, ?_⟩; have n0_ := Aside0.mk (Kd.R_reok rfl hy0 (fun k_ e_ => HO_0.out.1 k_ e_)); have n1_ := Aside0.mk (Kept.then_ (S := (fun k_ => P0_ k_)) (by repeat (first | (with_reducible first | exact HK.out | apply Kept.alloc | apply Kept.drewN | apply Kept.drew) | exact HK.out)) hkp (fun k_ hs_ => (fun e_ => (HO_0.out.1 k_ e_.symm)) hs_)); have n2_ := Aside0.mk (hb); clear HO_0; clear HK; clear HB; have HO_0 := n0_; have HK := n1_; have HB := n2_; clear n0_ n1_ n2_; (try clear hb); (try clear hkp); (try clear hy0)))
                    go_meet
                    case rel => exact ⟨_, (t164), H', ⟨by have := HJ59.out; have := HK2.out; have := HJ76.out; first | omega | exact Nat.le_refl _⟩, ⟨by (with_reducible repeat (first | apply Kd.R_alloc | apply Kd.R_drewN | apply Kd.R_drew)); exact HO_0.out⟩, ⟨by repeat (first | (with_reducible first | exact HK.out | apply Kept.alloc | apply Kept.drewN | apply Kept.drew) | exact HK.out)⟩, ⟨by repeat (first | (with_reducible first | exact HB.out | apply below_alloc | apply pw_below_drewN | apply below_drew1) | exact HB.out)⟩⟩
                  · replace c80 := Bool.eq_false_iff.mpr c80
                    subst c80
                    have H1 : (victim_Run_27.j7 kj76 l0 a1 a3 a4 (wrap64 ((IntKind.u64.wrap (wrap64 (a1 + a3))) / 2)) x20_2 (wrap64 ((wrap64 ((wrap64 ((IntKind.u64.wrap (wrap64 (a1 + a3))) / 2)) + a2)) - x20_2))) = some r := by rw [if_neg (show ¬ (false = true) by decide)] at H; exact H
                    clear H
                    have H := H1
                    clear H1
                    have H' := Aside0.mk H
                    clear H
                    go_wp2
                    go_meet
                    case rel => exact ⟨_, (l0), H', ⟨by have := HJ59.out; have := HK2.out; have := HJ76.out; first | omega | exact Nat.le_refl _⟩, ⟨by (with_reducible repeat (first | apply Kd.R_alloc | apply Kd.R_drewN | apply Kd.R_drew)); exact HO_0.out⟩, ⟨by repeat (first | (with_reducible first | exact HK.out | apply Kept.alloc | apply Kept.drewN | apply Kept.drew) | exact HK.out)⟩, ⟨by repeat (first | (with_reducible first | exact HB.out | apply below_alloc | apply pw_below_drewN | apply below_drew1) | exact HB.out)⟩⟩
                case rest =>
                  clear HC79
                  try clear c1
                  try clear p1
                  try clear q1
                  try clear hx1
                  try clear c2
                  try clear p2
                  try clear q2
                  try clear hx2
                  try clear c3
                  try clear c4
                  try clear c5
                  try clear p5
                  try clear q5
                  try clear hx5
                  try clear hf5
                  try clear c6
                  try clear p6
                  try clear c7
                  try clear c8
                  try clear c11
                  try clear c11b0
                  try clear c12
                  try clear c12b0
                  try clear c14
                  try clear c14b0
                  try clear p14
                  try clear q14
                  try clear hx14
                  try clear p15
                  try clear q15
                  try clear hx15
                  try clear p16
                  try clear q16
                  try clear hx16
                  try clear c18
                  try clear c21
                  try clear c21b0
                  try clear c23
                  try clear c23b0
                  try clear c24
                  try clear c24b0
                  try clear c25
                  try clear c25b0
                  try clear c26
                  try clear c26b0
                  try clear c27
                  try clear p27
                  try clear q27
                  try clear hx27
                  try clear hf27
                  try clear c28
                  try clear p28
                  try clear q28
                  try clear hx28
                  try clear hf28
                  try clear c29
                  try clear c31
                  try clear c32
                  try clear c33
                  try clear c33b0
                  try clear c33b1
                  try clear c34
                  try clear c34b0
                  try clear c35
                  try clear c35b0
                  try clear c36
                  try clear c36b0
                  try clear c38
                  try clear c38b0
                  try clear c39
                  try clear c39b0
                  try clear c41
                  try clear c41b0
                  try clear c48
                  try clear c48b0
                  try clear c50
                  try clear c50b0
                  try clear c51
                  try clear c51b0
                  try clear c52
                  try clear c52b0
                  try clear c53
                  try clear c53b0
                  try clear c54
                  try clear p54
                  try clear q54
                  try clear hx54
                  try clear hf54
                  try clear c55
                  try clear p55
                  try clear q55
                  try clear hx55
                  try clear hf55
                  try clear c58
                  try clear c59
                  try clear c61
                  try clear c61b0
                  try clear c62
                  try clear c62b0
                  try clear c64
                  try clear c64b0
                  try clear p64
                  try clear c65
                  try clear c65b0
                  try clear c67
                  try clear c67b0
                  try clear c68
                  try clear c68b0
                  try clear c70
                  try clear c70b0
                  try clear c78
                  try clear c78b0
                  try clear c80
                  try clear hx147_0
                  try clear hx147_1
                  try clear hx147_2
                  try clear hx147_3
                  try clear hx147_4
                  try clear hx148_0
                  try clear hx148_1
                  try clear hx148_2
                  try clear hx148_3
                  try clear hx148_4
                  try clear hx150_0
                  try clear hx150_1
                  try clear hx150_2
                  try clear hx150_3
                  try clear hx150_4
                  try clear hx151_0
                  try clear hx151_1
                  try clear hx151_2
                  try clear hx151_3
                  try clear hx151_4
                  try clear hx154_0
                  try clear hx154_1
                  try clear hx154_2
                  try clear hx154_3
                  try clear hx154_4
                  try clear hx155_0
                  try clear hx155_1
                  try clear hx155_2
                  try clear hx155_3
                  try clear hx155_4
                  try clear hx157_0
                  try clear hx157_1
                  try clear hx157_2
                  try clear hx157_3
                  try clear hx157_4
                  try clear hx158_0
                  try clear hx158_1
                  try clear hx158_2
                  try clear hx158_3
                  try clear hx158_4
                  try clear hx161_0
                  try clear hx161_1
                  try clear hx161_2
                  try clear hx161_3
                  try clear hx161_4
                  try clear hx162_0
                  try clear hx162_1
                  try clear hx162_2
                  try clear hx162_3
                  try clear hx162_4
                  try clear hx27_0
                  try clear hx27_1
                  try clear hx27_2
                  try clear hx27_3
                  try clear hx27_4
                  try clear hx28_0
                  try clear hx28_1
                  try clear hx28_2
                  try clear hx28_3
                  try clear hx28_4
                  try clear hx54_0
                  try clear hx54_1
                  try clear hx54_2
                  try clear hx54_3
                  try clear hx54_4
                  try clear hx55_0
                  try clear hx55_1
                  try clear hx55_2
                  try clear hx55_3
                  try clear hx55_4
                  try clear p1
                  try clear p14
                  try clear p147
                  try clear p148
                  try clear p15
                  try clear p150
                  try clear p151
                  try clear p154
                  try clear p155
                  try clear p157
                  try clear p158
                  try clear p16
                  try clear p161
                  try clear p162
                  try clear p2
                  try clear p27
                  try clear p28
                  try clear p5
                  try clear p54
                  try clear p55
                  try clear p6
                  try clear p64
                  try clear q1
                  try clear q14
                  try clear q147
                  try clear q148
                  try clear q15
                  try clear q150
                  try clear q151
                  try clear q154
                  try clear q155
                  try clear q157
                  try clear q158
                  try clear q16
                  try clear q161
                  try clear q162
                  try clear q2
                  try clear q27
                  try clear q28
                  try clear q5
                  try clear q54
                  try clear q55
                  obtain ⟨kq, x0_78, HA, HJ78, HO_0, HK, HB⟩ := hcut
                  cases kq with
                  | zero => exact absurd HA.out (by simp [victim_Run_27.j7])
                  | succ kj78 =>
                    have H := HA.out
                    clear HA
                    simp only [victim_Run_27.j7] at H
                    have HC84 := Aside0.mk H
                    clear H
                    go_upto_region 41 with (fail)
                    go_cut [199] (fun v199 wc => ∃ (kq : Nat) (x199_83 : Bool), v199 = .bool x199_83 ∧ Aside0 (victim_Run_27.j8 kq x0_78 a1 a3 a4 (wrap64 ((IntKind.u64.wrap (wrap64 (a1 + a3))) / 2)) x20_2 (wrap64 ((wrap64 ((wrap64 ((IntKind.u64.wrap (wrap64 (a1 + a3))) / 2)) + a2)) - x20_2)) x199_83 = some r) ∧ Aside0 (kq ≤ kj78) ∧ Aside0 (Kd.R k27 27 wc w0.heap.size (fun k_ => (P0_ k_ ∨ w.heap.size ≤ k_)) u9000_ x0_78) ∧ Aside0 (Kept w wc (fun k_ => P0_ k_)) ∧ Aside0 (Below w0.heap.size w0 wc))
                    case first =>
                      have H := HC84.out
                      clear HC84
                      by_cases c85 : a1 < x20_2
                      · rw [if_pos c85] at H
                        have c85b0 : decide (a1 < x20_2) = true := decide_eq_true c85
                        clear c85
                        (first | rw [c85b0] | (simp only [i64_w, i32_w]; rw [c85b0]) | skip)
                        have H' := Aside0.mk H
                        clear H
                        go_wp2
                        go_meet
                        case rel => exact ⟨_, (decide (x20_2 < (wrap64 ((IntKind.u64.wrap (wrap64 (a1 + a3))) / 2)))), (by first | rfl | (simp; done) | (simp [*]; done)), H', ⟨by have := HJ59.out; have := HK2.out; have := HJ76.out; have := HJ78.out; first | omega | exact Nat.le_refl _⟩, ⟨by (with_reducible repeat (first | apply Kd.R_alloc | apply Kd.R_drewN | apply Kd.R_drew)); exact HO_0.out⟩, ⟨by repeat (first | (with_reducible first | exact HK.out | apply Kept.alloc | apply Kept.drewN | apply Kept.drew) | exact HK.out)⟩, ⟨by repeat (first | (with_reducible first | exact HB.out | apply below_alloc | apply pw_below_drewN | apply below_drew1) | exact HB.out)⟩⟩
                      · rw [if_neg c85] at H
                        have c85b0 : decide (a1 < x20_2) = false := decide_eq_false c85
                        clear c85
                        (first | rw [c85b0] | (simp only [i64_w, i32_w]; rw [c85b0]) | skip)
                        have H' := Aside0.mk H
                        clear H
                        go_wp2
                        go_meet
                        case rel => exact ⟨_, (false), (by first | rfl | (simp; done) | (simp [*]; done)), H', ⟨by have := HJ59.out; have := HK2.out; have := HJ76.out; have := HJ78.out; first | omega | exact Nat.le_refl _⟩, ⟨by (with_reducible repeat (first | apply Kd.R_alloc | apply Kd.R_drewN | apply Kd.R_drew)); exact HO_0.out⟩, ⟨by repeat (first | (with_reducible first | exact HK.out | apply Kept.alloc | apply Kept.drewN | apply Kept.drew) | exact HK.out)⟩, ⟨by repeat (first | (with_reducible first | exact HB.out | apply below_alloc | apply pw_below_drewN | apply below_drew1) | exact HB.out)⟩⟩
                    case rest =>
                      clear HC84
                      try clear c1
                      try clear p1
                      try clear q1
                      try clear hx1
                      try clear c2
                      try clear p2
                      try clear q2
                      try clear hx2
                      try clear c3
                      try clear c4
                      try clear c5
                      try clear p5
                      try clear q5
                      try clear hx5
                      try clear hf5
                      try clear c6
                      try clear p6
                      try clear c7
                      try clear c8
                      try clear c11
                      try clear c11b0
                      try clear c12
                      try clear c12b0
                      try clear c14
                      try clear c14b0
                      try clear p14
                      try clear q14
                      try clear hx14
                      try clear p15
                      try clear q15
                      try clear hx15
                      try clear p16
                      try clear q16
                      try clear hx16
                      try clear c18
                      try clear c21
                      try clear c21b0
                      try clear c23
                      try clear c23b0
                      try clear c24
                      try clear c24b0
                      try clear c25
                      try clear c25b0
                      try clear c26
                      try clear c26b0
                      try clear c27
                      try clear p27
                      try clear q27
                      try clear hx27
                      try clear hf27
                      try clear c28
                      try clear p28
                      try clear q28
                      try clear hx28
                      try clear hf28
                      try clear c29
                      try clear c31
                      try clear c32
                      try clear c33
                      try clear c33b0
                      try clear c33b1
                      try clear c34
                      try clear c34b0
                      try clear c35
                      try clear c35b0
                      try clear c36
                      try clear c36b0
                      try clear c38
                      try clear c38b0
                      try clear c39
                      try clear c39b0
                      try clear c41
                      try clear c41b0
                      try clear c48
                      try clear c48b0
                      try clear c50
                      try clear c50b0
                      try clear c51
                      try clear c51b0
                      try clear c52
                      try clear c52b0
                      try clear c53
                      try clear c53b0
                      try clear c54
                      try clear p54
                      try clear q54
                      try clear hx54
                      try clear hf54
                      try clear c55
                      try clear p55
                      try clear q55
                      try clear hx55
                      try clear hf55
                      try clear c58
                      try clear c59
                      try clear c61
                      try clear c61b0
                      try clear c62
                      try clear c62b0
                      try clear c64
                      try clear c64b0
                      try clear p64
                      try clear c65
                      try clear c65b0
                      try clear c67
                      try clear c67b0
                      try clear c68
                      try clear c68b0
                      try clear c70
                      try clear c70b0
                      try clear c78
                      try clear c78b0
                      try clear c80
                      try clear c85
                      try clear c85b0
                      try clear hx147_0
                      try clear hx147_1
                      try clear hx147_2
                      try clear hx147_3
                      try clear hx147_4
                      try clear hx148_0
                      try clear hx148_1
                      try clear hx148_2
                      try clear hx148_3
                      try clear hx148_4
                      try clear hx150_0
                      try clear hx150_1
                      try clear hx150_2
                      try clear hx150_3
                      try clear hx150_4
                      try clear hx151_0
                      try clear hx151_1
                      try clear hx151_2
                      try clear hx151_3
                      try clear hx151_4
                      try clear hx154_0
                      try clear hx154_1
                      try clear hx154_2
                      try clear hx154_3
                      try clear hx154_4
                      try clear hx155_0
                      try clear hx155_1
                      try clear hx155_2
                      try clear hx155_3
                      try clear hx155_4
                      try clear hx157_0
                      try clear hx157_1
                      try clear hx157_2
                      try clear hx157_3
                      try clear hx157_4
                      try clear hx158_0
                      try clear hx158_1
                      try clear hx158_2
                      try clear hx158_3
                      try clear hx158_4
                      try clear hx161_0
                      try clear hx161_1
                      try clear hx161_2
                      try clear hx161_3
                      try clear hx161_4
                      try clear hx162_0
                      try clear hx162_1
                      try clear hx162_2
                      try clear hx162_3
                      try clear hx162_4
                      try clear hx27_0
                      try clear hx27_1
                      try clear hx27_2
                      try clear hx27_3
                      try clear hx27_4
                      try clear hx28_0
                      try clear hx28_1
                      try clear hx28_2
                      try clear hx28_3
                      try clear hx28_4
                      try clear hx54_0
                      try clear hx54_1
                      try clear hx54_2
                      try clear hx54_3
                      try clear hx54_4
                      try clear hx55_0
                      try clear hx55_1
                      try clear hx55_2
                      try clear hx55_3
                      try clear hx55_4
                      try clear p1
                      try clear p14
                      try clear p147
                      try clear p148
                      try clear p15
                      try clear p150
                      try clear p151
                      try clear p154
                      try clear p155
                      try clear p157
                      try clear p158
                      try clear p16
                      try clear p161
                      try clear p162
                      try clear p2
                      try clear p27
                      try clear p28
                      try clear p5
                      try clear p54
                      try clear p55
                      try clear p6
                      try clear p64
                      try clear q1
                      try clear q14
                      try clear q147
                      try clear q148
                      try clear q15
                      try clear q150
                      try clear q151
                      try clear q154
                      try clear q155
                      try clear q157
                      try clear q158
                      try clear q16
                      try clear q161
                      try clear q162
                      try clear q2
                      try clear q27
                      try clear q28
                      try clear q5
                      try clear q54
                      try clear q55
                      obtain ⟨kq, x199_83, rfl, HA, HJ83, HO_0, HK, HB⟩ := hcut
                      cases kq with
                      | zero => exact absurd HA.out (by simp [victim_Run_27.j8])
                      | succ kj83 =>
                        have H := HA.out
                        clear HA
                        simp only [victim_Run_27.j8] at H
                        by_cases c86 : x199_83 = true
                        · subst c86
                          have H1 : ((victim_Run_27.f kj83 x0_78 a1 x20_2 (wrap64 ((IntKind.u64.wrap (wrap64 (a1 + a3))) / 2)) a4).bind fun t165 => (if (wrap64 ((IntKind.u64.wrap (wrap64 (a1 + a3))) / 2)) < (wrap64 ((wrap64 ((wrap64 ((IntKind.u64.wrap (wrap64 (a1 + a3))) / 2)) + a2)) - x20_2)) then (if (wrap64 ((wrap64 ((wrap64 ((IntKind.u64.wrap (wrap64 (a1 + a3))) / 2)) + a2)) - x20_2)) < a3 then ((victim_Run_27.f kj83 t165 (wrap64 ((IntKind.u64.wrap (wrap64 (a1 + a3))) / 2)) (wrap64 ((wrap64 ((wrap64 ((IntKind.u64.wrap (wrap64 (a1 + a3))) / 2)) + a2)) - x20_2)) a3 a4).bind fun t166 => (some t166)) else (some t165)) else (some t165))) = some r := by rw [if_pos rfl] at H; exact H
                          clear H
                          have H := H1
                          clear H1
                          replace H := Option.bind_eq_some_iff.mp H
                          obtain ⟨t165, A870, H⟩ := H
                          replace H : (if (wrap64 ((IntKind.u64.wrap (wrap64 (a1 + a3))) / 2)) < (wrap64 ((wrap64 ((wrap64 ((IntKind.u64.wrap (wrap64 (a1 + a3))) / 2)) + a2)) - x20_2)) then (if (wrap64 ((wrap64 ((wrap64 ((IntKind.u64.wrap (wrap64 (a1 + a3))) / 2)) + a2)) - x20_2)) < a3 then ((victim_Run_27.f kj83 t165 (wrap64 ((IntKind.u64.wrap (wrap64 (a1 + a3))) / 2)) (wrap64 ((wrap64 ((wrap64 ((IntKind.u64.wrap (wrap64 (a1 + a3))) / 2)) + a2)) - x20_2)) a3 a4).bind fun t166 => (some t166)) else (some t165)) else (some t165)) = some r := H
                          have A87 := Aside0.mk A870
                          clear A870
                          by_cases c88 : (wrap64 ((IntKind.u64.wrap (wrap64 (a1 + a3))) / 2)) < (wrap64 ((wrap64 ((wrap64 ((IntKind.u64.wrap (wrap64 (a1 + a3))) / 2)) + a2)) - x20_2))
                          · rw [if_pos c88] at H
                            have c88b0 : decide ((wrap64 ((IntKind.u64.wrap (wrap64 (a1 + a3))) / 2)) < (wrap64 ((wrap64 ((wrap64 ((IntKind.u64.wrap (wrap64 (a1 + a3))) / 2)) + a2)) - x20_2))) = true := decide_eq_true c88
                            clear c88
                            by_cases c89 : (wrap64 ((wrap64 ((wrap64 ((IntKind.u64.wrap (wrap64 (a1 + a3))) / 2)) + a2)) - x20_2)) < a3
                            · rw [if_pos c89] at H
                              have c89b0 : decide ((wrap64 ((wrap64 ((wrap64 ((IntKind.u64.wrap (wrap64 (a1 + a3))) / 2)) + a2)) - x20_2)) < a3) = true := decide_eq_true c89
                              clear c89
                              replace H := Option.bind_eq_some_iff.mp H
                              obtain ⟨t166, A900, H⟩ := H
                              replace H : (some t166) = some r := H
                              have A90 := Aside0.mk A900
                              clear A900
                              obtain rfl := Option.some.inj H
                              obtain ⟨Ao91, co91, eo91⟩ := Kd.R_slice HO_0.out
                              subst eo91
                              go_wp2_with (first | ((with_reducible refine gate_callee (f := 27) rfl ?_); refine goesL_ (some 205) rfl rfl Try.func27 (by kernel_rfl) rfl #[.slice Ao91 x0_78.length co91, .int .i64 a1, .int .i64 x20_2, .int .i64 (wrap64 ((IntKind.u64.wrap (wrap64 (a1 + a3))) / 2)), .func (.func 18) #[] #[]] rfl (by (try simp only [List.map_toArray, List.map_cons, List.map_nil]); first | done | rfl | (simp only [List.length_drop, List.length_take]; rfl)) ?_; (with_reducible refine (ih kj83 (by have := HJ59.out; have := HK2.out; have := HJ76.out; have := HJ78.out; have := HJ83.out; omega) (fun k_ => some k_ = (.slice Ao91 x0_78.length co91 : Value).ownBlock) (.slice Ao91 x0_78.length co91) x0_78 a1 x20_2 (wrap64 ((IntKind.u64.wrap (wrap64 (a1 + a3))) / 2)) a4 t165 w0 _ ?side1 ?side2 A87.out).mono ?_); (case side1 => repeat (first | (with_reducible first | exact HB.out | apply below_alloc | apply pw_below_drewN | apply below_drew1) | exact HB.out)); (case side2 => exact Kd.R_tight rfl HO_0.out); rintro e w92 ⟨rfl, hy0, hb, hkp⟩; refine ⟨_, rfl, ?_⟩; have n0_ := Aside0.mk (Kd.R_reok rfl hy0 (fun k_ e_ => HO_0.out.1 k_ e_)); have n1_ := Aside0.mk (Kept.then_ (S := (fun k_ => P0_ k_)) (by repeat (first | (with_reducible first | exact HK.out | apply Kept.alloc | apply Kept.drewN | apply Kept.drew) | exact HK.out)) hkp (fun k_ hs_ => (fun e_ => (HO_0.out.1 k_ e_.symm)) hs_)); have n2_ := Aside0.mk (hb); clear HO_0; clear HK; clear HB; have HO_0 := n0_; have HK := n1_; have HB := n2_; clear n0_ n1_ n2_; (try clear hb); (try clear hkp); (try clear hy0)) | ((with_reducible refine gate_callee (f := 27) rfl ?_); refine goesL_ (some 219) rfl rfl Try.func27 (by kernel_rfl) rfl #[.slice Ao91 x0_78.length co91, .int .i64 (wrap64 ((IntKind.u64.wrap (wrap64 (a1 + a3))) / 2)), .int .i64 (wrap64 ((wrap64 ((wrap64 ((IntKind.u64.wrap (wrap64 (a1 + a3))) / 2)) + a2)) - x20_2)), .int .i64 a3, .func (.func 18) #[] #[]] rfl (by (try simp only [List.map_toArray, List.map_cons, List.map_nil]); first | done | rfl | (simp only [List.length_drop, List.length_take]; rfl)) ?_; (with_reducible refine (ih kj83 (by have := HJ59.out; have := HK2.out; have := HJ76.out; have := HJ78.out; have := HJ83.out; omega) (fun k_ => some k_ = (.slice Ao91 x0_78.length co91 : Value).ownBlock) (.slice Ao91 x0_78.length co91) t165 (wrap64 ((IntKind.u64.wrap (wrap64 (a1 + a3))) / 2)) (wrap64 ((wrap64 ((wrap64 ((IntKind.u64.wrap (wrap64 (a1 + a3))) / 2)) + a2)) - x20_2)) a3 a4 t166 w0 _ ?side1 ?side2 A90.out).mono ?_); (case side1 => repeat (first | (with_reducible first | exact HB.out | apply below_alloc | apply pw_below_drewN | apply below_drew1) | exact HB.out)); (case side2 => exact Kd.R_tight rfl HO_0.out); rintro e w93 ⟨rfl, hy0, hb, hkp⟩; refine ⟨_, rfl, ?_⟩; have n0_ := Aside0.mk (Kd.R_reok rfl hy0 (fun k_ e_ => HO_0.out.1 k_ e_)); have n1_ := Aside0.mk (Kept.then_ (S := (fun k_ => P0_ k_)) (by repeat (first | (with_reducible first | exact HK.out | apply Kept.alloc | apply Kept.drewN | apply Kept.drew) | exact HK.out)) hkp (fun k_ hs_ => (fun e_ => (HO_0.out.1 k_ e_.symm)) hs_)); have n2_ := Aside0.mk (hb); clear HO_0; clear HK; clear HB; have HO_0 := n0_; have HK := n1_; have HB := n2_; clear n0_ n1_ n2_; (try clear hb); (try clear hkp); (try clear hy0)))
                              first | go_end0 | ((try simp only [Exit.inBlock, Exit.then]); refine bodyPost_ret (results_none rfl _ _ _) rfl ?_)
                              exact ⟨by first | rfl | (simp [errW_none, errW_some] <;> rfl) | (simp [*, errW_none, errW_some] <;> rfl), by (with_reducible repeat (first | apply Kd.R_alloc | apply Kd.R_drewN | apply Kd.R_drew)); exact HO_0.out, by repeat (first | (with_reducible first | exact HB.out | apply below_alloc | apply pw_below_drewN | apply below_drew1) | exact HB.out), by repeat (first | (with_reducible first | exact HK.out | apply Kept.alloc | apply Kept.drewN | apply Kept.drew) | exact HK.out)⟩
                            · rw [if_neg c89] at H
                              have c89b0 : decide ((wrap64 ((wrap64 ((wrap64 ((IntKind.u64.wrap (wrap64 (a1 + a3))) / 2)) + a2)) - x20_2)) < a3) = false := decide_eq_false c89
                              clear c89
                              obtain rfl := Option.some.inj H
                              obtain ⟨Ao94, co94, eo94⟩ := Kd.R_slice HO_0.out
                              subst eo94
                              go_wp2_with (first | ((with_reducible refine gate_callee (f := 27) rfl ?_); refine goesL_ (some 205) rfl rfl Try.func27 (by kernel_rfl) rfl #[.slice Ao94 x0_78.length co94, .int .i64 a1, .int .i64 x20_2, .int .i64 (wrap64 ((IntKind.u64.wrap (wrap64 (a1 + a3))) / 2)), .func (.func 18) #[] #[]] rfl (by (try simp only [List.map_toArray, List.map_cons, List.map_nil]); first | done | rfl | (simp only [List.length_drop, List.length_take]; rfl)) ?_; (with_reducible refine (ih kj83 (by have := HJ59.out; have := HK2.out; have := HJ76.out; have := HJ78.out; have := HJ83.out; omega) (fun k_ => some k_ = (.slice Ao94 x0_78.length co94 : Value).ownBlock) (.slice Ao94 x0_78.length co94) x0_78 a1 x20_2 (wrap64 ((IntKind.u64.wrap (wrap64 (a1 + a3))) / 2)) a4 t165 w0 _ ?side1 ?side2 A87.out).mono ?_); (case side1 => repeat (first | (with_reducible first | exact HB.out | apply below_alloc | apply pw_below_drewN | apply below_drew1) | exact HB.out)); (case side2 => exact Kd.R_tight rfl HO_0.out); rintro e w95 ⟨rfl, hy0, hb, hkp⟩; refine ⟨_, rfl, ?_⟩; have n0_ := Aside0.mk (Kd.R_reok rfl hy0 (fun k_ e_ => HO_0.out.1 k_ e_)); have n1_ := Aside0.mk (Kept.then_ (S := (fun k_ => P0_ k_)) (by repeat (first | (with_reducible first | exact HK.out | apply Kept.alloc | apply Kept.drewN | apply Kept.drew) | exact HK.out)) hkp (fun k_ hs_ => (fun e_ => (HO_0.out.1 k_ e_.symm)) hs_)); have n2_ := Aside0.mk (hb); clear HO_0; clear HK; clear HB; have HO_0 := n0_; have HK := n1_; have HB := n2_; clear n0_ n1_ n2_; (try clear hb); (try clear hkp); (try clear hy0)))
                              first | go_end0 | ((try simp only [Exit.inBlock, Exit.then]); refine bodyPost_ret (results_none rfl _ _ _) rfl ?_)
                              exact ⟨by first | rfl | (simp [errW_none, errW_some] <;> rfl) | (simp [*, errW_none, errW_some] <;> rfl), by (with_reducible repeat (first | apply Kd.R_alloc | apply Kd.R_drewN | apply Kd.R_drew)); exact HO_0.out, by repeat (first | (with_reducible first | exact HB.out | apply below_alloc | apply pw_below_drewN | apply below_drew1) | exact HB.out), by repeat (first | (with_reducible first | exact HK.out | apply Kept.alloc | apply Kept.drewN | apply Kept.drew) | exact HK.out)⟩
                          · rw [if_neg c88] at H
                            have c88b0 : decide ((wrap64 ((IntKind.u64.wrap (wrap64 (a1 + a3))) / 2)) < (wrap64 ((wrap64 ((wrap64 ((IntKind.u64.wrap (wrap64 (a1 + a3))) / 2)) + a2)) - x20_2))) = false := decide_eq_false c88
                            clear c88
                            obtain rfl := Option.some.inj H
                            obtain ⟨Ao96, co96, eo96⟩ := Kd.R_slice HO_0.out
                            subst eo96
                            go_wp2_with (first | ((with_reducible refine gate_callee (f := 27) rfl ?_); refine goesL_ (some 205) rfl rfl Try.func27 (by kernel_rfl) rfl #[.slice Ao96 x0_78.length co96, .int .i64 a1, .int .i64 x20_2, .int .i64 (wrap64 ((IntKind.u64.wrap (wrap64 (a1 + a3))) / 2)), .func (.func 18) #[] #[]] rfl (by (try simp only [List.map_toArray, List.map_cons, List.map_nil]); first | done | rfl | (simp only [List.length_drop, List.length_take]; rfl)) ?_; (with_reducible refine (ih kj83 (by have := HJ59.out; have := HK2.out; have := HJ76.out; have := HJ78.out; have := HJ83.out; omega) (fun k_ => some k_ = (.slice Ao96 x0_78.length co96 : Value).ownBlock) (.slice Ao96 x0_78.length co96) x0_78 a1 x20_2 (wrap64 ((IntKind.u64.wrap (wrap64 (a1 + a3))) / 2)) a4 t165 w0 _ ?side1 ?side2 A87.out).mono ?_); (case side1 => repeat (first | (with_reducible first | exact HB.out | apply below_alloc | apply pw_below_drewN | apply below_drew1) | exact HB.out)); (case side2 => exact Kd.R_tight rfl HO_0.out); rintro e w97 ⟨rfl, hy0, hb, hkp⟩; refine ⟨_, rfl, ?_⟩; have n0_ := Aside0.mk (Kd.R_reok rfl hy0 (fun k_ e_ => HO_0.out.1 k_ e_)); have n1_ := Aside0.mk (Kept.then_ (S := (fun k_ => P0_ k_)) (by repeat (first | (with_reducible first | exact HK.out | apply Kept.alloc | apply Kept.drewN | apply Kept.drew) | exact HK.out)) hkp (fun k_ hs_ => (fun e_ => (HO_0.out.1 k_ e_.symm)) hs_)); have n2_ := Aside0.mk (hb); clear HO_0; clear HK; clear HB; have HO_0 := n0_; have HK := n1_; have HB := n2_; clear n0_ n1_ n2_; (try clear hb); (try clear hkp); (try clear hy0)))
                            first | go_end0 | ((try simp only [Exit.inBlock, Exit.then]); refine bodyPost_ret (results_none rfl _ _ _) rfl ?_)
                            exact ⟨by first | rfl | (simp [errW_none, errW_some] <;> rfl) | (simp [*, errW_none, errW_some] <;> rfl), by (with_reducible repeat (first | apply Kd.R_alloc | apply Kd.R_drewN | apply Kd.R_drew)); exact HO_0.out, by repeat (first | (with_reducible first | exact HB.out | apply below_alloc | apply pw_below_drewN | apply below_drew1) | exact HB.out), by repeat (first | (with_reducible first | exact HK.out | apply Kept.alloc | apply Kept.drewN | apply Kept.drew) | exact HK.out)⟩
                        · replace c86 := Bool.eq_false_iff.mpr c86
                          subst c86
                          have H1 : (if (wrap64 ((IntKind.u64.wrap (wrap64 (a1 + a3))) / 2)) < (wrap64 ((wrap64 ((wrap64 ((IntKind.u64.wrap (wrap64 (a1 + a3))) / 2)) + a2)) - x20_2)) then (if (wrap64 ((wrap64 ((wrap64 ((IntKind.u64.wrap (wrap64 (a1 + a3))) / 2)) + a2)) - x20_2)) < a3 then ((victim_Run_27.f kj83 x0_78 (wrap64 ((IntKind.u64.wrap (wrap64 (a1 + a3))) / 2)) (wrap64 ((wrap64 ((wrap64 ((IntKind.u64.wrap (wrap64 (a1 + a3))) / 2)) + a2)) - x20_2)) a3 a4).bind fun t167 => (some t167)) else (some x0_78)) else (some x0_78)) = some r := by rw [if_neg (show ¬ (false = true) by decide)] at H; exact H
                          clear H
                          have H := H1
                          clear H1
                          by_cases c98 : (wrap64 ((IntKind.u64.wrap (wrap64 (a1 + a3))) / 2)) < (wrap64 ((wrap64 ((wrap64 ((IntKind.u64.wrap (wrap64 (a1 + a3))) / 2)) + a2)) - x20_2))
                          · rw [if_pos c98] at H
                            have c98b0 : decide ((wrap64 ((IntKind.u64.wrap (wrap64 (a1 + a3))) / 2)) < (wrap64 ((wrap64 ((wrap64 ((IntKind.u64.wrap (wrap64 (a1 + a3))) / 2)) + a2)) - x20_2))) = true := decide_eq_true c98
                            clear c98
                            by_cases c99 : (wrap64 ((wrap64 ((wrap64 ((IntKind.u64.wrap (wrap64 (a1 + a3))) / 2)) + a2)) - x20_2)) < a3
                            · rw [if_pos c99] at H
                              have c99b0 : decide ((wrap64 ((wrap64 ((wrap64 ((IntKind.u64.wrap (wrap64 (a1 + a3))) / 2)) + a2)) - x20_2)) < a3) = true := decide_eq_true c99
                              clear c99
                              replace H := Option.bind_eq_some_iff.mp H
                              obtain ⟨t167, A1000, H⟩ := H
                              replace H : (some t167) = some r := H
                              have A100 := Aside0.mk A1000
                              clear A1000
                              obtain rfl := Option.some.inj H
                              obtain ⟨Ao101, co101, eo101⟩ := Kd.R_slice HO_0.out
                              subst eo101
                              go_wp2_with (first | ((with_reducible refine gate_callee (f := 27) rfl ?_); refine goesL_ (some 219) rfl rfl Try.func27 (by kernel_rfl) rfl #[.slice Ao101 x0_78.length co101, .int .i64 (wrap64 ((IntKind.u64.wrap (wrap64 (a1 + a3))) / 2)), .int .i64 (wrap64 ((wrap64 ((wrap64 ((IntKind.u64.wrap (wrap64 (a1 + a3))) / 2)) + a2)) - x20_2)), .int .i64 a3, .func (.func 18) #[] #[]] rfl (by (try simp only [List.map_toArray, List.map_cons, List.map_nil]); first | done | rfl | (simp only [List.length_drop, List.length_take]; rfl)) ?_; (with_reducible refine (ih kj83 (by have := HJ59.out; have := HK2.out; have := HJ76.out; have := HJ78.out; have := HJ83.out; omega) (fun k_ => some k_ = (.slice Ao101 x0_78.length co101 : Value).ownBlock) (.slice Ao101 x0_78.length co101) x0_78 (wrap64 ((IntKind.u64.wrap (wrap64 (a1 + a3))) / 2)) (wrap64 ((wrap64 ((wrap64 ((IntKind.u64.wrap (wrap64 (a1 + a3))) / 2)) + a2)) - x20_2)) a3 a4 t167 w0 _ ?side1 ?side2 A100.out).mono ?_); (case side1 => repeat (first | (with_reducible first | exact HB.out | apply below_alloc | apply pw_below_drewN | apply below_drew1) | exact HB.out)); (case side2 => exact Kd.R_tight rfl HO_0.out); rintro e w102 ⟨rfl, hy0, hb, hkp⟩; refine ⟨_, rfl, ?_⟩; have n0_ := Aside0.mk (Kd.R_reok rfl hy0 (fun k_ e_ => HO_0.out.1 k_ e_)); have n1_ := Aside0.mk (Kept.then_ (S := (fun k_ => P0_ k_)) (by repeat (first | (with_reducible first | exact HK.out | apply Kept.alloc | apply Kept.drewN | apply Kept.drew) | exact HK.out)) hkp (fun k_ hs_ => (fun e_ => (HO_0.out.1 k_ e_.symm)) hs_)); have n2_ := Aside0.mk (hb); clear HO_0; clear HK; clear HB; have HO_0 := n0_; have HK := n1_; have HB := n2_; clear n0_ n1_ n2_; (try clear hb); (try clear hkp); (try clear hy0)))
                              first | go_end0 | ((try simp only [Exit.inBlock, Exit.then]); refine bodyPost_ret (results_none rfl _ _ _) rfl ?_)
                              exact ⟨by first | rfl | (simp [errW_none, errW_some] <;> rfl) | (simp [*, errW_none, errW_some] <;> rfl), by (with_reducible repeat (first | apply Kd.R_alloc | apply Kd.R_drewN | apply Kd.R_drew)); exact HO_0.out, by repeat (first | (with_reducible first | exact HB.out | apply below_alloc | apply pw_below_drewN | apply below_drew1) | exact HB.out), by repeat (first | (with_reducible first | exact HK.out | apply Kept.alloc | apply Kept.drewN | apply Kept.drew) | exact HK.out)⟩
                            · rw [if_neg c99] at H
                              have c99b0 : decide ((wrap64 ((wrap64 ((wrap64 ((IntKind.u64.wrap (wrap64 (a1 + a3))) / 2)) + a2)) - x20_2)) < a3) = false := decide_eq_false c99
                              clear c99
                              obtain rfl := Option.some.inj H
                              go_wp2
                              first | go_end0 | ((try simp only [Exit.inBlock, Exit.then]); refine bodyPost_ret (results_none rfl _ _ _) rfl ?_)
                              exact ⟨by first | rfl | (simp [errW_none, errW_some] <;> rfl) | (simp [*, errW_none, errW_some] <;> rfl), by (with_reducible repeat (first | apply Kd.R_alloc | apply Kd.R_drewN | apply Kd.R_drew)); exact HO_0.out, by repeat (first | (with_reducible first | exact HB.out | apply below_alloc | apply pw_below_drewN | apply below_drew1) | exact HB.out), by repeat (first | (with_reducible first | exact HK.out | apply Kept.alloc | apply Kept.drewN | apply Kept.drew) | exact HK.out)⟩
                          · rw [if_neg c98] at H
                            have c98b0 : decide ((wrap64 ((IntKind.u64.wrap (wrap64 (a1 + a3))) / 2)) < (wrap64 ((wrap64 ((wrap64 ((IntKind.u64.wrap (wrap64 (a1 + a3))) / 2)) + a2)) - x20_2))) = false := decide_eq_false c98
                            clear c98
                            obtain rfl := Option.some.inj H
                            go_wp2
                            first | go_end0 | ((try simp only [Exit.inBlock, Exit.then]); refine bodyPost_ret (results_none rfl _ _ _) rfl ?_)
                            exact ⟨by first | rfl | (simp [errW_none, errW_some] <;> rfl) | (simp [*, errW_none, errW_some] <;> rfl), by (with_reducible repeat (first | apply Kd.R_alloc | apply Kd.R_drewN | apply Kd.R_drew)); exact HO_0.out, by repeat (first | (with_reducible first | exact HB.out | apply below_alloc | apply pw_below_drewN | apply below_drew1) | exact HB.out), by repeat (first | (with_reducible first | exact HK.out | apply Kept.alloc | apply Kept.drewN | apply Kept.drew) | exact HK.out)⟩
end Go.Proofs.Ytnegchdooapoiaa.PVic
