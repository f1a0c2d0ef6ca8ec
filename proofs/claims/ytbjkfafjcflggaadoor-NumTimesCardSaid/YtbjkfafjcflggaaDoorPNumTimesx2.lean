-- Printed for this claim by a program of this project's own, over the kit's printer; some functions are told by hand.
import Derived.Test.YtbjkfafjcflggaaDoorPNumTimesx0
import Derived.Test.YtbjkfafjcflggaaDoorPNumTimesx1
namespace Go.Proofs.YtbjkfafjcflggaaDoor.PNumTimes
open Go.RowKit Go.Proofs.YtbjkfafjcflggaaDoorW.PrintWords Go.Proofs.YtbjkfafjcflggaaDoorW.PrintLast Go.Proofs.YtbjkfafjcflggaaDoorW.PrintMore
attribute [local go_sem] max2_int min2_int max_two min_two max_three min_three max_four min_four   -- for this text's walks alone
set_option linter.unusedVariables false
set_option linter.unusedSimpArgs false

/-! ### millwrightref01_Mul: function 15 -/
mutual
def millwrightref01_Mul.j0 : Nat → Int → Int → Bool → Option (Int × Bool)
  | 0, _, _, _ => none
  | k + 1, x0, x1, x11 => if x11 = true then (some (0, true)) else (if x0 > 0 then (if x1 > 0 then ((millwrightref01_Most.f).bind fun t127 => (if x1 = 0 then (none) else (if x0 > (wrap64 (Int.tdiv t127 x1)) then (millwrightref01_Mul.j1 k x0 x1 true) else (if x1 < 0 then ((millwrightref01_Least.f).bind fun t128 => (if x0 = 0 then (none) else (if x1 < (wrap64 (Int.tdiv t128 x0)) then (millwrightref01_Mul.j1 k x0 x1 true) else (if x0 < 0 then ((millwrightref01_Least.f).bind fun t129 => (millwrightref01_Mul.j1 k x0 x1 (decide (x0 < (wrap64 (Int.tdiv t129 x1)))))) else (millwrightref01_Mul.j1 k x0 x1 false))))) else (if x0 < 0 then ((millwrightref01_Least.f).bind fun t130 => (millwrightref01_Mul.j1 k x0 x1 (decide (x0 < (wrap64 (Int.tdiv t130 x1)))))) else (millwrightref01_Mul.j1 k x0 x1 false)))))) else (if x1 < 0 then ((millwrightref01_Least.f).bind fun t131 => (if x0 = 0 then (none) else (if x1 < (wrap64 (Int.tdiv t131 x0)) then (millwrightref01_Mul.j1 k x0 x1 true) else (if x0 < 0 then (millwrightref01_Mul.j1 k x0 x1 false) else (millwrightref01_Mul.j1 k x0 x1 false))))) else (if x0 < 0 then (millwrightref01_Mul.j1 k x0 x1 false) else (millwrightref01_Mul.j1 k x0 x1 false)))) else (if x0 < 0 then (if x1 > 0 then ((millwrightref01_Least.f).bind fun t132 => (if x1 = 0 then (none) else (millwrightref01_Mul.j1 k x0 x1 (decide (x0 < (wrap64 (Int.tdiv t132 x1))))))) else (millwrightref01_Mul.j1 k x0 x1 false)) else (millwrightref01_Mul.j1 k x0 x1 false)))
def millwrightref01_Mul.j1 : Nat → Int → Int → Bool → Option (Int × Bool)
  | 0, _, _, _ => none
  | k + 1, x0, x1, x54 => if x54 = true then (some (0, false)) else (if x0 < 0 then (if x1 < 0 then ((millwrightref01_Least.f).bind fun t133 => (if x0 = t133 then (some (0, false)) else ((millwrightref01_Least.f).bind fun t134 => (if x1 = t134 then (some (0, false)) else ((millwrightref01_Most.f).bind fun t135 => (if (wrap64 (-x1)) = 0 then (none) else (if (wrap64 (-x0)) > (wrap64 (Int.tdiv t135 (wrap64 (-x1)))) then (some (0, false)) else (some (wrap64 (x0 * x1), true))))))))) else (some (wrap64 (x0 * x1), true))) else (some (wrap64 (x0 * x1), true)))
end
def millwrightref01_Mul.f (k : Nat) (a0 : Int) (a1 : Int) : Option (Int × Bool) := if a0 = 0 then (millwrightref01_Mul.j0 k a0 a1 true) else (millwrightref01_Mul.j0 k a0 a1 (a1 == 0))
theorem millwrightref01_Mul.mono_l : ∀ k, (∀ y0 y1 y2, LeO (millwrightref01_Mul.j0 k y0 y1 y2) (millwrightref01_Mul.j0 (k + 1) y0 y1 y2)) ∧ (∀ y0 y1 y2, LeO (millwrightref01_Mul.j1 k y0 y1 y2) (millwrightref01_Mul.j1 (k + 1) y0 y1 y2))
  | 0 => ⟨fun _ _ _ r h => by simp [millwrightref01_Mul.j0] at h, fun _ _ _ r h => by simp [millwrightref01_Mul.j1] at h⟩
  | k + 1 => by
    obtain ⟨ih0, ih1⟩ := millwrightref01_Mul.mono_l k
    refine ⟨?_, ?_⟩
    · intro y0 y1 y2
      unfold millwrightref01_Mul.j0
      repeat' first
      | (with_reducible exact ih0 _ _ _)
      | (with_reducible exact ih1 _ _ _)
      | (with_reducible exact LeO.refl _)
      | (with_reducible exact LeO.none _)
      | (with_reducible refine LeO.ite ?_ ?_)
      | (with_reducible refine LeO.bind ?_ (fun _ => ?_))
      | exact ih0 _ _ _
      | exact ih1 _ _ _
      | exact LeO.none _
      | refine LeO.ite ?_ ?_
      | refine LeO.bind ?_ (fun _ => ?_)
    · intro y0 y1 y2
      unfold millwrightref01_Mul.j1
      repeat' first
      | (with_reducible exact ih0 _ _ _)
      | (with_reducible exact ih1 _ _ _)
      | (with_reducible exact LeO.refl _)
      | (with_reducible exact LeO.none _)
      | (with_reducible refine LeO.ite ?_ ?_)
      | (with_reducible refine LeO.bind ?_ (fun _ => ?_))
      | exact ih0 _ _ _
      | exact ih1 _ _ _
      | exact LeO.none _
      | refine LeO.ite ?_ ?_
      | refine LeO.bind ?_ (fun _ => ?_)
theorem millwrightref01_Mul.mono : ∀ a0 a1 k, LeO (millwrightref01_Mul.f k a0 a1) (millwrightref01_Mul.f (k + 1) a0 a1) := by
  intro a0 a1 k
  obtain ⟨ih0, ih1⟩ := millwrightref01_Mul.mono_l k
  unfold millwrightref01_Mul.f
  repeat' first
      | (with_reducible exact ih0 _ _ _)
      | (with_reducible exact ih1 _ _ _)
      | (with_reducible exact LeO.refl _)
      | (with_reducible exact LeO.none _)
      | (with_reducible refine LeO.ite ?_ ?_)
      | (with_reducible refine LeO.bind ?_ (fun _ => ?_))
      | exact ih0 _ _ _
      | exact ih1 _ _ _
      | exact LeO.none _
      | refine LeO.ite ?_ ?_
      | refine LeO.bind ?_ (fun _ => ?_)
set_option maxHeartbeats 8000000 in
set_option maxRecDepth 100000 in
theorem millwrightref01_Mul.calls (k : Nat) (a0 : Int) (a1 : Int) (r1 : Int) (r2 : Bool) (w : World) (h : millwrightref01_Mul.f k a0 a1 = some (r1, r2)) :
    Calls Tryd.prog 15 #[.int .i64 a0, .int .i64 a1] w fun e w' => e = .returned (.tuple #[.int .i64 r1, .bool r2]) ∧ Drawn0 w w' := by
  have H : (if a0 = 0 then (millwrightref01_Mul.j0 k a0 a1 true) else (millwrightref01_Mul.j0 k a0 a1 (a1 == 0))) = some (r1, r2) := h
  clear h
  have HC3 := Aside0.mk H
  clear H
  go_enter Tryd.func15, Tryd.ntmps15
  go_upto_region 1 with (fail)
  go_cut [11] (fun v11 wc => ∃ (kq : Nat) (x11_2 : Bool), v11 = .bool x11_2 ∧ Aside0 (millwrightref01_Mul.j0 kq a0 a1 x11_2 = some (r1, r2)) ∧ Aside0 (kq ≤ k) ∧ Drawn0 w wc)
  case first =>
    have H := HC3.out
    clear HC3
    by_cases c4 : a0 = 0
    · rw [if_pos c4] at H
      have c4b0 : (a0 == 0) = true := beq_iff_eq.mpr c4
      have c4b1 : (a0 != 0) = false := bne_eq_false_iff_eq.mpr c4
      clear c4
      (first | rw [c4b0] | (simp only [i64_w, i32_w]; rw [c4b0]) | skip)
      have H' := Aside0.mk H
      clear H
      go_wp2
      go_meet
      case rel => exact ⟨_, (true), (by first | rfl | (simp; done) | (simp [*]; done)), H', ⟨by first | omega | exact Nat.le_refl _⟩, by repeat (first | exact Drawn0.refl _ | apply Drawn0.step)⟩
    · rw [if_neg c4] at H
      have c4b0 : (a0 == 0) = false := beq_eq_false_iff_ne.mpr c4
      have c4b1 : (a0 != 0) = true := bne_iff_ne.mpr c4
      (first | rw [c4b0] | (simp only [i64_w, i32_w]; rw [c4b0]) | skip)
      have H' := Aside0.mk H
      clear H
      go_wp2
      go_meet
      case rel => exact ⟨_, ((a1 == 0)), (by first | rfl | (simp; done) | (simp [*]; done)), H', ⟨by first | omega | exact Nat.le_refl _⟩, by repeat (first | exact Drawn0.refl _ | apply Drawn0.step)⟩
  case rest =>
    clear HC3
    try clear c1
    try clear p2
    try clear c4
    try clear c4b0
    try clear c4b1
    obtain ⟨kq, x11_2, rfl, HA, HJ2, ⟨mc2, rfl⟩⟩ := hcut
    cases kq with
    | zero => exact absurd HA.out (by simp [millwrightref01_Mul.j0])
    | succ kj2 =>
      have H := HA.out
      clear HA
      simp only [millwrightref01_Mul.j0] at H
      by_cases c5 : x11_2 = true
      · subst c5
        have H1 : (some (0, true)) = some (r1, r2) := by rw [if_pos rfl] at H; exact H
        clear H
        have H := H1
        clear H1
        simp only [Option.some.injEq, Prod.mk.injEq] at H
        obtain ⟨rfl, rfl⟩ := H
        go_wp2
        go_ret2
        exact ⟨by first | rfl | (simp; done) | (simp [*]; done), by repeat (first | exact Drawn0.refl _ | apply Drawn0.step)⟩
      · replace c5 := Bool.eq_false_iff.mpr c5
        subst c5
        have H1 : (if a0 > 0 then (if a1 > 0 then ((millwrightref01_Most.f).bind fun t127 => (if a1 = 0 then (none) else (if a0 > (wrap64 (Int.tdiv t127 a1)) then (millwrightref01_Mul.j1 kj2 a0 a1 true) else (if a1 < 0 then ((millwrightref01_Least.f).bind fun t128 => (if a0 = 0 then (none) else (if a1 < (wrap64 (Int.tdiv t128 a0)) then (millwrightref01_Mul.j1 kj2 a0 a1 true) else (if a0 < 0 then ((millwrightref01_Least.f).bind fun t129 => (millwrightref01_Mul.j1 kj2 a0 a1 (decide (a0 < (wrap64 (Int.tdiv t129 a1)))))) else (millwrightref01_Mul.j1 kj2 a0 a1 false))))) else (if a0 < 0 then ((millwrightref01_Least.f).bind fun t130 => (millwrightref01_Mul.j1 kj2 a0 a1 (decide (a0 < (wrap64 (Int.tdiv t130 a1)))))) else (millwrightref01_Mul.j1 kj2 a0 a1 false)))))) else (if a1 < 0 then ((millwrightref01_Least.f).bind fun t131 => (if a0 = 0 then (none) else (if a1 < (wrap64 (Int.tdiv t131 a0)) then (millwrightref01_Mul.j1 kj2 a0 a1 true) else (if a0 < 0 then (millwrightref01_Mul.j1 kj2 a0 a1 false) else (millwrightref01_Mul.j1 kj2 a0 a1 false))))) else (if a0 < 0 then (millwrightref01_Mul.j1 kj2 a0 a1 false) else (millwrightref01_Mul.j1 kj2 a0 a1 false)))) else (if a0 < 0 then (if a1 > 0 then ((millwrightref01_Least.f).bind fun t132 => (if a1 = 0 then (none) else (millwrightref01_Mul.j1 kj2 a0 a1 (decide (a0 < (wrap64 (Int.tdiv t132 a1))))))) else (millwrightref01_Mul.j1 kj2 a0 a1 false)) else (millwrightref01_Mul.j1 kj2 a0 a1 false))) = some (r1, r2) := by rw [if_neg (show ¬ (false = true) by decide)] at H; exact H
        clear H
        have H := H1
        clear H1
        have HC6 := Aside0.mk H
        clear H
        go_upto_region 3 with (fail)
        go_cut [54] (fun v54 wc => ∃ (kq : Nat) (x54_5 : Bool), v54 = .bool x54_5 ∧ Aside0 (millwrightref01_Mul.j1 kq a0 a1 x54_5 = some (r1, r2)) ∧ Aside0 (kq ≤ kj2) ∧ Drawn0 w wc)
        case first =>
          have H := HC6.out
          clear HC6
          by_cases c7 : a0 > 0
          · rw [if_pos c7] at H
            have c7b0 : decide (0 < a0) = true := decide_eq_true c7
            clear c7
            (first | rw [c7b0] | (simp only [i64_w, i32_w]; rw [c7b0]) | skip)
            by_cases c8 : a1 > 0
            · rw [if_pos c8] at H
              have c8b0 : decide (0 < a1) = true := decide_eq_true c8
              clear c8
              replace H := Option.bind_eq_some_iff.mp H
              obtain ⟨t127, A90, H⟩ := H
              replace H : (if a1 = 0 then (none) else (if a0 > (wrap64 (Int.tdiv t127 a1)) then (millwrightref01_Mul.j1 kj2 a0 a1 true) else (if a1 < 0 then ((millwrightref01_Least.f).bind fun t128 => (if a0 = 0 then (none) else (if a1 < (wrap64 (Int.tdiv t128 a0)) then (millwrightref01_Mul.j1 kj2 a0 a1 true) else (if a0 < 0 then ((millwrightref01_Least.f).bind fun t129 => (millwrightref01_Mul.j1 kj2 a0 a1 (decide (a0 < (wrap64 (Int.tdiv t129 a1)))))) else (millwrightref01_Mul.j1 kj2 a0 a1 false))))) else (if a0 < 0 then ((millwrightref01_Least.f).bind fun t130 => (millwrightref01_Mul.j1 kj2 a0 a1 (decide (a0 < (wrap64 (Int.tdiv t130 a1)))))) else (millwrightref01_Mul.j1 kj2 a0 a1 false))))) = some (r1, r2) := H
              have A9 := Aside0.mk A90
              clear A90
              by_cases c10 : a1 = 0
              · rw [if_pos c10] at H
                exact absurd H (by simp)
              · rw [if_neg c10] at H
                have c10b0 : (a1 == 0) = false := beq_eq_false_iff_ne.mpr c10
                have c10b1 : (a1 != 0) = true := bne_iff_ne.mpr c10
                by_cases c11 : a0 > (wrap64 (Int.tdiv t127 a1))
                · rw [if_pos c11] at H
                  have c11b0 : decide ((wrap64 (Int.tdiv t127 a1)) < a0) = true := decide_eq_true c11
                  clear c11
                  have H' := Aside0.mk H
                  clear H
                  go_wp2_with (first | (go_at_call 29; (with_reducible refine (millwrightref01_Most.calls  t127 _ A9.out).mono ?_); rintro e w' ⟨rfl, ⟨nd, rfl⟩⟩))
                  go_meet
                  case rel => exact ⟨_, (true), (by first | rfl | (simp; done) | (simp [*]; done)), H', ⟨by have := HJ2.out; first | omega | exact Nat.le_refl _⟩, by repeat (first | exact Drawn0.refl _ | apply Drawn0.step)⟩
                · rw [if_neg c11] at H
                  have c11b0 : decide ((wrap64 (Int.tdiv t127 a1)) < a0) = false := decide_eq_false c11
                  clear c11
                  by_cases c12 : a1 < 0
                  · rw [if_pos c12] at H
                    have c12b0 : decide (a1 < 0) = true := decide_eq_true c12
                    clear c12
                    replace H := Option.bind_eq_some_iff.mp H
                    obtain ⟨t128, A130, H⟩ := H
                    replace H : (if a0 = 0 then (none) else (if a1 < (wrap64 (Int.tdiv t128 a0)) then (millwrightref01_Mul.j1 kj2 a0 a1 true) else (if a0 < 0 then ((millwrightref01_Least.f).bind fun t129 => (millwrightref01_Mul.j1 kj2 a0 a1 (decide (a0 < (wrap64 (Int.tdiv t129 a1)))))) else (millwrightref01_Mul.j1 kj2 a0 a1 false)))) = some (r1, r2) := H
                    have A13 := Aside0.mk A130
                    clear A130
                    by_cases c14 : a0 = 0
                    · rw [if_pos c14] at H
                      exact absurd H (by simp)
                    · rw [if_neg c14] at H
                      have c14b0 : (a0 == 0) = false := beq_eq_false_iff_ne.mpr c14
                      have c14b1 : (a0 != 0) = true := bne_iff_ne.mpr c14
                      by_cases c15 : a1 < (wrap64 (Int.tdiv t128 a0))
                      · rw [if_pos c15] at H
                        have c15b0 : decide (a1 < (wrap64 (Int.tdiv t128 a0))) = true := decide_eq_true c15
                        clear c15
                        have H' := Aside0.mk H
                        clear H
                        go_wp2_with (first | (go_at_call 29; (with_reducible refine (millwrightref01_Most.calls  t127 _ A9.out).mono ?_); rintro e w' ⟨rfl, ⟨nd, rfl⟩⟩) | (go_at_call 30; (with_reducible refine (millwrightref01_Least.calls  t128 _ A13.out).mono ?_); rintro e w' ⟨rfl, ⟨nd, rfl⟩⟩))
                        go_meet
                        case rel => exact ⟨_, (true), (by first | rfl | (simp; done) | (simp [*]; done)), H', ⟨by have := HJ2.out; first | omega | exact Nat.le_refl _⟩, by repeat (first | exact Drawn0.refl _ | apply Drawn0.step)⟩
                      · rw [if_neg c15] at H
                        have c15b0 : decide (a1 < (wrap64 (Int.tdiv t128 a0))) = false := decide_eq_false c15
                        clear c15
                        by_cases c16 : a0 < 0
                        · rw [if_pos c16] at H
                          have c16b0 : decide (a0 < 0) = true := decide_eq_true c16
                          clear c16
                          replace H := Option.bind_eq_some_iff.mp H
                          obtain ⟨t129, A170, H⟩ := H
                          obtain rfl : t128 = t129 := Option.some.inj (A13.out.symm.trans A170)
                          replace H : (millwrightref01_Mul.j1 kj2 a0 a1 (decide (a0 < (wrap64 (Int.tdiv t128 a1))))) = some (r1, r2) := H
                          have A17 := Aside0.mk A170
                          clear A170
                          have H' := Aside0.mk H
                          clear H
                          go_wp2_with (first | (go_at_call 29; (with_reducible refine (millwrightref01_Most.calls  t127 _ A9.out).mono ?_); rintro e w' ⟨rfl, ⟨nd, rfl⟩⟩) | (go_at_call 30; (with_reducible refine (millwrightref01_Least.calls  t128 _ A13.out).mono ?_); rintro e w' ⟨rfl, ⟨nd, rfl⟩⟩) | (go_at_call 30; (with_reducible refine (millwrightref01_Least.calls  t128 _ A17.out).mono ?_); rintro e w' ⟨rfl, ⟨nd, rfl⟩⟩))
                          go_meet
                          case rel => exact ⟨_, (decide (a0 < (wrap64 (Int.tdiv t128 a1)))), (by first | rfl | (simp; done) | (simp [*]; done)), H', ⟨by have := HJ2.out; first | omega | exact Nat.le_refl _⟩, by repeat (first | exact Drawn0.refl _ | apply Drawn0.step)⟩
                        · rw [if_neg c16] at H
                          have c16b0 : decide (a0 < 0) = false := decide_eq_false c16
                          clear c16
                          have H' := Aside0.mk H
                          clear H
                          go_wp2_with (first | (go_at_call 29; (with_reducible refine (millwrightref01_Most.calls  t127 _ A9.out).mono ?_); rintro e w' ⟨rfl, ⟨nd, rfl⟩⟩) | (go_at_call 30; (with_reducible refine (millwrightref01_Least.calls  t128 _ A13.out).mono ?_); rintro e w' ⟨rfl, ⟨nd, rfl⟩⟩))
                          go_meet
                          case rel => exact ⟨_, (false), (by first | rfl | (simp; done) | (simp [*]; done)), H', ⟨by have := HJ2.out; first | omega | exact Nat.le_refl _⟩, by repeat (first | exact Drawn0.refl _ | apply Drawn0.step)⟩
                  · rw [if_neg c12] at H
                    have c12b0 : decide (a1 < 0) = false := decide_eq_false c12
                    clear c12
                    by_cases c18 : a0 < 0
                    · rw [if_pos c18] at H
                      have c18b0 : decide (a0 < 0) = true := decide_eq_true c18
                      clear c18
                      replace H := Option.bind_eq_some_iff.mp H
                      obtain ⟨t130, A190, H⟩ := H
                      replace H : (millwrightref01_Mul.j1 kj2 a0 a1 (decide (a0 < (wrap64 (Int.tdiv t130 a1))))) = some (r1, r2) := H
                      have A19 := Aside0.mk A190
                      clear A190
                      have H' := Aside0.mk H
                      clear H
                      go_wp2_with (first | (go_at_call 29; (with_reducible refine (millwrightref01_Most.calls  t127 _ A9.out).mono ?_); rintro e w' ⟨rfl, ⟨nd, rfl⟩⟩) | (go_at_call 30; (with_reducible refine (millwrightref01_Least.calls  t130 _ A19.out).mono ?_); rintro e w' ⟨rfl, ⟨nd, rfl⟩⟩))
                      go_meet
                      case rel => exact ⟨_, (decide (a0 < (wrap64 (Int.tdiv t130 a1)))), (by first | rfl | (simp; done) | (simp [*]; done)), H', ⟨by have := HJ2.out; first | omega | exact Nat.le_refl _⟩, by repeat (first | exact Drawn0.refl _ | apply Drawn0.step)⟩
                    · rw [if_neg c18] at H
                      have c18b0 : decide (a0 < 0) = false := decide_eq_false c18
                      clear c18
                      have H' := Aside0.mk H
                      clear H
                      go_wp2_with (first | (go_at_call 29; (with_reducible refine (millwrightref01_Most.calls  t127 _ A9.out).mono ?_); rintro e w' ⟨rfl, ⟨nd, rfl⟩⟩))
                      go_meet
                      case rel => exact ⟨_, (false), (by first | rfl | (simp; done) | (simp [*]; done)), H', ⟨by have := HJ2.out; first | omega | exact Nat.le_refl _⟩, by repeat (first | exact Drawn0.refl _ | apply Drawn0.step)⟩
            · rw [if_neg c8] at H
              have c8b0 : decide (0 < a1) = false := decide_eq_false c8
              clear c8
              by_cases c20 : a1 < 0
              · rw [if_pos c20] at H
                have c20b0 : decide (a1 < 0) = true := decide_eq_true c20
                clear c20
                replace H := Option.bind_eq_some_iff.mp H
                obtain ⟨t131, A210, H⟩ := H
                replace H : (if a0 = 0 then (none) else (if a1 < (wrap64 (Int.tdiv t131 a0)) then (millwrightref01_Mul.j1 kj2 a0 a1 true) else (if a0 < 0 then (millwrightref01_Mul.j1 kj2 a0 a1 false) else (millwrightref01_Mul.j1 kj2 a0 a1 false)))) = some (r1, r2) := H
                have A21 := Aside0.mk A210
                clear A210
                by_cases c22 : a0 = 0
                · rw [if_pos c22] at H
                  exact absurd H (by simp)
                · rw [if_neg c22] at H
                  have c22b0 : (a0 == 0) = false := beq_eq_false_iff_ne.mpr c22
                  have c22b1 : (a0 != 0) = true := bne_iff_ne.mpr c22
                  by_cases c23 : a1 < (wrap64 (Int.tdiv t131 a0))
                  · rw [if_pos c23] at H
                    have c23b0 : decide (a1 < (wrap64 (Int.tdiv t131 a0))) = true := decide_eq_true c23
                    clear c23
                    have H' := Aside0.mk H
                    clear H
                    go_wp2_with (first | (go_at_call 30; (with_reducible refine (millwrightref01_Least.calls  t131 _ A21.out).mono ?_); rintro e w' ⟨rfl, ⟨nd, rfl⟩⟩))
                    go_meet
                    case rel => exact ⟨_, (true), (by first | rfl | (simp; done) | (simp [*]; done)), H', ⟨by have := HJ2.out; first | omega | exact Nat.le_refl _⟩, by repeat (first | exact Drawn0.refl _ | apply Drawn0.step)⟩
                  · rw [if_neg c23] at H
                    have c23b0 : decide (a1 < (wrap64 (Int.tdiv t131 a0))) = false := decide_eq_false c23
                    clear c23
                    by_cases c24 : a0 < 0
                    · rw [if_pos c24] at H
                      have c24b0 : decide (a0 < 0) = true := decide_eq_true c24
                      clear c24
                      have H' := Aside0.mk H
                      clear H
                      go_wp2_with (first | (go_at_call 30; (with_reducible refine (millwrightref01_Least.calls  t131 _ A21.out).mono ?_); rintro e w' ⟨rfl, ⟨nd, rfl⟩⟩))
                      go_meet
                      case rel => exact ⟨_, (false), (by first | rfl | (simp; done) | (simp [*]; done)), H', ⟨by have := HJ2.out; first | omega | exact Nat.le_refl _⟩, by repeat (first | exact Drawn0.refl _ | apply Drawn0.step)⟩
                    · rw [if_neg c24] at H
                      have c24b0 : decide (a0 < 0) = false := decide_eq_false c24
                      clear c24
                      have H' := Aside0.mk H
                      clear H
                      go_wp2_with (first | (go_at_call 30; (with_reducible refine (millwrightref01_Least.calls  t131 _ A21.out).mono ?_); rintro e w' ⟨rfl, ⟨nd, rfl⟩⟩))
                      go_meet
                      case rel => exact ⟨_, (false), (by first | rfl | (simp; done) | (simp [*]; done)), H', ⟨by have := HJ2.out; first | omega | exact Nat.le_refl _⟩, by repeat (first | exact Drawn0.refl _ | apply Drawn0.step)⟩
              · rw [if_neg c20] at H
                have c20b0 : decide (a1 < 0) = false := decide_eq_false c20
                clear c20
                by_cases c25 : a0 < 0
                · rw [if_pos c25] at H
                  have c25b0 : decide (a0 < 0) = true := decide_eq_true c25
                  clear c25
                  have H' := Aside0.mk H
                  clear H
                  go_wp2
                  go_meet
                  case rel => exact ⟨_, (false), (by first | rfl | (simp; done) | (simp [*]; done)), H', ⟨by have := HJ2.out; first | omega | exact Nat.le_refl _⟩, by repeat (first | exact Drawn0.refl _ | apply Drawn0.step)⟩
                · rw [if_neg c25] at H
                  have c25b0 : decide (a0 < 0) = false := decide_eq_false c25
                  clear c25
                  have H' := Aside0.mk H
                  clear H
                  go_wp2
                  go_meet
                  case rel => exact ⟨_, (false), (by first | rfl | (simp; done) | (simp [*]; done)), H', ⟨by have := HJ2.out; first | omega | exact Nat.le_refl _⟩, by repeat (first | exact Drawn0.refl _ | apply Drawn0.step)⟩
          · rw [if_neg c7] at H
            have c7b0 : decide (0 < a0) = false := decide_eq_false c7
            clear c7
            (first | rw [c7b0] | (simp only [i64_w, i32_w]; rw [c7b0]) | skip)
            by_cases c26 : a0 < 0
            · rw [if_pos c26] at H
              have c26b0 : decide (a0 < 0) = true := decide_eq_true c26
              clear c26
              by_cases c27 : a1 > 0
              · rw [if_pos c27] at H
                have c27b0 : decide (0 < a1) = true := decide_eq_true c27
                clear c27
                replace H := Option.bind_eq_some_iff.mp H
                obtain ⟨t132, A280, H⟩ := H
                replace H : (if a1 = 0 then (none) else (millwrightref01_Mul.j1 kj2 a0 a1 (decide (a0 < (wrap64 (Int.tdiv t132 a1)))))) = some (r1, r2) := H
                have A28 := Aside0.mk A280
                clear A280
                by_cases c29 : a1 = 0
                · rw [if_pos c29] at H
                  exact absurd H (by simp)
                · rw [if_neg c29] at H
                  have c29b0 : (a1 == 0) = false := beq_eq_false_iff_ne.mpr c29
                  have c29b1 : (a1 != 0) = true := bne_iff_ne.mpr c29
                  have H' := Aside0.mk H
                  clear H
                  go_wp2_with (first | (go_at_call 30; (with_reducible refine (millwrightref01_Least.calls  t132 _ A28.out).mono ?_); rintro e w' ⟨rfl, ⟨nd, rfl⟩⟩))
                  go_meet
                  case rel => exact ⟨_, (decide (a0 < (wrap64 (Int.tdiv t132 a1)))), (by first | rfl | (simp; done) | (simp [*]; done)), H', ⟨by have := HJ2.out; first | omega | exact Nat.le_refl _⟩, by repeat (first | exact Drawn0.refl _ | apply Drawn0.step)⟩
              · rw [if_neg c27] at H
                have c27b0 : decide (0 < a1) = false := decide_eq_false c27
                clear c27
                have H' := Aside0.mk H
                clear H
                go_wp2
                go_meet
                case rel => exact ⟨_, (false), (by first | rfl | (simp; done) | (simp [*]; done)), H', ⟨by have := HJ2.out; first | omega | exact Nat.le_refl _⟩, by repeat (first | exact Drawn0.refl _ | apply Drawn0.step)⟩
            · rw [if_neg c26] at H
              have c26b0 : decide (a0 < 0) = false := decide_eq_false c26
              clear c26
              have H' := Aside0.mk H
              clear H
              go_wp2
              go_meet
              case rel => exact ⟨_, (false), (by first | rfl | (simp; done) | (simp [*]; done)), H', ⟨by have := HJ2.out; first | omega | exact Nat.le_refl _⟩, by repeat (first | exact Drawn0.refl _ | apply Drawn0.step)⟩
        case rest =>
          clear HC6
          try clear c1
          try clear c2
          try clear p2
          try clear c4
          try clear c4b0
          try clear c4b1
          try clear c5
          try clear p6
          try clear c7
          try clear c7b0
          try clear c8
          try clear c8b0
          try clear c10
          try clear c10b0
          try clear c10b1
          try clear c11
          try clear c11b0
          try clear c12
          try clear c12b0
          try clear c14
          try clear c14b0
          try clear c14b1
          try clear c15
          try clear c15b0
          try clear c16
          try clear c16b0
          try clear c18
          try clear c18b0
          try clear c20
          try clear c20b0
          try clear c22
          try clear c22b0
          try clear c22b1
          try clear c23
          try clear c23b0
          try clear c24
          try clear c24b0
          try clear c25
          try clear c25b0
          try clear c26
          try clear c26b0
          try clear c27
          try clear c27b0
          try clear c29
          try clear c29b0
          try clear c29b1
          try clear p2
          obtain ⟨kq, x54_5, rfl, HA, HJ5, ⟨mc5, rfl⟩⟩ := hcut
          cases kq with
          | zero => exact absurd HA.out (by simp [millwrightref01_Mul.j1])
          | succ kj5 =>
            have H := HA.out
            clear HA
            simp only [millwrightref01_Mul.j1] at H
            by_cases c30 : x54_5 = true
            · subst c30
              have H1 : (some (0, false)) = some (r1, r2) := by rw [if_pos rfl] at H; exact H
              clear H
              have H := H1
              clear H1
              simp only [Option.some.injEq, Prod.mk.injEq] at H
              obtain ⟨rfl, rfl⟩ := H
              go_wp2
              go_ret2
              exact ⟨by first | rfl | (simp; done) | (simp [*]; done), by repeat (first | exact Drawn0.refl _ | apply Drawn0.step)⟩
            · replace c30 := Bool.eq_false_iff.mpr c30
              subst c30
              have H1 : (if a0 < 0 then (if a1 < 0 then ((millwrightref01_Least.f).bind fun t133 => (if a0 = t133 then (some (0, false)) else ((millwrightref01_Least.f).bind fun t134 => (if a1 = t134 then (some (0, false)) else ((millwrightref01_Most.f).bind fun t135 => (if (wrap64 (-a1)) = 0 then (none) else (if (wrap64 (-a0)) > (wrap64 (Int.tdiv t135 (wrap64 (-a1)))) then (some (0, false)) else (some (wrap64 (a0 * a1), true))))))))) else (some (wrap64 (a0 * a1), true))) else (some (wrap64 (a0 * a1), true))) = some (r1, r2) := by rw [if_neg (show ¬ (false = true) by decide)] at H; exact H
              clear H
              have H := H1
              clear H1
              by_cases c31 : a0 < 0
              · rw [if_pos c31] at H
                have c31b0 : decide (a0 < 0) = true := decide_eq_true c31
                clear c31
                by_cases c32 : a1 < 0
                · rw [if_pos c32] at H
                  have c32b0 : decide (a1 < 0) = true := decide_eq_true c32
                  clear c32
                  replace H := Option.bind_eq_some_iff.mp H
                  obtain ⟨t133, A330, H⟩ := H
                  replace H : (if a0 = t133 then (some (0, false)) else ((millwrightref01_Least.f).bind fun t134 => (if a1 = t134 then (some (0, false)) else ((millwrightref01_Most.f).bind fun t135 => (if (wrap64 (-a1)) = 0 then (none) else (if (wrap64 (-a0)) > (wrap64 (Int.tdiv t135 (wrap64 (-a1)))) then (some (0, false)) else (some (wrap64 (a0 * a1), true)))))))) = some (r1, r2) := H
                  have A33 := Aside0.mk A330
                  clear A330
                  by_cases c34 : a0 = t133
                  · rw [if_pos c34] at H
                    have c34b0 : (a0 == t133) = true := beq_iff_eq.mpr c34
                    have c34b1 : (a0 != t133) = false := bne_eq_false_iff_eq.mpr c34
                    clear c34
                    simp only [Option.some.injEq, Prod.mk.injEq] at H
                    obtain ⟨rfl, rfl⟩ := H
                    go_wp2_with (first | (go_at_call 30; (with_reducible refine (millwrightref01_Least.calls  t133 _ A33.out).mono ?_); rintro e w' ⟨rfl, ⟨nd, rfl⟩⟩))
                    go_ret2
                    exact ⟨by first | rfl | (simp; done) | (simp [*]; done), by repeat (first | exact Drawn0.refl _ | apply Drawn0.step)⟩
                  · rw [if_neg c34] at H
                    have c34b0 : (a0 == t133) = false := beq_eq_false_iff_ne.mpr c34
                    have c34b1 : (a0 != t133) = true := bne_iff_ne.mpr c34
                    replace H := Option.bind_eq_some_iff.mp H
                    obtain ⟨t134, A350, H⟩ := H
                    obtain rfl : t133 = t134 := Option.some.inj (A33.out.symm.trans A350)
                    replace H : (if a1 = t133 then (some (0, false)) else ((millwrightref01_Most.f).bind fun t135 => (if (wrap64 (-a1)) = 0 then (none) else (if (wrap64 (-a0)) > (wrap64 (Int.tdiv t135 (wrap64 (-a1)))) then (some (0, false)) else (some (wrap64 (a0 * a1), true)))))) = some (r1, r2) := H
                    have A35 := Aside0.mk A350
                    clear A350
                    by_cases c36 : a1 = t133
                    · rw [if_pos c36] at H
                      have c36b0 : (a1 == t133) = true := beq_iff_eq.mpr c36
                      have c36b1 : (a1 != t133) = false := bne_eq_false_iff_eq.mpr c36
                      clear c36
                      simp only [Option.some.injEq, Prod.mk.injEq] at H
                      obtain ⟨rfl, rfl⟩ := H
                      go_wp2_with (first | (go_at_call 30; (with_reducible refine (millwrightref01_Least.calls  t133 _ A33.out).mono ?_); rintro e w' ⟨rfl, ⟨nd, rfl⟩⟩) | (go_at_call 30; (with_reducible refine (millwrightref01_Least.calls  t133 _ A35.out).mono ?_); rintro e w' ⟨rfl, ⟨nd, rfl⟩⟩))
                      go_ret2
                      exact ⟨by first | rfl | (simp; done) | (simp [*]; done), by repeat (first | exact Drawn0.refl _ | apply Drawn0.step)⟩
                    · rw [if_neg c36] at H
                      have c36b0 : (a1 == t133) = false := beq_eq_false_iff_ne.mpr c36
                      have c36b1 : (a1 != t133) = true := bne_iff_ne.mpr c36
                      replace H := Option.bind_eq_some_iff.mp H
                      obtain ⟨t135, A370, H⟩ := H
                      replace H : (if (wrap64 (-a1)) = 0 then (none) else (if (wrap64 (-a0)) > (wrap64 (Int.tdiv t135 (wrap64 (-a1)))) then (some (0, false)) else (some (wrap64 (a0 * a1), true)))) = some (r1, r2) := H
                      have A37 := Aside0.mk A370
                      clear A370
                      by_cases c38 : (wrap64 (-a1)) = 0
                      · rw [if_pos c38] at H
                        exact absurd H (by simp)
                      · rw [if_neg c38] at H
                        have c38b0 : ((wrap64 (-a1)) == 0) = false := beq_eq_false_iff_ne.mpr c38
                        have c38b1 : ((wrap64 (-a1)) != 0) = true := bne_iff_ne.mpr c38
                        by_cases c39 : (wrap64 (-a0)) > (wrap64 (Int.tdiv t135 (wrap64 (-a1))))
                        · rw [if_pos c39] at H
                          have c39b0 : decide ((wrap64 (Int.tdiv t135 (wrap64 (-a1)))) < (wrap64 (-a0))) = true := decide_eq_true c39
                          clear c39
                          simp only [Option.some.injEq, Prod.mk.injEq] at H
                          obtain ⟨rfl, rfl⟩ := H
                          go_wp2_with (first | (go_at_call 30; (with_reducible refine (millwrightref01_Least.calls  t133 _ A33.out).mono ?_); rintro e w' ⟨rfl, ⟨nd, rfl⟩⟩) | (go_at_call 30; (with_reducible refine (millwrightref01_Least.calls  t133 _ A35.out).mono ?_); rintro e w' ⟨rfl, ⟨nd, rfl⟩⟩) | (go_at_call 29; (with_reducible refine (millwrightref01_Most.calls  t135 _ A37.out).mono ?_); rintro e w' ⟨rfl, ⟨nd, rfl⟩⟩))
                          go_ret2
                          exact ⟨by first | rfl | (simp; done) | (simp [*]; done), by repeat (first | exact Drawn0.refl _ | apply Drawn0.step)⟩
                        · rw [if_neg c39] at H
                          have c39b0 : decide ((wrap64 (Int.tdiv t135 (wrap64 (-a1)))) < (wrap64 (-a0))) = false := decide_eq_false c39
                          clear c39
                          simp only [Option.some.injEq, Prod.mk.injEq] at H
                          obtain ⟨rfl, rfl⟩ := H
                          go_wp2_with (first | (go_at_call 30; (with_reducible refine (millwrightref01_Least.calls  t133 _ A33.out).mono ?_); rintro e w' ⟨rfl, ⟨nd, rfl⟩⟩) | (go_at_call 30; (with_reducible refine (millwrightref01_Least.calls  t133 _ A35.out).mono ?_); rintro e w' ⟨rfl, ⟨nd, rfl⟩⟩) | (go_at_call 29; (with_reducible refine (millwrightref01_Most.calls  t135 _ A37.out).mono ?_); rintro e w' ⟨rfl, ⟨nd, rfl⟩⟩))
                          go_ret2
                          exact ⟨by first | rfl | (simp; done) | (simp [*]; done), by repeat (first | exact Drawn0.refl _ | apply Drawn0.step)⟩
                · rw [if_neg c32] at H
                  have c32b0 : decide (a1 < 0) = false := decide_eq_false c32
                  clear c32
                  simp only [Option.some.injEq, Prod.mk.injEq] at H
                  obtain ⟨rfl, rfl⟩ := H
                  go_wp2
                  go_ret2
                  exact ⟨by first | rfl | (simp; done) | (simp [*]; done), by repeat (first | exact Drawn0.refl _ | apply Drawn0.step)⟩
              · rw [if_neg c31] at H
                have c31b0 : decide (a0 < 0) = false := decide_eq_false c31
                clear c31
                simp only [Option.some.injEq, Prod.mk.injEq] at H
                obtain ⟨rfl, rfl⟩ := H
                go_wp2
                go_ret2
                exact ⟨by first | rfl | (simp; done) | (simp [*]; done), by repeat (first | exact Drawn0.refl _ | apply Drawn0.step)⟩

/-! ### millwrightlaw01_NumTimes: function 3 -/
def millwrightlaw01_NumTimes.f (k : Nat) (a0 : Int) (a1 : Int) : Option (Bool) := (millwrightlaw01_shown.f k).bind fun t136 => ((num_Mul.f a0 a1).bind fun bt137 => ((millwrightref01_Mul.f k a0 a1).bind fun bt139 => ((num_Mul.f a1 a0).bind fun bt141 => (if t136 = true then (if bt137.1 = bt139.1 then (if (bt137.2 == bt139.2) = true then (if bt141.1 = bt137.1 then (some (bt141.2 == bt137.2)) else (some false)) else (some false)) else (some false)) else (some false)))))
theorem millwrightlaw01_NumTimes.mono : ∀ a0 a1 k, LeO (millwrightlaw01_NumTimes.f k a0 a1) (millwrightlaw01_NumTimes.f (k + 1) a0 a1) := by
  intro a0 a1 k
  unfold millwrightlaw01_NumTimes.f
  repeat' first
      | (with_reducible exact millwrightlaw01_shown.mono _)
      | (with_reducible exact millwrightref01_Mul.mono _ _ _)
      | (with_reducible exact LeO.refl _)
      | (with_reducible exact LeO.none _)
      | (with_reducible refine LeO.ite ?_ ?_)
      | (with_reducible refine LeO.bind ?_ (fun _ => ?_))
      | exact millwrightlaw01_shown.mono _
      | exact millwrightref01_Mul.mono _ _ _
      | exact LeO.none _
      | refine LeO.ite ?_ ?_
      | refine LeO.bind ?_ (fun _ => ?_)
set_option maxHeartbeats 8000000 in
set_option maxRecDepth 100000 in
theorem millwrightlaw01_NumTimes.calls (k : Nat) (a0 : Int) (a1 : Int) (r : Bool) (w : World) (h : millwrightlaw01_NumTimes.f k a0 a1 = some r) (HT : NumA.Tab w) :
    Calls Tryd.prog 3 #[.int .i64 a0, .int .i64 a1] w fun e w' => e = .returned (.bool r) ∧ Below w.heap.size w w' := by
  have HB := Aside0.mk (Below.refl w.heap.size w)
  have H : ((millwrightlaw01_shown.f k).bind fun t136 => ((num_Mul.f a0 a1).bind fun bt137 => ((millwrightref01_Mul.f k a0 a1).bind fun bt139 => ((num_Mul.f a1 a0).bind fun bt141 => (if t136 = true then (if bt137.1 = bt139.1 then (if (bt137.2 == bt139.2) = true then (if bt141.1 = bt137.1 then (some (bt141.2 == bt137.2)) else (some false)) else (some false)) else (some false)) else (some false)))))) = some r := h
  clear h
  replace H := Option.bind_eq_some_iff.mp H
  obtain ⟨t136, A30, H⟩ := H
  replace H : ((num_Mul.f a0 a1).bind fun bt137 => ((millwrightref01_Mul.f k a0 a1).bind fun bt139 => ((num_Mul.f a1 a0).bind fun bt141 => (if t136 = true then (if bt137.1 = bt139.1 then (if (bt137.2 == bt139.2) = true then (if bt141.1 = bt137.1 then (some (bt141.2 == bt137.2)) else (some false)) else (some false)) else (some false)) else (some false))))) = some r := H
  have A3 := Aside0.mk A30
  clear A30
  replace H := Option.bind_eq_some_iff.mp H
  obtain ⟨⟨t137, t138⟩, A40, H⟩ := H
  replace H : ((millwrightref01_Mul.f k a0 a1).bind fun bt139 => ((num_Mul.f a1 a0).bind fun bt141 => (if t136 = true then (if t137 = bt139.1 then (if (t138 == bt139.2) = true then (if bt141.1 = t137 then (some (bt141.2 == t138)) else (some false)) else (some false)) else (some false)) else (some false)))) = some r := H
  have A4 := Aside0.mk A40
  clear A40
  replace H := Option.bind_eq_some_iff.mp H
  obtain ⟨⟨t139, t140⟩, A50, H⟩ := H
  replace H : ((num_Mul.f a1 a0).bind fun bt141 => (if t136 = true then (if t137 = t139 then (if (t138 == t140) = true then (if bt141.1 = t137 then (some (bt141.2 == t138)) else (some false)) else (some false)) else (some false)) else (some false))) = some r := H
  have A5 := Aside0.mk A50
  clear A50
  replace H := Option.bind_eq_some_iff.mp H
  obtain ⟨⟨t141, t142⟩, A60, H⟩ := H
  replace H : (if t136 = true then (if t137 = t139 then (if (t138 == t140) = true then (if t141 = t137 then (some (t142 == t138)) else (some false)) else (some false)) else (some false)) else (some false)) = some r := H
  have A6 := Aside0.mk A60
  clear A60
  by_cases c7 : t136 = true
  · subst c7
    have H1 : (if t137 = t139 then (if (t138 == t140) = true then (if t141 = t137 then (some (t142 == t138)) else (some false)) else (some false)) else (some false)) = some r := by rw [if_pos rfl] at H; exact H
    clear H
    have H := H1
    clear H1
    by_cases c8 : t137 = t139
    · rw [if_pos c8] at H
      have c8b0 : (t137 == t139) = true := beq_iff_eq.mpr c8
      have c8b1 : (t137 != t139) = false := bne_eq_false_iff_eq.mpr c8
      clear c8
      by_cases c9 : (t138 == t140) = true
      · rw [if_pos c9] at H
        have c9b0 : (t138 == t140) = true := c9
        (try (have c9b1 : decide (t138 = t140) = true := by simpa using c9))
        (try (have c9b2 : (t138 == t140) = true := by simpa using c9))
        clear c9
        by_cases c10 : t141 = t137
        · rw [if_pos c10] at H
          have c10b0 : (t141 == t137) = true := beq_iff_eq.mpr c10
          have c10b1 : (t141 != t137) = false := bne_eq_false_iff_eq.mpr c10
          clear c10
          obtain rfl := Option.some.inj H
          go_enter Tryd.func3, Tryd.ntmps3
          go_wp2_with (first | ((with_reducible refine gate_callee (f := 13) rfl ?_); refine goesL_ (some 12) rfl rfl Tryd.func13 (by kernel_rfl) rfl #[] rfl (by (try simp only [List.map_toArray, List.map_cons, List.map_nil]); first | done | rfl | (simp only [List.length_drop, List.length_take]; rfl)) ?_; (with_reducible refine (millwrightlaw01_shown.calls k  true _ A3.out (NumA.Tab.below HT (by repeat (first | (with_reducible first | exact HB.out | apply below_alloc | apply pw_below_drewN | apply below_drew1) | exact HB.out)))).mono ?_); rintro e w11 ⟨rfl, hb⟩; refine ⟨_, rfl, ?_⟩; have n0_ := Aside0.mk (below_step (by repeat (first | (with_reducible first | exact HB.out | apply below_alloc | apply pw_below_drewN | apply below_drew1) | exact HB.out)) hb); clear HB; have HB := n0_; clear n0_; (try clear hb); (try clear hb2); (try clear hk); (try clear hi)) | ((with_reducible refine gate_callee (f := 14) rfl ?_); refine goesL_ (some 16) rfl rfl Tryd.func14 (by kernel_rfl) rfl #[.int .i64 a0, .int .i64 a1] rfl (by (try simp only [List.map_toArray, List.map_cons, List.map_nil]); first | done | rfl | (simp only [List.length_drop, List.length_take]; rfl)) ?_; (with_reducible refine (num_Mul.calls a0 a1 t137 t138 _ A4.out).mono ?_); rintro e w' ⟨rfl, ⟨nd, rfl⟩⟩; refine ⟨_, rfl, ?_⟩) | ((with_reducible refine gate_callee (f := 15) rfl ?_); refine goesL_ (some 22) rfl rfl Tryd.func15 (by kernel_rfl) rfl #[.int .i64 a0, .int .i64 a1] rfl (by (try simp only [List.map_toArray, List.map_cons, List.map_nil]); first | done | rfl | (simp only [List.length_drop, List.length_take]; rfl)) ?_; (with_reducible refine (millwrightref01_Mul.calls k a0 a1 t139 t140 _ A5.out).mono ?_); rintro e w' ⟨rfl, ⟨nd, rfl⟩⟩; refine ⟨_, rfl, ?_⟩) | ((with_reducible refine gate_callee (f := 14) rfl ?_); refine goesL_ (some 28) rfl rfl Tryd.func14 (by kernel_rfl) rfl #[.int .i64 a1, .int .i64 a0] rfl (by (try simp only [List.map_toArray, List.map_cons, List.map_nil]); first | done | rfl | (simp only [List.length_drop, List.length_take]; rfl)) ?_; (with_reducible refine (num_Mul.calls a1 a0 t141 t142 _ A6.out).mono ?_); rintro e w' ⟨rfl, ⟨nd, rfl⟩⟩; refine ⟨_, rfl, ?_⟩))
          go_ret
          exact ⟨by first | rfl | (simp [errW_none, errW_some] <;> rfl) | (simp [*, errW_none, errW_some] <;> rfl), by repeat (first | (with_reducible first | exact HB.out | apply below_alloc | apply pw_below_drewN | apply below_drew1) | exact HB.out)⟩
        · rw [if_neg c10] at H
          have c10b0 : (t141 == t137) = false := beq_eq_false_iff_ne.mpr c10
          have c10b1 : (t141 != t137) = true := bne_iff_ne.mpr c10
          obtain rfl := Option.some.inj H
          go_enter Tryd.func3, Tryd.ntmps3
          go_wp2_with (first | ((with_reducible refine gate_callee (f := 13) rfl ?_); refine goesL_ (some 12) rfl rfl Tryd.func13 (by kernel_rfl) rfl #[] rfl (by (try simp only [List.map_toArray, List.map_cons, List.map_nil]); first | done | rfl | (simp only [List.length_drop, List.length_take]; rfl)) ?_; (with_reducible refine (millwrightlaw01_shown.calls k  true _ A3.out (NumA.Tab.below HT (by repeat (first | (with_reducible first | exact HB.out | apply below_alloc | apply pw_below_drewN | apply below_drew1) | exact HB.out)))).mono ?_); rintro e w12 ⟨rfl, hb⟩; refine ⟨_, rfl, ?_⟩; have n0_ := Aside0.mk (below_step (by repeat (first | (with_reducible first | exact HB.out | apply below_alloc | apply pw_below_drewN | apply below_drew1) | exact HB.out)) hb); clear HB; have HB := n0_; clear n0_; (try clear hb); (try clear hb2); (try clear hk); (try clear hi)) | ((with_reducible refine gate_callee (f := 14) rfl ?_); refine goesL_ (some 16) rfl rfl Tryd.func14 (by kernel_rfl) rfl #[.int .i64 a0, .int .i64 a1] rfl (by (try simp only [List.map_toArray, List.map_cons, List.map_nil]); first | done | rfl | (simp only [List.length_drop, List.length_take]; rfl)) ?_; (with_reducible refine (num_Mul.calls a0 a1 t137 t138 _ A4.out).mono ?_); rintro e w' ⟨rfl, ⟨nd, rfl⟩⟩; refine ⟨_, rfl, ?_⟩) | ((with_reducible refine gate_callee (f := 15) rfl ?_); refine goesL_ (some 22) rfl rfl Tryd.func15 (by kernel_rfl) rfl #[.int .i64 a0, .int .i64 a1] rfl (by (try simp only [List.map_toArray, List.map_cons, List.map_nil]); first | done | rfl | (simp only [List.length_drop, List.length_take]; rfl)) ?_; (with_reducible refine (millwrightref01_Mul.calls k a0 a1 t139 t140 _ A5.out).mono ?_); rintro e w' ⟨rfl, ⟨nd, rfl⟩⟩; refine ⟨_, rfl, ?_⟩) | ((with_reducible refine gate_callee (f := 14) rfl ?_); refine goesL_ (some 28) rfl rfl Tryd.func14 (by kernel_rfl) rfl #[.int .i64 a1, .int .i64 a0] rfl (by (try simp only [List.map_toArray, List.map_cons, List.map_nil]); first | done | rfl | (simp only [List.length_drop, List.length_take]; rfl)) ?_; (with_reducible refine (num_Mul.calls a1 a0 t141 t142 _ A6.out).mono ?_); rintro e w' ⟨rfl, ⟨nd, rfl⟩⟩; refine ⟨_, rfl, ?_⟩))
          go_ret
          exact ⟨by first | rfl | (simp [errW_none, errW_some] <;> rfl) | (simp [*, errW_none, errW_some] <;> rfl), by repeat (first | (with_reducible first | exact HB.out | apply below_alloc | apply pw_below_drewN | apply below_drew1) | exact HB.out)⟩
      · rw [if_neg c9] at H
        have c9b0 : (t138 == t140) = false := by simpa using c9
        (try (have c9b1 : decide (t138 = t140) = false := by simpa using c9))
        (try (have c9b2 : (t138 == t140) = false := by simpa using c9))
        (try (have c9b3 : ¬ (t138 = t140) := by simpa using c9))
        clear c9
        obtain rfl := Option.some.inj H
        go_enter Tryd.func3, Tryd.ntmps3
        go_wp2_with (first | ((with_reducible refine gate_callee (f := 13) rfl ?_); refine goesL_ (some 12) rfl rfl Tryd.func13 (by kernel_rfl) rfl #[] rfl (by (try simp only [List.map_toArray, List.map_cons, List.map_nil]); first | done | rfl | (simp only [List.length_drop, List.length_take]; rfl)) ?_; (with_reducible refine (millwrightlaw01_shown.calls k  true _ A3.out (NumA.Tab.below HT (by repeat (first | (with_reducible first | exact HB.out | apply below_alloc | apply pw_below_drewN | apply below_drew1) | exact HB.out)))).mono ?_); rintro e w13 ⟨rfl, hb⟩; refine ⟨_, rfl, ?_⟩; have n0_ := Aside0.mk (below_step (by repeat (first | (with_reducible first | exact HB.out | apply below_alloc | apply pw_below_drewN | apply below_drew1) | exact HB.out)) hb); clear HB; have HB := n0_; clear n0_; (try clear hb); (try clear hb2); (try clear hk); (try clear hi)) | ((with_reducible refine gate_callee (f := 14) rfl ?_); refine goesL_ (some 16) rfl rfl Tryd.func14 (by kernel_rfl) rfl #[.int .i64 a0, .int .i64 a1] rfl (by (try simp only [List.map_toArray, List.map_cons, List.map_nil]); first | done | rfl | (simp only [List.length_drop, List.length_take]; rfl)) ?_; (with_reducible refine (num_Mul.calls a0 a1 t137 t138 _ A4.out).mono ?_); rintro e w' ⟨rfl, ⟨nd, rfl⟩⟩; refine ⟨_, rfl, ?_⟩) | ((with_reducible refine gate_callee (f := 15) rfl ?_); refine goesL_ (some 22) rfl rfl Tryd.func15 (by kernel_rfl) rfl #[.int .i64 a0, .int .i64 a1] rfl (by (try simp only [List.map_toArray, List.map_cons, List.map_nil]); first | done | rfl | (simp only [List.length_drop, List.length_take]; rfl)) ?_; (with_reducible refine (millwrightref01_Mul.calls k a0 a1 t139 t140 _ A5.out).mono ?_); rintro e w' ⟨rfl, ⟨nd, rfl⟩⟩; refine ⟨_, rfl, ?_⟩) | ((with_reducible refine gate_callee (f := 14) rfl ?_); refine goesL_ (some 28) rfl rfl Tryd.func14 (by kernel_rfl) rfl #[.int .i64 a1, .int .i64 a0] rfl (by (try simp only [List.map_toArray, List.map_cons, List.map_nil]); first | done | rfl | (simp only [List.length_drop, List.length_take]; rfl)) ?_; (with_reducible refine (num_Mul.calls a1 a0 t141 t142 _ A6.out).mono ?_); rintro e w' ⟨rfl, ⟨nd, rfl⟩⟩; refine ⟨_, rfl, ?_⟩))
        go_ret
        exact ⟨by first | rfl | (simp [errW_none, errW_some] <;> rfl) | (simp [*, errW_none, errW_some] <;> rfl), by repeat (first | (with_reducible first | exact HB.out | apply below_alloc | apply pw_below_drewN | apply below_drew1) | exact HB.out)⟩
    · rw [if_neg c8] at H
      have c8b0 : (t137 == t139) = false := beq_eq_false_iff_ne.mpr c8
      have c8b1 : (t137 != t139) = true := bne_iff_ne.mpr c8
      obtain rfl := Option.some.inj H
      go_enter Tryd.func3, Tryd.ntmps3
      go_wp2_with (first | ((with_reducible refine gate_callee (f := 13) rfl ?_); refine goesL_ (some 12) rfl rfl Tryd.func13 (by kernel_rfl) rfl #[] rfl (by (try simp only [List.map_toArray, List.map_cons, List.map_nil]); first | done | rfl | (simp only [List.length_drop, List.length_take]; rfl)) ?_; (with_reducible refine (millwrightlaw01_shown.calls k  true _ A3.out (NumA.Tab.below HT (by repeat (first | (with_reducible first | exact HB.out | apply below_alloc | apply pw_below_drewN | apply below_drew1) | exact HB.out)))).mono ?_); rintro e w14 ⟨rfl, hb⟩; refine ⟨_, rfl, ?_⟩; have n0_ := Aside0.mk (below_step (by repeat (first | (with_reducible first | exact HB.out | apply below_alloc | apply pw_below_drewN | apply below_drew1) | exact HB.out)) hb); clear HB; have HB := n0_; clear n0_; (try clear hb); (try clear hb2); (try clear hk); (try clear hi)) | ((with_reducible refine gate_callee (f := 14) rfl ?_); refine goesL_ (some 16) rfl rfl Tryd.func14 (by kernel_rfl) rfl #[.int .i64 a0, .int .i64 a1] rfl (by (try simp only [List.map_toArray, List.map_cons, List.map_nil]); first | done | rfl | (simp only [List.length_drop, List.length_take]; rfl)) ?_; (with_reducible refine (num_Mul.calls a0 a1 t137 t138 _ A4.out).mono ?_); rintro e w' ⟨rfl, ⟨nd, rfl⟩⟩; refine ⟨_, rfl, ?_⟩) | ((with_reducible refine gate_callee (f := 15) rfl ?_); refine goesL_ (some 22) rfl rfl Tryd.func15 (by kernel_rfl) rfl #[.int .i64 a0, .int .i64 a1] rfl (by (try simp only [List.map_toArray, List.map_cons, List.map_nil]); first | done | rfl | (simp only [List.length_drop, List.length_take]; rfl)) ?_; (with_reducible refine (millwrightref01_Mul.calls k a0 a1 t139 t140 _ A5.out).mono ?_); rintro e w' ⟨rfl, ⟨nd, rfl⟩⟩; refine ⟨_, rfl, ?_⟩) | ((with_reducible refine gate_callee (f := 14) rfl ?_); refine goesL_ (some 28) rfl rfl Tryd.func14 (by kernel_rfl) rfl #[.int .i64 a1, .int .i64 a0] rfl (by (try simp only [List.map_toArray, List.map_cons, List.map_nil]); first | done | rfl | (simp only [List.length_drop, List.length_take]; rfl)) ?_; (with_reducible refine (num_Mul.calls a1 a0 t141 t142 _ A6.out).mono ?_); rintro e w' ⟨rfl, ⟨nd, rfl⟩⟩; refine ⟨_, rfl, ?_⟩))
      go_ret
      exact ⟨by first | rfl | (simp [errW_none, errW_some] <;> rfl) | (simp [*, errW_none, errW_some] <;> rfl), by repeat (first | (with_reducible first | exact HB.out | apply below_alloc | apply pw_below_drewN | apply below_drew1) | exact HB.out)⟩
  · replace c7 := Bool.eq_false_iff.mpr c7
    subst c7
    have H1 : (some false) = some r := by rw [if_neg (show ¬ (false = true) by decide)] at H; exact H
    clear H
    have H := H1
    clear H1
    obtain rfl := Option.some.inj H
    go_enter Tryd.func3, Tryd.ntmps3
    go_wp2_with (first | ((with_reducible refine gate_callee (f := 13) rfl ?_); refine goesL_ (some 12) rfl rfl Tryd.func13 (by kernel_rfl) rfl #[] rfl (by (try simp only [List.map_toArray, List.map_cons, List.map_nil]); first | done | rfl | (simp only [List.length_drop, List.length_take]; rfl)) ?_; (with_reducible refine (millwrightlaw01_shown.calls k  false _ A3.out (NumA.Tab.below HT (by repeat (first | (with_reducible first | exact HB.out | apply below_alloc | apply pw_below_drewN | apply below_drew1) | exact HB.out)))).mono ?_); rintro e w15 ⟨rfl, hb⟩; refine ⟨_, rfl, ?_⟩; have n0_ := Aside0.mk (below_step (by repeat (first | (with_reducible first | exact HB.out | apply below_alloc | apply pw_below_drewN | apply below_drew1) | exact HB.out)) hb); clear HB; have HB := n0_; clear n0_; (try clear hb); (try clear hb2); (try clear hk); (try clear hi)) | ((with_reducible refine gate_callee (f := 14) rfl ?_); refine goesL_ (some 16) rfl rfl Tryd.func14 (by kernel_rfl) rfl #[.int .i64 a0, .int .i64 a1] rfl (by (try simp only [List.map_toArray, List.map_cons, List.map_nil]); first | done | rfl | (simp only [List.length_drop, List.length_take]; rfl)) ?_; (with_reducible refine (num_Mul.calls a0 a1 t137 t138 _ A4.out).mono ?_); rintro e w' ⟨rfl, ⟨nd, rfl⟩⟩; refine ⟨_, rfl, ?_⟩) | ((with_reducible refine gate_callee (f := 15) rfl ?_); refine goesL_ (some 22) rfl rfl Tryd.func15 (by kernel_rfl) rfl #[.int .i64 a0, .int .i64 a1] rfl (by (try simp only [List.map_toArray, List.map_cons, List.map_nil]); first | done | rfl | (simp only [List.length_drop, List.length_take]; rfl)) ?_; (with_reducible refine (millwrightref01_Mul.calls k a0 a1 t139 t140 _ A5.out).mono ?_); rintro e w' ⟨rfl, ⟨nd, rfl⟩⟩; refine ⟨_, rfl, ?_⟩) | ((with_reducible refine gate_callee (f := 14) rfl ?_); refine goesL_ (some 28) rfl rfl Tryd.func14 (by kernel_rfl) rfl #[.int .i64 a1, .int .i64 a0] rfl (by (try simp only [List.map_toArray, List.map_cons, List.map_nil]); first | done | rfl | (simp only [List.length_drop, List.length_take]; rfl)) ?_; (with_reducible refine (num_Mul.calls a1 a0 t141 t142 _ A6.out).mono ?_); rintro e w' ⟨rfl, ⟨nd, rfl⟩⟩; refine ⟨_, rfl, ?_⟩))
    go_ret
    exact ⟨by first | rfl | (simp [errW_none, errW_some] <;> rfl) | (simp [*, errW_none, errW_some] <;> rfl), by repeat (first | (with_reducible first | exact HB.out | apply below_alloc | apply pw_below_drewN | apply below_drew1) | exact HB.out)⟩

/-- THE ONE PURE STATEMENT of millwrightlaw01_NumTimes: yours. -/
def millwrightlaw01_NumTimes.Pure : Prop := ∀ (a0 : Int) (a1 : Int), (Lit.int .i64 a0).wf = true → (Lit.int .i64 a1).wf = true → ∃ k, millwrightlaw01_NumTimes.f k a0 a1 = some true
theorem millwrightlaw01_NumTimes.walk (P : millwrightlaw01_NumTimes.Pure) (a0 : Int) (a1 : Int) (w : World) (w0 : (Lit.int .i64 a0).wf = true) (w1 : (Lit.int .i64 a1).wf = true) (HT : NumA.Tab w) :
    Calls Tryd.prog 3 #[.int .i64 a0, .int .i64 a1] w fun e w' => e = .returned (.bool true) ∧ Below w.heap.size w w' := by
  obtain ⟨k, h⟩ := P a0 a1 w0 w1
  refine (millwrightlaw01_NumTimes.calls k a0 a1 true w h HT).mono ?_
  rintro e w' ⟨rfl, hd⟩
  exact ⟨rfl, hd⟩

end Go.Proofs.YtbjkfafjcflggaaDoor.PNumTimes
