-- Printed for this claim by a program of this project's own, over the kit's printer; some functions are told by hand.
import Derived.Test.YtckcepmkfegkiaaDoorPTraceTellsx0
namespace Go.Proofs.YtckcepmkfegkiaaDoor.PTraceTells
open Go.RowKit Go.Proofs.YtckcepmkfegkiaaDoorW.PrintWords Go.Proofs.YtckcepmkfegkiaaDoorW.PrintLast Go.Proofs.YtckcepmkfegkiaaDoorW.PrintMore
attribute [local go_sem] max2_int min2_int max_two min_two max_three min_three max_four min_four   -- for this text's walks alone
set_option linter.unusedVariables false
set_option linter.unusedSimpArgs false
def trace_Audit.g1 (x : S50) : TrS.Tsk := ⟨x.f0, x.f1⟩
def trace_Audit.g2 (x : S42) : TrS.Ev := ⟨x.f0, x.f1, x.f2, x.f3, x.f4⟩
def trace_Audit.f (a0_0 : Int) (a0_1 : Int) (a0_2 : Int) (a0_3 : Int) (a0_4 : Int) (a0_5 : Int) (a0_6 : Int) (a0_7 : Int) (a0_8 : Int) (a0_9 : Int) (l1 : List S50) (l2 : List S42) : Option (Int × Int) := if l1.length ≤ 4398046511104 ∧ l2.length ≤ 4398046511104 then some (TrS.audit ⟨a0_0, a0_1, a0_2, a0_3, a0_4, a0_5, a0_6, a0_7, a0_8, a0_9⟩ (l1.map trace_Audit.g1) (l2.map trace_Audit.g2)) else none
theorem trace_Audit.calls (a0_0 : Int) (a0_1 : Int) (a0_2 : Int) (a0_3 : Int) (a0_4 : Int) (a0_5 : Int) (a0_6 : Int) (a0_7 : Int) (a0_8 : Int) (a0_9 : Int) (A1 : Option Addr) (c1 : Nat) (l1 : List S50) (A2 : Option Addr) (c2 : Nat) (l2 : List S42) (r1 : Int) (r2 : Int) (w : World) (hr1 : Kd.C k50 w A1 l1.length l1) (hc1 : l1.length ≤ c1) (hr2 : Kd.C k42 w A2 l2.length l2) (hc2 : l2.length ≤ c2) (h : trace_Audit.f a0_0 a0_1 a0_2 a0_3 a0_4 a0_5 a0_6 a0_7 a0_8 a0_9 l1 l2 = some (r1, r2)) (HT : TrL.Laid w) {n1 n2 : Nat} (hn1 : l1.length = n1 := by first | rfl | exact LexE.take_len (of_decide_eq_true (by assumption)) (of_decide_eq_true (by assumption))) (hn2 : l2.length = n2 := by first | rfl | exact LexE.take_len (of_decide_eq_true (by assumption)) (of_decide_eq_true (by assumption))) :
    Calls Tryd.prog 15 #[.agg #[.int .i64 a0_0, .int .i64 a0_1, .int .i64 a0_2, .int .i64 a0_3, .int .i64 a0_4, .int .i64 a0_5, .int .i64 a0_6, .int .i64 a0_7, .int .i64 a0_8, .int .i64 a0_9], .slice A1 n1 c1, .slice A2 n2 c2] w fun e w' => e = .returned (.tuple #[.int .i64 r1, .int .i64 r2]) ∧ Below w.heap.size w w' := by
  simp only [trace_Audit.f] at h
  split at h
  · rename_i hs
    subst hn1
    subst hn2
    exact TrSh.audit_b ⟨a0_0, a0_1, a0_2, a0_3, a0_4, a0_5, a0_6, a0_7, a0_8, a0_9⟩ (l1.map trace_Audit.g1) (l2.map trace_Audit.g2) A1 c1 A2 c2 w r1 r2 (Option.some.inj h) _ _ (List.length_map _) (List.length_map _) (TrL.C_map trace_Audit.g1 rfl (fun _ _ _ h => h) hr1) (TrL.C_map trace_Audit.g2 rfl (fun _ _ _ h => h) hr2) HT.2.1 hs.1 hs.2
  · exact absurd h (by simp)
def millwrightlaw19_shown.f : Option Bool := some true
theorem millwrightlaw19_shown.calls (r : Bool) (w : World) (h : millwrightlaw19_shown.f = some r) (HT : TrL.Laid w) :
    Calls Tryd.prog 14 #[] w fun e w' => e = .returned (.bool r) ∧ Below w.heap.size w w' := by
  simp only [millwrightlaw19_shown.f, Option.some.injEq] at h
  subst h
  exact TrL.shown_calls w HT
def millwrightref01_Most.f  : Option (Int) := some 9223372036854775807
set_option maxHeartbeats 8000000 in
set_option maxRecDepth 100000 in
theorem millwrightref01_Most.calls  (r : Int) (w : World) (h : millwrightref01_Most.f  = some r) :
    Calls Tryd.prog 35 #[] w fun e w' => e = .returned (.int .i64 r) ∧ Drawn0 w w' := by
  have H : (some 9223372036854775807) = some r := h
  clear h
  obtain rfl := Option.some.inj H
  go_enter Tryd.func35, Tryd.ntmps35
  go_wp2
  go_ret
  exact ⟨by first | rfl | (simp; done) | (simp [*]; done), by repeat (first | exact Drawn0.refl _ | apply Drawn0.step)⟩
def millwrightref01_Least.f  : Option (Int) := some (-9223372036854775808)
set_option maxHeartbeats 8000000 in
set_option maxRecDepth 100000 in
theorem millwrightref01_Least.calls  (r : Int) (w : World) (h : millwrightref01_Least.f  = some r) :
    Calls Tryd.prog 36 #[] w fun e w' => e = .returned (.int .i64 r) ∧ Drawn0 w w' := by
  have H : (some (-9223372036854775808)) = some r := h
  clear h
  obtain rfl := Option.some.inj H
  go_enter Tryd.func36, Tryd.ntmps36
  go_wp2
  go_ret
  exact ⟨by first | rfl | (simp; done) | (simp [*]; done), by repeat (first | exact Drawn0.refl _ | apply Drawn0.step)⟩
def millwrightref01_Add.f (a0 : Int) (a1 : Int) : Option (Int × Bool) := if a1 > 0 then ((millwrightref01_Most.f).bind fun t101 => (if a0 > (wrap64 (t101 - a1)) then (some (0, false)) else (if a1 < 0 then ((millwrightref01_Least.f).bind fun t102 => (if a0 < (wrap64 (t102 - a1)) then (some (0, false)) else (some (wrap64 (a0 + a1), true)))) else (some (wrap64 (a0 + a1), true))))) else (if a1 < 0 then ((millwrightref01_Least.f).bind fun t103 => (if a0 < (wrap64 (t103 - a1)) then (some (0, false)) else (some (wrap64 (a0 + a1), true)))) else (some (wrap64 (a0 + a1), true)))
set_option maxHeartbeats 8000000 in
set_option maxRecDepth 100000 in
theorem millwrightref01_Add.calls (a0 : Int) (a1 : Int) (r1 : Int) (r2 : Bool) (w : World) (h : millwrightref01_Add.f a0 a1 = some (r1, r2)) :
    Calls Tryd.prog 22 #[.int .i64 a0, .int .i64 a1] w fun e w' => e = .returned (.tuple #[.int .i64 r1, .bool r2]) ∧ Drawn0 w w' := by
  have H : (if a1 > 0 then ((millwrightref01_Most.f).bind fun t101 => (if a0 > (wrap64 (t101 - a1)) then (some (0, false)) else (if a1 < 0 then ((millwrightref01_Least.f).bind fun t102 => (if a0 < (wrap64 (t102 - a1)) then (some (0, false)) else (some (wrap64 (a0 + a1), true)))) else (some (wrap64 (a0 + a1), true))))) else (if a1 < 0 then ((millwrightref01_Least.f).bind fun t103 => (if a0 < (wrap64 (t103 - a1)) then (some (0, false)) else (some (wrap64 (a0 + a1), true)))) else (some (wrap64 (a0 + a1), true)))) = some (r1, r2) := h
  clear h
  by_cases c3 : a1 > 0
  · rw [if_pos c3] at H
    have c3b0 : decide (0 < a1) = true := decide_eq_true c3
    clear c3
    replace H := Option.bind_eq_some_iff.mp H
    obtain ⟨t101, A40, H⟩ := H
    replace H : (if a0 > (wrap64 (t101 - a1)) then (some (0, false)) else (if a1 < 0 then ((millwrightref01_Least.f).bind fun t102 => (if a0 < (wrap64 (t102 - a1)) then (some (0, false)) else (some (wrap64 (a0 + a1), true)))) else (some (wrap64 (a0 + a1), true)))) = some (r1, r2) := H
    have A4 := Aside0.mk A40
    clear A40
    by_cases c5 : a0 > (wrap64 (t101 - a1))
    · rw [if_pos c5] at H
      have c5b0 : decide ((wrap64 (t101 - a1)) < a0) = true := decide_eq_true c5
      clear c5
      simp only [Option.some.injEq, Prod.mk.injEq] at H
      obtain ⟨rfl, rfl⟩ := H
      go_enter Tryd.func22, Tryd.ntmps22
      go_wp2_with (first | (go_at_call 35; (with_reducible refine (millwrightref01_Most.calls  t101 _ A4.out).mono ?_); rintro e w' ⟨rfl, ⟨nd, rfl⟩⟩))
      go_ret2
      exact ⟨by first | rfl | (simp; done) | (simp [*]; done), by repeat (first | exact Drawn0.refl _ | apply Drawn0.step)⟩
    · rw [if_neg c5] at H
      have c5b0 : decide ((wrap64 (t101 - a1)) < a0) = false := decide_eq_false c5
      clear c5
      by_cases c6 : a1 < 0
      · rw [if_pos c6] at H
        have c6b0 : decide (a1 < 0) = true := decide_eq_true c6
        clear c6
        replace H := Option.bind_eq_some_iff.mp H
        obtain ⟨t102, A70, H⟩ := H
        replace H : (if a0 < (wrap64 (t102 - a1)) then (some (0, false)) else (some (wrap64 (a0 + a1), true))) = some (r1, r2) := H
        have A7 := Aside0.mk A70
        clear A70
        by_cases c8 : a0 < (wrap64 (t102 - a1))
        · rw [if_pos c8] at H
          have c8b0 : decide (a0 < (wrap64 (t102 - a1))) = true := decide_eq_true c8
          clear c8
          simp only [Option.some.injEq, Prod.mk.injEq] at H
          obtain ⟨rfl, rfl⟩ := H
          go_enter Tryd.func22, Tryd.ntmps22
          go_wp2_with (first | (go_at_call 35; (with_reducible refine (millwrightref01_Most.calls  t101 _ A4.out).mono ?_); rintro e w' ⟨rfl, ⟨nd, rfl⟩⟩) | (go_at_call 36; (with_reducible refine (millwrightref01_Least.calls  t102 _ A7.out).mono ?_); rintro e w' ⟨rfl, ⟨nd, rfl⟩⟩))
          go_ret2
          exact ⟨by first | rfl | (simp; done) | (simp [*]; done), by repeat (first | exact Drawn0.refl _ | apply Drawn0.step)⟩
        · rw [if_neg c8] at H
          have c8b0 : decide (a0 < (wrap64 (t102 - a1))) = false := decide_eq_false c8
          clear c8
          simp only [Option.some.injEq, Prod.mk.injEq] at H
          obtain ⟨rfl, rfl⟩ := H
          go_enter Tryd.func22, Tryd.ntmps22
          go_wp2_with (first | (go_at_call 35; (with_reducible refine (millwrightref01_Most.calls  t101 _ A4.out).mono ?_); rintro e w' ⟨rfl, ⟨nd, rfl⟩⟩) | (go_at_call 36; (with_reducible refine (millwrightref01_Least.calls  t102 _ A7.out).mono ?_); rintro e w' ⟨rfl, ⟨nd, rfl⟩⟩))
          go_ret2
          exact ⟨by first | rfl | (simp; done) | (simp [*]; done), by repeat (first | exact Drawn0.refl _ | apply Drawn0.step)⟩
      · rw [if_neg c6] at H
        have c6b0 : decide (a1 < 0) = false := decide_eq_false c6
        clear c6
        simp only [Option.some.injEq, Prod.mk.injEq] at H
        obtain ⟨rfl, rfl⟩ := H
        go_enter Tryd.func22, Tryd.ntmps22
        go_wp2_with (first | (go_at_call 35; (with_reducible refine (millwrightref01_Most.calls  t101 _ A4.out).mono ?_); rintro e w' ⟨rfl, ⟨nd, rfl⟩⟩))
        go_ret2
        exact ⟨by first | rfl | (simp; done) | (simp [*]; done), by repeat (first | exact Drawn0.refl _ | apply Drawn0.step)⟩
  · rw [if_neg c3] at H
    have c3b0 : decide (0 < a1) = false := decide_eq_false c3
    clear c3
    by_cases c9 : a1 < 0
    · rw [if_pos c9] at H
      have c9b0 : decide (a1 < 0) = true := decide_eq_true c9
      clear c9
      replace H := Option.bind_eq_some_iff.mp H
      obtain ⟨t103, A100, H⟩ := H
      replace H : (if a0 < (wrap64 (t103 - a1)) then (some (0, false)) else (some (wrap64 (a0 + a1), true))) = some (r1, r2) := H
      have A10 := Aside0.mk A100
      clear A100
      by_cases c11 : a0 < (wrap64 (t103 - a1))
      · rw [if_pos c11] at H
        have c11b0 : decide (a0 < (wrap64 (t103 - a1))) = true := decide_eq_true c11
        clear c11
        simp only [Option.some.injEq, Prod.mk.injEq] at H
        obtain ⟨rfl, rfl⟩ := H
        go_enter Tryd.func22, Tryd.ntmps22
        go_wp2_with (first | (go_at_call 36; (with_reducible refine (millwrightref01_Least.calls  t103 _ A10.out).mono ?_); rintro e w' ⟨rfl, ⟨nd, rfl⟩⟩))
        go_ret2
        exact ⟨by first | rfl | (simp; done) | (simp [*]; done), by repeat (first | exact Drawn0.refl _ | apply Drawn0.step)⟩
      · rw [if_neg c11] at H
        have c11b0 : decide (a0 < (wrap64 (t103 - a1))) = false := decide_eq_false c11
        clear c11
        simp only [Option.some.injEq, Prod.mk.injEq] at H
        obtain ⟨rfl, rfl⟩ := H
        go_enter Tryd.func22, Tryd.ntmps22
        go_wp2_with (first | (go_at_call 36; (with_reducible refine (millwrightref01_Least.calls  t103 _ A10.out).mono ?_); rintro e w' ⟨rfl, ⟨nd, rfl⟩⟩))
        go_ret2
        exact ⟨by first | rfl | (simp; done) | (simp [*]; done), by repeat (first | exact Drawn0.refl _ | apply Drawn0.step)⟩
    · rw [if_neg c9] at H
      have c9b0 : decide (a1 < 0) = false := decide_eq_false c9
      clear c9
      simp only [Option.some.injEq, Prod.mk.injEq] at H
      obtain ⟨rfl, rfl⟩ := H
      go_enter Tryd.func22, Tryd.ntmps22
      go_wp2
      go_ret2
      exact ⟨by first | rfl | (simp; done) | (simp [*]; done), by repeat (first | exact Drawn0.refl _ | apply Drawn0.step)⟩
def millwrightref19_last.l0 : Nat → List (S39) → Int → Int → Int → Option (Int)
  | 0, _, _, _, _ => none
  | k + 1, x0, x1, x5, x6 => if x6 < (x0.length : Int) then (if 0 ≤ x6 then (if ((rd_T39 x0 x6).f1) = x1 then (millwrightref19_last.l0 k x0 x1 x6 (wrap64 (x6 + 1))) else (millwrightref19_last.l0 k x0 x1 x5 (wrap64 (x6 + 1)))) else (none)) else (some x5)
def millwrightref19_last.f (k : Nat) (l0 : List (S39)) (a1 : Int) : Option (Int) := millwrightref19_last.l0 k l0 a1 (-1) 0
theorem millwrightref19_last.mono_l : ∀ k, (∀ y0 y1 y2 y3, LeO (millwrightref19_last.l0 k y0 y1 y2 y3) (millwrightref19_last.l0 (k + 1) y0 y1 y2 y3))
  | 0 => fun _ _ _ _ r h => by simp [millwrightref19_last.l0] at h
  | k + 1 => by
    have ih0 := millwrightref19_last.mono_l k
    · intro y0 y1 y2 y3
      unfold millwrightref19_last.l0
      repeat' first
      | (with_reducible exact ih0 _ _ _ _)
      | (with_reducible exact LeO.refl _)
      | (with_reducible exact LeO.none _)
      | (with_reducible refine LeO.ite ?_ ?_)
      | (with_reducible refine LeO.bind ?_ (fun _ => ?_))
      | exact ih0 _ _ _ _
      | exact LeO.none _
      | refine LeO.ite ?_ ?_
      | refine LeO.bind ?_ (fun _ => ?_)
theorem millwrightref19_last.mono : ∀ a0 a1 k, LeO (millwrightref19_last.f k a0 a1) (millwrightref19_last.f (k + 1) a0 a1) := by
  intro a0 a1 k
  have ih0 := millwrightref19_last.mono_l k
  unfold millwrightref19_last.f
  repeat' first
      | (with_reducible exact ih0 _ _ _ _)
      | (with_reducible exact LeO.refl _)
      | (with_reducible exact LeO.none _)
      | (with_reducible refine LeO.ite ?_ ?_)
      | (with_reducible refine LeO.bind ?_ (fun _ => ?_))
      | exact ih0 _ _ _ _
      | exact LeO.none _
      | refine LeO.ite ?_ ?_
      | refine LeO.bind ?_ (fun _ => ?_)
set_option maxHeartbeats 8000000 in
set_option maxRecDepth 100000 in
theorem millwrightref19_last.calls (k : Nat) (A0 : Option Addr) (c0 : Nat) (l0 : List (S39)) (a1 : Int) (r : Int) (w : World) (hr0 : Kd.C k39 w A0 l0.length l0) (hc0 : l0.length ≤ c0) (h : millwrightref19_last.f k l0 a1 = some r) :
    Calls Tryd.prog 41 #[.slice A0 l0.length c0, .int .i64 a1] w fun e w' => e = .returned (.int .i64 r) ∧ Drawn0 w w' := by
  have HR0 := Aside0.mk hr0
  have HC0 := Aside0.mk hc0
  clear hr0 hc0
  have H : (millwrightref19_last.l0 k l0 a1 (-1) 0) = some r := h
  clear h
  have H' := Aside0.mk H
  clear H
  go_enter Tryd.func41, Tryd.ntmps41
  go_wp2
  go_loopg [5, 6] k (fun kq v5 v6 w' => ∃ (x5_1 : Int) (x6_1 : Int), v5 = .int .i64 x5_1 ∧ v6 = .int .i64 x6_1 ∧ Aside0 (millwrightref19_last.l0 kq l0 a1 x5_1 x6_1 = some r) ∧ Aside0 (kq ≤ k) ∧ Drawn0 w w')
  case atStart => exact ⟨((-1)), (0), (by first | rfl | (simp; done) | (simp [*]; done)), (by first | rfl | (simp; done) | (simp [*]; done)), H', ⟨Nat.le_refl _⟩, by repeat (first | exact Drawn0.refl _ | apply Drawn0.step)⟩
  case round =>
    clear H'
    try clear p2
    obtain ⟨x5_1, x6_1, rfl, rfl, HA, HK1, ⟨m1, rfl⟩⟩ := hrel
    cases gk with
    | zero => exact absurd HA.out (by simp [millwrightref19_last.l0])
    | succ k1 =>
      have H := HA.out
      clear HA
      simp only [millwrightref19_last.l0] at H
      by_cases c3 : x6_1 < (l0.length : Int)
      · rw [if_pos c3] at H
        have c3b0 : decide (x6_1 < (l0.length : Int)) = true := decide_eq_true c3
        clear c3
        by_cases c4 : 0 ≤ x6_1
        · rw [if_pos c4] at H
          have c4b0 : decide (0 ≤ x6_1) = true := decide_eq_true c4
          clear c4
          by_cases c5 : ((rd_T39 l0 x6_1).f1) = a1
          · rw [if_pos c5] at H
            have c5b0 : (((rd_T39 l0 x6_1).f1) == a1) = true := beq_iff_eq.mpr c5
            have c5b1 : (((rd_T39 l0 x6_1).f1) != a1) = false := bne_eq_false_iff_eq.mpr c5
            clear c5
            have H' := Aside0.mk H
            clear H
            have p104 : 0 ≤ (x6_1 : Int) := of_decide_eq_true (by first | (with_reducible assumption) | assumption)
            have q104 : x6_1 < (l0.length : Int) := of_decide_eq_true (by first | (with_reducible assumption) | assumption)
            obtain ⟨ad104, e104, hx104_0, hx104_1, hx104_2, hx104_3, hx104_4⟩ := at_T39 HR0.out x6_1 p104 q104
            cases e104
            replace p104 := eq_true p104
            replace q104 := eq_true q104
            go_wp2
            go_roundg k1
            case measure => have := HK1.out; omega
            case rel => exact ⟨(x6_1), (wrap64 (x6_1 + 1)), (by first | rfl | (simp; done) | (simp [*]; done)), (by first | rfl | (simp; done) | (simp [*]; done)), H', ⟨by have := HK1.out; omega⟩, by repeat (first | exact Drawn0.refl _ | apply Drawn0.step)⟩
          · rw [if_neg c5] at H
            have c5b0 : (((rd_T39 l0 x6_1).f1) == a1) = false := beq_eq_false_iff_ne.mpr c5
            have c5b1 : (((rd_T39 l0 x6_1).f1) != a1) = true := bne_iff_ne.mpr c5
            have H' := Aside0.mk H
            clear H
            have p104 : 0 ≤ (x6_1 : Int) := of_decide_eq_true (by first | (with_reducible assumption) | assumption)
            have q104 : x6_1 < (l0.length : Int) := of_decide_eq_true (by first | (with_reducible assumption) | assumption)
            obtain ⟨ad104, e104, hx104_0, hx104_1, hx104_2, hx104_3, hx104_4⟩ := at_T39 HR0.out x6_1 p104 q104
            cases e104
            replace p104 := eq_true p104
            replace q104 := eq_true q104
            go_wp2
            go_roundg k1
            case measure => have := HK1.out; omega
            case rel => exact ⟨(x5_1), (wrap64 (x6_1 + 1)), (by first | rfl | (simp; done) | (simp [*]; done)), (by first | rfl | (simp; done) | (simp [*]; done)), H', ⟨by have := HK1.out; omega⟩, by repeat (first | exact Drawn0.refl _ | apply Drawn0.step)⟩
        · rw [if_neg c4] at H
          exact absurd H (by simp)
      · rw [if_neg c3] at H
        have c3b0 : decide (x6_1 < (l0.length : Int)) = false := decide_eq_false c3
        clear c3
        obtain rfl := Option.some.inj H
        go_wp2
        go_ret
        exact ⟨by first | rfl | (simp; done) | (simp [*]; done), by repeat (first | exact Drawn0.refl _ | apply Drawn0.step)⟩
def millwrightref19_Live.f (k : Nat) (l0 : List (S39)) (a1 : Int) : Option (Bool) := (millwrightref19_last.f k l0 a1).bind fun t105 => (if t105 ≥ 0 then (if 0 ≤ t105 then (if t105 < (l0.length : Int) then (some (((rd_T39 l0 t105).f0) == 1)) else (none)) else (none)) else (some false))
theorem millwrightref19_Live.mono : ∀ a0 a1 k, LeO (millwrightref19_Live.f k a0 a1) (millwrightref19_Live.f (k + 1) a0 a1) := by
  intro a0 a1 k
  unfold millwrightref19_Live.f
  repeat' first
      | (with_reducible exact millwrightref19_last.mono _ _ _)
      | (with_reducible exact LeO.refl _)
      | (with_reducible exact LeO.none _)
      | (with_reducible refine LeO.ite ?_ ?_)
      | (with_reducible refine LeO.bind ?_ (fun _ => ?_))
      | exact millwrightref19_last.mono _ _ _
      | exact LeO.none _
      | refine LeO.ite ?_ ?_
      | refine LeO.bind ?_ (fun _ => ?_)
set_option maxHeartbeats 8000000 in
set_option maxRecDepth 100000 in
theorem millwrightref19_Live.calls (k : Nat) (A0 : Option Addr) (c0 : Nat) (l0 : List (S39)) (a1 : Int) (r : Bool) (w : World) (hr0 : Kd.C k39 w A0 l0.length l0) (hc0 : l0.length ≤ c0) (h : millwrightref19_Live.f k l0 a1 = some r) :
    Calls Tryd.prog 40 #[.slice A0 l0.length c0, .int .i64 a1] w fun e w' => e = .returned (.bool r) ∧ Drawn0 w w' := by
  have HR0 := Aside0.mk hr0
  have HC0 := Aside0.mk hc0
  clear hr0 hc0
  have H : ((millwrightref19_last.f k l0 a1).bind fun t105 => (if t105 ≥ 0 then (if 0 ≤ t105 then (if t105 < (l0.length : Int) then (some (((rd_T39 l0 t105).f0) == 1)) else (none)) else (none)) else (some false))) = some r := h
  clear h
  replace H := Option.bind_eq_some_iff.mp H
  obtain ⟨t105, A30, H⟩ := H
  replace H : (if t105 ≥ 0 then (if 0 ≤ t105 then (if t105 < (l0.length : Int) then (some (((rd_T39 l0 t105).f0) == 1)) else (none)) else (none)) else (some false)) = some r := H
  have A3 := Aside0.mk A30
  clear A30
  by_cases c4 : t105 ≥ 0
  · rw [if_pos c4] at H
    have c4b0 : decide (0 ≤ t105) = true := decide_eq_true c4
    clear c4
    by_cases c5 : 0 ≤ t105
    · rw [if_pos c5] at H
      have c5b0 : decide (0 ≤ t105) = true := decide_eq_true c5
      clear c5
      by_cases c6 : t105 < (l0.length : Int)
      · rw [if_pos c6] at H
        have c6b0 : decide (t105 < (l0.length : Int)) = true := decide_eq_true c6
        clear c6
        obtain rfl := Option.some.inj H
        go_enter Tryd.func40, Tryd.ntmps40
        go_wp2_with (first | ((with_reducible refine gate_callee (f := 41) rfl ?_); refine goesL_ (some 8) rfl rfl Tryd.func41 (by kernel_rfl) rfl #[.slice A0 l0.length c0, .int .i64 a1] rfl (by (try simp only [List.map_toArray, List.map_cons, List.map_nil]); first | done | rfl | (simp only [List.length_drop, List.length_take]; rfl)) ?_; (with_reducible refine (millwrightref19_last.calls k _ _ l0 a1 t105 _ ?side1 ?side2 A3.out).mono ?_); (case side1 => repeat (first | exact HR0.out | (with_reducible refine Kd.C_alloc ?_ _) | (with_reducible refine Kd.C_drewN ?_ _) | (with_reducible refine Kd.C_drew ?_))); (case side2 => exact HC0.out); rintro e w' ⟨rfl, ⟨nd, rfl⟩⟩; refine ⟨_, rfl, ?_⟩; have p106 : 0 ≤ (t105 : Int) := of_decide_eq_true (by first | (with_reducible assumption) | assumption); have q106 : t105 < (l0.length : Int) := of_decide_eq_true (by first | (with_reducible assumption) | assumption); obtain ⟨ad106, e106, hx106_0, hx106_1, hx106_2, hx106_3, hx106_4⟩ := at_T39 HR0.out t105 p106 q106; cases e106; replace p106 := eq_true p106; replace q106 := eq_true q106))
        go_ret
        exact ⟨by first | rfl | (simp; done) | (simp [*]; done), by repeat (first | exact Drawn0.refl _ | apply Drawn0.step)⟩
      · rw [if_neg c6] at H
        exact absurd H (by simp)
    · rw [if_neg c5] at H
      exact absurd H (by simp)
  · rw [if_neg c4] at H
    have c4b0 : decide (0 ≤ t105) = false := decide_eq_false c4
    clear c4
    obtain rfl := Option.some.inj H
    go_enter Tryd.func40, Tryd.ntmps40
    go_wp2_with (first | ((with_reducible refine gate_callee (f := 41) rfl ?_); refine goesL_ (some 8) rfl rfl Tryd.func41 (by kernel_rfl) rfl #[.slice A0 l0.length c0, .int .i64 a1] rfl (by (try simp only [List.map_toArray, List.map_cons, List.map_nil]); first | done | rfl | (simp only [List.length_drop, List.length_take]; rfl)) ?_; (with_reducible refine (millwrightref19_last.calls k _ _ l0 a1 t105 _ ?side1 ?side2 A3.out).mono ?_); (case side1 => repeat (first | exact HR0.out | (with_reducible refine Kd.C_alloc ?_ _) | (with_reducible refine Kd.C_drewN ?_ _) | (with_reducible refine Kd.C_drew ?_))); (case side2 => exact HC0.out); rintro e w' ⟨rfl, ⟨nd, rfl⟩⟩; refine ⟨_, rfl, ?_⟩))
    go_ret
    exact ⟨by first | rfl | (simp; done) | (simp [*]; done), by repeat (first | exact Drawn0.refl _ | apply Drawn0.step)⟩
def millwrightref19_many.l0 : Nat → List (S39) → Int → Int → Int → Int → Option (Int)
  | 0, _, _, _, _, _ => none
  | k + 1, x0, x1, x2, x7, x8 => if x8 < (x0.length : Int) then (if 0 ≤ x8 then (if ((rd_T39 x0 x8).f1) = x1 then (if ((rd_T39 x0 x8).f0) = x2 then (millwrightref19_many.l0 k x0 x1 x2 (wrap64 (x7 + 1)) (wrap64 (x8 + 1))) else (millwrightref19_many.l0 k x0 x1 x2 x7 (wrap64 (x8 + 1)))) else (millwrightref19_many.l0 k x0 x1 x2 x7 (wrap64 (x8 + 1)))) else (none)) else (some x7)
def millwrightref19_many.f (k : Nat) (l0 : List (S39)) (a1 : Int) (a2 : Int) : Option (Int) := millwrightref19_many.l0 k l0 a1 a2 0 0
theorem millwrightref19_many.mono_l : ∀ k, (∀ y0 y1 y2 y3 y4, LeO (millwrightref19_many.l0 k y0 y1 y2 y3 y4) (millwrightref19_many.l0 (k + 1) y0 y1 y2 y3 y4))
  | 0 => fun _ _ _ _ _ r h => by simp [millwrightref19_many.l0] at h
  | k + 1 => by
    have ih0 := millwrightref19_many.mono_l k
    · intro y0 y1 y2 y3 y4
      unfold millwrightref19_many.l0
      repeat' first
      | (with_reducible exact ih0 _ _ _ _ _)
      | (with_reducible exact LeO.refl _)
      | (with_reducible exact LeO.none _)
      | (with_reducible refine LeO.ite ?_ ?_)
      | (with_reducible refine LeO.bind ?_ (fun _ => ?_))
      | exact ih0 _ _ _ _ _
      | exact LeO.none _
      | refine LeO.ite ?_ ?_
      | refine LeO.bind ?_ (fun _ => ?_)
theorem millwrightref19_many.mono : ∀ a0 a1 a2 k, LeO (millwrightref19_many.f k a0 a1 a2) (millwrightref19_many.f (k + 1) a0 a1 a2) := by
  intro a0 a1 a2 k
  have ih0 := millwrightref19_many.mono_l k
  unfold millwrightref19_many.f
  repeat' first
      | (with_reducible exact ih0 _ _ _ _ _)
      | (with_reducible exact LeO.refl _)
      | (with_reducible exact LeO.none _)
      | (with_reducible refine LeO.ite ?_ ?_)
      | (with_reducible refine LeO.bind ?_ (fun _ => ?_))
      | exact ih0 _ _ _ _ _
      | exact LeO.none _
      | refine LeO.ite ?_ ?_
      | refine LeO.bind ?_ (fun _ => ?_)
set_option maxHeartbeats 8000000 in
set_option maxRecDepth 100000 in
theorem millwrightref19_many.calls (k : Nat) (A0 : Option Addr) (c0 : Nat) (l0 : List (S39)) (a1 : Int) (a2 : Int) (r : Int) (w : World) (hr0 : Kd.C k39 w A0 l0.length l0) (hc0 : l0.length ≤ c0) (h : millwrightref19_many.f k l0 a1 a2 = some r) :
    Calls Tryd.prog 42 #[.slice A0 l0.length c0, .int .i64 a1, .int .i64 a2] w fun e w' => e = .returned (.int .i64 r) ∧ Drawn0 w w' := by
  have HR0 := Aside0.mk hr0
  have HC0 := Aside0.mk hc0
  clear hr0 hc0
  have H : (millwrightref19_many.l0 k l0 a1 a2 0 0) = some r := h
  clear h
  have H' := Aside0.mk H
  clear H
  go_enter Tryd.func42, Tryd.ntmps42
  go_wp2
  go_loopg [7, 8] k (fun kq v7 v8 w' => ∃ (x7_1 : Int) (x8_1 : Int), v7 = .int .i64 x7_1 ∧ v8 = .int .i64 x8_1 ∧ Aside0 (millwrightref19_many.l0 kq l0 a1 a2 x7_1 x8_1 = some r) ∧ Aside0 (kq ≤ k) ∧ Drawn0 w w')
  case atStart => exact ⟨(0), (0), (by first | rfl | (simp; done) | (simp [*]; done)), (by first | rfl | (simp; done) | (simp [*]; done)), H', ⟨Nat.le_refl _⟩, by repeat (first | exact Drawn0.refl _ | apply Drawn0.step)⟩
  case round =>
    clear H'
    try clear p2
    obtain ⟨x7_1, x8_1, rfl, rfl, HA, HK1, ⟨m1, rfl⟩⟩ := hrel
    cases gk with
    | zero => exact absurd HA.out (by simp [millwrightref19_many.l0])
    | succ k1 =>
      have H := HA.out
      clear HA
      simp only [millwrightref19_many.l0] at H
      by_cases c4 : x8_1 < (l0.length : Int)
      · rw [if_pos c4] at H
        have c4b0 : decide (x8_1 < (l0.length : Int)) = true := decide_eq_true c4
        clear c4
        by_cases c5 : 0 ≤ x8_1
        · rw [if_pos c5] at H
          have c5b0 : decide (0 ≤ x8_1) = true := decide_eq_true c5
          clear c5
          by_cases c6 : ((rd_T39 l0 x8_1).f1) = a1
          · rw [if_pos c6] at H
            have c6b0 : (((rd_T39 l0 x8_1).f1) == a1) = true := beq_iff_eq.mpr c6
            have c6b1 : (((rd_T39 l0 x8_1).f1) != a1) = false := bne_eq_false_iff_eq.mpr c6
            clear c6
            by_cases c7 : ((rd_T39 l0 x8_1).f0) = a2
            · rw [if_pos c7] at H
              have c7b0 : (((rd_T39 l0 x8_1).f0) == a2) = true := beq_iff_eq.mpr c7
              have c7b1 : (((rd_T39 l0 x8_1).f0) != a2) = false := bne_eq_false_iff_eq.mpr c7
              clear c7
              have H' := Aside0.mk H
              clear H
              have p107 : 0 ≤ (x8_1 : Int) := of_decide_eq_true (by first | (with_reducible assumption) | assumption)
              have q107 : x8_1 < (l0.length : Int) := of_decide_eq_true (by first | (with_reducible assumption) | assumption)
              obtain ⟨ad107, e107, hx107_0, hx107_1, hx107_2, hx107_3, hx107_4⟩ := at_T39 HR0.out x8_1 p107 q107
              cases e107
              replace p107 := eq_true p107
              replace q107 := eq_true q107
              have p108 : 0 ≤ (x8_1 : Int) := of_decide_eq_true (by first | (with_reducible assumption) | assumption)
              have q108 : x8_1 < (l0.length : Int) := of_decide_eq_true (by first | (with_reducible assumption) | assumption)
              obtain ⟨ad108, e108, hx108_0, hx108_1, hx108_2, hx108_3, hx108_4⟩ := at_T39 HR0.out x8_1 p108 q108
              obtain rfl : ad107 = ad108 := (by injection e108)
              replace p108 := eq_true p108
              replace q108 := eq_true q108
              go_wp2
              go_roundg k1
              case measure => have := HK1.out; omega
              case rel => exact ⟨(wrap64 (x7_1 + 1)), (wrap64 (x8_1 + 1)), (by first | rfl | (simp; done) | (simp [*]; done)), (by first | rfl | (simp; done) | (simp [*]; done)), H', ⟨by have := HK1.out; omega⟩, by repeat (first | exact Drawn0.refl _ | apply Drawn0.step)⟩
            · rw [if_neg c7] at H
              have c7b0 : (((rd_T39 l0 x8_1).f0) == a2) = false := beq_eq_false_iff_ne.mpr c7
              have c7b1 : (((rd_T39 l0 x8_1).f0) != a2) = true := bne_iff_ne.mpr c7
              have H' := Aside0.mk H
              clear H
              have p107 : 0 ≤ (x8_1 : Int) := of_decide_eq_true (by first | (with_reducible assumption) | assumption)
              have q107 : x8_1 < (l0.length : Int) := of_decide_eq_true (by first | (with_reducible assumption) | assumption)
              obtain ⟨ad107, e107, hx107_0, hx107_1, hx107_2, hx107_3, hx107_4⟩ := at_T39 HR0.out x8_1 p107 q107
              cases e107
              replace p107 := eq_true p107
              replace q107 := eq_true q107
              have p108 : 0 ≤ (x8_1 : Int) := of_decide_eq_true (by first | (with_reducible assumption) | assumption)
              have q108 : x8_1 < (l0.length : Int) := of_decide_eq_true (by first | (with_reducible assumption) | assumption)
              obtain ⟨ad108, e108, hx108_0, hx108_1, hx108_2, hx108_3, hx108_4⟩ := at_T39 HR0.out x8_1 p108 q108
              obtain rfl : ad107 = ad108 := (by injection e108)
              replace p108 := eq_true p108
              replace q108 := eq_true q108
              go_wp2
              go_roundg k1
              case measure => have := HK1.out; omega
              case rel => exact ⟨(x7_1), (wrap64 (x8_1 + 1)), (by first | rfl | (simp; done) | (simp [*]; done)), (by first | rfl | (simp; done) | (simp [*]; done)), H', ⟨by have := HK1.out; omega⟩, by repeat (first | exact Drawn0.refl _ | apply Drawn0.step)⟩
          · rw [if_neg c6] at H
            have c6b0 : (((rd_T39 l0 x8_1).f1) == a1) = false := beq_eq_false_iff_ne.mpr c6
            have c6b1 : (((rd_T39 l0 x8_1).f1) != a1) = true := bne_iff_ne.mpr c6
            have H' := Aside0.mk H
            clear H
            have p107 : 0 ≤ (x8_1 : Int) := of_decide_eq_true (by first | (with_reducible assumption) | assumption)
            have q107 : x8_1 < (l0.length : Int) := of_decide_eq_true (by first | (with_reducible assumption) | assumption)
            obtain ⟨ad107, e107, hx107_0, hx107_1, hx107_2, hx107_3, hx107_4⟩ := at_T39 HR0.out x8_1 p107 q107
            cases e107
            replace p107 := eq_true p107
            replace q107 := eq_true q107
            go_wp2
            go_roundg k1
            case measure => have := HK1.out; omega
            case rel => exact ⟨(x7_1), (wrap64 (x8_1 + 1)), (by first | rfl | (simp; done) | (simp [*]; done)), (by first | rfl | (simp; done) | (simp [*]; done)), H', ⟨by have := HK1.out; omega⟩, by repeat (first | exact Drawn0.refl _ | apply Drawn0.step)⟩
        · rw [if_neg c5] at H
          exact absurd H (by simp)
      · rw [if_neg c4] at H
        have c4b0 : decide (x8_1 < (l0.length : Int)) = false := decide_eq_false c4
        clear c4
        obtain rfl := Option.some.inj H
        go_wp2
        go_ret
        exact ⟨by first | rfl | (simp; done) | (simp [*]; done), by repeat (first | exact Drawn0.refl _ | apply Drawn0.step)⟩
end Go.Proofs.YtckcepmkfegkiaaDoor.PTraceTells
