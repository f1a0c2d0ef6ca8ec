-- Printed for this claim by a program of this project's own, over the kit's printer; some functions are told by hand.
import Derived.Test.YtckcepmkfegkiaaDoorPTraceBoundsx0
namespace Go.Proofs.YtckcepmkfegkiaaDoor.PTraceBounds
open Go.RowKit Go.Proofs.YtckcepmkfegkiaaDoorW.PrintWords Go.Proofs.YtckcepmkfegkiaaDoorW.PrintLast Go.Proofs.YtckcepmkfegkiaaDoorW.PrintMore
attribute [local go_sem] max2_int min2_int max_two min_two max_three min_three max_four min_four   -- for this text's walks alone
set_option linter.unusedVariables false
set_option linter.unusedSimpArgs false

-- NOT PRINTED: function 31 (trace_Event_known)

-- NOT PRINTED: function 37 (trace_audit_may)

-- NOT PRINTED: function 64 (trace_task_64)

-- NOT PRINTED: function 60 (trace_task_60)

-- NOT PRINTED: function 54 (trace_audit_held)

-- NOT PRINTED: function 65 (num_told)

-- NOT PRINTED: function 62 (num_Add)

-- NOT PRINTED: function 55 (trace_audit_fits)

-- NOT PRINTED: function 38 (trace_audit_starts)

-- NOT PRINTED: function 23 (trace_audit_takes)


/-! ### trace_Audit: function 15 -/
def trace_Audit.g1 (x : S50) : TrS.Tsk := ⟨x.f0, x.f1⟩
def trace_Audit.g2 (x : S42) : TrS.Ev := ⟨x.f0, x.f1, x.f2, x.f3, x.f4⟩
def trace_Audit.f (a0_0 : Int) (a0_1 : Int) (a0_2 : Int) (a0_3 : Int) (a0_4 : Int) (a0_5 : Int) (a0_6 : Int) (a0_7 : Int) (a0_8 : Int) (a0_9 : Int) (l1 : List S50) (l2 : List S42) : Option (Int × Int) := if l1.length ≤ 4398046511104 ∧ l2.length ≤ 4398046511104 then some (TrS.audit ⟨a0_0, a0_1, a0_2, a0_3, a0_4, a0_5, a0_6, a0_7, a0_8, a0_9⟩ (l1.map trace_Audit.g1) (l2.map trace_Audit.g2)) else none
theorem trace_Audit.calls (a0_0 : Int) (a0_1 : Int) (a0_2 : Int) (a0_3 : Int) (a0_4 : Int) (a0_5 : Int) (a0_6 : Int) (a0_7 : Int) (a0_8 : Int) (a0_9 : Int) (A1 : Option Addr) (c1 : Nat) (l1 : List S50) (A2 : Option Addr) (c2 : Nat) (l2 : List S42) (r1 : Int) (r2 : Int) (w : World) (hr1 : Kd.C k50 w A1 l1.length l1) (hc1 : l1.length ≤ c1) (hr2 : Kd.C k42 w A2 l2.length l2) (hc2 : l2.length ≤ c2) (h : trace_Audit.f a0_0 a0_1 a0_2 a0_3 a0_4 a0_5 a0_6 a0_7 a0_8 a0_9 l1 l2 = some (r1, r2)) (HT : TrL.Laid w) {n1 n2 : Nat} (hn1 : l1.length = n1 := by first | rfl | exact LexE.take_len (of_decide_eq_true (by assumption)) (of_decide_eq_true (by assumption))) (hn2 : l2.length = n2 := by first | rfl | exact LexE.take_len (of_decide_eq_true (by assumption)) (of_decide_eq_true (by assumption))) :
    Calls Tryd.prog 15 #[.agg #[.int .i64 a0_0, .int .i64 a0_1, .int .i64 a0_2, .int .i64 a0_3, .int .i64 a0_4, .int .i64 a0_5, .int .i64 a0_6, .int .i64 a0_7, .int .i64 a0_8, .int .i64 a0_9], .slice A1 n1 c1, .slice A2 n2 c2] w fun e w' => e = .returned (.tuple #[.int .i64 r1, .int .i64 r2]) ∧ Below w.heap.size w w' := by
  simp only [trace_Audit.f] at h
  split at h
  · rename_i hs
    subst hn1
    subst hn2
    exact TrSh.audit_b ⟨a0_0, a0_1, a0_2, a0_3, a0_4, a0_5, a0_6, a0_7, a0_8, a0_9⟩ (l1.map trace_Audit.g1) (l2.map trace_Audit.g2) A1 c1 A2 c2 w r1 r2 (Option.some.inj h) _ _ (List.length_map _) (List.length_map _) (TrL.C_map trace_Audit.g1 rfl (fun _ _ _ h => h) hr1) (TrL.C_map trace_Audit.g2 rfl (fun _ _ _ h => h) hr2) HT.2.1 hs.1 hs.2
  · exact absurd h (by simp)


-- NOT PRINTED: function 56 (lex_kind)

-- NOT PRINTED: function 43 (lex_scan_next)

-- NOT PRINTED: function 44 (lex_scan_take)

-- NOT PRINTED: function 45 (lex_scan_end)

-- NOT PRINTED: function 25 (lex_Lex)

-- NOT PRINTED: function 26 (lex_Token)

-- NOT PRINTED: function 46 (slices_Index_string_string)

-- NOT PRINTED: function 47 (num_Parse)

-- NOT PRINTED: function 28 (trace_event)


/-! ### trace_Parse: function 18 -/
def trace_Parse.u (x : TrS.Ev) : S42 := ⟨x.kind, x.task, x.slot, x.epoch, x.tick⟩
def trace_Parse.f (a0 : ByteArray) : Option ((List S42) × Int) := if a0.size ≤ 9223372036854775807 then some ((TrQ.parseT (bytesOf a0)).1.map trace_Parse.u, (TrQ.parseT (bytesOf a0)).2) else none
theorem trace_Parse.calls (a0 : ByteArray) (r1 : List S42) (r2 : Int) (w : World) (h : trace_Parse.f a0 = some (r1, r2)) (HT : TrL.Laid w) :
    Calls Tryd.prog 18 #[.string a0] w fun e w' => ∃ v0_ : Value, e = .returned (.tuple #[v0_, .int .i64 r2]) ∧ Kd.R k42 42 w' w.heap.size (fun _ => True) v0_ r1 ∧ Below w.heap.size w w' := by
  simp only [trace_Parse.f] at h
  split at h
  · rename_i hs
    have h2 := Option.some.inj h
    simp only [Prod.mk.injEq] at h2
    obtain ⟨rfl, rfl⟩ := h2
    refine (TrY.parse_calls a0 w HT.1 hs).mono fun e w' hp => ?_
    obtain ⟨v, he, ho, hB⟩ := hp
    exact ⟨v, he, LexE.R_map trace_Parse.u rfl (fun _ _ _ _ _ h => h) ho, hB⟩
  · exact absurd h (by simp)


-- NOT PRINTED: function 58 (abi_NoEscape)

-- NOT PRINTED: function 52 (strings_Builder_copyCheck)

-- NOT PRINTED: function 32 (strings_Builder_WriteString)

-- NOT PRINTED: function 66 (strconv_small)

-- NOT PRINTED: function 70 (strconv_log10Pow2)

-- NOT PRINTED: function 71 (bits_Len64)

-- NOT PRINTED: function 72 (strconv_bool2_int)

-- NOT PRINTED: function 67 (strconv_numDigits)

-- NOT PRINTED: function 68 (strconv_formatBase10)

-- NOT PRINTED: function 73 (strconv_isPowerOfTwo)

-- NOT PRINTED: function 75 (bits_TrailingZeros32)

-- NOT PRINTED: function 76 (bits_TrailingZeros64)

-- NOT PRINTED: function 74 (bits_TrailingZeros)

-- NOT PRINTED: function 69 (strconv_formatBits)

-- NOT PRINTED: function 63 (strconv_FormatInt)

-- NOT PRINTED: function 59 (strconv_Itoa_59)

-- NOT PRINTED: function 53 (strconv_Itoa_53)

-- NOT PRINTED: function 33 (num_Text)

-- NOT PRINTED: function 34 (strings_Builder_String)


/-! ### trace_Text: function 20 -/
def trace_Text.g (x : S42) : TrS.Ev := ⟨x.f0, x.f1, x.f2, x.f3, x.f4⟩
def trace_Text.inI (n : Int) : Bool := decide (-9223372036854775808 ≤ n) && decide (n ≤ 9223372036854775807)
def trace_Text.evIn (x : S42) : Bool := trace_Text.inI x.f1 && (trace_Text.inI x.f2 && (trace_Text.inI x.f3 && trace_Text.inI x.f4))
def trace_Text.f (l0 : List S42) : Option ByteArray := if l0.length ≤ 4398046511104 ∧ (TrX.textL (l0.map trace_Text.g)).length ≤ 140737488355328 ∧ l0.all trace_Text.evIn = true then some ⟨(TrX.textL (l0.map trace_Text.g)).toArray⟩ else none
theorem trace_Text.ok (l0 : List S42) (h : l0.all trace_Text.evIn = true) : ∀ e ∈ l0.map trace_Text.g, TrX.EvIn e := by
  intro e he
  obtain ⟨x, hx, rfl⟩ := List.mem_map.1 he
  have := List.all_eq_true.1 h x hx
  simp only [trace_Text.evIn, trace_Text.inI, Bool.and_eq_true, decide_eq_true_eq] at this
  exact this
theorem trace_Text.calls (A0 : Option Addr) (c0 : Nat) (l0 : List S42) (r : ByteArray) (w : World) (hr0 : Kd.C k42 w A0 l0.length l0) (hc0 : l0.length ≤ c0) (h : trace_Text.f l0 = some r) (HT : TrL.Laid w) {n : Nat} (hn : l0.length = n := by first | rfl | exact LexE.take_len (of_decide_eq_true (by assumption)) (of_decide_eq_true (by assumption))) :
    Calls Tryd.prog 20 #[.slice A0 n c0] w fun e w' => e = .returned (.string r) ∧ Below w.heap.size w w' := by
  simp only [trace_Text.f] at h
  split at h
  · rename_i hs
    subst hn
    have h2 := Option.some.inj h
    subst h2
    exact TrSh.text_b (l0.map trace_Text.g) A0 c0 w _ rfl _ (List.length_map _) (TrL.C_map trace_Text.g rfl (fun _ _ _ h => h) hr0) HT.1 HT.2.2 (trace_Text.ok l0 hs.2.2) hs.1 hs.2.1
  · exact absurd h (by simp)



/-! ### millwrightlaw19_shown: function 14 -/
def millwrightlaw19_shown.f : Option Bool := some true
theorem millwrightlaw19_shown.calls (r : Bool) (w : World) (h : millwrightlaw19_shown.f = some r) (HT : TrL.Laid w) :
    Calls Tryd.prog 14 #[] w fun e w' => e = .returned (.bool r) ∧ Below w.heap.size w w' := by
  simp only [millwrightlaw19_shown.f, Option.some.injEq] at h
  subst h
  exact TrL.shown_calls w HT


/-! ### millwrightref01_Most: function 35 -/
def millwrightref01_Most.f  : Option (Int) := some 9223372036854775807
set_option maxHeartbeats 8000000 in
set_option maxRecDepth 100000 in
theorem millwrightref01_Most.calls  (r : Int) (w : World) (h : millwrightref01_Most.f  = some r) :
    Calls Tryd.prog 35 #[] w fun e w' => e = .returned (.int .i64 r) ∧ Drawn0 w w' := by
  have H : (some 9223372036854775807) = some r := h
  clear h
  obtain rfl := Option.some.inj H
  go_enter Tryd.func35, Tryd.ntmps35
  go_wp2
  go_ret
  exact ⟨by first | rfl | (simp; done) | (simp [*]; done), by repeat (first | exact Drawn0.refl _ | apply Drawn0.step)⟩

/-! ### millwrightref01_Least: function 36 -/
def millwrightref01_Least.f  : Option (Int) := some (-9223372036854775808)
set_option maxHeartbeats 8000000 in
set_option maxRecDepth 100000 in
theorem millwrightref01_Least.calls  (r : Int) (w : World) (h : millwrightref01_Least.f  = some r) :
    Calls Tryd.prog 36 #[] w fun e w' => e = .returned (.int .i64 r) ∧ Drawn0 w w' := by
  have H : (some (-9223372036854775808)) = some r := h
  clear h
  obtain rfl := Option.some.inj H
  go_enter Tryd.func36, Tryd.ntmps36
  go_wp2
  go_ret
  exact ⟨by first | rfl | (simp; done) | (simp [*]; done), by repeat (first | exact Drawn0.refl _ | apply Drawn0.step)⟩

/-! ### millwrightref01_Add: function 22 -/
def millwrightref01_Add.f (a0 : Int) (a1 : Int) : Option (Int × Bool) := if a1 > 0 then ((millwrightref01_Most.f).bind fun t101 => (if a0 > (wrap64 (t101 - a1)) then (some (0, false)) else (if a1 < 0 then ((millwrightref01_Least.f).bind fun t102 => (if a0 < (wrap64 (t102 - a1)) then (some (0, false)) else (some (wrap64 (a0 + a1), true)))) else (some (wrap64 (a0 + a1), true))))) else (if a1 < 0 then ((millwrightref01_Least.f).bind fun t103 => (if a0 < (wrap64 (t103 - a1)) then (some (0, false)) else (some (wrap64 (a0 + a1), true)))) else (some (wrap64 (a0 + a1), true)))
set_option maxHeartbeats 8000000 in
set_option maxRecDepth 100000 in
theorem millwrightref01_Add.calls (a0 : Int) (a1 : Int) (r1 : Int) (r2 : Bool) (w : World) (h : millwrightref01_Add.f a0 a1 = some (r1, r2)) :
    Calls Tryd.prog 22 #[.int .i64 a0, .int .i64 a1] w fun e w' => e = .returned (.tuple #[.int .i64 r1, .bool r2]) ∧ Drawn0 w w' := by
  have H : (if a1 > 0 then ((millwrightref01_Most.f).bind fun t101 => (if a0 > (wrap64 (t101 - a1)) then (some (0, false)) else (if a1 < 0 then ((millwrightref01_Least.f).bind fun t102 => (if a0 < (wrap64 (t102 - a1)) then (some (0, false)) else (some (wrap64 (a0 + a1), true)))) else (some (wrap64 (a0 + a1), true))))) else (if a1 < 0 then ((millwrightref01_Least.f).bind fun t103 => (if a0 < (wrap64 (t103 - a1)) then (some (0, false)) else (some (wrap64 (a0 + a1), true)))) else (some (wrap64 (a0 + a1), true)))) = some (r1, r2) := h
  clear h
  by_cases c3 : a1 > 0
  · rw [if_pos c3] at H
    have c3b0 : decide (0 < a1) = true := decide_eq_true c3
    clear c3
    replace H := Option.bind_eq_some_iff.mp H
    obtain ⟨t101, A40, H⟩ := H
    replace H : (if a0 > (wrap64 (t101 - a1)) then (some (0, false)) else (if a1 < 0 then ((millwrightref01_Least.f).bind fun t102 => (if a0 < (wrap64 (t102 - a1)) then (some (0, false)) else (some (wrap64 (a0 + a1), true)))) else (some (wrap64 (a0 + a1), true)))) = some (r1, r2) := H
    have A4 := Aside0.mk A40
    clear A40
    by_cases c5 : a0 > (wrap64 (t101 - a1))
    · rw [if_pos c5] at H
      have c5b0 : decide ((wrap64 (t101 - a1)) < a0) = true := decide_eq_true c5
      clear c5
      simp only [Option.some.injEq, Prod.mk.injEq] at H
      obtain ⟨rfl, rfl⟩ := H
      go_enter Tryd.func22, Tryd.ntmps22
      go_wp2_with (first | (go_at_call 35; (with_reducible refine (millwrightref01_Most.calls  t101 _ A4.out).mono ?_); rintro e w' ⟨rfl, ⟨nd, rfl⟩⟩))
      go_ret2
      exact ⟨by first | rfl | (simp; done) | (simp [*]; done), by repeat (first | exact Drawn0.refl _ | apply Drawn0.step)⟩
    · rw [if_neg c5] at H
      have c5b0 : decide ((wrap64 (t101 - a1)) < a0) = false := decide_eq_false c5
      clear c5
      by_cases c6 : a1 < 0
      · rw [if_pos c6] at H
        have c6b0 : decide (a1 < 0) = true := decide_eq_true c6
        clear c6
        replace H := Option.bind_eq_some_iff.mp H
        obtain ⟨t102, A70, H⟩ := H
        replace H : (if a0 < (wrap64 (t102 - a1)) then (some (0, false)) else (some (wrap64 (a0 + a1), true))) = some (r1, r2) := H
        have A7 := Aside0.mk A70
        clear A70
        by_cases c8 : a0 < (wrap64 (t102 - a1))
        · rw [if_pos c8] at H
          have c8b0 : decide (a0 < (wrap64 (t102 - a1))) = true := decide_eq_true c8
          clear c8
          simp only [Option.some.injEq, Prod.mk.injEq] at H
          obtain ⟨rfl, rfl⟩ := H
          go_enter Tryd.func22, Tryd.ntmps22
          go_wp2_with (first | (go_at_call 35; (with_reducible refine (millwrightref01_Most.calls  t101 _ A4.out).mono ?_); rintro e w' ⟨rfl, ⟨nd, rfl⟩⟩) | (go_at_call 36; (with_reducible refine (millwrightref01_Least.calls  t102 _ A7.out).mono ?_); rintro e w' ⟨rfl, ⟨nd, rfl⟩⟩))
          go_ret2
          exact ⟨by first | rfl | (simp; done) | (simp [*]; done), by repeat (first | exact Drawn0.refl _ | apply Drawn0.step)⟩
        · rw [if_neg c8] at H
          have c8b0 : decide (a0 < (wrap64 (t102 - a1))) = false := decide_eq_false c8
          clear c8
          simp only [Option.some.injEq, Prod.mk.injEq] at H
          obtain ⟨rfl, rfl⟩ := H
          go_enter Tryd.func22, Tryd.ntmps22
          go_wp2_with (first | (go_at_call 35; (with_reducible refine (millwrightref01_Most.calls  t101 _ A4.out).mono ?_); rintro e w' ⟨rfl, ⟨nd, rfl⟩⟩) | (go_at_call 36; (with_reducible refine (millwrightref01_Least.calls  t102 _ A7.out).mono ?_); rintro e w' ⟨rfl, ⟨nd, rfl⟩⟩))
          go_ret2
          exact ⟨by first | rfl | (simp; done) | (simp [*]; done), by repeat (first | exact Drawn0.refl _ | apply Drawn0.step)⟩
      · rw [if_neg c6] at H
        have c6b0 : decide (a1 < 0) = false := decide_eq_false c6
        clear c6
        simp only [Option.some.injEq, Prod.mk.injEq] at H
        obtain ⟨rfl, rfl⟩ := H
        go_enter Tryd.func22, Tryd.ntmps22
        go_wp2_with (first | (go_at_call 35; (with_reducible refine (millwrightref01_Most.calls  t101 _ A4.out).mono ?_); rintro e w' ⟨rfl, ⟨nd, rfl⟩⟩))
        go_ret2
        exact ⟨by first | rfl | (simp; done) | (simp [*]; done), by repeat (first | exact Drawn0.refl _ | apply Drawn0.step)⟩
  · rw [if_neg c3] at H
    have c3b0 : decide (0 < a1) = false := decide_eq_false c3
    clear c3
    by_cases c9 : a1 < 0
    · rw [if_pos c9] at H
      have c9b0 : decide (a1 < 0) = true := decide_eq_true c9
      clear c9
      replace H := Option.bind_eq_some_iff.mp H
      obtain ⟨t103, A100, H⟩ := H
      replace H : (if a0 < (wrap64 (t103 - a1)) then (some (0, false)) else (some (wrap64 (a0 + a1), true))) = some (r1, r2) := H
      have A10 := Aside0.mk A100
      clear A100
      by_cases c11 : a0 < (wrap64 (t103 - a1))
      · rw [if_pos c11] at H
        have c11b0 : decide (a0 < (wrap64 (t103 - a1))) = true := decide_eq_true c11
        clear c11
        simp only [Option.some.injEq, Prod.mk.injEq] at H
        obtain ⟨rfl, rfl⟩ := H
        go_enter Tryd.func22, Tryd.ntmps22
        go_wp2_with (first | (go_at_call 36; (with_reducible refine (millwrightref01_Least.calls  t103 _ A10.out).mono ?_); rintro e w' ⟨rfl, ⟨nd, rfl⟩⟩))
        go_ret2
        exact ⟨by first | rfl | (simp; done) | (simp [*]; done), by repeat (first | exact Drawn0.refl _ | apply Drawn0.step)⟩
      · rw [if_neg c11] at H
        have c11b0 : decide (a0 < (wrap64 (t103 - a1))) = false := decide_eq_false c11
        clear c11
        simp only [Option.some.injEq, Prod.mk.injEq] at H
        obtain ⟨rfl, rfl⟩ := H
        go_enter Tryd.func22, Tryd.ntmps22
        go_wp2_with (first | (go_at_call 36; (with_reducible refine (millwrightref01_Least.calls  t103 _ A10.out).mono ?_); rintro e w' ⟨rfl, ⟨nd, rfl⟩⟩))
        go_ret2
        exact ⟨by first | rfl | (simp; done) | (simp [*]; done), by repeat (first | exact Drawn0.refl _ | apply Drawn0.step)⟩
    · rw [if_neg c9] at H
      have c9b0 : decide (a1 < 0) = false := decide_eq_false c9
      clear c9
      simp only [Option.some.injEq, Prod.mk.injEq] at H
      obtain ⟨rfl, rfl⟩ := H
      go_enter Tryd.func22, Tryd.ntmps22
      go_wp2
      go_ret2
      exact ⟨by first | rfl | (simp; done) | (simp [*]; done), by repeat (first | exact Drawn0.refl _ | apply Drawn0.step)⟩

end Go.Proofs.YtckcepmkfegkiaaDoor.PTraceBounds
