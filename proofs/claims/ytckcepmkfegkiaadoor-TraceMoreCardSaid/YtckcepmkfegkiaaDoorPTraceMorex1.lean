-- Printed for this claim by a program of this project's own, over the kit's printer; some functions are told by hand.
import Derived.Test.YtckcepmkfegkiaaDoorPTraceMorex0
namespace Go.Proofs.YtckcepmkfegkiaaDoor.PTraceMore
open Go.RowKit Go.Proofs.YtckcepmkfegkiaaDoorW.PrintWords Go.Proofs.YtckcepmkfegkiaaDoorW.PrintLast Go.Proofs.YtckcepmkfegkiaaDoorW.PrintMore
attribute [local go_sem] max2_int min2_int max_two min_two max_three min_three max_four min_four   -- for this text's walks alone
set_option linter.unusedVariables false
set_option linter.unusedSimpArgs false

-- NOT PRINTED: function 31 (trace_Event_known)

-- NOT PRINTED: function 37 (trace_audit_may)

-- NOT PRINTED: function 64 (trace_task_64)

-- NOT PRINTED: function 60 (trace_task_60)

-- NOT PRINTED: function 54 (trace_audit_held)

-- NOT PRINTED: function 65 (num_told)

-- NOT PRINTED: function 62 (num_Add)

-- NOT PRINTED: function 55 (trace_audit_fits)

-- NOT PRINTED: function 38 (trace_audit_starts)

-- NOT PRINTED: function 23 (trace_audit_takes)


/-! ### trace_Audit: function 15 -/
def trace_Audit.g1 (x : S50) : TrS.Tsk := ⟨x.f0, x.f1⟩
def trace_Audit.g2 (x : S42) : TrS.Ev := ⟨x.f0, x.f1, x.f2, x.f3, x.f4⟩
def trace_Audit.f (a0_0 : Int) (a0_1 : Int) (a0_2 : Int) (a0_3 : Int) (a0_4 : Int) (a0_5 : Int) (a0_6 : Int) (a0_7 : Int) (a0_8 : Int) (a0_9 : Int) (l1 : List S50) (l2 : List S42) : Option (Int × Int) := if l1.length ≤ 4398046511104 ∧ l2.length ≤ 4398046511104 then some (TrS.audit ⟨a0_0, a0_1, a0_2, a0_3, a0_4, a0_5, a0_6, a0_7, a0_8, a0_9⟩ (l1.map trace_Audit.g1) (l2.map trace_Audit.g2)) else none
theorem trace_Audit.calls (a0_0 : Int) (a0_1 : Int) (a0_2 : Int) (a0_3 : Int) (a0_4 : Int) (a0_5 : Int) (a0_6 : Int) (a0_7 : Int) (a0_8 : Int) (a0_9 : Int) (A1 : Option Addr) (c1 : Nat) (l1 : List S50) (A2 : Option Addr) (c2 : Nat) (l2 : List S42) (r1 : Int) (r2 : Int) (w : World) (hr1 : Kd.C k50 w A1 l1.length l1) (hc1 : l1.length ≤ c1) (hr2 : Kd.C k42 w A2 l2.length l2) (hc2 : l2.length ≤ c2) (h : trace_Audit.f a0_0 a0_1 a0_2 a0_3 a0_4 a0_5 a0_6 a0_7 a0_8 a0_9 l1 l2 = some (r1, r2)) (HT : TrL.Laid w) {n1 n2 : Nat} (hn1 : l1.length = n1 := by first | rfl | exact LexE.take_len (of_decide_eq_true (by assumption)) (of_decide_eq_true (by assumption))) (hn2 : l2.length = n2 := by first | rfl | exact LexE.take_len (of_decide_eq_true (by assumption)) (of_decide_eq_true (by assumption))) :
    Calls Tryd.prog 15 #[.agg #[.int .i64 a0_0, .int .i64 a0_1, .int .i64 a0_2, .int .i64 a0_3, .int .i64 a0_4, .int .i64 a0_5, .int .i64 a0_6, .int .i64 a0_7, .int .i64 a0_8, .int .i64 a0_9], .slice A1 n1 c1, .slice A2 n2 c2] w fun e w' => e = .returned (.tuple #[.int .i64 r1, .int .i64 r2]) ∧ Below w.heap.size w w' := by
  simp only [trace_Audit.f] at h
  split at h
  · rename_i hs
    subst hn1
    subst hn2
    exact TrSh.audit_b ⟨a0_0, a0_1, a0_2, a0_3, a0_4, a0_5, a0_6, a0_7, a0_8, a0_9⟩ (l1.map trace_Audit.g1) (l2.map trace_Audit.g2) A1 c1 A2 c2 w r1 r2 (Option.some.inj h) _ _ (List.length_map _) (List.length_map _) (TrL.C_map trace_Audit.g1 rfl (fun _ _ _ h => h) hr1) (TrL.C_map trace_Audit.g2 rfl (fun _ _ _ h => h) hr2) HT.2.1 hs.1 hs.2
  · exact absurd h (by simp)


-- NOT PRINTED: function 56 (lex_kind)

-- NOT PRINTED: function 43 (lex_scan_next)

-- NOT PRINTED: function 44 (lex_scan_take)

-- NOT PRINTED: function 45 (lex_scan_end)

-- NOT PRINTED: function 25 (lex_Lex)

-- NOT PRINTED: function 26 (lex_Token)

-- NOT PRINTED: function 46 (slices_Index_string_string)

-- NOT PRINTED: function 47 (num_Parse)

-- NOT PRINTED: function 28 (trace_event)


/-! ### trace_Parse: function 18 -/
def trace_Parse.u (x : TrS.Ev) : S42 := ⟨x.kind, x.task, x.slot, x.epoch, x.tick⟩
def trace_Parse.f (a0 : ByteArray) : Option ((List S42) × Int) := if a0.size ≤ 9223372036854775807 then some ((TrQ.parseT (bytesOf a0)).1.map trace_Parse.u, (TrQ.parseT (bytesOf a0)).2) else none
theorem trace_Parse.calls (a0 : ByteArray) (r1 : List S42) (r2 : Int) (w : World) (h : trace_Parse.f a0 = some (r1, r2)) (HT : TrL.Laid w) :
    Calls Tryd.prog 18 #[.string a0] w fun e w' => ∃ v0_ : Value, e = .returned (.tuple #[v0_, .int .i64 r2]) ∧ Kd.R k42 42 w' w.heap.size (fun _ => True) v0_ r1 ∧ Below w.heap.size w w' := by
  simp only [trace_Parse.f] at h
  split at h
  · rename_i hs
    have h2 := Option.some.inj h
    simp only [Prod.mk.injEq] at h2
    obtain ⟨rfl, rfl⟩ := h2
    refine (TrY.parse_calls a0 w HT.1 hs).mono fun e w' hp => ?_
    obtain ⟨v, he, ho, hB⟩ := hp
    exact ⟨v, he, LexE.R_map trace_Parse.u rfl (fun _ _ _ _ _ h => h) ho, hB⟩
  · exact absurd h (by simp)


-- NOT PRINTED: function 58 (abi_NoEscape)

-- NOT PRINTED: function 52 (strings_Builder_copyCheck)

-- NOT PRINTED: function 32 (strings_Builder_WriteString)

-- NOT PRINTED: function 66 (strconv_small)

-- NOT PRINTED: function 70 (strconv_log10Pow2)

-- NOT PRINTED: function 71 (bits_Len64)

-- NOT PRINTED: function 72 (strconv_bool2_int)

-- NOT PRINTED: function 67 (strconv_numDigits)

-- NOT PRINTED: function 68 (strconv_formatBase10)

-- NOT PRINTED: function 73 (strconv_isPowerOfTwo)

-- NOT PRINTED: function 75 (bits_TrailingZeros32)

-- NOT PRINTED: function 76 (bits_TrailingZeros64)

-- NOT PRINTED: function 74 (bits_TrailingZeros)

-- NOT PRINTED: function 69 (strconv_formatBits)

-- NOT PRINTED: function 63 (strconv_FormatInt)

-- NOT PRINTED: function 59 (strconv_Itoa_59)

-- NOT PRINTED: function 53 (strconv_Itoa_53)

-- NOT PRINTED: function 33 (num_Text)

-- NOT PRINTED: function 34 (strings_Builder_String)


/-! ### trace_Text: function 20 -/
def trace_Text.g (x : S42) : TrS.Ev := ⟨x.f0, x.f1, x.f2, x.f3, x.f4⟩
def trace_Text.inI (n : Int) : Bool := decide (-9223372036854775808 ≤ n) && decide (n ≤ 9223372036854775807)
def trace_Text.evIn (x : S42) : Bool := trace_Text.inI x.f1 && (trace_Text.inI x.f2 && (trace_Text.inI x.f3 && trace_Text.inI x.f4))
def trace_Text.f (l0 : List S42) : Option ByteArray := if l0.length ≤ 4398046511104 ∧ (TrX.textL (l0.map trace_Text.g)).length ≤ 140737488355328 ∧ l0.all trace_Text.evIn = true then some ⟨(TrX.textL (l0.map trace_Text.g)).toArray⟩ else none
theorem trace_Text.ok (l0 : List S42) (h : l0.all trace_Text.evIn = true) : ∀ e ∈ l0.map trace_Text.g, TrX.EvIn e := by
  intro e he
  obtain ⟨x, hx, rfl⟩ := List.mem_map.1 he
  have := List.all_eq_true.1 h x hx
  simp only [trace_Text.evIn, trace_Text.inI, Bool.and_eq_true, decide_eq_true_eq] at this
  exact this
theorem trace_Text.calls (A0 : Option Addr) (c0 : Nat) (l0 : List S42) (r : ByteArray) (w : World) (hr0 : Kd.C k42 w A0 l0.length l0) (hc0 : l0.length ≤ c0) (h : trace_Text.f l0 = some r) (HT : TrL.Laid w) {n : Nat} (hn : l0.length = n := by first | rfl | exact LexE.take_len (of_decide_eq_true (by assumption)) (of_decide_eq_true (by assumption))) :
    Calls Tryd.prog 20 #[.slice A0 n c0] w fun e w' => e = .returned (.string r) ∧ Below w.heap.size w w' := by
  simp only [trace_Text.f] at h
  split at h
  · rename_i hs
    subst hn
    have h2 := Option.some.inj h
    subst h2
    exact TrSh.text_b (l0.map trace_Text.g) A0 c0 w _ rfl _ (List.length_map _) (TrL.C_map trace_Text.g rfl (fun _ _ _ h => h) hr0) HT.1 HT.2.2 (trace_Text.ok l0 hs.2.2) hs.1 hs.2.1
  · exact absurd h (by simp)



/-! ### millwrightlaw19_shown: function 14 -/
def millwrightlaw19_shown.f : Option Bool := some true
theorem millwrightlaw19_shown.calls (r : Bool) (w : World) (h : millwrightlaw19_shown.f = some r) (HT : TrL.Laid w) :
    Calls Tryd.prog 14 #[] w fun e w' => e = .returned (.bool r) ∧ Below w.heap.size w w' := by
  simp only [millwrightlaw19_shown.f, Option.some.injEq] at h
  subst h
  exact TrL.shown_calls w HT


/-! ### millwrightlaw19_TraceMore: function 8 -/
def millwrightlaw19_TraceMore.f (a0_0 : Int) (a0_1 : Int) (a0_2 : Int) (a0_3 : Int) (a0_4 : Int) (a0_5 : Int) (a0_6 : Int) (a0_7 : Int) (a0_8 : Int) (a0_9 : Int) (l1 : List (S50)) (l2 : List (S42)) (a3 : Int) : Option (Bool) := (millwrightlaw19_shown.f).bind fun t102 => (if 0 ≤ (mn (l1.length : Int) 70) then (if (mn (l1.length : Int) 70) ≤ (l1.length : Int) then ((some (l1.take ((mn (l1.length : Int) 70) : Int).toNat : List (S50))).bind fun y103 => (if 0 ≤ (mn (l2.length : Int) 120) then (if (mn (l2.length : Int) 120) ≤ (l2.length : Int) then ((some (l2.take ((mn (l2.length : Int) 120) : Int).toNat : List (S42))).bind fun y107 => ((trace_Audit.f a0_0 a0_1 a0_2 a0_3 a0_4 a0_5 a0_6 a0_7 a0_8 a0_9 y103 y107).bind fun bt111 => ((trace_Audit.f (mx a0_0 (wrap64 (a0_0 + (wrap64 (a3))))) (mx a0_1 (wrap64 (a0_1 + (wrap64 (a3))))) a0_2 a0_3 (mx a0_4 (wrap64 (a0_4 + (wrap64 (a3))))) (mx a0_5 (wrap64 (a0_5 + (wrap64 (a3))))) (mn a0_6 (wrap64 (a0_6 - (wrap64 (a3))))) a0_7 a0_8 a0_9 y103 y107).bind fun bt114 => (if bt111.2 = 0 then (if t102 = true then (if bt111.1 = (-1) then (if bt114.1 = (-1) then (some (bt114.2 == 0)) else (some false)) else (some false)) else (some false)) else (if t102 = true then (if bt114.2 = 0 then (if bt114.1 = (-1) then (some true) else (some false)) else (some (decide (bt114.1 ≥ bt111.1)))) else (some false)))))) else (none)) else (none))) else (none)) else (none))
set_option maxHeartbeats 8000000 in
set_option maxRecDepth 100000 in
theorem millwrightlaw19_TraceMore.calls (a0_0 : Int) (a0_1 : Int) (a0_2 : Int) (a0_3 : Int) (a0_4 : Int) (a0_5 : Int) (a0_6 : Int) (a0_7 : Int) (a0_8 : Int) (a0_9 : Int) (A1 : Option Addr) (c1 : Nat) (l1 : List (S50)) (A2 : Option Addr) (c2 : Nat) (l2 : List (S42)) (a3 : Int) (r : Bool) (w : World) (hr1 : Kd.C k50 w A1 l1.length l1) (hc1 : l1.length ≤ c1) (hr2 : Kd.C k42 w A2 l2.length l2) (hc2 : l2.length ≤ c2) (h : millwrightlaw19_TraceMore.f a0_0 a0_1 a0_2 a0_3 a0_4 a0_5 a0_6 a0_7 a0_8 a0_9 l1 l2 a3 = some r) (HT : TrL.Laid w) :
    Calls Tryd.prog 8 #[.agg #[.int .i64 a0_0, .int .i64 a0_1, .int .i64 a0_2, .int .i64 a0_3, .int .i64 a0_4, .int .i64 a0_5, .int .i64 a0_6, .int .i64 a0_7, .int .i64 a0_8, .int .i64 a0_9], .slice A1 l1.length c1, .slice A2 l2.length c2, .int .u8 a3] w fun e w' => e = .returned (.bool r) ∧ Below w.heap.size w w' := by
  have hu23 := Tryd.underlying23
  have HR1 := Aside0.mk hr1
  have HC1 := Aside0.mk hc1
  clear hr1 hc1
  have HR2 := Aside0.mk hr2
  have HC2 := Aside0.mk hc2
  clear hr2 hc2
  have HB := Aside0.mk (Below.refl w.heap.size w)
  have H : ((millwrightlaw19_shown.f).bind fun t102 => (if 0 ≤ (mn (l1.length : Int) 70) then (if (mn (l1.length : Int) 70) ≤ (l1.length : Int) then ((some (l1.take ((mn (l1.length : Int) 70) : Int).toNat : List (S50))).bind fun y103 => (if 0 ≤ (mn (l2.length : Int) 120) then (if (mn (l2.length : Int) 120) ≤ (l2.length : Int) then ((some (l2.take ((mn (l2.length : Int) 120) : Int).toNat : List (S42))).bind fun y107 => ((trace_Audit.f a0_0 a0_1 a0_2 a0_3 a0_4 a0_5 a0_6 a0_7 a0_8 a0_9 y103 y107).bind fun bt111 => ((trace_Audit.f (mx a0_0 (wrap64 (a0_0 + (wrap64 (a3))))) (mx a0_1 (wrap64 (a0_1 + (wrap64 (a3))))) a0_2 a0_3 (mx a0_4 (wrap64 (a0_4 + (wrap64 (a3))))) (mx a0_5 (wrap64 (a0_5 + (wrap64 (a3))))) (mn a0_6 (wrap64 (a0_6 - (wrap64 (a3))))) a0_7 a0_8 a0_9 y103 y107).bind fun bt114 => (if bt111.2 = 0 then (if t102 = true then (if bt111.1 = (-1) then (if bt114.1 = (-1) then (some (bt114.2 == 0)) else (some false)) else (some false)) else (some false)) else (if t102 = true then (if bt114.2 = 0 then (if bt114.1 = (-1) then (some true) else (some false)) else (some (decide (bt114.1 ≥ bt111.1)))) else (some false)))))) else (none)) else (none))) else (none)) else (none))) = some r := h
  clear h
  replace H := Option.bind_eq_some_iff.mp H
  obtain ⟨t102, A50, H⟩ := H
  replace H : (if 0 ≤ (mn (l1.length : Int) 70) then (if (mn (l1.length : Int) 70) ≤ (l1.length : Int) then ((some (l1.take ((mn (l1.length : Int) 70) : Int).toNat : List (S50))).bind fun y103 => (if 0 ≤ (mn (l2.length : Int) 120) then (if (mn (l2.length : Int) 120) ≤ (l2.length : Int) then ((some (l2.take ((mn (l2.length : Int) 120) : Int).toNat : List (S42))).bind fun y107 => ((trace_Audit.f a0_0 a0_1 a0_2 a0_3 a0_4 a0_5 a0_6 a0_7 a0_8 a0_9 y103 y107).bind fun bt111 => ((trace_Audit.f (mx a0_0 (wrap64 (a0_0 + (wrap64 (a3))))) (mx a0_1 (wrap64 (a0_1 + (wrap64 (a3))))) a0_2 a0_3 (mx a0_4 (wrap64 (a0_4 + (wrap64 (a3))))) (mx a0_5 (wrap64 (a0_5 + (wrap64 (a3))))) (mn a0_6 (wrap64 (a0_6 - (wrap64 (a3))))) a0_7 a0_8 a0_9 y103 y107).bind fun bt114 => (if bt111.2 = 0 then (if t102 = true then (if bt111.1 = (-1) then (if bt114.1 = (-1) then (some (bt114.2 == 0)) else (some false)) else (some false)) else (some false)) else (if t102 = true then (if bt114.2 = 0 then (if bt114.1 = (-1) then (some true) else (some false)) else (some (decide (bt114.1 ≥ bt111.1)))) else (some false)))))) else (none)) else (none))) else (none)) else (none)) = some r := H
  have A5 := Aside0.mk A50
  clear A50
  obtain ⟨ji6, hji6⟩ : ∃ j_ : Int, (mn (l1.length : Int) 70) = j_ := ⟨_, rfl⟩
  replace H : (if 0 ≤ (ji6) then (if (ji6) ≤ (l1.length : Int) then ((some (l1.take ((ji6) : Int).toNat : List (S50))).bind fun y103 => (if 0 ≤ (mn (l2.length : Int) 120) then (if (mn (l2.length : Int) 120) ≤ (l2.length : Int) then ((some (l2.take ((mn (l2.length : Int) 120) : Int).toNat : List (S42))).bind fun y107 => ((trace_Audit.f a0_0 a0_1 a0_2 a0_3 a0_4 a0_5 a0_6 a0_7 a0_8 a0_9 y103 y107).bind fun bt111 => ((trace_Audit.f (mx a0_0 (wrap64 (a0_0 + (wrap64 (a3))))) (mx a0_1 (wrap64 (a0_1 + (wrap64 (a3))))) a0_2 a0_3 (mx a0_4 (wrap64 (a0_4 + (wrap64 (a3))))) (mx a0_5 (wrap64 (a0_5 + (wrap64 (a3))))) (mn a0_6 (wrap64 (a0_6 - (wrap64 (a3))))) a0_7 a0_8 a0_9 y103 y107).bind fun bt114 => (if bt111.2 = 0 then (if t102 = true then (if bt111.1 = (-1) then (if bt114.1 = (-1) then (some (bt114.2 == 0)) else (some false)) else (some false)) else (some false)) else (if t102 = true then (if bt114.2 = 0 then (if bt114.1 = (-1) then (some true) else (some false)) else (some (decide (bt114.1 ≥ bt111.1)))) else (some false)))))) else (none)) else (none))) else (none)) else (none)) = some r := by first | (rw [hji6] at H; exact H) | (simp only [hji6] at H ⊢; exact H)
  (try rw [hji6] at A5)
  (try (have hji6h : ji6 ≤ 70 := by (rw [← hji6]; unfold mn; (repeat' split) <;> omega)))
  (try (have hji6g : ji6 ≤ 64 := by omega))
  (try (have hji6l : 0 ≤ ji6 := by (rw [← hji6]; unfold mn; (repeat' split) <;> omega)))
  (try (have hji6m : 0 ≤ ji6 := by omega))
  have hji6_ : (if 70 < (l1.length : Int) then 70 else (l1.length : Int)) = ji6 := hji6
  by_cases c7 : 0 ≤ (ji6)
  · rw [if_pos c7] at H
    have c7b0 := eq_true c7
    have c7b1 : decide (0 ≤ (ji6)) = true := decide_eq_true c7
    clear c7
    by_cases c8 : (ji6) ≤ (l1.length : Int)
    · rw [if_pos c8] at H
      have c8b0 := eq_true c8
      have c8b1 : decide ((ji6) ≤ (l1.length : Int)) = true := decide_eq_true c8
      clear c8
      obtain ⟨y103, hy103⟩ : ∃ y_ : List (S50), y_ = (l1.take ((ji6) : Int).toNat) := ⟨_, rfl⟩
      replace H : (if 0 ≤ (mn (l2.length : Int) 120) then (if (mn (l2.length : Int) 120) ≤ (l2.length : Int) then ((some (l2.take ((mn (l2.length : Int) 120) : Int).toNat : List (S42))).bind fun y107 => ((trace_Audit.f a0_0 a0_1 a0_2 a0_3 a0_4 a0_5 a0_6 a0_7 a0_8 a0_9 y103 y107).bind fun bt111 => ((trace_Audit.f (mx a0_0 (wrap64 (a0_0 + (wrap64 (a3))))) (mx a0_1 (wrap64 (a0_1 + (wrap64 (a3))))) a0_2 a0_3 (mx a0_4 (wrap64 (a0_4 + (wrap64 (a3))))) (mx a0_5 (wrap64 (a0_5 + (wrap64 (a3))))) (mn a0_6 (wrap64 (a0_6 - (wrap64 (a3))))) a0_7 a0_8 a0_9 y103 y107).bind fun bt114 => (if bt111.2 = 0 then (if t102 = true then (if bt111.1 = (-1) then (if bt114.1 = (-1) then (some (bt114.2 == 0)) else (some false)) else (some false)) else (some false)) else (if t102 = true then (if bt114.2 = 0 then (if bt114.1 = (-1) then (some true) else (some false)) else (some (decide (bt114.1 ≥ bt111.1)))) else (some false)))))) else (none)) else (none)) = some r := by first | (rw [hy103]; with_reducible exact H) | (have H2_ := (Option.bind_some _ _).symm.trans H; rw [hy103]; with_reducible exact H2_) | (have H2_ := (Option.bind_some _ _).symm.trans H; with_reducible exact H2_) | with_reducible exact H | (rw [hy103]; exact H) | exact H
      have Ny103 := Aside0.mk hy103
      clear hy103
      obtain ⟨ji9, hji9⟩ : ∃ j_ : Int, (mn (l2.length : Int) 120) = j_ := ⟨_, rfl⟩
      replace H : (if 0 ≤ (ji9) then (if (ji9) ≤ (l2.length : Int) then ((some (l2.take ((ji9) : Int).toNat : List (S42))).bind fun y107 => ((trace_Audit.f a0_0 a0_1 a0_2 a0_3 a0_4 a0_5 a0_6 a0_7 a0_8 a0_9 y103 y107).bind fun bt111 => ((trace_Audit.f (mx a0_0 (wrap64 (a0_0 + (wrap64 (a3))))) (mx a0_1 (wrap64 (a0_1 + (wrap64 (a3))))) a0_2 a0_3 (mx a0_4 (wrap64 (a0_4 + (wrap64 (a3))))) (mx a0_5 (wrap64 (a0_5 + (wrap64 (a3))))) (mn a0_6 (wrap64 (a0_6 - (wrap64 (a3))))) a0_7 a0_8 a0_9 y103 y107).bind fun bt114 => (if bt111.2 = 0 then (if t102 = true then (if bt111.1 = (-1) then (if bt114.1 = (-1) then (some (bt114.2 == 0)) else (some false)) else (some false)) else (some false)) else (if t102 = true then (if bt114.2 = 0 then (if bt114.1 = (-1) then (some true) else (some false)) else (some (decide (bt114.1 ≥ bt111.1)))) else (some false)))))) else (none)) else (none)) = some r := by first | (rw [hji9] at H; exact H) | (simp only [hji9] at H ⊢; exact H)
      (try rw [hji9] at A5)
      (try (have hji9h : ji9 ≤ 120 := by (rw [← hji9]; unfold mn; (repeat' split) <;> omega)))
      (try (have hji9g : ji9 ≤ 64 := by omega))
      (try (have hji9l : 0 ≤ ji9 := by (rw [← hji9]; unfold mn; (repeat' split) <;> omega)))
      (try (have hji9m : 0 ≤ ji9 := by omega))
      have hji9_ : (if 120 < (l2.length : Int) then 120 else (l2.length : Int)) = ji9 := hji9
      by_cases c10 : 0 ≤ (ji9)
      · rw [if_pos c10] at H
        have c10b0 := eq_true c10
        have c10b1 : decide (0 ≤ (ji9)) = true := decide_eq_true c10
        clear c10
        by_cases c11 : (ji9) ≤ (l2.length : Int)
        · rw [if_pos c11] at H
          have c11b0 := eq_true c11
          have c11b1 : decide ((ji9) ≤ (l2.length : Int)) = true := decide_eq_true c11
          clear c11
          obtain ⟨y107, hy107⟩ : ∃ y_ : List (S42), y_ = (l2.take ((ji9) : Int).toNat) := ⟨_, rfl⟩
          replace H : ((trace_Audit.f a0_0 a0_1 a0_2 a0_3 a0_4 a0_5 a0_6 a0_7 a0_8 a0_9 y103 y107).bind fun bt111 => ((trace_Audit.f (mx a0_0 (wrap64 (a0_0 + (wrap64 (a3))))) (mx a0_1 (wrap64 (a0_1 + (wrap64 (a3))))) a0_2 a0_3 (mx a0_4 (wrap64 (a0_4 + (wrap64 (a3))))) (mx a0_5 (wrap64 (a0_5 + (wrap64 (a3))))) (mn a0_6 (wrap64 (a0_6 - (wrap64 (a3))))) a0_7 a0_8 a0_9 y103 y107).bind fun bt114 => (if bt111.2 = 0 then (if t102 = true then (if bt111.1 = (-1) then (if bt114.1 = (-1) then (some (bt114.2 == 0)) else (some false)) else (some false)) else (some false)) else (if t102 = true then (if bt114.2 = 0 then (if bt114.1 = (-1) then (some true) else (some false)) else (some (decide (bt114.1 ≥ bt111.1)))) else (some false))))) = some r := by first | (rw [hy107]; with_reducible exact H) | (have H2_ := (Option.bind_some _ _).symm.trans H; rw [hy107]; with_reducible exact H2_) | (have H2_ := (Option.bind_some _ _).symm.trans H; with_reducible exact H2_) | with_reducible exact H | (rw [hy107]; exact H) | exact H
          have Ny107 := Aside0.mk hy107
          clear hy107
          replace H := Option.bind_eq_some_iff.mp H
          obtain ⟨⟨t111, t112⟩, A120, H⟩ := H
          replace H : ((trace_Audit.f (mx a0_0 (wrap64 (a0_0 + (wrap64 (a3))))) (mx a0_1 (wrap64 (a0_1 + (wrap64 (a3))))) a0_2 a0_3 (mx a0_4 (wrap64 (a0_4 + (wrap64 (a3))))) (mx a0_5 (wrap64 (a0_5 + (wrap64 (a3))))) (mn a0_6 (wrap64 (a0_6 - (wrap64 (a3))))) a0_7 a0_8 a0_9 y103 y107).bind fun bt114 => (if t112 = 0 then (if t102 = true then (if t111 = (-1) then (if bt114.1 = (-1) then (some (bt114.2 == 0)) else (some false)) else (some false)) else (some false)) else (if t102 = true then (if bt114.2 = 0 then (if bt114.1 = (-1) then (some true) else (some false)) else (some (decide (bt114.1 ≥ t111)))) else (some false)))) = some r := H
          have A12 := Aside0.mk A120
          clear A120
          obtain ⟨ji13, hji13⟩ : ∃ j_ : Int, (mx a0_0 (wrap64 (a0_0 + (wrap64 (a3))))) = j_ := ⟨_, rfl⟩
          replace H : ((trace_Audit.f (ji13) (mx a0_1 (wrap64 (a0_1 + (wrap64 (a3))))) a0_2 a0_3 (mx a0_4 (wrap64 (a0_4 + (wrap64 (a3))))) (mx a0_5 (wrap64 (a0_5 + (wrap64 (a3))))) (mn a0_6 (wrap64 (a0_6 - (wrap64 (a3))))) a0_7 a0_8 a0_9 y103 y107).bind fun bt114 => (if t112 = 0 then (if t102 = true then (if t111 = (-1) then (if bt114.1 = (-1) then (some (bt114.2 == 0)) else (some false)) else (some false)) else (some false)) else (if t102 = true then (if bt114.2 = 0 then (if bt114.1 = (-1) then (some true) else (some false)) else (some (decide (bt114.1 ≥ t111)))) else (some false)))) = some r := by first | (rw [hji13] at H; exact H) | (simp only [hji13] at H ⊢; exact H)
          (try rw [hji13] at A5)
          (try rw [hji13] at A12)
          have hji13_ : (if a0_0 < (wrap64 (a0_0 + (wrap64 (a3)))) then (wrap64 (a0_0 + (wrap64 (a3)))) else a0_0) = ji13 := hji13
          obtain ⟨ji14, hji14⟩ : ∃ j_ : Int, (mx a0_1 (wrap64 (a0_1 + (wrap64 (a3))))) = j_ := ⟨_, rfl⟩
          replace H : ((trace_Audit.f (ji13) (ji14) a0_2 a0_3 (mx a0_4 (wrap64 (a0_4 + (wrap64 (a3))))) (mx a0_5 (wrap64 (a0_5 + (wrap64 (a3))))) (mn a0_6 (wrap64 (a0_6 - (wrap64 (a3))))) a0_7 a0_8 a0_9 y103 y107).bind fun bt114 => (if t112 = 0 then (if t102 = true then (if t111 = (-1) then (if bt114.1 = (-1) then (some (bt114.2 == 0)) else (some false)) else (some false)) else (some false)) else (if t102 = true then (if bt114.2 = 0 then (if bt114.1 = (-1) then (some true) else (some false)) else (some (decide (bt114.1 ≥ t111)))) else (some false)))) = some r := by first | (rw [hji14] at H; exact H) | (simp only [hji14] at H ⊢; exact H)
          (try rw [hji14] at A5)
          (try rw [hji14] at A12)
          have hji14_ : (if a0_1 < (wrap64 (a0_1 + (wrap64 (a3)))) then (wrap64 (a0_1 + (wrap64 (a3)))) else a0_1) = ji14 := hji14
          obtain ⟨ji15, hji15⟩ : ∃ j_ : Int, (mx a0_4 (wrap64 (a0_4 + (wrap64 (a3))))) = j_ := ⟨_, rfl⟩
          replace H : ((trace_Audit.f (ji13) (ji14) a0_2 a0_3 (ji15) (mx a0_5 (wrap64 (a0_5 + (wrap64 (a3))))) (mn a0_6 (wrap64 (a0_6 - (wrap64 (a3))))) a0_7 a0_8 a0_9 y103 y107).bind fun bt114 => (if t112 = 0 then (if t102 = true then (if t111 = (-1) then (if bt114.1 = (-1) then (some (bt114.2 == 0)) else (some false)) else (some false)) else (some false)) else (if t102 = true then (if bt114.2 = 0 then (if bt114.1 = (-1) then (some true) else (some false)) else (some (decide (bt114.1 ≥ t111)))) else (some false)))) = some r := by first | (rw [hji15] at H; exact H) | (simp only [hji15] at H ⊢; exact H)
          (try rw [hji15] at A5)
          (try rw [hji15] at A12)
          have hji15_ : (if a0_4 < (wrap64 (a0_4 + (wrap64 (a3)))) then (wrap64 (a0_4 + (wrap64 (a3)))) else a0_4) = ji15 := hji15
          obtain ⟨ji16, hji16⟩ : ∃ j_ : Int, (mx a0_5 (wrap64 (a0_5 + (wrap64 (a3))))) = j_ := ⟨_, rfl⟩
          replace H : ((trace_Audit.f (ji13) (ji14) a0_2 a0_3 (ji15) (ji16) (mn a0_6 (wrap64 (a0_6 - (wrap64 (a3))))) a0_7 a0_8 a0_9 y103 y107).bind fun bt114 => (if t112 = 0 then (if t102 = true then (if t111 = (-1) then (if bt114.1 = (-1) then (some (bt114.2 == 0)) else (some false)) else (some false)) else (some false)) else (if t102 = true then (if bt114.2 = 0 then (if bt114.1 = (-1) then (some true) else (some false)) else (some (decide (bt114.1 ≥ t111)))) else (some false)))) = some r := by first | (rw [hji16] at H; exact H) | (simp only [hji16] at H ⊢; exact H)
          (try rw [hji16] at A5)
          (try rw [hji16] at A12)
          have hji16_ : (if a0_5 < (wrap64 (a0_5 + (wrap64 (a3)))) then (wrap64 (a0_5 + (wrap64 (a3)))) else a0_5) = ji16 := hji16
          obtain ⟨ji17, hji17⟩ : ∃ j_ : Int, (mn a0_6 (wrap64 (a0_6 - (wrap64 (a3))))) = j_ := ⟨_, rfl⟩
          replace H : ((trace_Audit.f (ji13) (ji14) a0_2 a0_3 (ji15) (ji16) (ji17) a0_7 a0_8 a0_9 y103 y107).bind fun bt114 => (if t112 = 0 then (if t102 = true then (if t111 = (-1) then (if bt114.1 = (-1) then (some (bt114.2 == 0)) else (some false)) else (some false)) else (some false)) else (if t102 = true then (if bt114.2 = 0 then (if bt114.1 = (-1) then (some true) else (some false)) else (some (decide (bt114.1 ≥ t111)))) else (some false)))) = some r := by first | (rw [hji17] at H; exact H) | (simp only [hji17] at H ⊢; exact H)
          (try rw [hji17] at A5)
          (try rw [hji17] at A12)
          have hji17_ : (if (wrap64 (a0_6 - (wrap64 (a3)))) < a0_6 then (wrap64 (a0_6 - (wrap64 (a3)))) else a0_6) = ji17 := hji17
          replace H := Option.bind_eq_some_iff.mp H
          obtain ⟨⟨t114, t115⟩, A180, H⟩ := H
          replace H : (if t112 = 0 then (if t102 = true then (if t111 = (-1) then (if t114 = (-1) then (some (t115 == 0)) else (some false)) else (some false)) else (some false)) else (if t102 = true then (if t115 = 0 then (if t114 = (-1) then (some true) else (some false)) else (some (decide (t114 ≥ t111)))) else (some false))) = some r := H
          have A18 := Aside0.mk A180
          clear A180
          go_enter Tryd.func8, Tryd.ntmps8
          go_upto_region 5 with (first | ((with_reducible refine gate_dst (N := 4) rfl ?_); refine box_event ?hg (N := 4) ?hd (cs := #[.int .i64 a0_0, .int .i64 a0_1, .int .i64 a0_2, .int .i64 a0_3, .int .i64 a0_4, .int .i64 a0_5, .int .i64 a0_6, .int .i64 a0_7, .int .i64 a0_8, .int .i64 a0_9]) (t := 23) ?hr ?_; (case hd => rfl); (case hg => rfl); (case hr => first | (go_simp; done) | (go_simp; rfl)); intro gb101 hg w23 hbox hb; have n0_ := Aside0.mk (below_step (by repeat (first | (with_reducible first | exact HB.out | apply below_alloc | apply pw_below_drewN | apply below_drew1) | exact HB.out)) hb); have n1_ := Aside0.mk (hbox); have n2_ := Aside0.mk ((by rw [hg]; exact (below_size (by repeat (first | (with_reducible first | exact HB.out | apply below_alloc | apply pw_below_drewN | apply below_drew1) | exact HB.out))) : w.heap.size ≤ gb101)); have n3_ := Aside0.mk ((by rw [hg]; exact (below_size (by repeat (first | (with_reducible first | exact HB.out | apply below_alloc | apply pw_below_drewN | apply below_drew1) | exact HB.out))) : w.heap.size ≤ gb101)); clear HB; have HB := n0_; have BK101 := n1_; have GW101 := n2_; have GE101 := n3_; clear n0_ n1_ n2_ n3_; clear hb hbox hg) | ((with_reducible refine gate_callee (f := 14) rfl ?_); refine goesL_ (some 15) rfl rfl Tryd.func14 (by kernel_rfl) rfl #[] rfl (by (try simp only [List.map_toArray, List.map_cons, List.map_nil]); first | done | rfl | (simp only [List.length_drop, List.length_take]; rfl)) ?_; (with_reducible refine (millwrightlaw19_shown.calls  t102 _ A5.out (TrL.Laid.below HT (by repeat (first | (with_reducible first | exact HB.out | apply below_alloc | apply pw_below_drewN | apply below_drew1) | exact HB.out)))).mono ?_); rintro e w24 ⟨rfl, hb⟩; refine ⟨_, rfl, ?_⟩; have n0_ := Aside0.mk (blk_below (g := gb101) (o := .cells #[.int .i64 a0_0, .int .i64 a0_1, .int .i64 a0_2, .int .i64 a0_3, .int .i64 a0_4, .int .i64 a0_5, .int .i64 a0_6, .int .i64 a0_7, .int .i64 a0_8, .int .i64 a0_9] 23 (0, 0)) (by (with_reducible repeat (first | refine blk_drewN ?_ _ | refine blk_drew ?_ | refine blk_alloc ?_ _)); exact BK101.out) hb); have n1_ := Aside0.mk (below_step (by repeat (first | (with_reducible first | exact HB.out | apply below_alloc | apply pw_below_drewN | apply below_drew1 | refine below_set ?_ GE101.out) | exact HB.out)) hb); clear BK101; clear HB; have BK101 := n0_; have HB := n1_; clear n0_ n1_; (try clear hb); (try clear hb2); (try clear hk); (try clear hi); have q25 : ((ji6) : Int) ≤ ((l1.length : Int) : Int) := of_decide_eq_true (by first | (with_reducible assumption) | assumption); obtain ⟨i025, hi025, _, hsz25, _⟩ := info_parts info50; have hroom25 : l1.length ≤ c1 := HC1.out; have hC25 : Kd.C k50 _ A1 l1.length l1 := HR1.out; have hcut25 := cut_to (P := Tryd.prog) 24 50 .i64 Tryd.underlying24 hi025 A1 l1.length c1 (ji6) (of_decide_eq_true (by first | (with_reducible assumption) | assumption)) q25 hroom25; have hr25 := Kd.C_take (m := ((ji6) : Int).toNat) hC25 (by omega); have hy25 : y103.length = ((ji6) : Int).toNat := (by rw [Ny103.out, List.length_take]; omega); rw [← Ny103.out] at hr25; rw [← hy25] at hcut25; have HR106 := Aside0.mk hr25; have HC106 := Aside0.mk (show y103.length ≤ c1 from by omega); clear hr25 hC25 hroom25 hi025 hsz25; have KY25 := Aside0.mk hy25; clear hy25; replace q25 := eq_true q25; have q26 : ((ji9) : Int) ≤ ((l2.length : Int) : Int) := of_decide_eq_true (by first | (with_reducible assumption) | assumption); obtain ⟨i026, hi026, _, hsz26, _⟩ := info_parts info42; have hroom26 : l2.length ≤ c2 := HC2.out; have hC26 : Kd.C k42 _ A2 l2.length l2 := HR2.out; have hcut26 := cut_to (P := Tryd.prog) 25 42 .i64 Tryd.underlying25 hi026 A2 l2.length c2 (ji9) (of_decide_eq_true (by first | (with_reducible assumption) | assumption)) q26 hroom26; have hr26 := Kd.C_take (m := ((ji9) : Int).toNat) hC26 (by omega); have hy26 : y107.length = ((ji9) : Int).toNat := (by rw [Ny107.out, List.length_take]; omega); rw [← Ny107.out] at hr26; rw [← hy26] at hcut26; have HR110 := Aside0.mk hr26; have HC110 := Aside0.mk (show y107.length ≤ c2 from by omega); clear hr26 hC26 hroom26 hi026 hsz26; have KY26 := Aside0.mk hy26; clear hy26; replace q26 := eq_true q26; have hcz27_0 : w24.cell? ⟨gb101, 0, none⟩ = some (.int .i64 a0_0) := (blk_cell BK101.out 0).trans rfl; have hcz27_1 : w24.cell? ⟨gb101, 1, none⟩ = some (.int .i64 a0_1) := (blk_cell BK101.out 1).trans rfl; have hcz27_2 : w24.cell? ⟨gb101, 2, none⟩ = some (.int .i64 a0_2) := (blk_cell BK101.out 2).trans rfl; have hcz27_3 : w24.cell? ⟨gb101, 3, none⟩ = some (.int .i64 a0_3) := (blk_cell BK101.out 3).trans rfl; have hcz27_4 : w24.cell? ⟨gb101, 4, none⟩ = some (.int .i64 a0_4) := (blk_cell BK101.out 4).trans rfl; have hcz27_5 : w24.cell? ⟨gb101, 5, none⟩ = some (.int .i64 a0_5) := (blk_cell BK101.out 5).trans rfl; have hcz27_6 : w24.cell? ⟨gb101, 6, none⟩ = some (.int .i64 a0_6) := (blk_cell BK101.out 6).trans rfl; have hcz27_7 : w24.cell? ⟨gb101, 7, none⟩ = some (.int .i64 a0_7) := (blk_cell BK101.out 7).trans rfl; have hcz27_8 : w24.cell? ⟨gb101, 8, none⟩ = some (.int .i64 a0_8) := (blk_cell BK101.out 8).trans rfl; have hcz27_9 : w24.cell? ⟨gb101, 9, none⟩ = some (.int .i64 a0_9) := (blk_cell BK101.out 9).trans rfl; have hfz27_0 := blk_frozen BK101.out 0; have hfz27_1 := blk_frozen BK101.out 1; have hfz27_2 := blk_frozen BK101.out 2; have hfz27_3 := blk_frozen BK101.out 3; have hfz27_4 := blk_frozen BK101.out 4; have hfz27_5 := blk_frozen BK101.out 5; have hfz27_6 := blk_frozen BK101.out 6; have hfz27_7 := blk_frozen BK101.out 7; have hfz27_8 := blk_frozen BK101.out 8; have hfz27_9 := blk_frozen BK101.out 9) | ((with_reducible refine gate_callee (f := 15) rfl ?_); refine goesL_ (some 30) rfl rfl Tryd.func15 (by kernel_rfl) rfl #[.agg #[.int .i64 a0_0, .int .i64 a0_1, .int .i64 a0_2, .int .i64 a0_3, .int .i64 a0_4, .int .i64 a0_5, .int .i64 a0_6, .int .i64 a0_7, .int .i64 a0_8, .int .i64 a0_9], .slice A1 y103.length c1, .slice A2 y107.length c2] rfl (by (try simp only [List.map_toArray, List.map_cons, List.map_nil]); first | done | rfl | (simp only [List.length_drop, List.length_take]; rfl)) ?_; (with_reducible refine (trace_Audit.calls a0_0 a0_1 a0_2 a0_3 a0_4 a0_5 a0_6 a0_7 a0_8 a0_9 _ _ y103 _ _ y107 t111 t112 _ ?side1 ?side2 ?side3 ?side4 A12.out (TrL.Laid.below HT (by repeat (first | (with_reducible first | exact HB.out | apply below_alloc | apply pw_below_drewN | apply below_drew1) | exact HB.out)))).mono ?_); (case side1 => repeat (first | exact (Kd.C_below HR106.out HB.out) | (with_reducible refine Kd.C_alloc ?_ _) | (with_reducible refine Kd.C_drewN ?_ _) | (with_reducible refine Kd.C_drew ?_))); (case side2 => exact HC106.out); (case side3 => repeat (first | exact (Kd.C_below HR110.out HB.out) | (with_reducible refine Kd.C_alloc ?_ _) | (with_reducible refine Kd.C_drewN ?_ _) | (with_reducible refine Kd.C_drew ?_))); (case side4 => exact HC110.out); rintro e w28 ⟨rfl, hb⟩; refine ⟨_, rfl, ?_⟩; have n0_ := Aside0.mk (blk_below (g := gb101) (o := .cells #[.int .i64 a0_0, .int .i64 a0_1, .int .i64 a0_2, .int .i64 a0_3, .int .i64 a0_4, .int .i64 a0_5, .int .i64 a0_6, .int .i64 a0_7, .int .i64 a0_8, .int .i64 a0_9] 23 (0, 0)) (by (with_reducible repeat (first | refine blk_drewN ?_ _ | refine blk_drew ?_ | refine blk_alloc ?_ _)); exact BK101.out) hb); have n1_ := Aside0.mk (below_step (by repeat (first | (with_reducible first | exact HB.out | apply below_alloc | apply pw_below_drewN | apply below_drew1 | refine below_set ?_ GE101.out) | exact HB.out)) hb); clear BK101; clear HB; have BK101 := n0_; have HB := n1_; clear n0_ n1_; (try clear hb); (try clear hb2); (try clear hk); (try clear hi); have hcz29_0 : w28.cell? ⟨gb101, 0, none⟩ = some (.int .i64 a0_0) := (blk_cell BK101.out 0).trans rfl; have hcz29_1 : w28.cell? ⟨gb101, 1, none⟩ = some (.int .i64 a0_1) := (blk_cell BK101.out 1).trans rfl; have hcz29_2 : w28.cell? ⟨gb101, 2, none⟩ = some (.int .i64 a0_2) := (blk_cell BK101.out 2).trans rfl; have hcz29_3 : w28.cell? ⟨gb101, 3, none⟩ = some (.int .i64 a0_3) := (blk_cell BK101.out 3).trans rfl; have hcz29_4 : w28.cell? ⟨gb101, 4, none⟩ = some (.int .i64 a0_4) := (blk_cell BK101.out 4).trans rfl; have hcz29_5 : w28.cell? ⟨gb101, 5, none⟩ = some (.int .i64 a0_5) := (blk_cell BK101.out 5).trans rfl; have hcz29_6 : w28.cell? ⟨gb101, 6, none⟩ = some (.int .i64 a0_6) := (blk_cell BK101.out 6).trans rfl; have hcz29_7 : w28.cell? ⟨gb101, 7, none⟩ = some (.int .i64 a0_7) := (blk_cell BK101.out 7).trans rfl; have hcz29_8 : w28.cell? ⟨gb101, 8, none⟩ = some (.int .i64 a0_8) := (blk_cell BK101.out 8).trans rfl; have hcz29_9 : w28.cell? ⟨gb101, 9, none⟩ = some (.int .i64 a0_9) := (blk_cell BK101.out 9).trans rfl; have hfz29_0 := blk_frozen BK101.out 0; have hfz29_1 := blk_frozen BK101.out 1; have hfz29_2 := blk_frozen BK101.out 2; have hfz29_3 := blk_frozen BK101.out 3; have hfz29_4 := blk_frozen BK101.out 4; have hfz29_5 := blk_frozen BK101.out 5; have hfz29_6 := blk_frozen BK101.out 6; have hfz29_7 := blk_frozen BK101.out 7; have hfz29_8 := blk_frozen BK101.out 8; have hfz29_9 := blk_frozen BK101.out 9))
          go_upto_region 6 with (first | ((with_reducible refine gate_dst (N := 12) rfl ?_); refine box_event ?hg (N := 12) ?hd (cs := #[.int .i64 0, .int .i64 0, .int .i64 0, .int .i64 0, .int .i64 0, .int .i64 0, .int .i64 0, .int .i64 0, .int .i64 0, .int .i64 0]) (t := 23) ?hr ?_; (case hd => rfl); (case hg => rfl); (case hr => first | (go_simp; done) | (go_simp; rfl)); intro gb113 hg w30 hbox hb; have n0_ := Aside0.mk (blk_below (g := gb101) (o := .cells #[.int .i64 a0_0, .int .i64 a0_1, .int .i64 a0_2, .int .i64 a0_3, .int .i64 a0_4, .int .i64 a0_5, .int .i64 a0_6, .int .i64 a0_7, .int .i64 a0_8, .int .i64 a0_9] 23 (0, 0)) (by (with_reducible repeat (first | refine blk_drewN ?_ _ | refine blk_drew ?_ | refine blk_alloc ?_ _)); exact BK101.out) hb); have n1_ := Aside0.mk (below_step (by repeat (first | (with_reducible first | exact HB.out | apply below_alloc | apply pw_below_drewN | apply below_drew1 | refine below_set ?_ GE101.out) | exact HB.out)) hb); have n2_ := Aside0.mk (hbox); have n3_ := Aside0.mk ((by rw [hg]; exact (below_size (by repeat (first | (with_reducible first | exact HB.out | apply below_alloc | apply pw_below_drewN | apply below_drew1 | refine below_set ?_ GE101.out) | exact HB.out))) : w.heap.size ≤ gb113)); have n4_ := Aside0.mk ((by rw [hg]; exact (below_size (by repeat (first | (with_reducible first | exact HB.out | apply below_alloc | apply pw_below_drewN | apply below_drew1 | refine below_set ?_ GE101.out) | exact HB.out))) : w.heap.size ≤ gb113)); have n5_ := Aside0.mk ((by rw [hg]; exact Nat.ne_of_lt (blk_lt (g := gb101) (o := .cells #[.int .i64 a0_0, .int .i64 a0_1, .int .i64 a0_2, .int .i64 a0_3, .int .i64 a0_4, .int .i64 a0_5, .int .i64 a0_6, .int .i64 a0_7, .int .i64 a0_8, .int .i64 a0_9] 23 (0, 0)) (by (with_reducible repeat (first | refine blk_drewN ?_ _ | refine blk_drew ?_ | refine blk_alloc ?_ _)); exact BK101.out)) : gb101 ≠ gb113)); have n6_ := Aside0.mk ((by rw [hg]; exact Nat.ne_of_gt (blk_lt (g := gb101) (o := .cells #[.int .i64 a0_0, .int .i64 a0_1, .int .i64 a0_2, .int .i64 a0_3, .int .i64 a0_4, .int .i64 a0_5, .int .i64 a0_6, .int .i64 a0_7, .int .i64 a0_8, .int .i64 a0_9] 23 (0, 0)) (by (with_reducible repeat (first | refine blk_drewN ?_ _ | refine blk_drew ?_ | refine blk_alloc ?_ _)); exact BK101.out)) : gb113 ≠ gb101)); clear BK101; clear HB; have BK101 := n0_; have HB := n1_; have BK113 := n2_; have GW113 := n3_; have GE113 := n4_; have NB101_113 := n5_; have NB113_101 := n6_; clear n0_ n1_ n2_ n3_ n4_ n5_ n6_; clear hb hbox hg; have hnb31 := NB113_101.out; have hnc31 := NB101_113.out; have hcz32_0 : w30.cell? ⟨gb113, 0, none⟩ = some (.int .i64 0) := (blk_cell BK113.out 0).trans rfl; have hcz32_1 : w30.cell? ⟨gb113, 1, none⟩ = some (.int .i64 0) := (blk_cell BK113.out 1).trans rfl; have hcz32_2 : w30.cell? ⟨gb113, 2, none⟩ = some (.int .i64 0) := (blk_cell BK113.out 2).trans rfl; have hcz32_3 : w30.cell? ⟨gb113, 3, none⟩ = some (.int .i64 0) := (blk_cell BK113.out 3).trans rfl; have hcz32_4 : w30.cell? ⟨gb113, 4, none⟩ = some (.int .i64 0) := (blk_cell BK113.out 4).trans rfl; have hcz32_5 : w30.cell? ⟨gb113, 5, none⟩ = some (.int .i64 0) := (blk_cell BK113.out 5).trans rfl; have hcz32_6 : w30.cell? ⟨gb113, 6, none⟩ = some (.int .i64 0) := (blk_cell BK113.out 6).trans rfl; have hcz32_7 : w30.cell? ⟨gb113, 7, none⟩ = some (.int .i64 0) := (blk_cell BK113.out 7).trans rfl; have hcz32_8 : w30.cell? ⟨gb113, 8, none⟩ = some (.int .i64 0) := (blk_cell BK113.out 8).trans rfl; have hcz32_9 : w30.cell? ⟨gb113, 9, none⟩ = some (.int .i64 0) := (blk_cell BK113.out 9).trans rfl; have hfz32_0 := blk_frozen BK113.out 0; have hfz32_1 := blk_frozen BK113.out 1; have hfz32_2 := blk_frozen BK113.out 2; have hfz32_3 := blk_frozen BK113.out 3; have hfz32_4 := blk_frozen BK113.out 4; have hfz32_5 := blk_frozen BK113.out 5; have hfz32_6 := blk_frozen BK113.out 6; have hfz32_7 := blk_frozen BK113.out 7; have hfz32_8 := blk_frozen BK113.out 8; have hfz32_9 := blk_frozen BK113.out 9; have hcz33_0 : w30.cell? ⟨gb101, 0, none⟩ = some (.int .i64 a0_0) := (blk_cell BK101.out 0).trans rfl; have hcz33_1 : w30.cell? ⟨gb101, 1, none⟩ = some (.int .i64 a0_1) := (blk_cell BK101.out 1).trans rfl; have hcz33_2 : w30.cell? ⟨gb101, 2, none⟩ = some (.int .i64 a0_2) := (blk_cell BK101.out 2).trans rfl; have hcz33_3 : w30.cell? ⟨gb101, 3, none⟩ = some (.int .i64 a0_3) := (blk_cell BK101.out 3).trans rfl; have hcz33_4 : w30.cell? ⟨gb101, 4, none⟩ = some (.int .i64 a0_4) := (blk_cell BK101.out 4).trans rfl; have hcz33_5 : w30.cell? ⟨gb101, 5, none⟩ = some (.int .i64 a0_5) := (blk_cell BK101.out 5).trans rfl; have hcz33_6 : w30.cell? ⟨gb101, 6, none⟩ = some (.int .i64 a0_6) := (blk_cell BK101.out 6).trans rfl; have hcz33_7 : w30.cell? ⟨gb101, 7, none⟩ = some (.int .i64 a0_7) := (blk_cell BK101.out 7).trans rfl; have hcz33_8 : w30.cell? ⟨gb101, 8, none⟩ = some (.int .i64 a0_8) := (blk_cell BK101.out 8).trans rfl; have hcz33_9 : w30.cell? ⟨gb101, 9, none⟩ = some (.int .i64 a0_9) := (blk_cell BK101.out 9).trans rfl; have hfz33_0 := blk_frozen BK101.out 0; have hfz33_1 := blk_frozen BK101.out 1; have hfz33_2 := blk_frozen BK101.out 2; have hfz33_3 := blk_frozen BK101.out 3; have hfz33_4 := blk_frozen BK101.out 4; have hfz33_5 := blk_frozen BK101.out 5; have hfz33_6 := blk_frozen BK101.out 6; have hfz33_7 := blk_frozen BK101.out 7; have hfz33_8 := blk_frozen BK101.out 8; have hfz33_9 := blk_frozen BK101.out 9))
          obtain ⟨w40, hw40, hX40, hB40⟩ := TrSh.set10' (.int .i64 a0_0) (.int .i64 a0_1) (.int .i64 a0_2) (.int .i64 a0_3) (.int .i64 a0_4) (.int .i64 a0_5) (.int .i64 a0_6) (.int .i64 a0_7) (.int .i64 a0_8) (.int .i64 a0_9) BK113.out HB.out GE113.out
          rw [← hw40]
          have n_ := blk_far (p := ⟨gb113, 0, none⟩) BK101.out NB101_113.out (.int .i64 a0_0)
          replace n_ := blk_far (p := ⟨gb113, 1, none⟩) n_ NB101_113.out (.int .i64 a0_1)
          replace n_ := blk_far (p := ⟨gb113, 2, none⟩) n_ NB101_113.out (.int .i64 a0_2)
          replace n_ := blk_far (p := ⟨gb113, 3, none⟩) n_ NB101_113.out (.int .i64 a0_3)
          replace n_ := blk_far (p := ⟨gb113, 4, none⟩) n_ NB101_113.out (.int .i64 a0_4)
          replace n_ := blk_far (p := ⟨gb113, 5, none⟩) n_ NB101_113.out (.int .i64 a0_5)
          replace n_ := blk_far (p := ⟨gb113, 6, none⟩) n_ NB101_113.out (.int .i64 a0_6)
          replace n_ := blk_far (p := ⟨gb113, 7, none⟩) n_ NB101_113.out (.int .i64 a0_7)
          replace n_ := blk_far (p := ⟨gb113, 8, none⟩) n_ NB101_113.out (.int .i64 a0_8)
          replace n_ := blk_far (p := ⟨gb113, 9, none⟩) n_ NB101_113.out (.int .i64 a0_9)
          rw [← hw40] at n_
          replace BK101 := Aside0.mk n_
          replace BK113 := Aside0.mk hX40
          replace HB := Aside0.mk hB40
          (try clear n_); (try clear hw40); (try clear hX40); (try clear hB40); (try clear hcz27_0); (try clear hcz27_1); (try clear hcz27_2); (try clear hcz27_3); (try clear hcz27_4); (try clear hcz27_5); (try clear hcz27_6); (try clear hcz27_7); (try clear hcz27_8); (try clear hcz27_9); (try clear hcz29_0); (try clear hcz29_1); (try clear hcz29_2); (try clear hcz29_3); (try clear hcz29_4); (try clear hcz29_5); (try clear hcz29_6); (try clear hcz29_7); (try clear hcz29_8); (try clear hcz29_9); (try clear hcz32_0); (try clear hcz32_1); (try clear hcz32_2); (try clear hcz32_3); (try clear hcz32_4); (try clear hcz32_5); (try clear hcz32_6); (try clear hcz32_7); (try clear hcz32_8); (try clear hcz32_9); (try clear hcz33_0); (try clear hcz33_1); (try clear hcz33_2); (try clear hcz33_3); (try clear hcz33_4); (try clear hcz33_5); (try clear hcz33_6); (try clear hcz33_7); (try clear hcz33_8); (try clear hcz33_9); (try clear hfz27_0); (try clear hfz27_1); (try clear hfz27_2); (try clear hfz27_3); (try clear hfz27_4); (try clear hfz27_5); (try clear hfz27_6); (try clear hfz27_7); (try clear hfz27_8); (try clear hfz27_9); (try clear hfz29_0); (try clear hfz29_1); (try clear hfz29_2); (try clear hfz29_3); (try clear hfz29_4); (try clear hfz29_5); (try clear hfz29_6); (try clear hfz29_7); (try clear hfz29_8); (try clear hfz29_9); (try clear hfz32_0); (try clear hfz32_1); (try clear hfz32_2); (try clear hfz32_3); (try clear hfz32_4); (try clear hfz32_5); (try clear hfz32_6); (try clear hfz32_7); (try clear hfz32_8); (try clear hfz32_9); (try clear hfz33_0); (try clear hfz33_1); (try clear hfz33_2); (try clear hfz33_3); (try clear hfz33_4); (try clear hfz33_5); (try clear hfz33_6); (try clear hfz33_7); (try clear hfz33_8); (try clear hfz33_9)
          have hc_0 : w40.cell? ⟨gb101, 0, none⟩ = some (.int .i64 a0_0) := (blk_cell BK101.out 0).trans rfl
          have hf_0 := blk_frozen BK113.out 0
          have hd_0 : w40.cell? ⟨gb113, 0, none⟩ = some (.int .i64 a0_0) := (blk_cell BK113.out 0).trans rfl
          go_upto_region 7 with fail
          obtain ⟨w41, hw41⟩ : ∃ W, W = w40.setCell ⟨gb113, 0, none⟩ (.int .i64 ji13) := ⟨_, rfl⟩
          rw [← hw41]
          have n_ := blk_far (p := ⟨gb113, 0, none⟩) BK101.out NB101_113.out (.int .i64 ji13)
          rw [← hw41] at n_
          replace BK101 := Aside0.mk n_
          clear n_
          have n_ := blk_put BK113.out 0 (.int .i64 ji13) (cs' := #[.int .i64 ji13, .int .i64 a0_1, .int .i64 a0_2, .int .i64 a0_3, .int .i64 a0_4, .int .i64 a0_5, .int .i64 a0_6, .int .i64 a0_7, .int .i64 a0_8, .int .i64 a0_9]) rfl
          rw [← hw41] at n_
          replace BK113 := Aside0.mk n_
          clear n_
          have n_ := below_set (j := 0) (v := (.int .i64 ji13)) HB.out GE113.out
          rw [← hw41] at n_
          replace HB := Aside0.mk n_
          clear n_ hw41 hc_0 hf_0 hd_0
          have hc_1 : w41.cell? ⟨gb101, 1, none⟩ = some (.int .i64 a0_1) := (blk_cell BK101.out 1).trans rfl
          have hf_1 := blk_frozen BK113.out 1
          have hd_1 : w41.cell? ⟨gb113, 1, none⟩ = some (.int .i64 a0_1) := (blk_cell BK113.out 1).trans rfl
          go_upto_region 8 with fail
          obtain ⟨w42, hw42⟩ : ∃ W, W = w41.setCell ⟨gb113, 1, none⟩ (.int .i64 ji14) := ⟨_, rfl⟩
          rw [← hw42]
          have n_ := blk_far (p := ⟨gb113, 1, none⟩) BK101.out NB101_113.out (.int .i64 ji14)
          rw [← hw42] at n_
          replace BK101 := Aside0.mk n_
          clear n_
          have n_ := blk_put BK113.out 1 (.int .i64 ji14) (cs' := #[.int .i64 ji13, .int .i64 ji14, .int .i64 a0_2, .int .i64 a0_3, .int .i64 a0_4, .int .i64 a0_5, .int .i64 a0_6, .int .i64 a0_7, .int .i64 a0_8, .int .i64 a0_9]) rfl
          rw [← hw42] at n_
          replace BK113 := Aside0.mk n_
          clear n_
          have n_ := below_set (j := 1) (v := (.int .i64 ji14)) HB.out GE113.out
          rw [← hw42] at n_
          replace HB := Aside0.mk n_
          clear n_ hw42 hc_1 hf_1 hd_1
          have hc_4 : w42.cell? ⟨gb101, 4, none⟩ = some (.int .i64 a0_4) := (blk_cell BK101.out 4).trans rfl
          have hf_4 := blk_frozen BK113.out 4
          have hd_4 : w42.cell? ⟨gb113, 4, none⟩ = some (.int .i64 a0_4) := (blk_cell BK113.out 4).trans rfl
          go_upto_region 9 with fail
          obtain ⟨w43, hw43⟩ : ∃ W, W = w42.setCell ⟨gb113, 4, none⟩ (.int .i64 ji15) := ⟨_, rfl⟩
          rw [← hw43]
          have n_ := blk_far (p := ⟨gb113, 4, none⟩) BK101.out NB101_113.out (.int .i64 ji15)
          rw [← hw43] at n_
          replace BK101 := Aside0.mk n_
          clear n_
          have n_ := blk_put BK113.out 4 (.int .i64 ji15) (cs' := #[.int .i64 ji13, .int .i64 ji14, .int .i64 a0_2, .int .i64 a0_3, .int .i64 ji15, .int .i64 a0_5, .int .i64 a0_6, .int .i64 a0_7, .int .i64 a0_8, .int .i64 a0_9]) rfl
          rw [← hw43] at n_
          replace BK113 := Aside0.mk n_
          clear n_
          have n_ := below_set (j := 4) (v := (.int .i64 ji15)) HB.out GE113.out
          rw [← hw43] at n_
          replace HB := Aside0.mk n_
          clear n_ hw43 hc_4 hf_4 hd_4
          have hc_5 : w43.cell? ⟨gb101, 5, none⟩ = some (.int .i64 a0_5) := (blk_cell BK101.out 5).trans rfl
          have hf_5 := blk_frozen BK113.out 5
          have hd_5 : w43.cell? ⟨gb113, 5, none⟩ = some (.int .i64 a0_5) := (blk_cell BK113.out 5).trans rfl
          go_upto_region 10 with fail
          obtain ⟨w44, hw44⟩ : ∃ W, W = w43.setCell ⟨gb113, 5, none⟩ (.int .i64 ji16) := ⟨_, rfl⟩
          rw [← hw44]
          have n_ := blk_far (p := ⟨gb113, 5, none⟩) BK101.out NB101_113.out (.int .i64 ji16)
          rw [← hw44] at n_
          replace BK101 := Aside0.mk n_
          clear n_
          have n_ := blk_put BK113.out 5 (.int .i64 ji16) (cs' := #[.int .i64 ji13, .int .i64 ji14, .int .i64 a0_2, .int .i64 a0_3, .int .i64 ji15, .int .i64 ji16, .int .i64 a0_6, .int .i64 a0_7, .int .i64 a0_8, .int .i64 a0_9]) rfl
          rw [← hw44] at n_
          replace BK113 := Aside0.mk n_
          clear n_
          have n_ := below_set (j := 5) (v := (.int .i64 ji16)) HB.out GE113.out
          rw [← hw44] at n_
          replace HB := Aside0.mk n_
          clear n_ hw44 hc_5 hf_5 hd_5
          have hc_6 : w44.cell? ⟨gb101, 6, none⟩ = some (.int .i64 a0_6) := (blk_cell BK101.out 6).trans rfl
          have hf_6 := blk_frozen BK113.out 6
          have hd_6 : w44.cell? ⟨gb113, 6, none⟩ = some (.int .i64 a0_6) := (blk_cell BK113.out 6).trans rfl
          go_upto_region 11 with fail
          obtain ⟨w45, hw45⟩ : ∃ W, W = w44.setCell ⟨gb113, 6, none⟩ (.int .i64 ji17) := ⟨_, rfl⟩
          rw [← hw45]
          have n_ := blk_far (p := ⟨gb113, 6, none⟩) BK101.out NB101_113.out (.int .i64 ji17)
          rw [← hw45] at n_
          replace BK101 := Aside0.mk n_
          clear n_
          have n_ := blk_put BK113.out 6 (.int .i64 ji17) (cs' := #[.int .i64 ji13, .int .i64 ji14, .int .i64 a0_2, .int .i64 a0_3, .int .i64 ji15, .int .i64 ji16, .int .i64 ji17, .int .i64 a0_7, .int .i64 a0_8, .int .i64 a0_9]) rfl
          rw [← hw45] at n_
          replace BK113 := Aside0.mk n_
          clear n_
          have n_ := below_set (j := 6) (v := (.int .i64 ji17)) HB.out GE113.out
          rw [← hw45] at n_
          replace HB := Aside0.mk n_
          clear n_ hw45 hc_6 hf_6 hd_6
          have hc_0 : w45.cell? ⟨gb113, 0, none⟩ = some (.int .i64 ji13) := (blk_cell BK113.out 0).trans rfl
          have hc_1 : w45.cell? ⟨gb113, 1, none⟩ = some (.int .i64 ji14) := (blk_cell BK113.out 1).trans rfl
          have hc_2 : w45.cell? ⟨gb113, 2, none⟩ = some (.int .i64 a0_2) := (blk_cell BK113.out 2).trans rfl
          have hc_3 : w45.cell? ⟨gb113, 3, none⟩ = some (.int .i64 a0_3) := (blk_cell BK113.out 3).trans rfl
          have hc_4 : w45.cell? ⟨gb113, 4, none⟩ = some (.int .i64 ji15) := (blk_cell BK113.out 4).trans rfl
          have hc_5 : w45.cell? ⟨gb113, 5, none⟩ = some (.int .i64 ji16) := (blk_cell BK113.out 5).trans rfl
          have hc_6 : w45.cell? ⟨gb113, 6, none⟩ = some (.int .i64 ji17) := (blk_cell BK113.out 6).trans rfl
          have hc_7 : w45.cell? ⟨gb113, 7, none⟩ = some (.int .i64 a0_7) := (blk_cell BK113.out 7).trans rfl
          have hc_8 : w45.cell? ⟨gb113, 8, none⟩ = some (.int .i64 a0_8) := (blk_cell BK113.out 8).trans rfl
          have hc_9 : w45.cell? ⟨gb113, 9, none⟩ = some (.int .i64 a0_9) := (blk_cell BK113.out 9).trans rfl
          go_upto_region 12 with (first | ((with_reducible refine gate_callee (f := 15) rfl ?_); refine goesL_ (some 83) rfl rfl Tryd.func15 (by kernel_rfl) rfl #[.agg #[.int .i64 ji13, .int .i64 ji14, .int .i64 a0_2, .int .i64 a0_3, .int .i64 ji15, .int .i64 ji16, .int .i64 ji17, .int .i64 a0_7, .int .i64 a0_8, .int .i64 a0_9], .slice A1 y103.length c1, .slice A2 y107.length c2] rfl (by (try simp only [List.map_toArray, List.map_cons, List.map_nil]); first | done | (simp only [hji13, hji14, hji15, hji16, hji17]; rfl) | rfl | (simp only [List.length_drop, List.length_take]; rfl)) ?_; (with_reducible refine (trace_Audit.calls ji13 ji14 a0_2 a0_3 ji15 ji16 ji17 a0_7 a0_8 a0_9 _ _ y103 _ _ y107 t114 t115 _ ?side1 ?side2 ?side3 ?side4 A18.out (TrL.Laid.below HT HB.out)).mono ?_); (case side1 => exact Kd.C_below HR106.out HB.out); (case side2 => exact HC106.out); (case side3 => exact Kd.C_below HR110.out HB.out); (case side4 => exact HC110.out); rintro e w34 ⟨rfl, hb⟩; refine ⟨_, rfl, ?_⟩; have n_ := Aside0.mk (below_step HB.out hb); clear HB; have HB := n_; clear n_ hb))
          clear hc_0 hc_1 hc_2 hc_3 hc_4 hc_5 hc_6 hc_7 hc_8 hc_9
          by_cases c19 : t112 = 0
          · rw [if_pos c19] at H
            have c19b0 : (t112 == 0) = true := beq_iff_eq.mpr c19
            have c19b1 : (t112 != 0) = false := bne_eq_false_iff_eq.mpr c19
            clear c19
            by_cases c20 : t102 = true
            · subst c20
              have H1 : (if t111 = (-1) then (if t114 = (-1) then (some (t115 == 0)) else (some false)) else (some false)) = some r := by rw [if_pos rfl] at H; exact H
              clear H
              have H := H1
              clear H1
              by_cases c21 : t111 = (-1)
              · rw [if_pos c21] at H
                have c21b0 : (t111 == (-1)) = true := beq_iff_eq.mpr c21
                have c21b1 : (t111 != (-1)) = false := bne_eq_false_iff_eq.mpr c21
                clear c21
                by_cases c22 : t114 = (-1)
                · rw [if_pos c22] at H
                  have c22b0 : (t114 == (-1)) = true := beq_iff_eq.mpr c22
                  have c22b1 : (t114 != (-1)) = false := bne_eq_false_iff_eq.mpr c22
                  clear c22
                  obtain rfl := Option.some.inj H
                  go_wp2
                  go_ret
                  exact ⟨by first | rfl | (simp [errW_none, errW_some] <;> rfl) | (simp only [← hji6, ← hji9, ← hji13, ← hji14, ← hji15, ← hji16, ← hji17]; first | rfl | (simp [errW_none, errW_some] <;> rfl)) | (simp [*, errW_none, errW_some] <;> rfl), by repeat (first | (with_reducible first | exact HB.out | apply below_alloc | apply pw_below_drewN | apply below_drew1 | refine below_set ?_ GE101.out | refine below_set ?_ GE113.out) | exact HB.out)⟩
                · rw [if_neg c22] at H
                  have c22b0 : (t114 == (-1)) = false := beq_eq_false_iff_ne.mpr c22
                  have c22b1 : (t114 != (-1)) = true := bne_iff_ne.mpr c22
                  obtain rfl := Option.some.inj H
                  go_wp2
                  go_ret
                  exact ⟨by first | rfl | (simp [errW_none, errW_some] <;> rfl) | (simp only [← hji6, ← hji9, ← hji13, ← hji14, ← hji15, ← hji16, ← hji17]; first | rfl | (simp [errW_none, errW_some] <;> rfl)) | (simp [*, errW_none, errW_some] <;> rfl), by repeat (first | (with_reducible first | exact HB.out | apply below_alloc | apply pw_below_drewN | apply below_drew1 | refine below_set ?_ GE101.out | refine below_set ?_ GE113.out) | exact HB.out)⟩
              · rw [if_neg c21] at H
                have c21b0 : (t111 == (-1)) = false := beq_eq_false_iff_ne.mpr c21
                have c21b1 : (t111 != (-1)) = true := bne_iff_ne.mpr c21
                obtain rfl := Option.some.inj H
                go_wp2
                go_ret
                exact ⟨by first | rfl | (simp [errW_none, errW_some] <;> rfl) | (simp only [← hji6, ← hji9, ← hji13, ← hji14, ← hji15, ← hji16, ← hji17]; first | rfl | (simp [errW_none, errW_some] <;> rfl)) | (simp [*, errW_none, errW_some] <;> rfl), by repeat (first | (with_reducible first | exact HB.out | apply below_alloc | apply pw_below_drewN | apply below_drew1 | refine below_set ?_ GE101.out | refine below_set ?_ GE113.out) | exact HB.out)⟩
            · replace c20 := Bool.eq_false_iff.mpr c20
              subst c20
              have H1 : (some false) = some r := by rw [if_neg (show ¬ (false = true) by decide)] at H; exact H
              clear H
              have H := H1
              clear H1
              obtain rfl := Option.some.inj H
              go_wp2
              go_ret
              exact ⟨by first | rfl | (simp [errW_none, errW_some] <;> rfl) | (simp only [← hji6, ← hji9, ← hji13, ← hji14, ← hji15, ← hji16, ← hji17]; first | rfl | (simp [errW_none, errW_some] <;> rfl)) | (simp [*, errW_none, errW_some] <;> rfl), by repeat (first | (with_reducible first | exact HB.out | apply below_alloc | apply pw_below_drewN | apply below_drew1 | refine below_set ?_ GE101.out | refine below_set ?_ GE113.out) | exact HB.out)⟩
          · rw [if_neg c19] at H
            have c19b0 : (t112 == 0) = false := beq_eq_false_iff_ne.mpr c19
            have c19b1 : (t112 != 0) = true := bne_iff_ne.mpr c19
            by_cases c71 : t102 = true
            · subst c71
              have H1 : (if t115 = 0 then (if t114 = (-1) then (some true) else (some false)) else (some (decide (t114 ≥ t111)))) = some r := by rw [if_pos rfl] at H; exact H
              clear H
              have H := H1
              clear H1
              by_cases c72 : t115 = 0
              · rw [if_pos c72] at H
                have c72b0 : (t115 == 0) = true := beq_iff_eq.mpr c72
                have c72b1 : (t115 != 0) = false := bne_eq_false_iff_eq.mpr c72
                clear c72
                by_cases c73 : t114 = (-1)
                · rw [if_pos c73] at H
                  have c73b0 : (t114 == (-1)) = true := beq_iff_eq.mpr c73
                  have c73b1 : (t114 != (-1)) = false := bne_eq_false_iff_eq.mpr c73
                  clear c73
                  obtain rfl := Option.some.inj H
                  go_wp2
                  go_ret
                  exact ⟨by first | rfl | (simp [errW_none, errW_some] <;> rfl) | (simp only [← hji6, ← hji9, ← hji13, ← hji14, ← hji15, ← hji16, ← hji17]; first | rfl | (simp [errW_none, errW_some] <;> rfl)) | (simp [*, errW_none, errW_some] <;> rfl), by repeat (first | (with_reducible first | exact HB.out | apply below_alloc | apply pw_below_drewN | apply below_drew1 | refine below_set ?_ GE101.out | refine below_set ?_ GE113.out) | exact HB.out)⟩
                · rw [if_neg c73] at H
                  have c73b0 : (t114 == (-1)) = false := beq_eq_false_iff_ne.mpr c73
                  have c73b1 : (t114 != (-1)) = true := bne_iff_ne.mpr c73
                  obtain rfl := Option.some.inj H
                  go_wp2
                  go_ret
                  exact ⟨by first | rfl | (simp [errW_none, errW_some] <;> rfl) | (simp only [← hji6, ← hji9, ← hji13, ← hji14, ← hji15, ← hji16, ← hji17]; first | rfl | (simp [errW_none, errW_some] <;> rfl)) | (simp [*, errW_none, errW_some] <;> rfl), by repeat (first | (with_reducible first | exact HB.out | apply below_alloc | apply pw_below_drewN | apply below_drew1 | refine below_set ?_ GE101.out | refine below_set ?_ GE113.out) | exact HB.out)⟩
              · rw [if_neg c72] at H
                have c72b0 : (t115 == 0) = false := beq_eq_false_iff_ne.mpr c72
                have c72b1 : (t115 != 0) = true := bne_iff_ne.mpr c72
                obtain rfl := Option.some.inj H
                go_wp2
                go_ret
                exact ⟨by first | rfl | (simp [errW_none, errW_some] <;> rfl) | (simp only [← hji6, ← hji9, ← hji13, ← hji14, ← hji15, ← hji16, ← hji17]; first | rfl | (simp [errW_none, errW_some] <;> rfl)) | (simp [*, errW_none, errW_some] <;> rfl), by repeat (first | (with_reducible first | exact HB.out | apply below_alloc | apply pw_below_drewN | apply below_drew1 | refine below_set ?_ GE101.out | refine below_set ?_ GE113.out) | exact HB.out)⟩
            · replace c71 := Bool.eq_false_iff.mpr c71
              subst c71
              have H1 : (some false) = some r := by rw [if_neg (show ¬ (false = true) by decide)] at H; exact H
              clear H
              have H := H1
              clear H1
              obtain rfl := Option.some.inj H
              go_wp2
              go_ret
              exact ⟨by first | rfl | (simp [errW_none, errW_some] <;> rfl) | (simp only [← hji6, ← hji9, ← hji13, ← hji14, ← hji15, ← hji16, ← hji17]; first | rfl | (simp [errW_none, errW_some] <;> rfl)) | (simp [*, errW_none, errW_some] <;> rfl), by repeat (first | (with_reducible first | exact HB.out | apply below_alloc | apply pw_below_drewN | apply below_drew1 | refine below_set ?_ GE101.out | refine below_set ?_ GE113.out) | exact HB.out)⟩
        · rw [if_neg c11] at H
          exact absurd H (by simp)
      · rw [if_neg c10] at H
        exact absurd H (by simp)
    · rw [if_neg c8] at H
      exact absurd H (by simp)
  · rw [if_neg c7] at H
    exact absurd H (by simp)

end Go.Proofs.YtckcepmkfegkiaaDoor.PTraceMore
