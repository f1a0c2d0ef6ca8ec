-- Printed for this claim by a program of this project's own, over the kit's printer; some functions are told by hand.
import Derived.Test.YtckcepmkfegkiaaDoorPTraceLaterx0
namespace Go.Proofs.YtckcepmkfegkiaaDoor.PTraceLater
open Go.RowKit Go.Proofs.YtckcepmkfegkiaaDoorW.PrintWords Go.Proofs.YtckcepmkfegkiaaDoorW.PrintLast Go.Proofs.YtckcepmkfegkiaaDoorW.PrintMore
attribute [local go_sem] max2_int min2_int max_two min_two max_three min_three max_four min_four   -- for this text's walks alone
set_option linter.unusedVariables false
set_option linter.unusedSimpArgs false

-- NOT PRINTED: function 31 (trace_Event_known)

-- NOT PRINTED: function 37 (trace_audit_may)

-- NOT PRINTED: function 64 (trace_task_64)

-- NOT PRINTED: function 60 (trace_task_60)

-- NOT PRINTED: function 54 (trace_audit_held)

-- NOT PRINTED: function 65 (num_told)

-- NOT PRINTED: function 62 (num_Add)

-- NOT PRINTED: function 55 (trace_audit_fits)

-- NOT PRINTED: function 38 (trace_audit_starts)

-- NOT PRINTED: function 23 (trace_audit_takes)


/-! ### trace_Audit: function 15 -/
def trace_Audit.g1 (x : S50) : TrS.Tsk := ⟨x.f0, x.f1⟩
def trace_Audit.g2 (x : S42) : TrS.Ev := ⟨x.f0, x.f1, x.f2, x.f3, x.f4⟩
def trace_Audit.f (a0_0 : Int) (a0_1 : Int) (a0_2 : Int) (a0_3 : Int) (a0_4 : Int) (a0_5 : Int) (a0_6 : Int) (a0_7 : Int) (a0_8 : Int) (a0_9 : Int) (l1 : List S50) (l2 : List S42) : Option (Int × Int) := if l1.length ≤ 4398046511104 ∧ l2.length ≤ 4398046511104 then some (TrS.audit ⟨a0_0, a0_1, a0_2, a0_3, a0_4, a0_5, a0_6, a0_7, a0_8, a0_9⟩ (l1.map trace_Audit.g1) (l2.map trace_Audit.g2)) else none
theorem trace_Audit.calls (a0_0 : Int) (a0_1 : Int) (a0_2 : Int) (a0_3 : Int) (a0_4 : Int) (a0_5 : Int) (a0_6 : Int) (a0_7 : Int) (a0_8 : Int) (a0_9 : Int) (A1 : Option Addr) (c1 : Nat) (l1 : List S50) (A2 : Option Addr) (c2 : Nat) (l2 : List S42) (r1 : Int) (r2 : Int) (w : World) (hr1 : Kd.C k50 w A1 l1.length l1) (hc1 : l1.length ≤ c1) (hr2 : Kd.C k42 w A2 l2.length l2) (hc2 : l2.length ≤ c2) (h : trace_Audit.f a0_0 a0_1 a0_2 a0_3 a0_4 a0_5 a0_6 a0_7 a0_8 a0_9 l1 l2 = some (r1, r2)) (HT : TrL.Laid w) {n1 n2 : Nat} (hn1 : l1.length = n1 := by first | rfl | exact LexE.take_len (of_decide_eq_true (by assumption)) (of_decide_eq_true (by assumption))) (hn2 : l2.length = n2 := by first | rfl | exact LexE.take_len (of_decide_eq_true (by assumption)) (of_decide_eq_true (by assumption))) :
    Calls Tryd.prog 15 #[.agg #[.int .i64 a0_0, .int .i64 a0_1, .int .i64 a0_2, .int .i64 a0_3, .int .i64 a0_4, .int .i64 a0_5, .int .i64 a0_6, .int .i64 a0_7, .int .i64 a0_8, .int .i64 a0_9], .slice A1 n1 c1, .slice A2 n2 c2] w fun e w' => e = .returned (.tuple #[.int .i64 r1, .int .i64 r2]) ∧ Below w.heap.size w w' := by
  simp only [trace_Audit.f] at h
  split at h
  · rename_i hs
    subst hn1
    subst hn2
    exact TrSh.audit_b ⟨a0_0, a0_1, a0_2, a0_3, a0_4, a0_5, a0_6, a0_7, a0_8, a0_9⟩ (l1.map trace_Audit.g1) (l2.map trace_Audit.g2) A1 c1 A2 c2 w r1 r2 (Option.some.inj h) _ _ (List.length_map _) (List.length_map _) (TrL.C_map trace_Audit.g1 rfl (fun _ _ _ h => h) hr1) (TrL.C_map trace_Audit.g2 rfl (fun _ _ _ h => h) hr2) HT.2.1 hs.1 hs.2
  · exact absurd h (by simp)


-- NOT PRINTED: function 56 (lex_kind)

-- NOT PRINTED: function 43 (lex_scan_next)

-- NOT PRINTED: function 44 (lex_scan_take)

-- NOT PRINTED: function 45 (lex_scan_end)

-- NOT PRINTED: function 25 (lex_Lex)

-- NOT PRINTED: function 26 (lex_Token)

-- NOT PRINTED: function 46 (slices_Index_string_string)

-- NOT PRINTED: function 47 (num_Parse)

-- NOT PRINTED: function 28 (trace_event)


/-! ### trace_Parse: function 18 -/
def trace_Parse.u (x : TrS.Ev) : S42 := ⟨x.kind, x.task, x.slot, x.epoch, x.tick⟩
def trace_Parse.f (a0 : ByteArray) : Option ((List S42) × Int) := if a0.size ≤ 9223372036854775807 then some ((TrQ.parseT (bytesOf a0)).1.map trace_Parse.u, (TrQ.parseT (bytesOf a0)).2) else none
theorem trace_Parse.calls (a0 : ByteArray) (r1 : List S42) (r2 : Int) (w : World) (h : trace_Parse.f a0 = some (r1, r2)) (HT : TrL.Laid w) :
    Calls Tryd.prog 18 #[.string a0] w fun e w' => ∃ v0_ : Value, e = .returned (.tuple #[v0_, .int .i64 r2]) ∧ Kd.R k42 42 w' w.heap.size (fun _ => True) v0_ r1 ∧ Below w.heap.size w w' := by
  simp only [trace_Parse.f] at h
  split at h
  · rename_i hs
    have h2 := Option.some.inj h
    simp only [Prod.mk.injEq] at h2
    obtain ⟨rfl, rfl⟩ := h2
    refine (TrY.parse_calls a0 w HT.1 hs).mono fun e w' hp => ?_
    obtain ⟨v, he, ho, hB⟩ := hp
    exact ⟨v, he, LexE.R_map trace_Parse.u rfl (fun _ _ _ _ _ h => h) ho, hB⟩
  · exact absurd h (by simp)


-- NOT PRINTED: function 58 (abi_NoEscape)

-- NOT PRINTED: function 52 (strings_Builder_copyCheck)

-- NOT PRINTED: function 32 (strings_Builder_WriteString)

-- NOT PRINTED: function 66 (strconv_small)

-- NOT PRINTED: function 70 (strconv_log10Pow2)

-- NOT PRINTED: function 71 (bits_Len64)

-- NOT PRINTED: function 72 (strconv_bool2_int)

-- NOT PRINTED: function 67 (strconv_numDigits)

-- NOT PRINTED: function 68 (strconv_formatBase10)

-- NOT PRINTED: function 73 (strconv_isPowerOfTwo)

-- NOT PRINTED: function 75 (bits_TrailingZeros32)

-- NOT PRINTED: function 76 (bits_TrailingZeros64)

-- NOT PRINTED: function 74 (bits_TrailingZeros)

-- NOT PRINTED: function 69 (strconv_formatBits)

-- NOT PRINTED: function 63 (strconv_FormatInt)

-- NOT PRINTED: function 59 (strconv_Itoa_59)

-- NOT PRINTED: function 53 (strconv_Itoa_53)

-- NOT PRINTED: function 33 (num_Text)

-- NOT PRINTED: function 34 (strings_Builder_String)


/-! ### trace_Text: function 20 -/
def trace_Text.g (x : S42) : TrS.Ev := ⟨x.f0, x.f1, x.f2, x.f3, x.f4⟩
def trace_Text.inI (n : Int) : Bool := decide (-9223372036854775808 ≤ n) && decide (n ≤ 9223372036854775807)
def trace_Text.evIn (x : S42) : Bool := trace_Text.inI x.f1 && (trace_Text.inI x.f2 && (trace_Text.inI x.f3 && trace_Text.inI x.f4))
def trace_Text.f (l0 : List S42) : Option ByteArray := if l0.length ≤ 4398046511104 ∧ (TrX.textL (l0.map trace_Text.g)).length ≤ 140737488355328 ∧ l0.all trace_Text.evIn = true then some ⟨(TrX.textL (l0.map trace_Text.g)).toArray⟩ else none
theorem trace_Text.ok (l0 : List S42) (h : l0.all trace_Text.evIn = true) : ∀ e ∈ l0.map trace_Text.g, TrX.EvIn e := by
  intro e he
  obtain ⟨x, hx, rfl⟩ := List.mem_map.1 he
  have := List.all_eq_true.1 h x hx
  simp only [trace_Text.evIn, trace_Text.inI, Bool.and_eq_true, decide_eq_true_eq] at this
  exact this
theorem trace_Text.calls (A0 : Option Addr) (c0 : Nat) (l0 : List S42) (r : ByteArray) (w : World) (hr0 : Kd.C k42 w A0 l0.length l0) (hc0 : l0.length ≤ c0) (h : trace_Text.f l0 = some r) (HT : TrL.Laid w) {n : Nat} (hn : l0.length = n := by first | rfl | exact LexE.take_len (of_decide_eq_true (by assumption)) (of_decide_eq_true (by assumption))) :
    Calls Tryd.prog 20 #[.slice A0 n c0] w fun e w' => e = .returned (.string r) ∧ Below w.heap.size w w' := by
  simp only [trace_Text.f] at h
  split at h
  · rename_i hs
    subst hn
    have h2 := Option.some.inj h
    subst h2
    exact TrSh.text_b (l0.map trace_Text.g) A0 c0 w _ rfl _ (List.length_map _) (TrL.C_map trace_Text.g rfl (fun _ _ _ h => h) hr0) HT.1 HT.2.2 (trace_Text.ok l0 hs.2.2) hs.1 hs.2.1
  · exact absurd h (by simp)



/-! ### millwrightlaw19_shown: function 14 -/
def millwrightlaw19_shown.f : Option Bool := some true
theorem millwrightlaw19_shown.calls (r : Bool) (w : World) (h : millwrightlaw19_shown.f = some r) (HT : TrL.Laid w) :
    Calls Tryd.prog 14 #[] w fun e w' => e = .returned (.bool r) ∧ Below w.heap.size w w' := by
  simp only [millwrightlaw19_shown.f, Option.some.injEq] at h
  subst h
  exact TrL.shown_calls w HT


/-! ### millwrightlaw19_TraceLater: function 9 -/
def millwrightlaw19_TraceLater.l0 : Nat → List (S50) → Int → Bool → List (S42) → List (S42) → Int → Int → Int → Int → Int → Int → Int → Int → Int → Int → Int → Option (Bool)
  | 0, _, _, _, _, _, _, _, _, _, _, _, _, _, _, _, _ => none
  | k + 1, x1, x3, x9, x10, x11, x12, x102000, x102001, x102002, x102003, x102004, x102005, x102006, x102007, x102008, x102009 => if x12 < (x10.length : Int) then (if 0 ≤ x12 then ((some (x10.set (x12 : Int).toNat (⟨(rd_T42 x10 x12).f0, (rd_T42 x10 x12).f1, (rd_T42 x10 x12).f2, (rd_T42 x10 x12).f3, Go.bits .and .i64 ((rd_T42 x10 x12).f4) 1099511627775⟩ : S42) : List (S42))).bind fun y121 => (if x11.length < 3518437208883 then (millwrightlaw19_TraceLater.l0 k x1 x3 x9 y121 (x11 ++ [(⟨(rd_T42 y121 x12).f0, (rd_T42 y121 x12).f1, (rd_T42 y121 x12).f2, (rd_T42 y121 x12).f3, wrap64 (((rd_T42 y121 x12).f4) + (wrap64 (x3)))⟩ : S42)]) (wrap64 (x12 + 1)) x102000 x102001 x102002 x102003 x102004 x102005 x102006 x102007 x102008 x102009) else (none))) else (none)) else ((trace_Audit.f x102000 x102001 x102002 x102003 x102004 x102005 x102006 x102007 x102008 x102009 x1 x10).bind fun bt127 => ((trace_Audit.f x102000 x102001 x102002 x102003 x102004 x102005 x102006 x102007 x102008 x102009 x1 x11).bind fun bt129 => (if x9 = true then (if bt127.1 = bt129.1 then (some (bt127.2 == bt129.2)) else (some false)) else (some false))))
def millwrightlaw19_TraceLater.f (k : Nat) (a0_0 : Int) (a0_1 : Int) (a0_2 : Int) (a0_3 : Int) (a0_4 : Int) (a0_5 : Int) (a0_6 : Int) (a0_7 : Int) (a0_8 : Int) (a0_9 : Int) (l1 : List (S50)) (l2 : List (S42)) (a3 : Int) : Option (Bool) := (millwrightlaw19_shown.f).bind fun t102 => (if 0 ≤ (mn (l1.length : Int) 70) then (if (mn (l1.length : Int) 70) ≤ (l1.length : Int) then ((some (([] : List (S42)) : List (S42))).bind fun y107 => (if 0 ≤ (mn (l2.length : Int) 120) then (if (mn (l2.length : Int) 120) ≤ (l2.length : Int) then ((some (l2.take ((mn (l2.length : Int) 120) : Int).toNat : List (S42))).bind fun y110 => (if y107.length + y110.length < 3518437208883 then (millwrightlaw19_TraceLater.l0 k (l1.take ((mn (l1.length : Int) 70) : Int).toNat) a3 t102 (y107 ++ y110) (([] : List (S42))) 0 a0_0 a0_1 a0_2 a0_3 a0_4 a0_5 a0_6 a0_7 a0_8 a0_9) else (none))) else (none)) else (none))) else (none)) else (none))
theorem millwrightlaw19_TraceLater.mono_l : ∀ k, (∀ y0 y1 y2 y3 y4 y5 y6 y7 y8 y9 y10 y11 y12 y13 y14 y15, LeO (millwrightlaw19_TraceLater.l0 k y0 y1 y2 y3 y4 y5 y6 y7 y8 y9 y10 y11 y12 y13 y14 y15) (millwrightlaw19_TraceLater.l0 (k + 1) y0 y1 y2 y3 y4 y5 y6 y7 y8 y9 y10 y11 y12 y13 y14 y15))
  | 0 => fun _ _ _ _ _ _ _ _ _ _ _ _ _ _ _ _ r h => by simp [millwrightlaw19_TraceLater.l0] at h
  | k + 1 => by
    have ih0 := millwrightlaw19_TraceLater.mono_l k
    · intro y0 y1 y2 y3 y4 y5 y6 y7 y8 y9 y10 y11 y12 y13 y14 y15
      unfold millwrightlaw19_TraceLater.l0
      repeat' first
      | (with_reducible exact ih0 _ _ _ _ _ _ _ _ _ _ _ _ _ _ _ _)
      | (with_reducible exact LeO.refl _)
      | (with_reducible exact LeO.none _)
      | (with_reducible refine LeO.ite ?_ ?_)
      | (with_reducible refine LeO.bind ?_ (fun _ => ?_))
      | exact ih0 _ _ _ _ _ _ _ _ _ _ _ _ _ _ _ _
      | exact LeO.none _
      | refine LeO.ite ?_ ?_
      | refine LeO.bind ?_ (fun _ => ?_)
theorem millwrightlaw19_TraceLater.mono : ∀ a0 a1 a2 a3 a4 a5 a6 a7 a8 a9 a10 a11 a12 k, LeO (millwrightlaw19_TraceLater.f k a0 a1 a2 a3 a4 a5 a6 a7 a8 a9 a10 a11 a12) (millwrightlaw19_TraceLater.f (k + 1) a0 a1 a2 a3 a4 a5 a6 a7 a8 a9 a10 a11 a12) := by
  intro a0 a1 a2 a3 a4 a5 a6 a7 a8 a9 a10 a11 a12 k
  have ih0 := millwrightlaw19_TraceLater.mono_l k
  unfold millwrightlaw19_TraceLater.f
  repeat' first
      | (with_reducible exact ih0 _ _ _ _ _ _ _ _ _ _ _ _ _ _ _ _)
      | (with_reducible exact LeO.refl _)
      | (with_reducible exact LeO.none _)
      | (with_reducible refine LeO.ite ?_ ?_)
      | (with_reducible refine LeO.bind ?_ (fun _ => ?_))
      | exact ih0 _ _ _ _ _ _ _ _ _ _ _ _ _ _ _ _
      | exact LeO.none _
      | refine LeO.ite ?_ ?_
      | refine LeO.bind ?_ (fun _ => ?_)
theorem set5' {w0 w : World} {g : Nat} {t : TypeId} {a0 a1 a2 a3 a4 : Value} (v0 v1 v2 v3 v4 : Value) (h : w.heap[g]? = some (.cells #[a0, a1, a2, a3, a4] t (0, 0))) (hB : Below w0.heap.size w0 w) (hg : w0.heap.size ≤ g) :
    ∃ W, W = (((((w.setCell ⟨g, 0, none⟩ v0).setCell ⟨g, 1, none⟩ v1).setCell ⟨g, 2, none⟩ v2).setCell ⟨g, 3, none⟩ v3).setCell ⟨g, 4, none⟩ v4) ∧ W.heap[g]? = some (.cells #[v0, v1, v2, v3, v4] t (0, 0)) ∧ Below w0.heap.size w0 W :=
  ⟨_, rfl, (blk_put (blk_put (blk_put (blk_put (blk_put h 0 v0 (cs' := #[v0, a1, a2, a3, a4]) rfl) 1 v1 (cs' := #[v0, v1, a2, a3, a4]) rfl) 2 v2 (cs' := #[v0, v1, v2, a3, a4]) rfl) 3 v3 (cs' := #[v0, v1, v2, v3, a4]) rfl) 4 v4 (cs' := #[v0, v1, v2, v3, v4]) rfl), (below_set (below_set (below_set (below_set (below_set hB hg) hg) hg) hg) hg)⟩
set_option maxHeartbeats 8000000 in
set_option maxRecDepth 100000 in
theorem millwrightlaw19_TraceLater.calls (k : Nat) (a0_0 : Int) (a0_1 : Int) (a0_2 : Int) (a0_3 : Int) (a0_4 : Int) (a0_5 : Int) (a0_6 : Int) (a0_7 : Int) (a0_8 : Int) (a0_9 : Int) (A1 : Option Addr) (c1 : Nat) (l1 : List (S50)) (A2 : Option Addr) (c2 : Nat) (l2 : List (S42)) (a3 : Int) (r : Bool) (w : World) (hr1 : Kd.C k50 w A1 l1.length l1) (hc1 : l1.length ≤ c1) (hr2 : Kd.C k42 w A2 l2.length l2) (hc2 : l2.length ≤ c2) (h : millwrightlaw19_TraceLater.f k a0_0 a0_1 a0_2 a0_3 a0_4 a0_5 a0_6 a0_7 a0_8 a0_9 l1 l2 a3 = some r) (HT : TrL.Laid w) :
    Calls Tryd.prog 9 #[.agg #[.int .i64 a0_0, .int .i64 a0_1, .int .i64 a0_2, .int .i64 a0_3, .int .i64 a0_4, .int .i64 a0_5, .int .i64 a0_6, .int .i64 a0_7, .int .i64 a0_8, .int .i64 a0_9], .slice A1 l1.length c1, .slice A2 l2.length c2, .int .u32 a3] w fun e w' => e = .returned (.bool r) ∧ Below w.heap.size w w' := by
  have hu23 := Tryd.underlying23
  have hu42 := Tryd.underlying42
  have HR1 := Aside0.mk hr1
  have HC1 := Aside0.mk hc1
  clear hr1 hc1
  have HR2 := Aside0.mk hr2
  have HC2 := Aside0.mk hc2
  clear hr2 hc2
  have HB := Aside0.mk (Below.refl w.heap.size w)
  have H : ((millwrightlaw19_shown.f).bind fun t102 => (if 0 ≤ (mn (l1.length : Int) 70) then (if (mn (l1.length : Int) 70) ≤ (l1.length : Int) then ((some (([] : List (S42)) : List (S42))).bind fun y107 => (if 0 ≤ (mn (l2.length : Int) 120) then (if (mn (l2.length : Int) 120) ≤ (l2.length : Int) then ((some (l2.take ((mn (l2.length : Int) 120) : Int).toNat : List (S42))).bind fun y110 => (if y107.length + y110.length < 3518437208883 then (millwrightlaw19_TraceLater.l0 k (l1.take ((mn (l1.length : Int) 70) : Int).toNat) a3 t102 (y107 ++ y110) (([] : List (S42))) 0 a0_0 a0_1 a0_2 a0_3 a0_4 a0_5 a0_6 a0_7 a0_8 a0_9) else (none))) else (none)) else (none))) else (none)) else (none))) = some r := h
  clear h
  replace H := Option.bind_eq_some_iff.mp H
  obtain ⟨t102, A50, H⟩ := H
  replace H : (if 0 ≤ (mn (l1.length : Int) 70) then (if (mn (l1.length : Int) 70) ≤ (l1.length : Int) then ((some (([] : List (S42)) : List (S42))).bind fun y107 => (if 0 ≤ (mn (l2.length : Int) 120) then (if (mn (l2.length : Int) 120) ≤ (l2.length : Int) then ((some (l2.take ((mn (l2.length : Int) 120) : Int).toNat : List (S42))).bind fun y110 => (if y107.length + y110.length < 3518437208883 then (millwrightlaw19_TraceLater.l0 k (l1.take ((mn (l1.length : Int) 70) : Int).toNat) a3 t102 (y107 ++ y110) (([] : List (S42))) 0 a0_0 a0_1 a0_2 a0_3 a0_4 a0_5 a0_6 a0_7 a0_8 a0_9) else (none))) else (none)) else (none))) else (none)) else (none)) = some r := H
  have A5 := Aside0.mk A50
  clear A50
  obtain ⟨ji6, hji6⟩ : ∃ j_ : Int, (mn (l1.length : Int) 70) = j_ := ⟨_, rfl⟩
  replace H : (if 0 ≤ (ji6) then (if (ji6) ≤ (l1.length : Int) then ((some (([] : List (S42)) : List (S42))).bind fun y107 => (if 0 ≤ (mn (l2.length : Int) 120) then (if (mn (l2.length : Int) 120) ≤ (l2.length : Int) then ((some (l2.take ((mn (l2.length : Int) 120) : Int).toNat : List (S42))).bind fun y110 => (if y107.length + y110.length < 3518437208883 then (millwrightlaw19_TraceLater.l0 k (l1.take ((ji6) : Int).toNat) a3 t102 (y107 ++ y110) (([] : List (S42))) 0 a0_0 a0_1 a0_2 a0_3 a0_4 a0_5 a0_6 a0_7 a0_8 a0_9) else (none))) else (none)) else (none))) else (none)) else (none)) = some r := by first | (rw [hji6] at H; exact H) | (simp only [hji6] at H ⊢; exact H)
  (try rw [hji6] at A5)
  (try (have hji6h : ji6 ≤ 70 := by (rw [← hji6]; unfold mn; (repeat' split) <;> omega)))
  (try (have hji6g : ji6 ≤ 64 := by omega))
  (try (have hji6l : 0 ≤ ji6 := by (rw [← hji6]; unfold mn; (repeat' split) <;> omega)))
  (try (have hji6m : 0 ≤ ji6 := by omega))
  have hji6_ : (if 70 < (l1.length : Int) then 70 else (l1.length : Int)) = ji6 := hji6
  by_cases c7 : 0 ≤ (ji6)
  · rw [if_pos c7] at H
    have c7b0 := eq_true c7
    have c7b1 : decide (0 ≤ (ji6)) = true := decide_eq_true c7
    clear c7
    by_cases c8 : (ji6) ≤ (l1.length : Int)
    · rw [if_pos c8] at H
      have c8b0 := eq_true c8
      have c8b1 : decide ((ji6) ≤ (l1.length : Int)) = true := decide_eq_true c8
      clear c8
      obtain ⟨y103, hy103⟩ : ∃ y_ : List (S50), y_ = (l1.take ((ji6) : Int).toNat) := ⟨_, rfl⟩
      replace H : ((some (([] : List (S42)) : List (S42))).bind fun y107 => (if 0 ≤ (mn (l2.length : Int) 120) then (if (mn (l2.length : Int) 120) ≤ (l2.length : Int) then ((some (l2.take ((mn (l2.length : Int) 120) : Int).toNat : List (S42))).bind fun y110 => (if y107.length + y110.length < 3518437208883 then (millwrightlaw19_TraceLater.l0 k y103 a3 t102 (y107 ++ y110) (([] : List (S42))) 0 a0_0 a0_1 a0_2 a0_3 a0_4 a0_5 a0_6 a0_7 a0_8 a0_9) else (none))) else (none)) else (none))) = some r := by first | (rw [hy103]; with_reducible exact H) | (have H2_ := (Option.bind_some _ _).symm.trans H; rw [hy103]; with_reducible exact H2_) | (have H2_ := (Option.bind_some _ _).symm.trans H; with_reducible exact H2_) | with_reducible exact H | (rw [hy103]; exact H) | exact H
      have Ny103 := Aside0.mk hy103
      clear hy103
      obtain ⟨y107, hy107⟩ : ∃ y_ : List (S42), y_ = (([] : List (S42))) := ⟨_, rfl⟩
      replace H : (if 0 ≤ (mn (l2.length : Int) 120) then (if (mn (l2.length : Int) 120) ≤ (l2.length : Int) then ((some (l2.take ((mn (l2.length : Int) 120) : Int).toNat : List (S42))).bind fun y110 => (if y107.length + y110.length < 3518437208883 then (millwrightlaw19_TraceLater.l0 k y103 a3 t102 (y107 ++ y110) (([] : List (S42))) 0 a0_0 a0_1 a0_2 a0_3 a0_4 a0_5 a0_6 a0_7 a0_8 a0_9) else (none))) else (none)) else (none)) = some r := by first | (rw [hy107]; with_reducible exact H) | (have H2_ := (Option.bind_some _ _).symm.trans H; rw [hy107]; with_reducible exact H2_) | (have H2_ := (Option.bind_some _ _).symm.trans H; with_reducible exact H2_) | with_reducible exact H | (rw [hy107]; exact H) | exact H
      have Ny107 := Aside0.mk hy107
      clear hy107
      obtain ⟨ji9, hji9⟩ : ∃ j_ : Int, (mn (l2.length : Int) 120) = j_ := ⟨_, rfl⟩
      replace H : (if 0 ≤ (ji9) then (if (ji9) ≤ (l2.length : Int) then ((some (l2.take ((ji9) : Int).toNat : List (S42))).bind fun y110 => (if y107.length + y110.length < 3518437208883 then (millwrightlaw19_TraceLater.l0 k y103 a3 t102 (y107 ++ y110) (([] : List (S42))) 0 a0_0 a0_1 a0_2 a0_3 a0_4 a0_5 a0_6 a0_7 a0_8 a0_9) else (none))) else (none)) else (none)) = some r := by first | (rw [hji9] at H; exact H) | (simp only [hji9] at H ⊢; exact H)
      (try rw [hji9] at A5)
      (try (have hji9h : ji9 ≤ 120 := by (rw [← hji9]; unfold mn; (repeat' split) <;> omega)))
      (try (have hji9g : ji9 ≤ 64 := by omega))
      (try (have hji9l : 0 ≤ ji9 := by (rw [← hji9]; unfold mn; (repeat' split) <;> omega)))
      (try (have hji9m : 0 ≤ ji9 := by omega))
      have hji9_ : (if 120 < (l2.length : Int) then 120 else (l2.length : Int)) = ji9 := hji9
      by_cases c10 : 0 ≤ (ji9)
      · rw [if_pos c10] at H
        have c10b0 := eq_true c10
        have c10b1 : decide (0 ≤ (ji9)) = true := decide_eq_true c10
        clear c10
        by_cases c11 : (ji9) ≤ (l2.length : Int)
        · rw [if_pos c11] at H
          have c11b0 := eq_true c11
          have c11b1 : decide ((ji9) ≤ (l2.length : Int)) = true := decide_eq_true c11
          clear c11
          obtain ⟨y110, hy110⟩ : ∃ y_ : List (S42), y_ = (l2.take ((ji9) : Int).toNat) := ⟨_, rfl⟩
          replace H : (if y107.length + y110.length < 3518437208883 then (millwrightlaw19_TraceLater.l0 k y103 a3 t102 (y107 ++ y110) (([] : List (S42))) 0 a0_0 a0_1 a0_2 a0_3 a0_4 a0_5 a0_6 a0_7 a0_8 a0_9) else (none)) = some r := by first | (rw [hy110]; with_reducible exact H) | (have H2_ := (Option.bind_some _ _).symm.trans H; rw [hy110]; with_reducible exact H2_) | (have H2_ := (Option.bind_some _ _).symm.trans H; with_reducible exact H2_) | with_reducible exact H | (rw [hy110]; exact H) | exact H
          have Ny110 := Aside0.mk hy110
          clear hy110
          by_cases c12 : y107.length + y110.length < 3518437208883
          · rw [if_pos c12] at H
            have LMc12 := Aside0.mk c12
            clear c12
            obtain ⟨y114, hy114⟩ : ∃ y_ : List (S42), y_ = (y107 ++ y110) := ⟨_, rfl⟩
            replace H : (millwrightlaw19_TraceLater.l0 k y103 a3 t102 y114 (([] : List (S42))) 0 a0_0 a0_1 a0_2 a0_3 a0_4 a0_5 a0_6 a0_7 a0_8 a0_9) = some r := by first | (rw [hy114]; with_reducible exact H) | (have H2_ := (Option.bind_some _ _).symm.trans H; rw [hy114]; with_reducible exact H2_) | (have H2_ := (Option.bind_some _ _).symm.trans H; with_reducible exact H2_) | with_reducible exact H | (rw [hy114]; exact H) | exact H
            have Ny114 := Aside0.mk hy114
            clear hy114
            obtain ⟨y117, hy117⟩ : ∃ y_ : List (S42), y_ = (([] : List (S42))) := ⟨_, rfl⟩
            replace H : (millwrightlaw19_TraceLater.l0 k y103 a3 t102 y114 y117 0 a0_0 a0_1 a0_2 a0_3 a0_4 a0_5 a0_6 a0_7 a0_8 a0_9) = some r := by first | (rw [hy117]; with_reducible exact H) | (have H2_ := (Option.bind_some _ _).symm.trans H; rw [hy117]; with_reducible exact H2_) | (have H2_ := (Option.bind_some _ _).symm.trans H; with_reducible exact H2_) | with_reducible exact H | (rw [hy117]; exact H) | exact H
            have Ny117 := Aside0.mk hy117
            clear hy117
            have H' := Aside0.mk H
            clear H
            go_enter Tryd.func9, Tryd.ntmps9
            go_wp2_with (first | ((with_reducible refine gate_dst (N := 4) rfl ?_); refine box_event ?hg (N := 4) ?hd (cs := #[.int .i64 a0_0, .int .i64 a0_1, .int .i64 a0_2, .int .i64 a0_3, .int .i64 a0_4, .int .i64 a0_5, .int .i64 a0_6, .int .i64 a0_7, .int .i64 a0_8, .int .i64 a0_9]) (t := 23) ?hr ?_; (case hd => rfl); (case hg => rfl); (case hr => first | (go_simp; done) | (go_simp; rfl)); intro gb101 hg w13 hbox hb; have n0_ := Aside0.mk (below_step (by repeat (first | (with_reducible first | exact HB.out | apply below_alloc | apply pw_below_drewN | apply below_drew1) | exact HB.out)) hb); have n1_ := Aside0.mk (hbox); have n2_ := Aside0.mk ((by rw [hg]; exact (below_size (by repeat (first | (with_reducible first | exact HB.out | apply below_alloc | apply pw_below_drewN | apply below_drew1) | exact HB.out))) : w.heap.size ≤ gb101)); have n3_ := Aside0.mk ((by rw [hg]; exact (below_size (by repeat (first | (with_reducible first | exact HB.out | apply below_alloc | apply pw_below_drewN | apply below_drew1) | exact HB.out))) : w.heap.size ≤ gb101)); clear HB; have HB := n0_; have BK101 := n1_; have GW101 := n2_; have GE101 := n3_; clear n0_ n1_ n2_ n3_; clear hb hbox hg) | ((with_reducible refine gate_callee (f := 14) rfl ?_); refine goesL_ (some 18) rfl rfl Tryd.func14 (by kernel_rfl) rfl #[] rfl (by (try simp only [List.map_toArray, List.map_cons, List.map_nil]); first | done | rfl | (simp only [List.length_drop, List.length_take]; rfl)) ?_; (with_reducible refine (millwrightlaw19_shown.calls  t102 _ A5.out (TrL.Laid.below HT (by repeat (first | (with_reducible first | exact HB.out | apply below_alloc | apply pw_below_drewN | apply below_drew1) | exact HB.out)))).mono ?_); rintro e w14 ⟨rfl, hb⟩; refine ⟨_, rfl, ?_⟩; have n0_ := Aside0.mk (blk_below (g := gb101) (o := .cells #[.int .i64 a0_0, .int .i64 a0_1, .int .i64 a0_2, .int .i64 a0_3, .int .i64 a0_4, .int .i64 a0_5, .int .i64 a0_6, .int .i64 a0_7, .int .i64 a0_8, .int .i64 a0_9] 23 (0, 0)) (by (with_reducible repeat (first | refine blk_drewN ?_ _ | refine blk_drew ?_ | refine blk_alloc ?_ _)); exact BK101.out) hb); have n1_ := Aside0.mk (below_step (by repeat (first | (with_reducible first | exact HB.out | apply below_alloc | apply pw_below_drewN | apply below_drew1 | refine below_set ?_ GE101.out) | exact HB.out)) hb); clear BK101; clear HB; have BK101 := n0_; have HB := n1_; clear n0_ n1_; (try clear hb); (try clear hb2); (try clear hk); (try clear hi); have q15 : ((ji6) : Int) ≤ ((l1.length : Int) : Int) := of_decide_eq_true (by first | (with_reducible assumption) | assumption); obtain ⟨i015, hi015, _, hsz15, _⟩ := info_parts info50; have hroom15 : l1.length ≤ c1 := HC1.out; have hC15 : Kd.C k50 _ A1 l1.length l1 := HR1.out; have hcut15 := cut_to (P := Tryd.prog) 24 50 .i64 Tryd.underlying24 hi015 A1 l1.length c1 (ji6) (of_decide_eq_true (by first | (with_reducible assumption) | assumption)) q15 hroom15; have hr15 := Kd.C_take (m := ((ji6) : Int).toNat) hC15 (by omega); have hy15 : y103.length = ((ji6) : Int).toNat := (by rw [Ny103.out, List.length_take]; omega); rw [← Ny103.out] at hr15; rw [← hy15] at hcut15; have HR106 := Aside0.mk hr15; have HC106 := Aside0.mk (show y103.length ≤ c1 from by omega); clear hr15 hC15 hroom15 hi015 hsz15; have KY15 := Aside0.mk hy15; clear hy15; replace q15 := eq_true q15) | ((with_reducible refine gate_dst (N := 24) rfl ?_); refine Kd.R_lit k42 _ 42 ?hg (N := 24) ?hd (xs := ([] : List (S42))) (inner := []) (ok := fun _ => True) (okp := fun _ => True) ?hr ?hp (fun _ hk => hk) trivial (Below.refl _ _) (Nat.le_refl _) (by simp) ?_; (case hd => rfl); (case hg => rfl); (case hr => first | (go_simp; done) | (go_simp; rfl)); (case hp => exact (Reps.none _ _)); intro v108 w16 ho17 hb hg_ hnew_; clear hg_ hnew_; (first | rw [← Ny107.out] at ho17 | (simp only [Int.reduceToNat] at ho17; rw [← Ny107.out] at ho17)); have n0_ := Aside0.mk (Kd.R_lower ho17 (below_size (by repeat (first | (with_reducible first | exact HB.out | apply below_alloc | apply pw_below_drewN | apply below_drew1 | refine below_set ?_ GE101.out) | exact HB.out)))); have n1_ := Aside0.mk (blk_below (g := gb101) (o := .cells #[.int .i64 a0_0, .int .i64 a0_1, .int .i64 a0_2, .int .i64 a0_3, .int .i64 a0_4, .int .i64 a0_5, .int .i64 a0_6, .int .i64 a0_7, .int .i64 a0_8, .int .i64 a0_9] 23 (0, 0)) (by (with_reducible repeat (first | refine blk_drewN ?_ _ | refine blk_drew ?_ | refine blk_alloc ?_ _)); exact BK101.out) hb); have n2_ := Aside0.mk (below_step (by repeat (first | (with_reducible first | exact HB.out | apply below_alloc | apply pw_below_drewN | apply below_drew1 | refine below_set ?_ GE101.out) | exact HB.out)) hb); clear BK101; clear HB; have HO109 := n0_; have BK101 := n1_; have HB := n2_; clear n0_ n1_ n2_; clear hb ho17; have q18 : ((ji9) : Int) ≤ ((l2.length : Int) : Int) := of_decide_eq_true (by first | (with_reducible assumption) | assumption); obtain ⟨i018, hi018, _, hsz18, _⟩ := info_parts info42; have hroom18 : l2.length ≤ c2 := HC2.out; have hC18 : Kd.C k42 _ A2 l2.length l2 := HR2.out; have hcut18 := cut_to (P := Tryd.prog) 25 42 .i64 Tryd.underlying25 hi018 A2 l2.length c2 (ji9) (of_decide_eq_true (by first | (with_reducible assumption) | assumption)) q18 hroom18; have hr18 := Kd.C_take (m := ((ji9) : Int).toNat) hC18 (by omega); have hy18 : y110.length = ((ji9) : Int).toNat := (by rw [Ny110.out, List.length_take]; omega); rw [← Ny110.out] at hr18; rw [← hy18] at hcut18; have HR113 := Aside0.mk hr18; have HC113 := Aside0.mk (show y110.length ≤ c2 from by omega); clear hr18 hC18 hroom18 hi018 hsz18; have KY18 := Aside0.mk hy18; clear hy18; replace q18 := eq_true q18) | ((with_reducible refine gate_builtin (b := .append) (xs := #[.tmp 24, .tmp 29]) rfl ?_); at_builtin; refine Kd.R_append_rows k42 (w0 := w) w.heap.size rfl (.tmp 24) (.tmp 29) 25 42 (.agg #[(.int .i64 0), (.int .i64 0), (.int .i64 0), (.int .i64 0), (.int .i64 0)]) 40 rfl Tryd.underlying25 info42 rfl (by decide) (by omega) v108 y107 y110 _ _ _ (fun _ => True) (fun _ => False) rfl rfl ?aO ?aR (fun _ _ h => h) (fun _ h => h.elim) ?aF ?aB ?aS ?aL ?_; (case aR => repeat (first | exact (Kd.C_below HR113.out HB.out) | (with_reducible refine Kd.C_alloc ?_ _) | (with_reducible refine Kd.C_drewN ?_ _) | (with_reducible refine Kd.C_drew ?_))); (case aB => exact (by repeat (first | (with_reducible first | exact HB.out | apply below_alloc | apply pw_below_drewN | apply below_drew1 | refine below_set ?_ GE101.out) | exact HB.out))); (case aF => exact (fun _ _ => trivial)); (case aO => exact (by (with_reducible repeat (first | apply Kd.R_alloc | apply Kd.R_drewN | apply Kd.R_drew)); exact HO109.out)); (case aS => exact (below_size (by repeat (first | (with_reducible first | exact HB.out | apply below_alloc | apply pw_below_drewN | apply below_drew1 | refine below_set ?_ GE101.out) | exact HB.out)))); (case aL => have := LMc12.out; omega); intro v115 w19 ho hb hg hat; rw [← Ny114.out] at ho; have n0_ := Aside0.mk (blk_grown (g := gb101) (o := .cells #[.int .i64 a0_0, .int .i64 a0_1, .int .i64 a0_2, .int .i64 a0_3, .int .i64 a0_4, .int .i64 a0_5, .int .i64 a0_6, .int .i64 a0_7, .int .i64 a0_8, .int .i64 a0_9] 23 (0, 0)) (by (with_reducible repeat (first | refine blk_drewN ?_ _ | refine blk_drew ?_ | refine blk_alloc ?_ _)); exact BK101.out) hg (Kd.R_ne HO109.out BK101.out (by decide))); have n1_ := Aside0.mk (hb); have n2_ := Aside0.mk (ho); clear BK101; clear HB; clear HO109; have BK101 := n0_; have HB := n1_; have HO116 := n2_; clear n0_ n1_ n2_; clear ho hb hg hat) | ((with_reducible refine gate_dst (N := 31) rfl ?_); refine Kd.R_lit k42 _ 42 ?hg (N := 31) ?hd (xs := ([] : List (S42))) (inner := []) (ok := fun _ => True) (okp := fun _ => True) ?hr ?hp (fun _ hk => hk) trivial (Below.refl _ _) (Nat.le_refl _) (by simp) ?_; (case hd => rfl); (case hg => rfl); (case hr => first | (go_simp; done) | (go_simp; rfl)); (case hp => exact (Reps.none _ _)); intro v118 w20 ho21 hb hg_ hnew_; clear hg_ hnew_; (first | rw [← Ny117.out] at ho21 | (simp only [Int.reduceToNat] at ho21; rw [← Ny117.out] at ho21)); have n0_ := Aside0.mk (Kd.R_elder' (by (with_reducible repeat (first | apply Kd.R_alloc | apply Kd.R_drewN | apply Kd.R_drew)); exact HO116.out) (Kd.R_base ho21) hb); have n1_ := Aside0.mk (Kd.R_lower (Kd.R_new' ho21 (Kd.R_lt (by (with_reducible repeat (first | apply Kd.R_alloc | apply Kd.R_drewN | apply Kd.R_drew)); exact HO116.out))) (below_size (by repeat (first | (with_reducible first | exact HB.out | apply below_alloc | apply pw_below_drewN | apply below_drew1 | refine below_set ?_ GE101.out) | exact HB.out)))); have n2_ := Aside0.mk (blk_below (g := gb101) (o := .cells #[.int .i64 a0_0, .int .i64 a0_1, .int .i64 a0_2, .int .i64 a0_3, .int .i64 a0_4, .int .i64 a0_5, .int .i64 a0_6, .int .i64 a0_7, .int .i64 a0_8, .int .i64 a0_9] 23 (0, 0)) (by (with_reducible repeat (first | refine blk_drewN ?_ _ | refine blk_drew ?_ | refine blk_alloc ?_ _)); exact BK101.out) hb); have n3_ := Aside0.mk (below_step (by repeat (first | (with_reducible first | exact HB.out | apply below_alloc | apply pw_below_drewN | apply below_drew1 | refine below_set ?_ GE101.out) | exact HB.out)) hb); clear HO116; clear BK101; clear HB; have HO116 := n0_; have HO119 := n1_; have BK101 := n2_; have HB := n3_; clear n0_ n1_ n2_ n3_; clear hb ho21))
            go_loopg [11, 12] k (fun kq v11 v12 w' => ∃ (x10_1 : List (S42)) (x11_1 : List (S42)) (x12_1 : Int), v12 = .int .i64 x12_1 ∧ Aside0 (millwrightlaw19_TraceLater.l0 kq y103 a3 t102 x10_1 x11_1 x12_1 a0_0 a0_1 a0_2 a0_3 a0_4 a0_5 a0_6 a0_7 a0_8 a0_9 = some r) ∧ Aside0 (kq ≤ k) ∧ Aside0 (Kd.R k42 42 w' w.heap.size (fun k_ => some k_ ≠ (v11 : Value).ownBlock) v115 x10_1) ∧ Aside0 (Kd.R k42 42 w' w.heap.size (fun k_ => some k_ ≠ (v115 : Value).ownBlock) v11 x11_1) ∧ Aside0 (w'.heap[gb101]? = some (.cells #[.int .i64 a0_0, .int .i64 a0_1, .int .i64 a0_2, .int .i64 a0_3, .int .i64 a0_4, .int .i64 a0_5, .int .i64 a0_6, .int .i64 a0_7, .int .i64 a0_8, .int .i64 a0_9] 23 (0, 0))) ∧ Aside0 (Below w.heap.size w w'))
            case atStart => exact ⟨(y114), (y117), (0), (by first | rfl | (simp; done) | (simp [*]; done)), H', ⟨Nat.le_refl _⟩, ⟨by (with_reducible repeat (first | apply Kd.R_alloc | apply Kd.R_drewN | apply Kd.R_drew)); exact Kd.R_mono HO116.out (fun _ hk => hk.2)⟩, ⟨by (with_reducible repeat (first | apply Kd.R_alloc | apply Kd.R_drewN | apply Kd.R_drew)); exact Kd.R_mono HO119.out (fun _ hk => hk.2)⟩, ⟨by (with_reducible repeat (first | refine blk_drewN ?_ _ | refine blk_drew ?_ | refine blk_alloc ?_ _)); exact BK101.out⟩, ⟨by repeat (first | (with_reducible first | exact HB.out | apply below_alloc | apply pw_below_drewN | apply below_drew1 | refine below_set ?_ GE101.out) | exact HB.out)⟩⟩
            case round =>
              clear H'
              try clear c1
              try clear q1
              try clear c2
              try clear p2
              try clear c7
              try clear c7b0
              try clear c7b1
              try clear c8
              try clear c8b0
              try clear c8b1
              try clear c9
              try clear c10
              try clear c10b0
              try clear c10b1
              try clear c11
              try clear c11b0
              try clear c11b1
              try clear c12
              try clear c14
              try clear q15
              try clear q18
              try clear q15
              try clear q18
              obtain ⟨x10_1, x11_1, x12_1, rfl, HA, HK1, HO_10, HO_11, BK101, HB⟩ := hrel
              cases gk with
              | zero => exact absurd HA.out (by simp [millwrightlaw19_TraceLater.l0])
              | succ k1 =>
                have H := HA.out
                clear HA
                simp only [millwrightlaw19_TraceLater.l0] at H
                by_cases c22 : x12_1 < (x10_1.length : Int)
                · rw [if_pos c22] at H
                  have c22b0 : decide (x12_1 < (x10_1.length : Int)) = true := decide_eq_true c22
                  clear c22
                  by_cases c23 : 0 ≤ x12_1
                  · rw [if_pos c23] at H
                    have c23b0 : decide (0 ≤ x12_1) = true := decide_eq_true c23
                    clear c23
                    obtain ⟨y121, hy121⟩ : ∃ y_ : List (S42), y_ = (x10_1.set (x12_1 : Int).toNat (⟨(rd_T42 x10_1 x12_1).f0, (rd_T42 x10_1 x12_1).f1, (rd_T42 x10_1 x12_1).f2, (rd_T42 x10_1 x12_1).f3, Go.bits .and .i64 ((rd_T42 x10_1 x12_1).f4) 1099511627775⟩ : S42)) := ⟨_, rfl⟩
                    replace H : (if x11_1.length < 3518437208883 then (millwrightlaw19_TraceLater.l0 k1 y103 a3 t102 y121 (x11_1 ++ [(⟨(rd_T42 y121 x12_1).f0, (rd_T42 y121 x12_1).f1, (rd_T42 y121 x12_1).f2, (rd_T42 y121 x12_1).f3, wrap64 (((rd_T42 y121 x12_1).f4) + (wrap64 (a3)))⟩ : S42)]) (wrap64 (x12_1 + 1)) a0_0 a0_1 a0_2 a0_3 a0_4 a0_5 a0_6 a0_7 a0_8 a0_9) else (none)) = some r := by first | (rw [hy121]; with_reducible exact H) | (have H2_ := (Option.bind_some _ _).symm.trans H; rw [hy121]; with_reducible exact H2_) | (have H2_ := (Option.bind_some _ _).symm.trans H; with_reducible exact H2_) | with_reducible exact H | (rw [hy121]; exact H) | exact H
                    have Ny121 := Aside0.mk hy121
                    clear hy121
                    by_cases c25 : x11_1.length < 3518437208883
                    · rw [if_pos c25] at H
                      have LMc25 := Aside0.mk c25
                      clear c25
                      obtain ⟨y124, hy124⟩ : ∃ y_ : List (S42), y_ = (x11_1 ++ [(⟨(rd_T42 y121 x12_1).f0, (rd_T42 y121 x12_1).f1, (rd_T42 y121 x12_1).f2, (rd_T42 y121 x12_1).f3, wrap64 (((rd_T42 y121 x12_1).f4) + (wrap64 (a3)))⟩ : S42)]) := ⟨_, rfl⟩
                      replace H : (millwrightlaw19_TraceLater.l0 k1 y103 a3 t102 y121 y124 (wrap64 (x12_1 + 1)) a0_0 a0_1 a0_2 a0_3 a0_4 a0_5 a0_6 a0_7 a0_8 a0_9) = some r := by first | (rw [hy124]; with_reducible exact H) | (have H2_ := (Option.bind_some _ _).symm.trans H; rw [hy124]; with_reducible exact H2_) | (have H2_ := (Option.bind_some _ _).symm.trans H; with_reducible exact H2_) | with_reducible exact H | (rw [hy124]; exact H) | exact H
                      have Ny124 := Aside0.mk hy124
                      clear hy124
                      have H' := Aside0.mk H
                      clear H
                      obtain ⟨Ao26, co26, eo26⟩ := Kd.R_slice HO_10.out
                      subst eo26
                      have p120 : 0 ≤ (x12_1 : Int) := of_decide_eq_true (by first | (with_reducible assumption) | assumption)
                      have q120 : x12_1 < (x10_1.length : Int) := of_decide_eq_true (by first | (with_reducible assumption) | assumption)
                      obtain ⟨ad120, e120, hx120_0, hx120_1, hx120_2, hx120_3, hx120_4⟩ := at_T42 (Kd.R_reads' HO_10.out).2.2 x12_1 p120 q120
                      cases e120
                      replace p120 := eq_true p120
                      replace q120 := eq_true q120
                      have p24 : 0 ≤ (x12_1 : Int) := of_decide_eq_true (by first | (with_reducible assumption) | assumption)
                      have q24 : (x12_1 : Int) < ((x10_1.length : Int) : Int) := of_decide_eq_true (by first | (with_reducible assumption) | assumption)
                      obtain ⟨go24, co24, eo24, gb24, gl24, cl24, HG24⟩ := Kd.R_form HO_10.out (by omega)
                      (first | cases eo24 | (injection eo24 with ea_ en_ ec_; (first | subst ea_ | (injection ea_ with ea_; subst ea_)); subst ec_; clear en_))
                      have GB24 := Aside0.mk gb24
                      have GG24 := Aside0.mk HG24
                      clear gb24 gl24 HG24
                      (first | simp only [add_plain] at hx120_0 | skip)
                      (first | simp only [add_plain] at hx120_1 | skip)
                      (first | simp only [add_plain] at hx120_2 | skip)
                      (first | simp only [add_plain] at hx120_3 | skip)
                      (first | simp only [add_plain] at hx120_4 | skip)
                      obtain ⟨ce24, hcl24, hM24, hcc24, hfr24⟩ := Kd.R_elem HO_10.out z42 (x12_1 : Int) p24 q24
                      obtain rfl := k42_openM hM24
                      have hx24_0 : wr.cell? ⟨go24, (x12_1 : Int).toNat * 5, none⟩ = some (.int .i64 ((rd_T42 x10_1 x12_1).f0)) := hcc24 0 _ rfl
                      have hx24_1 : wr.cell? ⟨go24, (x12_1 : Int).toNat * 5 + 1, none⟩ = some (.int .i64 ((rd_T42 x10_1 x12_1).f1)) := hcc24 1 _ rfl
                      have hx24_2 : wr.cell? ⟨go24, (x12_1 : Int).toNat * 5 + 2, none⟩ = some (.int .i64 ((rd_T42 x10_1 x12_1).f2)) := hcc24 2 _ rfl
                      have hx24_3 : wr.cell? ⟨go24, (x12_1 : Int).toNat * 5 + 3, none⟩ = some (.int .i64 ((rd_T42 x10_1 x12_1).f3)) := hcc24 3 _ rfl
                      have hx24_4 : wr.cell? ⟨go24, (x12_1 : Int).toNat * 5 + 4, none⟩ = some (.int .i64 ((rd_T42 x10_1 x12_1).f4)) := hcc24 4 _ rfl
                      have hf24_0 : wr.frozen? ⟨go24, (x12_1 : Int).toNat * 5, none⟩ = false := hfr24 0
                      have hf24_1 : wr.frozen? ⟨go24, (x12_1 : Int).toNat * 5 + 1, none⟩ = false := hfr24 1
                      have hf24_2 : wr.frozen? ⟨go24, (x12_1 : Int).toNat * 5 + 2, none⟩ = false := hfr24 2
                      have hf24_3 : wr.frozen? ⟨go24, (x12_1 : Int).toNat * 5 + 3, none⟩ = false := hfr24 3
                      have hf24_4 : wr.frozen? ⟨go24, (x12_1 : Int).toNat * 5 + 4, none⟩ = false := hfr24 4
                      clear hcl24 hcc24 hfr24 hM24
                      replace p24 := eq_true p24
                      replace q24 := eq_true q24
                      have HX27 := Aside0.mk (show Kd.R k42 42 wr w.heap.size (fun k_ => some k_ ≠ (u11 : Value).ownBlock) (.slice (some ⟨go24, 0, none⟩) x10_1.length co26) x10_1 from (by (with_reducible repeat (first | apply Kd.R_alloc | apply Kd.R_drewN | apply Kd.R_drew)); exact HO_10.out))
                      obtain ⟨ce27, hcl27, hM27, hcc27, hfr27⟩ := Kd.R_elem HX27.out z42 (x12_1 : Int) (of_decide_eq_true (by first | (with_reducible assumption) | assumption)) (by have h_ : (x12_1 : Int) < ((x10_1.length : Int) : Int) := of_decide_eq_true (by first | (with_reducible assumption) | assumption); first | exact h_ | (have e_ := (Kd.R_reads' HO_10.out).1; omega) | simpa using h_)
                      obtain rfl := k42_openM hM27
                      have HP27 := Kd.R_seg HX27.out (x12_1 : Int) (of_decide_eq_true (by first | (with_reducible assumption) | assumption)) (by have h_ : (x12_1 : Int) < ((x10_1.length : Int) : Int) := of_decide_eq_true (by first | (with_reducible assumption) | assumption); first | exact h_ | (have e_ := (Kd.R_reads' HO_10.out).1; omega) | simpa using h_) (seg := [.int .i64 (Go.bits .and .i64 ((rd_T42 x10_1 x12_1).f4) 1099511627775)]) (j := 4) hcl27 hcc27 (show 5 ≤ 5 from by decide) (x' := (⟨(rd_T42 x10_1 x12_1).f0, (rd_T42 x10_1 x12_1).f1, (rd_T42 x10_1 x12_1).f2, (rd_T42 x10_1 x12_1).f3, Go.bits .and .i64 ((rd_T42 x10_1 x12_1).f4) 1099511627775⟩ : S42)) (k42_mkM _ _ _ (⟨(rd_T42 x10_1 x12_1).f0, (rd_T42 x10_1 x12_1).f1, (rd_T42 x10_1 x12_1).f2, (rd_T42 x10_1 x12_1).f3, Go.bits .and .i64 ((rd_T42 x10_1 x12_1).f4) 1099511627775⟩ : S42) ) (fun _ hk => hk)
                      have hx27_4 := hcc27 4 _ rfl
                      (try simp only [show (k42).sz = 5 from rfl, Nat.mul_one, Nat.add_zero] at hx27_4)
                      have hf27_4 := hfr27 4
                      (try simp only [show (k42).sz = 5 from rfl, Nat.mul_one, Nat.add_zero] at hf27_4)
                      clear hcl27 hcc27 hfr27 hM27
                      clear hx120_0 hx120_1 hx120_2 hx120_3 hx24_0 hx24_1 hx24_2 hx24_3 hx24_4 hf24_0 hf24_1 hf24_2 hf24_3 hf24_4 hx27_4
                      go_upto_region 9 with (first | ((with_reducible refine gate_store (t := 3) (p := 47) rfl ?_); refine store_event (t := 3) (p := 47) (v := ?vo_w28) (w1 := (wr.setCell ⟨go24, (x12_1 : Int).toNat * 5 + 4, none⟩ (.int .i64 (Go.bits .and .i64 ((rd_T42 x10_1 x12_1).f4) 1099511627775)))) ?hg ?ho ?hn ?hr ?_; (case ho => rfl); (case hg => rfl); (case hn => rfl); (case hr => first | (go_simp; done) | (go_simp; rfl)); intro w28 hw; have hg : wr.grownBy w28 (some go24) := (by rw [hw]; exact HP27.2); have hp_ : Kd.R k42 42 w28 w.heap.size (fun k_ => some k_ ≠ (u11 : Value).ownBlock) (.slice (some ⟨go24, 0, none⟩) x10_1.length co26) y121 := (by rw [hw, Ny121.out]; exact HP27.1); clear HP27; have n0_ := Aside0.mk (hp_); have n1_ := Aside0.mk (Kd.R_after (v := (.slice (some ⟨go24, 0, none⟩) x10_1.length co26)) (v1 := (.slice (some ⟨go24, 0, none⟩) x10_1.length co26)) (ok := (fun _ => True)) (by (with_reducible repeat (first | apply Kd.R_alloc | apply Kd.R_drewN | apply Kd.R_drew)); exact Kd.R_mono HO_11.out (fun _ hk => ⟨trivial, hk⟩)) hg (.inl rfl)); have n2_ := Aside0.mk (blk_grown (g := gb101) (o := .cells #[.int .i64 a0_0, .int .i64 a0_1, .int .i64 a0_2, .int .i64 a0_3, .int .i64 a0_4, .int .i64 a0_5, .int .i64 a0_6, .int .i64 a0_7, .int .i64 a0_8, .int .i64 a0_9] 23 (0, 0)) (by (with_reducible repeat (first | refine blk_drewN ?_ _ | refine blk_drew ?_ | refine blk_alloc ?_ _)); exact BK101.out) hg (Kd.R_ne HO_10.out BK101.out (by decide))); have n3_ := Aside0.mk ((by rw [hw]; exact below_set (HB.out) GB24.out : Below w.heap.size w w28)); clear HO_10; clear HO_11; clear BK101; clear HB; have HO_10 := n0_; have HO_11 := n1_; have BK101 := n2_; have HB := n3_; clear n0_ n1_ n2_ n3_; clear hg hw hp_; have p122 : 0 ≤ (x12_1 : Int) := of_decide_eq_true (by first | (with_reducible assumption) | assumption); have q122 : x12_1 < (y121.length : Int) := (by have h_ : (x12_1 : Int) < ((x10_1.length : Int) : Int) := of_decide_eq_true (by first | (with_reducible assumption) | assumption); first | (have e_ := (Kd.R_reads' HO_10.out).1; omega) | simpa only [Ny121.out, List.length_set] using h_); have ql122 : ((x12_1 : Int) < ((x10_1.length : Int) : Int)) = True := eq_true (of_decide_eq_true (by first | (with_reducible assumption) | assumption)); obtain ⟨ad122, e122, hx122_0, hx122_1, hx122_2, hx122_3, hx122_4⟩ := at_T42 (Kd.R_reads' HO_10.out).2.2 x12_1 p122 q122; obtain rfl : (⟨go24, 0, none⟩ : Addr) = ad122 := (by injection e122); (first | simp only [add_plain] at hx122_0 | simp only [add_at] at hx122_0 | simp only [Addr.add, Nat.zero_add] at hx122_0 | skip); (first | simp only [add_plain] at hx122_1 | simp only [add_at] at hx122_1 | simp only [Addr.add, Nat.zero_add] at hx122_1 | skip); (first | simp only [add_plain] at hx122_2 | simp only [add_at] at hx122_2 | simp only [Addr.add, Nat.zero_add] at hx122_2 | skip); (first | simp only [add_plain] at hx122_3 | simp only [add_at] at hx122_3 | simp only [Addr.add, Nat.zero_add] at hx122_3 | skip); (first | simp only [add_plain] at hx122_4 | simp only [add_at] at hx122_4 | simp only [Addr.add, Nat.zero_add] at hx122_4 | skip); replace p122 := eq_true p122; replace q122 := eq_true q122))
                      clear hx120_4 hf27_4
                      go_upto_region 10 with (first | ((with_reducible refine gate_dst (N := 13) rfl ?_); refine box_event ?hg (N := 13) ?hd (cs := #[.int .i64 0, .int .i64 0, .int .i64 0, .int .i64 0, .int .i64 0]) (t := 42) ?hr ?_; (case hd => rfl); (case hg => rfl); (case hr => first | (go_simp; done) | (go_simp; rfl)); intro gb123 hg w29 hbox hb; have n0_ := Aside0.mk (Kd.R_below (Kd.R_elderB (by (with_reducible repeat (first | apply Kd.R_alloc | apply Kd.R_drewN | apply Kd.R_drew)); exact HO_10.out) gb123 (Nat.le_of_eq hg.symm)) hb); have n1_ := Aside0.mk (Kd.R_below (Kd.R_elderB (by (with_reducible repeat (first | apply Kd.R_alloc | apply Kd.R_drewN | apply Kd.R_drew)); exact HO_11.out) gb123 (Nat.le_of_eq hg.symm)) hb); have n2_ := Aside0.mk (blk_below (g := gb101) (o := .cells #[.int .i64 a0_0, .int .i64 a0_1, .int .i64 a0_2, .int .i64 a0_3, .int .i64 a0_4, .int .i64 a0_5, .int .i64 a0_6, .int .i64 a0_7, .int .i64 a0_8, .int .i64 a0_9] 23 (0, 0)) (by (with_reducible repeat (first | refine blk_drewN ?_ _ | refine blk_drew ?_ | refine blk_alloc ?_ _)); exact BK101.out) hb); have n3_ := Aside0.mk (below_step (by repeat (first | (with_reducible first | exact HB.out | apply below_alloc | apply pw_below_drewN | apply below_drew1 | refine below_set ?_ GE101.out) | exact HB.out)) hb); have n4_ := Aside0.mk (hbox); have n5_ := Aside0.mk ((by rw [hg]; exact (below_size (by repeat (first | (with_reducible first | exact HB.out | apply below_alloc | apply pw_below_drewN | apply below_drew1 | refine below_set ?_ GE101.out) | exact HB.out))) : w.heap.size ≤ gb123)); have n6_ := Aside0.mk ((by rw [hg]; exact (below_size (by repeat (first | (with_reducible first | exact HB.out | apply below_alloc | apply pw_below_drewN | apply below_drew1 | refine below_set ?_ GE101.out) | exact HB.out))) : w.heap.size ≤ gb123)); have n7_ := Aside0.mk ((by rw [hg]; exact Nat.ne_of_lt (blk_lt (g := gb101) (o := .cells #[.int .i64 a0_0, .int .i64 a0_1, .int .i64 a0_2, .int .i64 a0_3, .int .i64 a0_4, .int .i64 a0_5, .int .i64 a0_6, .int .i64 a0_7, .int .i64 a0_8, .int .i64 a0_9] 23 (0, 0)) (by (with_reducible repeat (first | refine blk_drewN ?_ _ | refine blk_drew ?_ | refine blk_alloc ?_ _)); exact BK101.out)) : gb101 ≠ gb123)); have n8_ := Aside0.mk ((by rw [hg]; exact Nat.ne_of_gt (blk_lt (g := gb101) (o := .cells #[.int .i64 a0_0, .int .i64 a0_1, .int .i64 a0_2, .int .i64 a0_3, .int .i64 a0_4, .int .i64 a0_5, .int .i64 a0_6, .int .i64 a0_7, .int .i64 a0_8, .int .i64 a0_9] 23 (0, 0)) (by (with_reducible repeat (first | refine blk_drewN ?_ _ | refine blk_drew ?_ | refine blk_alloc ?_ _)); exact BK101.out)) : gb123 ≠ gb101)); clear HO_10; clear HO_11; clear BK101; clear HB; have HO_10 := n0_; have HO_11 := n1_; have BK101 := n2_; have HB := n3_; have BK123 := n4_; have GW123 := n5_; have GE123 := n6_; have NB101_123 := n7_; have NB123_101 := n8_; clear n0_ n1_ n2_ n3_ n4_ n5_ n6_ n7_ n8_; clear hb hbox hg; have hnb30 := NB123_101.out; have hnc30 := NB101_123.out; have hcz31_0 : w29.cell? ⟨gb123, 0, none⟩ = some (.int .i64 0) := (blk_cell BK123.out 0).trans rfl; have hcz31_1 : w29.cell? ⟨gb123, 1, none⟩ = some (.int .i64 0) := (blk_cell BK123.out 1).trans rfl; have hcz31_2 : w29.cell? ⟨gb123, 2, none⟩ = some (.int .i64 0) := (blk_cell BK123.out 2).trans rfl; have hcz31_3 : w29.cell? ⟨gb123, 3, none⟩ = some (.int .i64 0) := (blk_cell BK123.out 3).trans rfl; have hcz31_4 : w29.cell? ⟨gb123, 4, none⟩ = some (.int .i64 0) := (blk_cell BK123.out 4).trans rfl; have hfz31_0 := blk_frozen BK123.out 0; have hfz31_1 := blk_frozen BK123.out 1; have hfz31_2 := blk_frozen BK123.out 2; have hfz31_3 := blk_frozen BK123.out 3; have hfz31_4 := blk_frozen BK123.out 4))
                      obtain ⟨w30, hw30, hX30, hB30⟩ := set5' (.int .i64 ((rd_T42 y121 x12_1).f0)) (.int .i64 ((rd_T42 y121 x12_1).f1)) (.int .i64 ((rd_T42 y121 x12_1).f2)) (.int .i64 ((rd_T42 y121 x12_1).f3)) (.int .i64 ((rd_T42 y121 x12_1).f4)) BK123.out HB.out GE123.out
                      rw [← hw30]
                      have n_ := Kd.R_far (p := ⟨gb123, 0, none⟩) HO_10.out (fun _ hk => hk.2) (.int .i64 ((rd_T42 y121 x12_1).f0))
                      replace n_ := Kd.R_far (p := ⟨gb123, 1, none⟩) n_ (fun _ hk => hk.2) (.int .i64 ((rd_T42 y121 x12_1).f1))
                      replace n_ := Kd.R_far (p := ⟨gb123, 2, none⟩) n_ (fun _ hk => hk.2) (.int .i64 ((rd_T42 y121 x12_1).f2))
                      replace n_ := Kd.R_far (p := ⟨gb123, 3, none⟩) n_ (fun _ hk => hk.2) (.int .i64 ((rd_T42 y121 x12_1).f3))
                      replace n_ := Kd.R_far (p := ⟨gb123, 4, none⟩) n_ (fun _ hk => hk.2) (.int .i64 ((rd_T42 y121 x12_1).f4))
                      rw [← hw30] at n_
                      replace HO_10 := Aside0.mk n_
                      clear n_
                      have n_ := Kd.R_far (p := ⟨gb123, 0, none⟩) HO_11.out (fun _ hk => hk.2) (.int .i64 ((rd_T42 y121 x12_1).f0))
                      replace n_ := Kd.R_far (p := ⟨gb123, 1, none⟩) n_ (fun _ hk => hk.2) (.int .i64 ((rd_T42 y121 x12_1).f1))
                      replace n_ := Kd.R_far (p := ⟨gb123, 2, none⟩) n_ (fun _ hk => hk.2) (.int .i64 ((rd_T42 y121 x12_1).f2))
                      replace n_ := Kd.R_far (p := ⟨gb123, 3, none⟩) n_ (fun _ hk => hk.2) (.int .i64 ((rd_T42 y121 x12_1).f3))
                      replace n_ := Kd.R_far (p := ⟨gb123, 4, none⟩) n_ (fun _ hk => hk.2) (.int .i64 ((rd_T42 y121 x12_1).f4))
                      rw [← hw30] at n_
                      replace HO_11 := Aside0.mk n_
                      clear n_
                      have n_ := blk_far (p := ⟨gb123, 0, none⟩) BK101.out NB101_123.out (.int .i64 ((rd_T42 y121 x12_1).f0))
                      replace n_ := blk_far (p := ⟨gb123, 1, none⟩) n_ NB101_123.out (.int .i64 ((rd_T42 y121 x12_1).f1))
                      replace n_ := blk_far (p := ⟨gb123, 2, none⟩) n_ NB101_123.out (.int .i64 ((rd_T42 y121 x12_1).f2))
                      replace n_ := blk_far (p := ⟨gb123, 3, none⟩) n_ NB101_123.out (.int .i64 ((rd_T42 y121 x12_1).f3))
                      replace n_ := blk_far (p := ⟨gb123, 4, none⟩) n_ NB101_123.out (.int .i64 ((rd_T42 y121 x12_1).f4))
                      rw [← hw30] at n_
                      replace BK101 := Aside0.mk n_
                      clear n_
                      replace BK123 := Aside0.mk hX30
                      replace HB := Aside0.mk hB30
                      clear hw30 hX30 hB30 hcz31_0 hcz31_1 hcz31_2 hcz31_3 hcz31_4 hfz31_0 hfz31_1 hfz31_2 hfz31_3 hfz31_4 hx122_0 hx122_1 hx122_2 hx122_3 hx122_4
                      have hd4 : w30.cell? ⟨gb123, 4, none⟩ = some (.int .i64 ((rd_T42 y121 x12_1).f4)) := (blk_cell BK123.out 4).trans rfl
                      have hfd4 := blk_frozen BK123.out 4
                      go_upto_region 11 with fail
                      obtain ⟨w31, hw31⟩ : ∃ W, W = w30.setCell ⟨gb123, 4, none⟩ (.int .i64 (wrap64 (((rd_T42 y121 x12_1).f4) + (wrap64 (a3))))) := ⟨_, rfl⟩
                      rw [← hw31]
                      have n_ := Kd.R_far (p := ⟨gb123, 4, none⟩) HO_10.out (fun _ hk => hk.2) (.int .i64 (wrap64 (((rd_T42 y121 x12_1).f4) + (wrap64 (a3)))))
                      rw [← hw31] at n_
                      replace HO_10 := Aside0.mk n_
                      clear n_
                      have n_ := Kd.R_far (p := ⟨gb123, 4, none⟩) HO_11.out (fun _ hk => hk.2) (.int .i64 (wrap64 (((rd_T42 y121 x12_1).f4) + (wrap64 (a3)))))
                      rw [← hw31] at n_
                      replace HO_11 := Aside0.mk n_
                      clear n_
                      have n_ := blk_far (p := ⟨gb123, 4, none⟩) BK101.out NB101_123.out (.int .i64 (wrap64 (((rd_T42 y121 x12_1).f4) + (wrap64 (a3)))))
                      rw [← hw31] at n_
                      replace BK101 := Aside0.mk n_
                      clear n_
                      have n_ := blk_put BK123.out 4 (.int .i64 (wrap64 (((rd_T42 y121 x12_1).f4) + (wrap64 (a3))))) (cs' := #[.int .i64 ((rd_T42 y121 x12_1).f0), .int .i64 ((rd_T42 y121 x12_1).f1), .int .i64 ((rd_T42 y121 x12_1).f2), .int .i64 ((rd_T42 y121 x12_1).f3), .int .i64 (wrap64 (((rd_T42 y121 x12_1).f4) + (wrap64 (a3))))]) rfl
                      rw [← hw31] at n_
                      replace BK123 := Aside0.mk n_
                      clear n_
                      have n_ := below_set (j := 4) (v := (.int .i64 (wrap64 (((rd_T42 y121 x12_1).f4) + (wrap64 (a3)))))) HB.out GE123.out
                      rw [← hw31] at n_
                      replace HB := Aside0.mk n_
                      clear n_ hw31 hd4 hfd4
                      have hd0 : w31.cell? ⟨gb123, 0, none⟩ = some (.int .i64 ((rd_T42 y121 x12_1).f0)) := (blk_cell BK123.out 0).trans rfl
                      have hd1 : w31.cell? ⟨gb123, 1, none⟩ = some (.int .i64 ((rd_T42 y121 x12_1).f1)) := (blk_cell BK123.out 1).trans rfl
                      have hd2 : w31.cell? ⟨gb123, 2, none⟩ = some (.int .i64 ((rd_T42 y121 x12_1).f2)) := (blk_cell BK123.out 2).trans rfl
                      have hd3 : w31.cell? ⟨gb123, 3, none⟩ = some (.int .i64 ((rd_T42 y121 x12_1).f3)) := (blk_cell BK123.out 3).trans rfl
                      have hd4 : w31.cell? ⟨gb123, 4, none⟩ = some (.int .i64 (wrap64 (((rd_T42 y121 x12_1).f4) + (wrap64 (a3))))) := (blk_cell BK123.out 4).trans rfl
                      go_wp2_with (first | ((with_reducible refine gate_builtin (b := .append) (xs := #[.tmp 58, .tmp 60]) rfl ?_); at_builtin; refine Kd.R_append k42 (w0 := w) w.heap.size rfl (.tmp 58) (.tmp 60) 25 42 (.agg #[(.int .i64 0), (.int .i64 0), (.int .i64 0), (.int .i64 0), (.int .i64 0)]) 40 rfl Tryd.underlying25 info42 rfl (by decide) (by omega) u11 x11_1 (⟨(rd_T42 y121 x12_1).f0, (rd_T42 y121 x12_1).f1, (rd_T42 y121 x12_1).f2, (rd_T42 y121 x12_1).f3, wrap64 (((rd_T42 y121 x12_1).f4) + (wrap64 (a3)))⟩ : S42) [.int .i64 ((rd_T42 y121 x12_1).f0), .int .i64 ((rd_T42 y121 x12_1).f1), .int .i64 ((rd_T42 y121 x12_1).f2), .int .i64 ((rd_T42 y121 x12_1).f3), .int .i64 (wrap64 (((rd_T42 y121 x12_1).f4) + (wrap64 (a3))))] (fun k_ => some k_ ≠ (.slice (some ⟨go24, 0, none⟩) x10_1.length co26 : Value).ownBlock ∧ k_ ≠ gb123) (fun _ => False) rfl (by first | (go_simp; done) | (go_simp; rfl)) ?aP (fun _ hk => hk.elim) ?aF ?aO ?aB ?aS ?aL ?_; (case aP => exact k42_mkM _ _ _ (⟨(rd_T42 y121 x12_1).f0, (rd_T42 y121 x12_1).f1, (rd_T42 y121 x12_1).f2, (rd_T42 y121 x12_1).f3, wrap64 (((rd_T42 y121 x12_1).f4) + (wrap64 (a3)))⟩ : S42)); (case aB => exact (by repeat (first | (with_reducible first | exact HB.out | apply below_alloc | apply pw_below_drewN | apply below_drew1 | refine below_set ?_ GE101.out | refine below_set ?_ GE123.out) | exact HB.out))); (case aF => exact (fun k_ hk => ⟨Kd.fresh' (Kd.R_lt HO_10.out) k_ hk, Kd.freshB (g := gb123) BK123.out k_ hk⟩)); (case aO => exact Kd.R_mono HO_11.out (fun _ hk => ⟨hk.1.2, hk.2⟩)); (case aS => exact (below_size (by repeat (first | (with_reducible first | exact HB.out | apply below_alloc | apply pw_below_drewN | apply below_drew1 | refine below_set ?_ GE101.out | refine below_set ?_ GE123.out) | exact HB.out)))); (case aL => have := LMc25.out; omega); intro v125 w32 ho hb hg hat; rw [← Ny124.out] at ho; have n0_ := Aside0.mk (Kd.R_after (ok := (fun k_ => k_ ≠ gb123)) (Kd.R_mono HO_10.out (fun _ hk => ⟨hk.2, hk.1⟩)) hg hat); have n1_ := Aside0.mk (blk_grown (g := gb101) BK101.out hg (Kd.R_ne HO_11.out BK101.out (by decide))); have n2_ := Aside0.mk (blk_grown (g := gb123) BK123.out hg (Kd.R_away HO_11.out (fun _ hk => hk.2))); have n3_ := Aside0.mk (hb); have n4_ := Aside0.mk (ho); clear HO_10; clear BK101; clear BK123; clear HB; clear HO_11; have HO_10 := n0_; have BK101 := n1_; have BK123 := n2_; have HB := n3_; have HO126 := n4_; clear n0_ n1_ n2_ n3_ n4_; clear ho hb hg hat))
                      go_roundg k1
                      case measure => have := HK1.out; omega
                      case rel => exact ⟨(y121), (y124), (wrap64 (x12_1 + 1)), (by first | rfl | (simp; done) | (simp [*]; done)), H', ⟨by have := HK1.out; omega⟩, ⟨by (with_reducible repeat (first | apply Kd.R_alloc | apply Kd.R_drewN | apply Kd.R_drew)); exact Kd.R_mono HO_10.out (fun _ hk => hk.2)⟩, ⟨by (with_reducible repeat (first | apply Kd.R_alloc | apply Kd.R_drewN | apply Kd.R_drew)); exact Kd.R_mono HO126.out (fun _ hk => hk.1)⟩, ⟨by (with_reducible repeat (first | refine blk_drewN ?_ _ | refine blk_drew ?_ | refine blk_alloc ?_ _)); exact BK101.out⟩, ⟨by repeat (first | (with_reducible first | exact HB.out | apply below_alloc | apply pw_below_drewN | apply below_drew1 | refine below_set ?_ GE101.out | refine below_set ?_ GE123.out) | exact HB.out)⟩⟩
                    · rw [if_neg c25] at H
                      exact absurd H (by simp)
                  · rw [if_neg c23] at H
                    exact absurd H (by simp)
                · rw [if_neg c22] at H
                  have c22b0 : decide (x12_1 < (x10_1.length : Int)) = false := decide_eq_false c22
                  clear c22
                  replace H := Option.bind_eq_some_iff.mp H
                  obtain ⟨⟨t127, t128⟩, A330, H⟩ := H
                  replace H : ((trace_Audit.f a0_0 a0_1 a0_2 a0_3 a0_4 a0_5 a0_6 a0_7 a0_8 a0_9 y103 x11_1).bind fun bt129 => (if t102 = true then (if t127 = bt129.1 then (some (t128 == bt129.2)) else (some false)) else (some false))) = some r := H
                  have A33 := Aside0.mk A330
                  clear A330
                  replace H := Option.bind_eq_some_iff.mp H
                  obtain ⟨⟨t129, t130⟩, A340, H⟩ := H
                  replace H : (if t102 = true then (if t127 = t129 then (some (t128 == t130)) else (some false)) else (some false)) = some r := H
                  have A34 := Aside0.mk A340
                  clear A340
                  by_cases c35 : t102 = true
                  · subst c35
                    have H1 : (if t127 = t129 then (some (t128 == t130)) else (some false)) = some r := by rw [if_pos rfl] at H; exact H
                    clear H
                    have H := H1
                    clear H1
                    by_cases c36 : t127 = t129
                    · rw [if_pos c36] at H
                      have c36b0 : (t127 == t129) = true := beq_iff_eq.mpr c36
                      have c36b1 : (t127 != t129) = false := bne_eq_false_iff_eq.mpr c36
                      clear c36
                      obtain rfl := Option.some.inj H
                      obtain ⟨Ao37, co37, eo37⟩ := Kd.R_slice HO_10.out
                      subst eo37
                      have hcz38_0 : wr.cell? ⟨gb101, 0, none⟩ = some (.int .i64 a0_0) := (blk_cell BK101.out 0).trans rfl
                      have hcz38_1 : wr.cell? ⟨gb101, 1, none⟩ = some (.int .i64 a0_1) := (blk_cell BK101.out 1).trans rfl
                      have hcz38_2 : wr.cell? ⟨gb101, 2, none⟩ = some (.int .i64 a0_2) := (blk_cell BK101.out 2).trans rfl
                      have hcz38_3 : wr.cell? ⟨gb101, 3, none⟩ = some (.int .i64 a0_3) := (blk_cell BK101.out 3).trans rfl
                      have hcz38_4 : wr.cell? ⟨gb101, 4, none⟩ = some (.int .i64 a0_4) := (blk_cell BK101.out 4).trans rfl
                      have hcz38_5 : wr.cell? ⟨gb101, 5, none⟩ = some (.int .i64 a0_5) := (blk_cell BK101.out 5).trans rfl
                      have hcz38_6 : wr.cell? ⟨gb101, 6, none⟩ = some (.int .i64 a0_6) := (blk_cell BK101.out 6).trans rfl
                      have hcz38_7 : wr.cell? ⟨gb101, 7, none⟩ = some (.int .i64 a0_7) := (blk_cell BK101.out 7).trans rfl
                      have hcz38_8 : wr.cell? ⟨gb101, 8, none⟩ = some (.int .i64 a0_8) := (blk_cell BK101.out 8).trans rfl
                      have hcz38_9 : wr.cell? ⟨gb101, 9, none⟩ = some (.int .i64 a0_9) := (blk_cell BK101.out 9).trans rfl
                      have hfz38_0 := blk_frozen BK101.out 0
                      have hfz38_1 := blk_frozen BK101.out 1
                      have hfz38_2 := blk_frozen BK101.out 2
                      have hfz38_3 := blk_frozen BK101.out 3
                      have hfz38_4 := blk_frozen BK101.out 4
                      have hfz38_5 := blk_frozen BK101.out 5
                      have hfz38_6 := blk_frozen BK101.out 6
                      have hfz38_7 := blk_frozen BK101.out 7
                      have hfz38_8 := blk_frozen BK101.out 8
                      have hfz38_9 := blk_frozen BK101.out 9
                      go_wp2_with (first | ((with_reducible refine gate_callee (f := 15) rfl ?_); refine goesL_ (some 66) rfl rfl Tryd.func15 (by kernel_rfl) rfl #[.agg #[.int .i64 a0_0, .int .i64 a0_1, .int .i64 a0_2, .int .i64 a0_3, .int .i64 a0_4, .int .i64 a0_5, .int .i64 a0_6, .int .i64 a0_7, .int .i64 a0_8, .int .i64 a0_9], .slice A1 y103.length c1, .slice Ao37 x10_1.length co37] rfl (by (try simp only [List.map_toArray, List.map_cons, List.map_nil]); first | done | rfl | (simp only [List.length_drop, List.length_take]; rfl)) ?_; (with_reducible refine (trace_Audit.calls a0_0 a0_1 a0_2 a0_3 a0_4 a0_5 a0_6 a0_7 a0_8 a0_9 _ _ y103 _ _ x10_1 t127 t128 _ ?side1 ?side2 ?side3 ?side4 A33.out (TrL.Laid.below HT (by repeat (first | (with_reducible first | exact HB.out | apply below_alloc | apply pw_below_drewN | apply below_drew1) | exact HB.out)))).mono ?_); (case side1 => repeat (first | exact (Kd.C_below HR106.out HB.out) | (with_reducible refine Kd.C_alloc ?_ _) | (with_reducible refine Kd.C_drewN ?_ _) | (with_reducible refine Kd.C_drew ?_))); (case side2 => exact HC106.out); (case side3 => repeat (first | exact (Kd.R_reads' HO_10.out).2.2 | (with_reducible refine Kd.C_alloc ?_ _) | (with_reducible refine Kd.C_drewN ?_ _) | (with_reducible refine Kd.C_drew ?_))); (case side4 => exact (Kd.R_reads' HO_10.out).2.1); rintro e w39 ⟨rfl, hb⟩; refine ⟨_, rfl, ?_⟩; have n0_ := Aside0.mk (Kd.R_below (by (with_reducible repeat (first | apply Kd.R_alloc | apply Kd.R_drewN | apply Kd.R_drew)); exact HO_10.out) hb); have n1_ := Aside0.mk (Kd.R_below (by (with_reducible repeat (first | apply Kd.R_alloc | apply Kd.R_drewN | apply Kd.R_drew)); exact HO_11.out) hb); have n2_ := Aside0.mk (blk_below (g := gb101) (o := .cells #[.int .i64 a0_0, .int .i64 a0_1, .int .i64 a0_2, .int .i64 a0_3, .int .i64 a0_4, .int .i64 a0_5, .int .i64 a0_6, .int .i64 a0_7, .int .i64 a0_8, .int .i64 a0_9] 23 (0, 0)) (by (with_reducible repeat (first | refine blk_drewN ?_ _ | refine blk_drew ?_ | refine blk_alloc ?_ _)); exact BK101.out) hb); have n3_ := Aside0.mk (below_step (by repeat (first | (with_reducible first | exact HB.out | apply below_alloc | apply pw_below_drewN | apply below_drew1 | refine below_set ?_ GE101.out) | exact HB.out)) hb); clear HO_10; clear HO_11; clear BK101; clear HB; have HO_10 := n0_; have HO_11 := n1_; have BK101 := n2_; have HB := n3_; clear n0_ n1_ n2_ n3_; (try clear hb); (try clear hb2); (try clear hk); (try clear hi); have hcz40_0 : w39.cell? ⟨gb101, 0, none⟩ = some (.int .i64 a0_0) := (blk_cell BK101.out 0).trans rfl; have hcz40_1 : w39.cell? ⟨gb101, 1, none⟩ = some (.int .i64 a0_1) := (blk_cell BK101.out 1).trans rfl; have hcz40_2 : w39.cell? ⟨gb101, 2, none⟩ = some (.int .i64 a0_2) := (blk_cell BK101.out 2).trans rfl; have hcz40_3 : w39.cell? ⟨gb101, 3, none⟩ = some (.int .i64 a0_3) := (blk_cell BK101.out 3).trans rfl; have hcz40_4 : w39.cell? ⟨gb101, 4, none⟩ = some (.int .i64 a0_4) := (blk_cell BK101.out 4).trans rfl; have hcz40_5 : w39.cell? ⟨gb101, 5, none⟩ = some (.int .i64 a0_5) := (blk_cell BK101.out 5).trans rfl; have hcz40_6 : w39.cell? ⟨gb101, 6, none⟩ = some (.int .i64 a0_6) := (blk_cell BK101.out 6).trans rfl; have hcz40_7 : w39.cell? ⟨gb101, 7, none⟩ = some (.int .i64 a0_7) := (blk_cell BK101.out 7).trans rfl; have hcz40_8 : w39.cell? ⟨gb101, 8, none⟩ = some (.int .i64 a0_8) := (blk_cell BK101.out 8).trans rfl; have hcz40_9 : w39.cell? ⟨gb101, 9, none⟩ = some (.int .i64 a0_9) := (blk_cell BK101.out 9).trans rfl; have hfz40_0 := blk_frozen BK101.out 0; have hfz40_1 := blk_frozen BK101.out 1; have hfz40_2 := blk_frozen BK101.out 2; have hfz40_3 := blk_frozen BK101.out 3; have hfz40_4 := blk_frozen BK101.out 4; have hfz40_5 := blk_frozen BK101.out 5; have hfz40_6 := blk_frozen BK101.out 6; have hfz40_7 := blk_frozen BK101.out 7; have hfz40_8 := blk_frozen BK101.out 8; have hfz40_9 := blk_frozen BK101.out 9; obtain ⟨Ao41, co41, eo41⟩ := Kd.R_slice HO_11.out; subst eo41) | ((with_reducible refine gate_callee (f := 15) rfl ?_); refine goesL_ (some 73) rfl rfl Tryd.func15 (by kernel_rfl) rfl #[.agg #[.int .i64 a0_0, .int .i64 a0_1, .int .i64 a0_2, .int .i64 a0_3, .int .i64 a0_4, .int .i64 a0_5, .int .i64 a0_6, .int .i64 a0_7, .int .i64 a0_8, .int .i64 a0_9], .slice A1 y103.length c1, .slice Ao41 x11_1.length co41] rfl (by (try simp only [List.map_toArray, List.map_cons, List.map_nil]); first | done | rfl | (simp only [List.length_drop, List.length_take]; rfl)) ?_; (with_reducible refine (trace_Audit.calls a0_0 a0_1 a0_2 a0_3 a0_4 a0_5 a0_6 a0_7 a0_8 a0_9 _ _ y103 _ _ x11_1 t129 t130 _ ?side1 ?side2 ?side3 ?side4 A34.out (TrL.Laid.below HT (by repeat (first | (with_reducible first | exact HB.out | apply below_alloc | apply pw_below_drewN | apply below_drew1) | exact HB.out)))).mono ?_); (case side1 => repeat (first | exact (Kd.C_below HR106.out HB.out) | (with_reducible refine Kd.C_alloc ?_ _) | (with_reducible refine Kd.C_drewN ?_ _) | (with_reducible refine Kd.C_drew ?_))); (case side2 => exact HC106.out); (case side3 => repeat (first | exact (Kd.R_reads' HO_11.out).2.2 | (with_reducible refine Kd.C_alloc ?_ _) | (with_reducible refine Kd.C_drewN ?_ _) | (with_reducible refine Kd.C_drew ?_))); (case side4 => exact (Kd.R_reads' HO_11.out).2.1); rintro e w42 ⟨rfl, hb⟩; refine ⟨_, rfl, ?_⟩; have n0_ := Aside0.mk (Kd.R_below (by (with_reducible repeat (first | apply Kd.R_alloc | apply Kd.R_drewN | apply Kd.R_drew)); exact HO_10.out) hb); have n1_ := Aside0.mk (Kd.R_below (by (with_reducible repeat (first | apply Kd.R_alloc | apply Kd.R_drewN | apply Kd.R_drew)); exact HO_11.out) hb); have n2_ := Aside0.mk (blk_below (g := gb101) (o := .cells #[.int .i64 a0_0, .int .i64 a0_1, .int .i64 a0_2, .int .i64 a0_3, .int .i64 a0_4, .int .i64 a0_5, .int .i64 a0_6, .int .i64 a0_7, .int .i64 a0_8, .int .i64 a0_9] 23 (0, 0)) (by (with_reducible repeat (first | refine blk_drewN ?_ _ | refine blk_drew ?_ | refine blk_alloc ?_ _)); exact BK101.out) hb); have n3_ := Aside0.mk (below_step (by repeat (first | (with_reducible first | exact HB.out | apply below_alloc | apply pw_below_drewN | apply below_drew1 | refine below_set ?_ GE101.out) | exact HB.out)) hb); clear HO_10; clear HO_11; clear BK101; clear HB; have HO_10 := n0_; have HO_11 := n1_; have BK101 := n2_; have HB := n3_; clear n0_ n1_ n2_ n3_; (try clear hb); (try clear hb2); (try clear hk); (try clear hi)))
                      go_ret
                      exact ⟨by first | rfl | (simp [errW_none, errW_some] <;> rfl) | (simp only [← hji6, ← hji9]; first | rfl | (simp [errW_none, errW_some] <;> rfl)) | (simp [*, errW_none, errW_some] <;> rfl), by repeat (first | (with_reducible first | exact HB.out | apply below_alloc | apply pw_below_drewN | apply below_drew1 | refine below_set ?_ GE101.out) | exact HB.out)⟩
                    · rw [if_neg c36] at H
                      have c36b0 : (t127 == t129) = false := beq_eq_false_iff_ne.mpr c36
                      have c36b1 : (t127 != t129) = true := bne_iff_ne.mpr c36
                      obtain rfl := Option.some.inj H
                      obtain ⟨Ao43, co43, eo43⟩ := Kd.R_slice HO_10.out
                      subst eo43
                      have hcz44_0 : wr.cell? ⟨gb101, 0, none⟩ = some (.int .i64 a0_0) := (blk_cell BK101.out 0).trans rfl
                      have hcz44_1 : wr.cell? ⟨gb101, 1, none⟩ = some (.int .i64 a0_1) := (blk_cell BK101.out 1).trans rfl
                      have hcz44_2 : wr.cell? ⟨gb101, 2, none⟩ = some (.int .i64 a0_2) := (blk_cell BK101.out 2).trans rfl
                      have hcz44_3 : wr.cell? ⟨gb101, 3, none⟩ = some (.int .i64 a0_3) := (blk_cell BK101.out 3).trans rfl
                      have hcz44_4 : wr.cell? ⟨gb101, 4, none⟩ = some (.int .i64 a0_4) := (blk_cell BK101.out 4).trans rfl
                      have hcz44_5 : wr.cell? ⟨gb101, 5, none⟩ = some (.int .i64 a0_5) := (blk_cell BK101.out 5).trans rfl
                      have hcz44_6 : wr.cell? ⟨gb101, 6, none⟩ = some (.int .i64 a0_6) := (blk_cell BK101.out 6).trans rfl
                      have hcz44_7 : wr.cell? ⟨gb101, 7, none⟩ = some (.int .i64 a0_7) := (blk_cell BK101.out 7).trans rfl
                      have hcz44_8 : wr.cell? ⟨gb101, 8, none⟩ = some (.int .i64 a0_8) := (blk_cell BK101.out 8).trans rfl
                      have hcz44_9 : wr.cell? ⟨gb101, 9, none⟩ = some (.int .i64 a0_9) := (blk_cell BK101.out 9).trans rfl
                      have hfz44_0 := blk_frozen BK101.out 0
                      have hfz44_1 := blk_frozen BK101.out 1
                      have hfz44_2 := blk_frozen BK101.out 2
                      have hfz44_3 := blk_frozen BK101.out 3
                      have hfz44_4 := blk_frozen BK101.out 4
                      have hfz44_5 := blk_frozen BK101.out 5
                      have hfz44_6 := blk_frozen BK101.out 6
                      have hfz44_7 := blk_frozen BK101.out 7
                      have hfz44_8 := blk_frozen BK101.out 8
                      have hfz44_9 := blk_frozen BK101.out 9
                      go_wp2_with (first | ((with_reducible refine gate_callee (f := 15) rfl ?_); refine goesL_ (some 66) rfl rfl Tryd.func15 (by kernel_rfl) rfl #[.agg #[.int .i64 a0_0, .int .i64 a0_1, .int .i64 a0_2, .int .i64 a0_3, .int .i64 a0_4, .int .i64 a0_5, .int .i64 a0_6, .int .i64 a0_7, .int .i64 a0_8, .int .i64 a0_9], .slice A1 y103.length c1, .slice Ao43 x10_1.length co43] rfl (by (try simp only [List.map_toArray, List.map_cons, List.map_nil]); first | done | rfl | (simp only [List.length_drop, List.length_take]; rfl)) ?_; (with_reducible refine (trace_Audit.calls a0_0 a0_1 a0_2 a0_3 a0_4 a0_5 a0_6 a0_7 a0_8 a0_9 _ _ y103 _ _ x10_1 t127 t128 _ ?side1 ?side2 ?side3 ?side4 A33.out (TrL.Laid.below HT (by repeat (first | (with_reducible first | exact HB.out | apply below_alloc | apply pw_below_drewN | apply below_drew1) | exact HB.out)))).mono ?_); (case side1 => repeat (first | exact (Kd.C_below HR106.out HB.out) | (with_reducible refine Kd.C_alloc ?_ _) | (with_reducible refine Kd.C_drewN ?_ _) | (with_reducible refine Kd.C_drew ?_))); (case side2 => exact HC106.out); (case side3 => repeat (first | exact (Kd.R_reads' HO_10.out).2.2 | (with_reducible refine Kd.C_alloc ?_ _) | (with_reducible refine Kd.C_drewN ?_ _) | (with_reducible refine Kd.C_drew ?_))); (case side4 => exact (Kd.R_reads' HO_10.out).2.1); rintro e w45 ⟨rfl, hb⟩; refine ⟨_, rfl, ?_⟩; have n0_ := Aside0.mk (Kd.R_below (by (with_reducible repeat (first | apply Kd.R_alloc | apply Kd.R_drewN | apply Kd.R_drew)); exact HO_10.out) hb); have n1_ := Aside0.mk (Kd.R_below (by (with_reducible repeat (first | apply Kd.R_alloc | apply Kd.R_drewN | apply Kd.R_drew)); exact HO_11.out) hb); have n2_ := Aside0.mk (blk_below (g := gb101) (o := .cells #[.int .i64 a0_0, .int .i64 a0_1, .int .i64 a0_2, .int .i64 a0_3, .int .i64 a0_4, .int .i64 a0_5, .int .i64 a0_6, .int .i64 a0_7, .int .i64 a0_8, .int .i64 a0_9] 23 (0, 0)) (by (with_reducible repeat (first | refine blk_drewN ?_ _ | refine blk_drew ?_ | refine blk_alloc ?_ _)); exact BK101.out) hb); have n3_ := Aside0.mk (below_step (by repeat (first | (with_reducible first | exact HB.out | apply below_alloc | apply pw_below_drewN | apply below_drew1 | refine below_set ?_ GE101.out) | exact HB.out)) hb); clear HO_10; clear HO_11; clear BK101; clear HB; have HO_10 := n0_; have HO_11 := n1_; have BK101 := n2_; have HB := n3_; clear n0_ n1_ n2_ n3_; (try clear hb); (try clear hb2); (try clear hk); (try clear hi); have hcz46_0 : w45.cell? ⟨gb101, 0, none⟩ = some (.int .i64 a0_0) := (blk_cell BK101.out 0).trans rfl; have hcz46_1 : w45.cell? ⟨gb101, 1, none⟩ = some (.int .i64 a0_1) := (blk_cell BK101.out 1).trans rfl; have hcz46_2 : w45.cell? ⟨gb101, 2, none⟩ = some (.int .i64 a0_2) := (blk_cell BK101.out 2).trans rfl; have hcz46_3 : w45.cell? ⟨gb101, 3, none⟩ = some (.int .i64 a0_3) := (blk_cell BK101.out 3).trans rfl; have hcz46_4 : w45.cell? ⟨gb101, 4, none⟩ = some (.int .i64 a0_4) := (blk_cell BK101.out 4).trans rfl; have hcz46_5 : w45.cell? ⟨gb101, 5, none⟩ = some (.int .i64 a0_5) := (blk_cell BK101.out 5).trans rfl; have hcz46_6 : w45.cell? ⟨gb101, 6, none⟩ = some (.int .i64 a0_6) := (blk_cell BK101.out 6).trans rfl; have hcz46_7 : w45.cell? ⟨gb101, 7, none⟩ = some (.int .i64 a0_7) := (blk_cell BK101.out 7).trans rfl; have hcz46_8 : w45.cell? ⟨gb101, 8, none⟩ = some (.int .i64 a0_8) := (blk_cell BK101.out 8).trans rfl; have hcz46_9 : w45.cell? ⟨gb101, 9, none⟩ = some (.int .i64 a0_9) := (blk_cell BK101.out 9).trans rfl; have hfz46_0 := blk_frozen BK101.out 0; have hfz46_1 := blk_frozen BK101.out 1; have hfz46_2 := blk_frozen BK101.out 2; have hfz46_3 := blk_frozen BK101.out 3; have hfz46_4 := blk_frozen BK101.out 4; have hfz46_5 := blk_frozen BK101.out 5; have hfz46_6 := blk_frozen BK101.out 6; have hfz46_7 := blk_frozen BK101.out 7; have hfz46_8 := blk_frozen BK101.out 8; have hfz46_9 := blk_frozen BK101.out 9; obtain ⟨Ao47, co47, eo47⟩ := Kd.R_slice HO_11.out; subst eo47) | ((with_reducible refine gate_callee (f := 15) rfl ?_); refine goesL_ (some 73) rfl rfl Tryd.func15 (by kernel_rfl) rfl #[.agg #[.int .i64 a0_0, .int .i64 a0_1, .int .i64 a0_2, .int .i64 a0_3, .int .i64 a0_4, .int .i64 a0_5, .int .i64 a0_6, .int .i64 a0_7, .int .i64 a0_8, .int .i64 a0_9], .slice A1 y103.length c1, .slice Ao47 x11_1.length co47] rfl (by (try simp only [List.map_toArray, List.map_cons, List.map_nil]); first | done | rfl | (simp only [List.length_drop, List.length_take]; rfl)) ?_; (with_reducible refine (trace_Audit.calls a0_0 a0_1 a0_2 a0_3 a0_4 a0_5 a0_6 a0_7 a0_8 a0_9 _ _ y103 _ _ x11_1 t129 t130 _ ?side1 ?side2 ?side3 ?side4 A34.out (TrL.Laid.below HT (by repeat (first | (with_reducible first | exact HB.out | apply below_alloc | apply pw_below_drewN | apply below_drew1) | exact HB.out)))).mono ?_); (case side1 => repeat (first | exact (Kd.C_below HR106.out HB.out) | (with_reducible refine Kd.C_alloc ?_ _) | (with_reducible refine Kd.C_drewN ?_ _) | (with_reducible refine Kd.C_drew ?_))); (case side2 => exact HC106.out); (case side3 => repeat (first | exact (Kd.R_reads' HO_11.out).2.2 | (with_reducible refine Kd.C_alloc ?_ _) | (with_reducible refine Kd.C_drewN ?_ _) | (with_reducible refine Kd.C_drew ?_))); (case side4 => exact (Kd.R_reads' HO_11.out).2.1); rintro e w48 ⟨rfl, hb⟩; refine ⟨_, rfl, ?_⟩; have n0_ := Aside0.mk (Kd.R_below (by (with_reducible repeat (first | apply Kd.R_alloc | apply Kd.R_drewN | apply Kd.R_drew)); exact HO_10.out) hb); have n1_ := Aside0.mk (Kd.R_below (by (with_reducible repeat (first | apply Kd.R_alloc | apply Kd.R_drewN | apply Kd.R_drew)); exact HO_11.out) hb); have n2_ := Aside0.mk (blk_below (g := gb101) (o := .cells #[.int .i64 a0_0, .int .i64 a0_1, .int .i64 a0_2, .int .i64 a0_3, .int .i64 a0_4, .int .i64 a0_5, .int .i64 a0_6, .int .i64 a0_7, .int .i64 a0_8, .int .i64 a0_9] 23 (0, 0)) (by (with_reducible repeat (first | refine blk_drewN ?_ _ | refine blk_drew ?_ | refine blk_alloc ?_ _)); exact BK101.out) hb); have n3_ := Aside0.mk (below_step (by repeat (first | (with_reducible first | exact HB.out | apply below_alloc | apply pw_below_drewN | apply below_drew1 | refine below_set ?_ GE101.out) | exact HB.out)) hb); clear HO_10; clear HO_11; clear BK101; clear HB; have HO_10 := n0_; have HO_11 := n1_; have BK101 := n2_; have HB := n3_; clear n0_ n1_ n2_ n3_; (try clear hb); (try clear hb2); (try clear hk); (try clear hi)))
                      go_ret
                      exact ⟨by first | rfl | (simp [errW_none, errW_some] <;> rfl) | (simp only [← hji6, ← hji9]; first | rfl | (simp [errW_none, errW_some] <;> rfl)) | (simp [*, errW_none, errW_some] <;> rfl), by repeat (first | (with_reducible first | exact HB.out | apply below_alloc | apply pw_below_drewN | apply below_drew1 | refine below_set ?_ GE101.out) | exact HB.out)⟩
                  · replace c35 := Bool.eq_false_iff.mpr c35
                    subst c35
                    have H1 : (some false) = some r := by rw [if_neg (show ¬ (false = true) by decide)] at H; exact H
                    clear H
                    have H := H1
                    clear H1
                    obtain rfl := Option.some.inj H
                    obtain ⟨Ao49, co49, eo49⟩ := Kd.R_slice HO_10.out
                    subst eo49
                    have hcz50_0 : wr.cell? ⟨gb101, 0, none⟩ = some (.int .i64 a0_0) := (blk_cell BK101.out 0).trans rfl
                    have hcz50_1 : wr.cell? ⟨gb101, 1, none⟩ = some (.int .i64 a0_1) := (blk_cell BK101.out 1).trans rfl
                    have hcz50_2 : wr.cell? ⟨gb101, 2, none⟩ = some (.int .i64 a0_2) := (blk_cell BK101.out 2).trans rfl
                    have hcz50_3 : wr.cell? ⟨gb101, 3, none⟩ = some (.int .i64 a0_3) := (blk_cell BK101.out 3).trans rfl
                    have hcz50_4 : wr.cell? ⟨gb101, 4, none⟩ = some (.int .i64 a0_4) := (blk_cell BK101.out 4).trans rfl
                    have hcz50_5 : wr.cell? ⟨gb101, 5, none⟩ = some (.int .i64 a0_5) := (blk_cell BK101.out 5).trans rfl
                    have hcz50_6 : wr.cell? ⟨gb101, 6, none⟩ = some (.int .i64 a0_6) := (blk_cell BK101.out 6).trans rfl
                    have hcz50_7 : wr.cell? ⟨gb101, 7, none⟩ = some (.int .i64 a0_7) := (blk_cell BK101.out 7).trans rfl
                    have hcz50_8 : wr.cell? ⟨gb101, 8, none⟩ = some (.int .i64 a0_8) := (blk_cell BK101.out 8).trans rfl
                    have hcz50_9 : wr.cell? ⟨gb101, 9, none⟩ = some (.int .i64 a0_9) := (blk_cell BK101.out 9).trans rfl
                    have hfz50_0 := blk_frozen BK101.out 0
                    have hfz50_1 := blk_frozen BK101.out 1
                    have hfz50_2 := blk_frozen BK101.out 2
                    have hfz50_3 := blk_frozen BK101.out 3
                    have hfz50_4 := blk_frozen BK101.out 4
                    have hfz50_5 := blk_frozen BK101.out 5
                    have hfz50_6 := blk_frozen BK101.out 6
                    have hfz50_7 := blk_frozen BK101.out 7
                    have hfz50_8 := blk_frozen BK101.out 8
                    have hfz50_9 := blk_frozen BK101.out 9
                    go_wp2_with (first | ((with_reducible refine gate_callee (f := 15) rfl ?_); refine goesL_ (some 66) rfl rfl Tryd.func15 (by kernel_rfl) rfl #[.agg #[.int .i64 a0_0, .int .i64 a0_1, .int .i64 a0_2, .int .i64 a0_3, .int .i64 a0_4, .int .i64 a0_5, .int .i64 a0_6, .int .i64 a0_7, .int .i64 a0_8, .int .i64 a0_9], .slice A1 y103.length c1, .slice Ao49 x10_1.length co49] rfl (by (try simp only [List.map_toArray, List.map_cons, List.map_nil]); first | done | rfl | (simp only [List.length_drop, List.length_take]; rfl)) ?_; (with_reducible refine (trace_Audit.calls a0_0 a0_1 a0_2 a0_3 a0_4 a0_5 a0_6 a0_7 a0_8 a0_9 _ _ y103 _ _ x10_1 t127 t128 _ ?side1 ?side2 ?side3 ?side4 A33.out (TrL.Laid.below HT (by repeat (first | (with_reducible first | exact HB.out | apply below_alloc | apply pw_below_drewN | apply below_drew1) | exact HB.out)))).mono ?_); (case side1 => repeat (first | exact (Kd.C_below HR106.out HB.out) | (with_reducible refine Kd.C_alloc ?_ _) | (with_reducible refine Kd.C_drewN ?_ _) | (with_reducible refine Kd.C_drew ?_))); (case side2 => exact HC106.out); (case side3 => repeat (first | exact (Kd.R_reads' HO_10.out).2.2 | (with_reducible refine Kd.C_alloc ?_ _) | (with_reducible refine Kd.C_drewN ?_ _) | (with_reducible refine Kd.C_drew ?_))); (case side4 => exact (Kd.R_reads' HO_10.out).2.1); rintro e w51 ⟨rfl, hb⟩; refine ⟨_, rfl, ?_⟩; have n0_ := Aside0.mk (Kd.R_below (by (with_reducible repeat (first | apply Kd.R_alloc | apply Kd.R_drewN | apply Kd.R_drew)); exact HO_10.out) hb); have n1_ := Aside0.mk (Kd.R_below (by (with_reducible repeat (first | apply Kd.R_alloc | apply Kd.R_drewN | apply Kd.R_drew)); exact HO_11.out) hb); have n2_ := Aside0.mk (blk_below (g := gb101) (o := .cells #[.int .i64 a0_0, .int .i64 a0_1, .int .i64 a0_2, .int .i64 a0_3, .int .i64 a0_4, .int .i64 a0_5, .int .i64 a0_6, .int .i64 a0_7, .int .i64 a0_8, .int .i64 a0_9] 23 (0, 0)) (by (with_reducible repeat (first | refine blk_drewN ?_ _ | refine blk_drew ?_ | refine blk_alloc ?_ _)); exact BK101.out) hb); have n3_ := Aside0.mk (below_step (by repeat (first | (with_reducible first | exact HB.out | apply below_alloc | apply pw_below_drewN | apply below_drew1 | refine below_set ?_ GE101.out) | exact HB.out)) hb); clear HO_10; clear HO_11; clear BK101; clear HB; have HO_10 := n0_; have HO_11 := n1_; have BK101 := n2_; have HB := n3_; clear n0_ n1_ n2_ n3_; (try clear hb); (try clear hb2); (try clear hk); (try clear hi); have hcz52_0 : w51.cell? ⟨gb101, 0, none⟩ = some (.int .i64 a0_0) := (blk_cell BK101.out 0).trans rfl; have hcz52_1 : w51.cell? ⟨gb101, 1, none⟩ = some (.int .i64 a0_1) := (blk_cell BK101.out 1).trans rfl; have hcz52_2 : w51.cell? ⟨gb101, 2, none⟩ = some (.int .i64 a0_2) := (blk_cell BK101.out 2).trans rfl; have hcz52_3 : w51.cell? ⟨gb101, 3, none⟩ = some (.int .i64 a0_3) := (blk_cell BK101.out 3).trans rfl; have hcz52_4 : w51.cell? ⟨gb101, 4, none⟩ = some (.int .i64 a0_4) := (blk_cell BK101.out 4).trans rfl; have hcz52_5 : w51.cell? ⟨gb101, 5, none⟩ = some (.int .i64 a0_5) := (blk_cell BK101.out 5).trans rfl; have hcz52_6 : w51.cell? ⟨gb101, 6, none⟩ = some (.int .i64 a0_6) := (blk_cell BK101.out 6).trans rfl; have hcz52_7 : w51.cell? ⟨gb101, 7, none⟩ = some (.int .i64 a0_7) := (blk_cell BK101.out 7).trans rfl; have hcz52_8 : w51.cell? ⟨gb101, 8, none⟩ = some (.int .i64 a0_8) := (blk_cell BK101.out 8).trans rfl; have hcz52_9 : w51.cell? ⟨gb101, 9, none⟩ = some (.int .i64 a0_9) := (blk_cell BK101.out 9).trans rfl; have hfz52_0 := blk_frozen BK101.out 0; have hfz52_1 := blk_frozen BK101.out 1; have hfz52_2 := blk_frozen BK101.out 2; have hfz52_3 := blk_frozen BK101.out 3; have hfz52_4 := blk_frozen BK101.out 4; have hfz52_5 := blk_frozen BK101.out 5; have hfz52_6 := blk_frozen BK101.out 6; have hfz52_7 := blk_frozen BK101.out 7; have hfz52_8 := blk_frozen BK101.out 8; have hfz52_9 := blk_frozen BK101.out 9; obtain ⟨Ao53, co53, eo53⟩ := Kd.R_slice HO_11.out; subst eo53) | ((with_reducible refine gate_callee (f := 15) rfl ?_); refine goesL_ (some 73) rfl rfl Tryd.func15 (by kernel_rfl) rfl #[.agg #[.int .i64 a0_0, .int .i64 a0_1, .int .i64 a0_2, .int .i64 a0_3, .int .i64 a0_4, .int .i64 a0_5, .int .i64 a0_6, .int .i64 a0_7, .int .i64 a0_8, .int .i64 a0_9], .slice A1 y103.length c1, .slice Ao53 x11_1.length co53] rfl (by (try simp only [List.map_toArray, List.map_cons, List.map_nil]); first | done | rfl | (simp only [List.length_drop, List.length_take]; rfl)) ?_; (with_reducible refine (trace_Audit.calls a0_0 a0_1 a0_2 a0_3 a0_4 a0_5 a0_6 a0_7 a0_8 a0_9 _ _ y103 _ _ x11_1 t129 t130 _ ?side1 ?side2 ?side3 ?side4 A34.out (TrL.Laid.below HT (by repeat (first | (with_reducible first | exact HB.out | apply below_alloc | apply pw_below_drewN | apply below_drew1) | exact HB.out)))).mono ?_); (case side1 => repeat (first | exact (Kd.C_below HR106.out HB.out) | (with_reducible refine Kd.C_alloc ?_ _) | (with_reducible refine Kd.C_drewN ?_ _) | (with_reducible refine Kd.C_drew ?_))); (case side2 => exact HC106.out); (case side3 => repeat (first | exact (Kd.R_reads' HO_11.out).2.2 | (with_reducible refine Kd.C_alloc ?_ _) | (with_reducible refine Kd.C_drewN ?_ _) | (with_reducible refine Kd.C_drew ?_))); (case side4 => exact (Kd.R_reads' HO_11.out).2.1); rintro e w54 ⟨rfl, hb⟩; refine ⟨_, rfl, ?_⟩; have n0_ := Aside0.mk (Kd.R_below (by (with_reducible repeat (first | apply Kd.R_alloc | apply Kd.R_drewN | apply Kd.R_drew)); exact HO_10.out) hb); have n1_ := Aside0.mk (Kd.R_below (by (with_reducible repeat (first | apply Kd.R_alloc | apply Kd.R_drewN | apply Kd.R_drew)); exact HO_11.out) hb); have n2_ := Aside0.mk (blk_below (g := gb101) (o := .cells #[.int .i64 a0_0, .int .i64 a0_1, .int .i64 a0_2, .int .i64 a0_3, .int .i64 a0_4, .int .i64 a0_5, .int .i64 a0_6, .int .i64 a0_7, .int .i64 a0_8, .int .i64 a0_9] 23 (0, 0)) (by (with_reducible repeat (first | refine blk_drewN ?_ _ | refine blk_drew ?_ | refine blk_alloc ?_ _)); exact BK101.out) hb); have n3_ := Aside0.mk (below_step (by repeat (first | (with_reducible first | exact HB.out | apply below_alloc | apply pw_below_drewN | apply below_drew1 | refine below_set ?_ GE101.out) | exact HB.out)) hb); clear HO_10; clear HO_11; clear BK101; clear HB; have HO_10 := n0_; have HO_11 := n1_; have BK101 := n2_; have HB := n3_; clear n0_ n1_ n2_ n3_; (try clear hb); (try clear hb2); (try clear hk); (try clear hi)))
                    go_ret
                    exact ⟨by first | rfl | (simp [errW_none, errW_some] <;> rfl) | (simp only [← hji6, ← hji9]; first | rfl | (simp [errW_none, errW_some] <;> rfl)) | (simp [*, errW_none, errW_some] <;> rfl), by repeat (first | (with_reducible first | exact HB.out | apply below_alloc | apply pw_below_drewN | apply below_drew1 | refine below_set ?_ GE101.out) | exact HB.out)⟩
          · rw [if_neg c12] at H
            exact absurd H (by simp)
        · rw [if_neg c11] at H
          exact absurd H (by simp)
      · rw [if_neg c10] at H
        exact absurd H (by simp)
    · rw [if_neg c8] at H
      exact absurd H (by simp)
  · rw [if_neg c7] at H
    exact absurd H (by simp)

end Go.Proofs.YtckcepmkfegkiaaDoor.PTraceLater
