-- Printed for this claim by a program of this project's own, over the kit's printer; some functions are told by hand.
import Derived.Test.YtckcepmkfegkiaaDoorPTraceRowsx0
import Derived.Test.YtckcepmkfegkiaaDoorPTraceRowsx1
namespace Go.Proofs.YtckcepmkfegkiaaDoor.PTraceRows
open Go.RowKit Go.Proofs.YtckcepmkfegkiaaDoorW.PrintWords Go.Proofs.YtckcepmkfegkiaaDoorW.PrintLast Go.Proofs.YtckcepmkfegkiaaDoorW.PrintMore
attribute [local go_sem] max2_int min2_int max_two min_two max_three min_three max_four min_four   -- for this text's walks alone
set_option linter.unusedVariables false
set_option linter.unusedSimpArgs false

attribute [local go_sem high] eqA42
-- NOT PRINTED: function 31 (trace_Event_known)

-- NOT PRINTED: function 37 (trace_audit_may)

-- NOT PRINTED: function 64 (trace_task_64)

-- NOT PRINTED: function 60 (trace_task_60)

-- NOT PRINTED: function 54 (trace_audit_held)

-- NOT PRINTED: function 65 (num_told)

-- NOT PRINTED: function 62 (num_Add)

-- NOT PRINTED: function 55 (trace_audit_fits)

-- NOT PRINTED: function 38 (trace_audit_starts)

-- NOT PRINTED: function 23 (trace_audit_takes)


/-! ### trace_Audit: function 15 -/
def trace_Audit.g1 (x : S50) : TrS.Tsk := ⟨x.f0, x.f1⟩
def trace_Audit.g2 (x : S42) : TrS.Ev := ⟨x.f0, x.f1, x.f2, x.f3, x.f4⟩
def trace_Audit.f (a0_0 : Int) (a0_1 : Int) (a0_2 : Int) (a0_3 : Int) (a0_4 : Int) (a0_5 : Int) (a0_6 : Int) (a0_7 : Int) (a0_8 : Int) (a0_9 : Int) (l1 : List S50) (l2 : List S42) : Option (Int × Int) := if l1.length ≤ 4398046511104 ∧ l2.length ≤ 4398046511104 then some (TrS.audit ⟨a0_0, a0_1, a0_2, a0_3, a0_4, a0_5, a0_6, a0_7, a0_8, a0_9⟩ (l1.map trace_Audit.g1) (l2.map trace_Audit.g2)) else none
theorem trace_Audit.calls (a0_0 : Int) (a0_1 : Int) (a0_2 : Int) (a0_3 : Int) (a0_4 : Int) (a0_5 : Int) (a0_6 : Int) (a0_7 : Int) (a0_8 : Int) (a0_9 : Int) (A1 : Option Addr) (c1 : Nat) (l1 : List S50) (A2 : Option Addr) (c2 : Nat) (l2 : List S42) (r1 : Int) (r2 : Int) (w : World) (hr1 : Kd.C k50 w A1 l1.length l1) (hc1 : l1.length ≤ c1) (hr2 : Kd.C k42 w A2 l2.length l2) (hc2 : l2.length ≤ c2) (h : trace_Audit.f a0_0 a0_1 a0_2 a0_3 a0_4 a0_5 a0_6 a0_7 a0_8 a0_9 l1 l2 = some (r1, r2)) (HT : TrL.Laid w) {n1 n2 : Nat} (hn1 : l1.length = n1 := by first | rfl | exact LexE.take_len (of_decide_eq_true (by assumption)) (of_decide_eq_true (by assumption))) (hn2 : l2.length = n2 := by first | rfl | exact LexE.take_len (of_decide_eq_true (by assumption)) (of_decide_eq_true (by assumption))) :
    Calls Tryd.prog 15 #[.agg #[.int .i64 a0_0, .int .i64 a0_1, .int .i64 a0_2, .int .i64 a0_3, .int .i64 a0_4, .int .i64 a0_5, .int .i64 a0_6, .int .i64 a0_7, .int .i64 a0_8, .int .i64 a0_9], .slice A1 n1 c1, .slice A2 n2 c2] w fun e w' => e = .returned (.tuple #[.int .i64 r1, .int .i64 r2]) ∧ Below w.heap.size w w' := by
  simp only [trace_Audit.f] at h
  split at h
  · rename_i hs
    subst hn1
    subst hn2
    exact TrSh.audit_b ⟨a0_0, a0_1, a0_2, a0_3, a0_4, a0_5, a0_6, a0_7, a0_8, a0_9⟩ (l1.map trace_Audit.g1) (l2.map trace_Audit.g2) A1 c1 A2 c2 w r1 r2 (Option.some.inj h) _ _ (List.length_map _) (List.length_map _) (TrL.C_map trace_Audit.g1 rfl (fun _ _ _ h => h) hr1) (TrL.C_map trace_Audit.g2 rfl (fun _ _ _ h => h) hr2) HT.2.1 hs.1 hs.2
  · exact absurd h (by simp)


-- NOT PRINTED: function 56 (lex_kind)

-- NOT PRINTED: function 43 (lex_scan_next)

-- NOT PRINTED: function 44 (lex_scan_take)

-- NOT PRINTED: function 45 (lex_scan_end)

-- NOT PRINTED: function 25 (lex_Lex)

-- NOT PRINTED: function 26 (lex_Token)

-- NOT PRINTED: function 46 (slices_Index_string_string)

-- NOT PRINTED: function 47 (num_Parse)

-- NOT PRINTED: function 28 (trace_event)


/-! ### trace_Parse: function 18 -/
def trace_Parse.u (x : TrS.Ev) : S42 := ⟨x.kind, x.task, x.slot, x.epoch, x.tick⟩
def trace_Parse.f (a0 : ByteArray) : Option ((List S42) × Int) := if a0.size ≤ 9223372036854775807 then some ((TrQ.parseT (bytesOf a0)).1.map trace_Parse.u, (TrQ.parseT (bytesOf a0)).2) else none
theorem trace_Parse.calls (a0 : ByteArray) (r1 : List S42) (r2 : Int) (w : World) (h : trace_Parse.f a0 = some (r1, r2)) (HT : TrL.Laid w) :
    Calls Tryd.prog 18 #[.string a0] w fun e w' => ∃ v0_ : Value, e = .returned (.tuple #[v0_, .int .i64 r2]) ∧ Kd.R k42 42 w' w.heap.size (fun _ => True) v0_ r1 ∧ Below w.heap.size w w' := by
  simp only [trace_Parse.f] at h
  split at h
  · rename_i hs
    have h2 := Option.some.inj h
    simp only [Prod.mk.injEq] at h2
    obtain ⟨rfl, rfl⟩ := h2
    refine (TrY.parse_calls a0 w HT.1 hs).mono fun e w' hp => ?_
    obtain ⟨v, he, ho, hB⟩ := hp
    exact ⟨v, he, LexE.R_map trace_Parse.u rfl (fun _ _ _ _ _ h => h) ho, hB⟩
  · exact absurd h (by simp)


-- NOT PRINTED: function 58 (abi_NoEscape)

-- NOT PRINTED: function 52 (strings_Builder_copyCheck)

-- NOT PRINTED: function 32 (strings_Builder_WriteString)

-- NOT PRINTED: function 66 (strconv_small)

-- NOT PRINTED: function 70 (strconv_log10Pow2)

-- NOT PRINTED: function 71 (bits_Len64)

-- NOT PRINTED: function 72 (strconv_bool2_int)

-- NOT PRINTED: function 67 (strconv_numDigits)

-- NOT PRINTED: function 68 (strconv_formatBase10)

-- NOT PRINTED: function 73 (strconv_isPowerOfTwo)

-- NOT PRINTED: function 75 (bits_TrailingZeros32)

-- NOT PRINTED: function 76 (bits_TrailingZeros64)

-- NOT PRINTED: function 74 (bits_TrailingZeros)

-- NOT PRINTED: function 69 (strconv_formatBits)

-- NOT PRINTED: function 63 (strconv_FormatInt)

-- NOT PRINTED: function 59 (strconv_Itoa_59)

-- NOT PRINTED: function 53 (strconv_Itoa_53)

-- NOT PRINTED: function 33 (num_Text)

-- NOT PRINTED: function 34 (strings_Builder_String)


/-! ### trace_Text: function 20 -/
def trace_Text.g (x : S42) : TrS.Ev := ⟨x.f0, x.f1, x.f2, x.f3, x.f4⟩
def trace_Text.inI (n : Int) : Bool := decide (-9223372036854775808 ≤ n) && decide (n ≤ 9223372036854775807)
def trace_Text.evIn (x : S42) : Bool := trace_Text.inI x.f1 && (trace_Text.inI x.f2 && (trace_Text.inI x.f3 && trace_Text.inI x.f4))
def trace_Text.f (l0 : List S42) : Option ByteArray := if l0.length ≤ 4398046511104 ∧ (TrX.textL (l0.map trace_Text.g)).length ≤ 140737488355328 ∧ l0.all trace_Text.evIn = true then some ⟨(TrX.textL (l0.map trace_Text.g)).toArray⟩ else none
theorem trace_Text.ok (l0 : List S42) (h : l0.all trace_Text.evIn = true) : ∀ e ∈ l0.map trace_Text.g, TrX.EvIn e := by
  intro e he
  obtain ⟨x, hx, rfl⟩ := List.mem_map.1 he
  have := List.all_eq_true.1 h x hx
  simp only [trace_Text.evIn, trace_Text.inI, Bool.and_eq_true, decide_eq_true_eq] at this
  exact this
theorem trace_Text.calls (A0 : Option Addr) (c0 : Nat) (l0 : List S42) (r : ByteArray) (w : World) (hr0 : Kd.C k42 w A0 l0.length l0) (hc0 : l0.length ≤ c0) (h : trace_Text.f l0 = some r) (HT : TrL.Laid w) {n : Nat} (hn : l0.length = n := by first | rfl | exact LexE.take_len (of_decide_eq_true (by assumption)) (of_decide_eq_true (by assumption))) :
    Calls Tryd.prog 20 #[.slice A0 n c0] w fun e w' => e = .returned (.string r) ∧ Below w.heap.size w w' := by
  simp only [trace_Text.f] at h
  split at h
  · rename_i hs
    subst hn
    have h2 := Option.some.inj h
    subst h2
    exact TrSh.text_b (l0.map trace_Text.g) A0 c0 w _ rfl _ (List.length_map _) (TrL.C_map trace_Text.g rfl (fun _ _ _ h => h) hr0) HT.1 HT.2.2 (trace_Text.ok l0 hs.2.2) hs.1 hs.2.1
  · exact absurd h (by simp)



/-! ### millwrightlaw19_shown: function 14 -/
def millwrightlaw19_shown.f : Option Bool := some true
theorem millwrightlaw19_shown.calls (r : Bool) (w : World) (h : millwrightlaw19_shown.f = some r) (HT : TrL.Laid w) :
    Calls Tryd.prog 14 #[] w fun e w' => e = .returned (.bool r) ∧ Below w.heap.size w w' := by
  simp only [millwrightlaw19_shown.f, Option.some.injEq] at h
  subst h
  exact TrL.shown_calls w HT


/-! ### millwrightlaw19_TraceRows: function 11 -/
mutual
def millwrightlaw19_TraceRows.j0 : Nat → ByteArray → ByteArray → Bool → List (S42) → Int → List (S42) → Int → Bool → Option (Bool)
  | 0, _, _, _, _, _, _, _, _ => none
  | k + 1, x0, x1, x5, x6, x7, x8, x9, x42 => if x42 = true then (if x5 = true then (if x7 = 0 then (if x9 = 0 then (some true) else (some ((x8.length : Int) == 0))) else (if (x6.length : Int) = 0 then (if x9 = 0 then (some true) else (some ((x8.length : Int) == 0))) else (some false))) else (some false)) else (if x0.size + 1 ≤ 9223372036854775807 then (if (x0 ++ (⟨#[10]⟩ : ByteArray)).size + x1.size ≤ 9223372036854775807 then ((trace_Parse.f ((x0 ++ (⟨#[10]⟩ : ByteArray)) ++ x1)).bind fun bt110 => (if bt110.2 = 0 then (millwrightlaw19_TraceRows.j1 k x5 x6 x8 bt110.1 ((bt110.1.length : Int) != (wrap64 ((x6.length : Int) + (x8.length : Int))))) else (millwrightlaw19_TraceRows.j1 k x5 x6 x8 bt110.1 true))) else (none)) else (none))
def millwrightlaw19_TraceRows.j1 : Nat → Bool → List (S42) → List (S42) → List (S42) → Bool → Option (Bool)
  | 0, _, _, _, _, _ => none
  | k + 1, x5, x6, x8, x10, x81 => if x81 = true then (some false) else (millwrightlaw19_TraceRows.l0 k x5 x6 x8 x10 0)
def millwrightlaw19_TraceRows.l0 : Nat → Bool → List (S42) → List (S42) → List (S42) → Int → Option (Bool)
  | 0, _, _, _, _, _ => none
  | k + 1, x5, x6, x8, x10, x12 => if x12 < (x10.length : Int) then (if x12 < (x6.length : Int) then (if 0 ≤ x12 then (if (!(((rd_T42 x10 x12).f0) == ((rd_T42 x6 x12).f0)) || (!(((rd_T42 x10 x12).f1) == ((rd_T42 x6 x12).f1)) || (!(((rd_T42 x10 x12).f2) == ((rd_T42 x6 x12).f2)) || (!(((rd_T42 x10 x12).f3) == ((rd_T42 x6 x12).f3)) || (!(((rd_T42 x10 x12).f4) == ((rd_T42 x6 x12).f4))))))) = true then (some false) else (millwrightlaw19_TraceRows.l0 k x5 x6 x8 x10 (wrap64 (x12 + 1)))) else (none)) else (if 0 ≤ (wrap64 (x12 - (x6.length : Int))) then (if (wrap64 (x12 - (x6.length : Int))) < (x8.length : Int) then (if 0 ≤ x12 then (if (!(((rd_T42 x10 x12).f0) == ((rd_T42 x8 (wrap64 (x12 - (x6.length : Int)))).f0)) || (!(((rd_T42 x10 x12).f1) == ((rd_T42 x8 (wrap64 (x12 - (x6.length : Int)))).f1)) || (!(((rd_T42 x10 x12).f2) == ((rd_T42 x8 (wrap64 (x12 - (x6.length : Int)))).f2)) || (!(((rd_T42 x10 x12).f3) == ((rd_T42 x8 (wrap64 (x12 - (x6.length : Int)))).f3)) || (!(((rd_T42 x10 x12).f4) == ((rd_T42 x8 (wrap64 (x12 - (x6.length : Int)))).f4))))))) = true then (some false) else (millwrightlaw19_TraceRows.l0 k x5 x6 x8 x10 (wrap64 (x12 + 1)))) else (none)) else (none)) else (none))) else ((trace_Text.f x10).bind fun t114 => ((trace_Parse.f t114).bind fun bt115 => (if x5 = true then (if bt115.2 = 0 then (some ((bt115.1.length : Int) == (x10.length : Int))) else (some false)) else (some false))))
end
def millwrightlaw19_TraceRows.f (k : Nat) (a0 : ByteArray) (a1 : ByteArray) : Option (Bool) := (millwrightlaw19_shown.f).bind fun t101 => (if 0 ≤ (mn (a0.size : Int) 2000) then (if (mn (a0.size : Int) 2000) ≤ (a0.size : Int) then (if 0 ≤ (mn (a1.size : Int) 2000) then (if (mn (a1.size : Int) 2000) ≤ (a1.size : Int) then ((trace_Parse.f (a0.extract 0 ((mn (a0.size : Int) 2000) : Int).toNat)).bind fun bt102 => ((trace_Parse.f (a1.extract 0 ((mn (a1.size : Int) 2000) : Int).toNat)).bind fun bt106 => (if bt102.2 = 0 then (millwrightlaw19_TraceRows.j0 k (a0.extract 0 ((mn (a0.size : Int) 2000) : Int).toNat) (a1.extract 0 ((mn (a1.size : Int) 2000) : Int).toNat) t101 bt102.1 bt102.2 bt106.1 bt106.2 (bt106.2 != 0)) else (millwrightlaw19_TraceRows.j0 k (a0.extract 0 ((mn (a0.size : Int) 2000) : Int).toNat) (a1.extract 0 ((mn (a1.size : Int) 2000) : Int).toNat) t101 bt102.1 bt102.2 bt106.1 bt106.2 true)))) else (none)) else (none)) else (none)) else (none))
theorem millwrightlaw19_TraceRows.mono_l : ∀ k, (∀ y0 y1 y2 y3 y4 y5 y6 y7, LeO (millwrightlaw19_TraceRows.j0 k y0 y1 y2 y3 y4 y5 y6 y7) (millwrightlaw19_TraceRows.j0 (k + 1) y0 y1 y2 y3 y4 y5 y6 y7)) ∧ (∀ y0 y1 y2 y3 y4, LeO (millwrightlaw19_TraceRows.j1 k y0 y1 y2 y3 y4) (millwrightlaw19_TraceRows.j1 (k + 1) y0 y1 y2 y3 y4)) ∧ (∀ y0 y1 y2 y3 y4, LeO (millwrightlaw19_TraceRows.l0 k y0 y1 y2 y3 y4) (millwrightlaw19_TraceRows.l0 (k + 1) y0 y1 y2 y3 y4))
  | 0 => ⟨fun _ _ _ _ _ _ _ _ r h => by simp [millwrightlaw19_TraceRows.j0] at h, fun _ _ _ _ _ r h => by simp [millwrightlaw19_TraceRows.j1] at h, fun _ _ _ _ _ r h => by simp [millwrightlaw19_TraceRows.l0] at h⟩
  | k + 1 => by
    obtain ⟨ih0, ih1, ih2⟩ := millwrightlaw19_TraceRows.mono_l k
    refine ⟨?_, ?_, ?_⟩
    · intro y0 y1 y2 y3 y4 y5 y6 y7
      unfold millwrightlaw19_TraceRows.j0
      repeat' first
      | (with_reducible exact ih0 _ _ _ _ _ _ _ _)
      | (with_reducible exact ih1 _ _ _ _ _)
      | (with_reducible exact ih2 _ _ _ _ _)
      | (with_reducible exact LeO.refl _)
      | (with_reducible exact LeO.none _)
      | (with_reducible refine LeO.ite ?_ ?_)
      | (with_reducible refine LeO.bind ?_ (fun _ => ?_))
      | exact ih0 _ _ _ _ _ _ _ _
      | exact ih1 _ _ _ _ _
      | exact ih2 _ _ _ _ _
      | exact LeO.none _
      | refine LeO.ite ?_ ?_
      | refine LeO.bind ?_ (fun _ => ?_)
    · intro y0 y1 y2 y3 y4
      unfold millwrightlaw19_TraceRows.j1
      repeat' first
      | (with_reducible exact ih0 _ _ _ _ _ _ _ _)
      | (with_reducible exact ih1 _ _ _ _ _)
      | (with_reducible exact ih2 _ _ _ _ _)
      | (with_reducible exact LeO.refl _)
      | (with_reducible exact LeO.none _)
      | (with_reducible refine LeO.ite ?_ ?_)
      | (with_reducible refine LeO.bind ?_ (fun _ => ?_))
      | exact ih0 _ _ _ _ _ _ _ _
      | exact ih1 _ _ _ _ _
      | exact ih2 _ _ _ _ _
      | exact LeO.none _
      | refine LeO.ite ?_ ?_
      | refine LeO.bind ?_ (fun _ => ?_)
    · intro y0 y1 y2 y3 y4
      unfold millwrightlaw19_TraceRows.l0
      repeat' first
      | (with_reducible exact ih0 _ _ _ _ _ _ _ _)
      | (with_reducible exact ih1 _ _ _ _ _)
      | (with_reducible exact ih2 _ _ _ _ _)
      | (with_reducible exact LeO.refl _)
      | (with_reducible exact LeO.none _)
      | (with_reducible refine LeO.ite ?_ ?_)
      | (with_reducible refine LeO.bind ?_ (fun _ => ?_))
      | exact ih0 _ _ _ _ _ _ _ _
      | exact ih1 _ _ _ _ _
      | exact ih2 _ _ _ _ _
      | exact LeO.none _
      | refine LeO.ite ?_ ?_
      | refine LeO.bind ?_ (fun _ => ?_)
theorem millwrightlaw19_TraceRows.mono : ∀ a0 a1 k, LeO (millwrightlaw19_TraceRows.f k a0 a1) (millwrightlaw19_TraceRows.f (k + 1) a0 a1) := by
  intro a0 a1 k
  obtain ⟨ih0, ih1, ih2⟩ := millwrightlaw19_TraceRows.mono_l k
  unfold millwrightlaw19_TraceRows.f
  repeat' first
      | (with_reducible exact ih0 _ _ _ _ _ _ _ _)
      | (with_reducible exact ih1 _ _ _ _ _)
      | (with_reducible exact ih2 _ _ _ _ _)
      | (with_reducible exact LeO.refl _)
      | (with_reducible exact LeO.none _)
      | (with_reducible refine LeO.ite ?_ ?_)
      | (with_reducible refine LeO.bind ?_ (fun _ => ?_))
      | exact ih0 _ _ _ _ _ _ _ _
      | exact ih1 _ _ _ _ _
      | exact ih2 _ _ _ _ _
      | exact LeO.none _
      | refine LeO.ite ?_ ?_
      | refine LeO.bind ?_ (fun _ => ?_)
theorem set5' {w0 w : World} {g : Nat} {t : TypeId} {a0 a1 a2 a3 a4 : Value} (v0 v1 v2 v3 v4 : Value) (h : w.heap[g]? = some (.cells #[a0, a1, a2, a3, a4] t (0, 0))) (hB : Below w0.heap.size w0 w) (hg : w0.heap.size ≤ g) :
    ∃ W, W = (((((w.setCell ⟨g, 0, none⟩ v0).setCell ⟨g, 1, none⟩ v1).setCell ⟨g, 2, none⟩ v2).setCell ⟨g, 3, none⟩ v3).setCell ⟨g, 4, none⟩ v4) ∧ W.heap[g]? = some (.cells #[v0, v1, v2, v3, v4] t (0, 0)) ∧ Below w0.heap.size w0 W :=
  ⟨_, rfl, (blk_put (blk_put (blk_put (blk_put (blk_put h 0 v0 (cs' := #[v0, a1, a2, a3, a4]) rfl) 1 v1 (cs' := #[v0, v1, a2, a3, a4]) rfl) 2 v2 (cs' := #[v0, v1, v2, a3, a4]) rfl) 3 v3 (cs' := #[v0, v1, v2, v3, a4]) rfl) 4 v4 (cs' := #[v0, v1, v2, v3, v4]) rfl), (below_set (below_set (below_set (below_set (below_set hB hg) hg) hg) hg) hg)⟩
set_option maxHeartbeats 8000000 in
set_option maxRecDepth 100000 in
theorem millwrightlaw19_TraceRows.calls (k : Nat) (a0 : ByteArray) (a1 : ByteArray) (r : Bool) (w : World) (h : millwrightlaw19_TraceRows.f k a0 a1 = some r) (HT : TrL.Laid w) :
    Calls Tryd.prog 11 #[.string a0, .string a1] w fun e w' => e = .returned (.bool r) ∧ Below w.heap.size w w' := by
  have hu42 := Tryd.underlying42
  have HB := Aside0.mk (Below.refl w.heap.size w)
  have H : ((millwrightlaw19_shown.f).bind fun t101 => (if 0 ≤ (mn (a0.size : Int) 2000) then (if (mn (a0.size : Int) 2000) ≤ (a0.size : Int) then (if 0 ≤ (mn (a1.size : Int) 2000) then (if (mn (a1.size : Int) 2000) ≤ (a1.size : Int) then ((trace_Parse.f (a0.extract 0 ((mn (a0.size : Int) 2000) : Int).toNat)).bind fun bt102 => ((trace_Parse.f (a1.extract 0 ((mn (a1.size : Int) 2000) : Int).toNat)).bind fun bt106 => (if bt102.2 = 0 then (millwrightlaw19_TraceRows.j0 k (a0.extract 0 ((mn (a0.size : Int) 2000) : Int).toNat) (a1.extract 0 ((mn (a1.size : Int) 2000) : Int).toNat) t101 bt102.1 bt102.2 bt106.1 bt106.2 (bt106.2 != 0)) else (millwrightlaw19_TraceRows.j0 k (a0.extract 0 ((mn (a0.size : Int) 2000) : Int).toNat) (a1.extract 0 ((mn (a1.size : Int) 2000) : Int).toNat) t101 bt102.1 bt102.2 bt106.1 bt106.2 true)))) else (none)) else (none)) else (none)) else (none))) = some r := h
  clear h
  replace H := Option.bind_eq_some_iff.mp H
  obtain ⟨t101, A30, H⟩ := H
  replace H : (if 0 ≤ (mn (a0.size : Int) 2000) then (if (mn (a0.size : Int) 2000) ≤ (a0.size : Int) then (if 0 ≤ (mn (a1.size : Int) 2000) then (if (mn (a1.size : Int) 2000) ≤ (a1.size : Int) then ((trace_Parse.f (a0.extract 0 ((mn (a0.size : Int) 2000) : Int).toNat)).bind fun bt102 => ((trace_Parse.f (a1.extract 0 ((mn (a1.size : Int) 2000) : Int).toNat)).bind fun bt106 => (if bt102.2 = 0 then (millwrightlaw19_TraceRows.j0 k (a0.extract 0 ((mn (a0.size : Int) 2000) : Int).toNat) (a1.extract 0 ((mn (a1.size : Int) 2000) : Int).toNat) t101 bt102.1 bt102.2 bt106.1 bt106.2 (bt106.2 != 0)) else (millwrightlaw19_TraceRows.j0 k (a0.extract 0 ((mn (a0.size : Int) 2000) : Int).toNat) (a1.extract 0 ((mn (a1.size : Int) 2000) : Int).toNat) t101 bt102.1 bt102.2 bt106.1 bt106.2 true)))) else (none)) else (none)) else (none)) else (none)) = some r := H
  have A3 := Aside0.mk A30
  clear A30
  obtain ⟨ji4, hji4⟩ : ∃ j_ : Int, (mn (a0.size : Int) 2000) = j_ := ⟨_, rfl⟩
  replace H : (if 0 ≤ (ji4) then (if (ji4) ≤ (a0.size : Int) then (if 0 ≤ (mn (a1.size : Int) 2000) then (if (mn (a1.size : Int) 2000) ≤ (a1.size : Int) then ((trace_Parse.f (a0.extract 0 ((ji4) : Int).toNat)).bind fun bt102 => ((trace_Parse.f (a1.extract 0 ((mn (a1.size : Int) 2000) : Int).toNat)).bind fun bt106 => (if bt102.2 = 0 then (millwrightlaw19_TraceRows.j0 k (a0.extract 0 ((ji4) : Int).toNat) (a1.extract 0 ((mn (a1.size : Int) 2000) : Int).toNat) t101 bt102.1 bt102.2 bt106.1 bt106.2 (bt106.2 != 0)) else (millwrightlaw19_TraceRows.j0 k (a0.extract 0 ((ji4) : Int).toNat) (a1.extract 0 ((mn (a1.size : Int) 2000) : Int).toNat) t101 bt102.1 bt102.2 bt106.1 bt106.2 true)))) else (none)) else (none)) else (none)) else (none)) = some r := by first | (rw [hji4] at H; exact H) | (simp only [hji4] at H ⊢; exact H)
  (try rw [hji4] at A3)
  (try (have hji4h : ji4 ≤ 2000 := by (rw [← hji4]; unfold mn; (repeat' split) <;> omega)))
  (try (have hji4g : ji4 ≤ 64 := by omega))
  (try (have hji4l : 0 ≤ ji4 := by (rw [← hji4]; unfold mn; (repeat' split) <;> omega)))
  (try (have hji4m : 0 ≤ ji4 := by omega))
  have hji4_ : (if 2000 < (a0.size : Int) then 2000 else (a0.size : Int)) = ji4 := hji4
  by_cases c5 : 0 ≤ (ji4)
  · rw [if_pos c5] at H
    have c5b0 := eq_true c5
    have c5b1 : decide (0 ≤ (ji4)) = true := decide_eq_true c5
    clear c5
    by_cases c6 : (ji4) ≤ (a0.size : Int)
    · rw [if_pos c6] at H
      have c6b0 := eq_true c6
      have c6b1 : decide ((ji4) ≤ (a0.size : Int)) = true := decide_eq_true c6
      clear c6
      obtain ⟨ji7, hji7⟩ : ∃ j_ : Int, (mn (a1.size : Int) 2000) = j_ := ⟨_, rfl⟩
      replace H : (if 0 ≤ (ji7) then (if (ji7) ≤ (a1.size : Int) then ((trace_Parse.f (a0.extract 0 ((ji4) : Int).toNat)).bind fun bt102 => ((trace_Parse.f (a1.extract 0 ((ji7) : Int).toNat)).bind fun bt106 => (if bt102.2 = 0 then (millwrightlaw19_TraceRows.j0 k (a0.extract 0 ((ji4) : Int).toNat) (a1.extract 0 ((ji7) : Int).toNat) t101 bt102.1 bt102.2 bt106.1 bt106.2 (bt106.2 != 0)) else (millwrightlaw19_TraceRows.j0 k (a0.extract 0 ((ji4) : Int).toNat) (a1.extract 0 ((ji7) : Int).toNat) t101 bt102.1 bt102.2 bt106.1 bt106.2 true)))) else (none)) else (none)) = some r := by first | (rw [hji7] at H; exact H) | (simp only [hji7] at H ⊢; exact H)
      (try rw [hji7] at A3)
      (try (have hji7h : ji7 ≤ 2000 := by (rw [← hji7]; unfold mn; (repeat' split) <;> omega)))
      (try (have hji7g : ji7 ≤ 64 := by omega))
      (try (have hji7l : 0 ≤ ji7 := by (rw [← hji7]; unfold mn; (repeat' split) <;> omega)))
      (try (have hji7m : 0 ≤ ji7 := by omega))
      have hji7_ : (if 2000 < (a1.size : Int) then 2000 else (a1.size : Int)) = ji7 := hji7
      by_cases c8 : 0 ≤ (ji7)
      · rw [if_pos c8] at H
        have c8b0 := eq_true c8
        have c8b1 : decide (0 ≤ (ji7)) = true := decide_eq_true c8
        clear c8
        by_cases c9 : (ji7) ≤ (a1.size : Int)
        · rw [if_pos c9] at H
          have c9b0 := eq_true c9
          have c9b1 : decide ((ji7) ≤ (a1.size : Int)) = true := decide_eq_true c9
          clear c9
          replace H := Option.bind_eq_some_iff.mp H
          obtain ⟨⟨t102, t103⟩, A100, H⟩ := H
          replace H : ((trace_Parse.f (a1.extract 0 ((ji7) : Int).toNat)).bind fun bt106 => (if t103 = 0 then (millwrightlaw19_TraceRows.j0 k (a0.extract 0 ((ji4) : Int).toNat) (a1.extract 0 ((ji7) : Int).toNat) t101 t102 t103 bt106.1 bt106.2 (bt106.2 != 0)) else (millwrightlaw19_TraceRows.j0 k (a0.extract 0 ((ji4) : Int).toNat) (a1.extract 0 ((ji7) : Int).toNat) t101 t102 t103 bt106.1 bt106.2 true))) = some r := H
          have A10 := Aside0.mk A100
          clear A100
          replace H := Option.bind_eq_some_iff.mp H
          obtain ⟨⟨t106, t107⟩, A110, H⟩ := H
          replace H : (if t103 = 0 then (millwrightlaw19_TraceRows.j0 k (a0.extract 0 ((ji4) : Int).toNat) (a1.extract 0 ((ji7) : Int).toNat) t101 t102 t103 t106 t107 (t107 != 0)) else (millwrightlaw19_TraceRows.j0 k (a0.extract 0 ((ji4) : Int).toNat) (a1.extract 0 ((ji7) : Int).toNat) t101 t102 t103 t106 t107 true)) = some r := H
          have A11 := Aside0.mk A110
          clear A110
          have HC12 := Aside0.mk H
          clear H
          go_enter Tryd.func11, Tryd.ntmps11
          go_upto_region 6 with (first | (go_at_call 14; (with_reducible refine (millwrightlaw19_shown.calls  t101 _ A3.out (TrL.Laid.below HT (by repeat (first | (with_reducible first | exact HB.out | apply below_alloc | apply pw_below_drewN | apply below_drew1) | exact HB.out)))).mono ?_); rintro e w13 ⟨rfl, hb⟩; have n0_ := Aside0.mk (below_step (by repeat (first | (with_reducible first | exact HB.out | apply below_alloc | apply pw_below_drewN | apply below_drew1) | exact HB.out)) hb); clear HB; have HB := n0_; clear n0_; (try clear hb); (try clear hb2); (try clear hk); (try clear hi)) | (go_at_call 18; (with_reducible refine (trace_Parse.calls (a0.extract 0 ((ji4) : Int).toNat) t102 t103 _ A10.out (TrL.Laid.below HT (by repeat (first | (with_reducible first | exact HB.out | apply below_alloc | apply pw_below_drewN | apply below_drew1) | exact HB.out)))).mono ?_); rintro e w14 ⟨v104, rfl, ho0, hb⟩; have n0_ := Aside0.mk (Kd.R_lower ho0 (below_size (by repeat (first | (with_reducible first | exact HB.out | apply below_alloc | apply pw_below_drewN | apply below_drew1) | exact HB.out)))); have n1_ := Aside0.mk (below_step (by repeat (first | (with_reducible first | exact HB.out | apply below_alloc | apply pw_below_drewN | apply below_drew1) | exact HB.out)) hb); clear HB; have HO105 := n0_; have HB := n1_; clear n0_ n1_; (try clear hb); (try clear hb2); (try clear hk); (try clear hi); (try clear ho0)) | (go_at_call 18; (with_reducible refine (trace_Parse.calls (a1.extract 0 ((ji7) : Int).toNat) t106 t107 _ A11.out (TrL.Laid.below HT (by repeat (first | (with_reducible first | exact HB.out | apply below_alloc | apply pw_below_drewN | apply below_drew1) | exact HB.out)))).mono ?_); rintro e w15 ⟨v108, rfl, ho0, hb⟩; have n0_ := Aside0.mk (Kd.R_elder' (by (with_reducible repeat (first | apply Kd.R_alloc | apply Kd.R_drewN | apply Kd.R_drew)); exact HO105.out) (Kd.R_base ho0) hb); have n1_ := Aside0.mk (Kd.R_lower (Kd.R_new' ho0 (Kd.R_lt (by (with_reducible repeat (first | apply Kd.R_alloc | apply Kd.R_drewN | apply Kd.R_drew)); exact HO105.out))) (below_size (by repeat (first | (with_reducible first | exact HB.out | apply below_alloc | apply pw_below_drewN | apply below_drew1) | exact HB.out)))); have n2_ := Aside0.mk (below_step (by repeat (first | (with_reducible first | exact HB.out | apply below_alloc | apply pw_below_drewN | apply below_drew1) | exact HB.out)) hb); clear HO105; clear HB; have HO105 := n0_; have HO109 := n1_; have HB := n2_; clear n0_ n1_ n2_; (try clear hb); (try clear hb2); (try clear hk); (try clear hi); (try clear ho0)))
          repeat (go_quiet (fail); try go_wp2)
          (try simp only [Act.put, List.setIfInBounds_toArray, List.set_cons_zero, List.set_cons_succ])
          go_cut [42] (fun v42 wc => ∃ (kq : Nat) (x42_11 : Bool), v42 = .bool x42_11 ∧ Aside0 (millwrightlaw19_TraceRows.j0 kq (a0.extract 0 ((ji4) : Int).toNat) (a1.extract 0 ((ji7) : Int).toNat) t101 t102 t103 t106 t107 x42_11 = some r) ∧ Aside0 (kq ≤ k) ∧ Aside0 (Kd.R k42 42 wc w.heap.size (fun k_ => some k_ ≠ (v108 : Value).ownBlock) v104 t102) ∧ Aside0 (Kd.R k42 42 wc w.heap.size (fun k_ => some k_ ≠ (v104 : Value).ownBlock) v108 t106) ∧ Aside0 (Below w.heap.size w wc))
          case first =>
            have H := HC12.out
            clear HC12
            by_cases c16 : t103 = 0
            · rw [if_pos c16] at H
              have c16b0 : (t103 == 0) = true := beq_iff_eq.mpr c16
              have c16b1 : (t103 != 0) = false := bne_eq_false_iff_eq.mpr c16
              clear c16
              (first | rw [c16b0] | (simp only [i64_w, i32_w]; rw [c16b0]) | skip)
              have H' := Aside0.mk H
              clear H
              go_wp2
              repeat (go_quiet (fail); try go_wp2)
              go_meet
              case rel => exact ⟨_, ((t107 != 0)), (by first | rfl | (simp; done) | (simp [*]; done)), H', ⟨by first | omega | exact Nat.le_refl _⟩, ⟨by (with_reducible repeat (first | apply Kd.R_alloc | apply Kd.R_drewN | apply Kd.R_drew)); exact Kd.R_mono HO105.out (fun _ hk => hk.2)⟩, ⟨by (with_reducible repeat (first | apply Kd.R_alloc | apply Kd.R_drewN | apply Kd.R_drew)); exact Kd.R_mono HO109.out (fun _ hk => hk.2)⟩, ⟨by repeat (first | (with_reducible first | exact HB.out | apply below_alloc | apply pw_below_drewN | apply below_drew1) | exact HB.out)⟩⟩
            · rw [if_neg c16] at H
              have c16b0 : (t103 == 0) = false := beq_eq_false_iff_ne.mpr c16
              have c16b1 : (t103 != 0) = true := bne_iff_ne.mpr c16
              (first | rw [c16b0] | (simp only [i64_w, i32_w]; rw [c16b0]) | skip)
              have H' := Aside0.mk H
              clear H
              go_wp2
              repeat (go_quiet (fail); try go_wp2)
              go_meet
              case rel => exact ⟨_, (true), (by first | rfl | (simp; done) | (simp [*]; done)), H', ⟨by first | omega | exact Nat.le_refl _⟩, ⟨by (with_reducible repeat (first | apply Kd.R_alloc | apply Kd.R_drewN | apply Kd.R_drew)); exact Kd.R_mono HO105.out (fun _ hk => hk.2)⟩, ⟨by (with_reducible repeat (first | apply Kd.R_alloc | apply Kd.R_drewN | apply Kd.R_drew)); exact Kd.R_mono HO109.out (fun _ hk => hk.2)⟩, ⟨by repeat (first | (with_reducible first | exact HB.out | apply below_alloc | apply pw_below_drewN | apply below_drew1) | exact HB.out)⟩⟩
          case rest =>
            clear HC12
            (try clear c1); (try clear p2); (try clear c5); (try clear c5b0); (try clear c5b1); (try clear c6); (try clear c6b0); (try clear c6b1); (try clear c8); (try clear c8b0); (try clear c8b1); (try clear c9); (try clear c9b0); (try clear c9b1); (try clear c11); (try clear c16); (try clear c16b0); (try clear c16b1)
            obtain ⟨kq, x42_11, rfl, HA, HJ11, HO_6, HO_8, HB⟩ := hcut
            cases kq with
            | zero => exact absurd HA.out (by simp [millwrightlaw19_TraceRows.j0])
            | succ kj11 =>
              have H := HA.out
              clear HA
              simp only [millwrightlaw19_TraceRows.j0] at H
              by_cases c17 : x42_11 = true
              · subst c17
                have H1 : (if t101 = true then (if t103 = 0 then (if t107 = 0 then (some true) else (some ((t106.length : Int) == 0))) else (if (t102.length : Int) = 0 then (if t107 = 0 then (some true) else (some ((t106.length : Int) == 0))) else (some false))) else (some false)) = some r := by rw [if_pos rfl] at H; exact H
                clear H
                have H := H1
                clear H1
                by_cases c18 : t101 = true
                · subst c18
                  have H1 : (if t103 = 0 then (if t107 = 0 then (some true) else (some ((t106.length : Int) == 0))) else (if (t102.length : Int) = 0 then (if t107 = 0 then (some true) else (some ((t106.length : Int) == 0))) else (some false))) = some r := by rw [if_pos rfl] at H; exact H
                  clear H
                  have H := H1
                  clear H1
                  by_cases c19 : t103 = 0
                  · rw [if_pos c19] at H
                    have c19b0 : (t103 == 0) = true := beq_iff_eq.mpr c19
                    have c19b1 : (t103 != 0) = false := bne_eq_false_iff_eq.mpr c19
                    clear c19
                    by_cases c20 : t107 = 0
                    · rw [if_pos c20] at H
                      have c20b0 : (t107 == 0) = true := beq_iff_eq.mpr c20
                      have c20b1 : (t107 != 0) = false := bne_eq_false_iff_eq.mpr c20
                      clear c20
                      obtain rfl := Option.some.inj H
                      go_wp2
                      repeat (go_quiet (fail); try go_wp2)
                      go_ret
                      exact ⟨by first | rfl | (simp [errW_none, errW_some] <;> rfl) | (simp only [← hji4, ← hji7]; first | rfl | (simp [errW_none, errW_some] <;> rfl)) | (simp [*, errW_none, errW_some] <;> rfl), by repeat (first | (with_reducible first | exact HB.out | apply below_alloc | apply pw_below_drewN | apply below_drew1) | exact HB.out)⟩
                    · rw [if_neg c20] at H
                      have c20b0 : (t107 == 0) = false := beq_eq_false_iff_ne.mpr c20
                      have c20b1 : (t107 != 0) = true := bne_iff_ne.mpr c20
                      obtain rfl := Option.some.inj H
                      obtain ⟨Ao21, co21, eo21⟩ := Kd.R_slice HO_8.out
                      subst eo21
                      go_wp2
                      repeat (go_quiet (fail); try go_wp2)
                      go_ret
                      exact ⟨by first | rfl | (simp [errW_none, errW_some] <;> rfl) | (simp only [← hji4, ← hji7]; first | rfl | (simp [errW_none, errW_some] <;> rfl)) | (simp [*, errW_none, errW_some] <;> rfl), by repeat (first | (with_reducible first | exact HB.out | apply below_alloc | apply pw_below_drewN | apply below_drew1) | exact HB.out)⟩
                  · rw [if_neg c19] at H
                    have c19b0 : (t103 == 0) = false := beq_eq_false_iff_ne.mpr c19
                    have c19b1 : (t103 != 0) = true := bne_iff_ne.mpr c19
                    by_cases c22 : (t102.length : Int) = 0
                    · rw [if_pos c22] at H
                      have c22b0 : ((t102.length : Int) == 0) = true := beq_iff_eq.mpr c22
                      have c22b1 : ((t102.length : Int) != 0) = false := bne_eq_false_iff_eq.mpr c22
                      clear c22
                      by_cases c23 : t107 = 0
                      · rw [if_pos c23] at H
                        have c23b0 : (t107 == 0) = true := beq_iff_eq.mpr c23
                        have c23b1 : (t107 != 0) = false := bne_eq_false_iff_eq.mpr c23
                        clear c23
                        obtain rfl := Option.some.inj H
                        obtain ⟨Ao24, co24, eo24⟩ := Kd.R_slice HO_6.out
                        subst eo24
                        go_wp2
                        repeat (go_quiet (fail); try go_wp2)
                        go_ret
                        exact ⟨by first | rfl | (simp [errW_none, errW_some] <;> rfl) | (simp only [← hji4, ← hji7]; first | rfl | (simp [errW_none, errW_some] <;> rfl)) | (simp [*, errW_none, errW_some] <;> rfl), by repeat (first | (with_reducible first | exact HB.out | apply below_alloc | apply pw_below_drewN | apply below_drew1) | exact HB.out)⟩
                      · rw [if_neg c23] at H
                        have c23b0 : (t107 == 0) = false := beq_eq_false_iff_ne.mpr c23
                        have c23b1 : (t107 != 0) = true := bne_iff_ne.mpr c23
                        obtain rfl := Option.some.inj H
                        obtain ⟨Ao25, co25, eo25⟩ := Kd.R_slice HO_6.out
                        subst eo25
                        obtain ⟨Ao26, co26, eo26⟩ := Kd.R_slice HO_8.out
                        subst eo26
                        go_wp2
                        repeat (go_quiet (fail); try go_wp2)
                        go_ret
                        exact ⟨by first | rfl | (simp [errW_none, errW_some] <;> rfl) | (simp only [← hji4, ← hji7]; first | rfl | (simp [errW_none, errW_some] <;> rfl)) | (simp [*, errW_none, errW_some] <;> rfl), by repeat (first | (with_reducible first | exact HB.out | apply below_alloc | apply pw_below_drewN | apply below_drew1) | exact HB.out)⟩
                    · rw [if_neg c22] at H
                      have c22b0 : ((t102.length : Int) == 0) = false := beq_eq_false_iff_ne.mpr c22
                      have c22b1 : ((t102.length : Int) != 0) = true := bne_iff_ne.mpr c22
                      have c22b2 : ¬ (t102 = []) := fun h_ => c22 (by rw [h_]; rfl)
                      obtain rfl := Option.some.inj H
                      obtain ⟨Ao27, co27, eo27⟩ := Kd.R_slice HO_6.out
                      subst eo27
                      go_wp2
                      repeat (go_quiet (fail); try go_wp2)
                      go_ret
                      exact ⟨by first | rfl | (simp [errW_none, errW_some] <;> rfl) | (simp only [← hji4, ← hji7]; first | rfl | (simp [errW_none, errW_some] <;> rfl)) | (simp [*, errW_none, errW_some] <;> rfl), by repeat (first | (with_reducible first | exact HB.out | apply below_alloc | apply pw_below_drewN | apply below_drew1) | exact HB.out)⟩
                · replace c18 := Bool.eq_false_iff.mpr c18
                  subst c18
                  have H1 : (some false) = some r := by rw [if_neg (show ¬ (false = true) by decide)] at H; exact H
                  clear H
                  have H := H1
                  clear H1
                  obtain rfl := Option.some.inj H
                  go_wp2
                  repeat (go_quiet (fail); try go_wp2)
                  go_ret
                  exact ⟨by first | rfl | (simp [errW_none, errW_some] <;> rfl) | (simp only [← hji4, ← hji7]; first | rfl | (simp [errW_none, errW_some] <;> rfl)) | (simp [*, errW_none, errW_some] <;> rfl), by repeat (first | (with_reducible first | exact HB.out | apply below_alloc | apply pw_below_drewN | apply below_drew1) | exact HB.out)⟩
              · replace c17 := Bool.eq_false_iff.mpr c17
                subst c17
                have H1 : (if (a0.extract 0 ((ji4) : Int).toNat).size + 1 ≤ 9223372036854775807 then (if ((a0.extract 0 ((ji4) : Int).toNat) ++ (⟨#[10]⟩ : ByteArray)).size + (a1.extract 0 ((ji7) : Int).toNat).size ≤ 9223372036854775807 then ((trace_Parse.f (((a0.extract 0 ((ji4) : Int).toNat) ++ (⟨#[10]⟩ : ByteArray)) ++ (a1.extract 0 ((ji7) : Int).toNat))).bind fun bt110 => (if bt110.2 = 0 then (millwrightlaw19_TraceRows.j1 kj11 t101 t102 t106 bt110.1 ((bt110.1.length : Int) != (wrap64 ((t102.length : Int) + (t106.length : Int))))) else (millwrightlaw19_TraceRows.j1 kj11 t101 t102 t106 bt110.1 true))) else (none)) else (none)) = some r := by rw [if_neg (show ¬ (false = true) by decide)] at H; exact H
                clear H
                have H := H1
                clear H1
                by_cases c28 : (a0.extract 0 ((ji4) : Int).toNat).size + 1 ≤ 9223372036854775807
                · rw [if_pos c28] at H
                  have c28b0 := eq_true c28
                  have c28b1 : decide ((a0.extract 0 ((ji4) : Int).toNat).size + 1 ≤ 9223372036854775807) = true := decide_eq_true c28
                  try have c28b2 : (9223372036854775807 < (a0.extract 0 ((ji4) : Int).toNat).size + 1) = False := eq_false (Nat.not_lt.2 c28)
                  by_cases c29 : ((a0.extract 0 ((ji4) : Int).toNat) ++ (⟨#[10]⟩ : ByteArray)).size + (a1.extract 0 ((ji7) : Int).toNat).size ≤ 9223372036854775807
                  · rw [if_pos c29] at H
                    have c29b0 := eq_true c29
                    have c29b1 : decide (((a0.extract 0 ((ji4) : Int).toNat) ++ (⟨#[10]⟩ : ByteArray)).size + (a1.extract 0 ((ji7) : Int).toNat).size ≤ 9223372036854775807) = true := decide_eq_true c29
                    try have c29b2 : (9223372036854775807 < ((a0.extract 0 ((ji4) : Int).toNat) ++ (⟨#[10]⟩ : ByteArray)).size + (a1.extract 0 ((ji7) : Int).toNat).size) = False := eq_false (Nat.not_lt.2 c29)
                    try have c29b3 : (9223372036854775807 < ((a0.extract 0 ((ji4) : Int).toNat) ++ (⟨#[10]⟩ : ByteArray)).size + (((ji7) : Int).toNat - 0)) = False := eq_false (by have h_ := c29; simp only [ByteArray.size_extract] at h_; omega)
                    replace H := Option.bind_eq_some_iff.mp H
                    obtain ⟨⟨t110, t111⟩, A300, H⟩ := H
                    replace H : (if t111 = 0 then (millwrightlaw19_TraceRows.j1 kj11 t101 t102 t106 t110 ((t110.length : Int) != (wrap64 ((t102.length : Int) + (t106.length : Int))))) else (millwrightlaw19_TraceRows.j1 kj11 t101 t102 t106 t110 true)) = some r := H
                    have A30 := Aside0.mk A300
                    clear A300
                    have HC31 := Aside0.mk H
                    clear H
                    go_upto_region 9 with (first | (go_at_call 18; (with_reducible refine (trace_Parse.calls (((a0.extract 0 ((ji4) : Int).toNat) ++ (⟨#[10]⟩ : ByteArray)) ++ (a1.extract 0 ((ji7) : Int).toNat)) t110 t111 _ A30.out (TrL.Laid.below HT (by repeat (first | (with_reducible first | exact HB.out | apply below_alloc | apply pw_below_drewN | apply below_drew1) | exact HB.out)))).mono ?_); rintro e w32 ⟨v112, rfl, ho0, hb⟩; have n0_ := Aside0.mk (Kd.R_elder' (by (with_reducible repeat (first | apply Kd.R_alloc | apply Kd.R_drewN | apply Kd.R_drew)); exact HO_6.out) (Kd.R_base ho0) hb); have n1_ := Aside0.mk (Kd.R_elder' (by (with_reducible repeat (first | apply Kd.R_alloc | apply Kd.R_drewN | apply Kd.R_drew)); exact HO_8.out) (Kd.R_base ho0) hb); have n2_ := Aside0.mk (Kd.R_lower (Kd.R_new' (Kd.R_new' ho0 (Kd.R_lt (by (with_reducible repeat (first | apply Kd.R_alloc | apply Kd.R_drewN | apply Kd.R_drew)); exact HO_6.out))) (Kd.R_lt (by (with_reducible repeat (first | apply Kd.R_alloc | apply Kd.R_drewN | apply Kd.R_drew)); exact HO_8.out))) (below_size (by repeat (first | (with_reducible first | exact HB.out | apply below_alloc | apply pw_below_drewN | apply below_drew1) | exact HB.out)))); have n3_ := Aside0.mk (below_step (by repeat (first | (with_reducible first | exact HB.out | apply below_alloc | apply pw_below_drewN | apply below_drew1) | exact HB.out)) hb); clear HO_6; clear HO_8; clear HB; have HO_6 := n0_; have HO_8 := n1_; have HO113 := n2_; have HB := n3_; clear n0_ n1_ n2_ n3_; (try clear hb); (try clear hb2); (try clear hk); (try clear hi); (try clear ho0)))
                    repeat (go_quiet (fail); try go_wp2)
                    (try simp only [Act.put, List.setIfInBounds_toArray, List.set_cons_zero, List.set_cons_succ])
                    go_cut [81] (fun v81 wc => ∃ (kq : Nat) (x81_30 : Bool), v81 = .bool x81_30 ∧ Aside0 (millwrightlaw19_TraceRows.j1 kq t101 t102 t106 t110 x81_30 = some r) ∧ Aside0 (kq ≤ kj11) ∧ Aside0 (Kd.R k42 42 wc w.heap.size (fun k_ => some k_ ≠ (v108 : Value).ownBlock ∧ some k_ ≠ (v112 : Value).ownBlock) v104 t102) ∧ Aside0 (Kd.R k42 42 wc w.heap.size (fun k_ => some k_ ≠ (v104 : Value).ownBlock ∧ some k_ ≠ (v112 : Value).ownBlock) v108 t106) ∧ Aside0 (Kd.R k42 42 wc w.heap.size (fun k_ => some k_ ≠ (v104 : Value).ownBlock ∧ some k_ ≠ (v108 : Value).ownBlock) v112 t110) ∧ Aside0 (Below w.heap.size w wc))
                    case first =>
                      have H := HC31.out
                      clear HC31
                      by_cases c33 : t111 = 0
                      · rw [if_pos c33] at H
                        have c33b0 : (t111 == 0) = true := beq_iff_eq.mpr c33
                        have c33b1 : (t111 != 0) = false := bne_eq_false_iff_eq.mpr c33
                        clear c33
                        (first | rw [c33b0] | (simp only [i64_w, i32_w]; rw [c33b0]) | skip)
                        have H' := Aside0.mk H
                        clear H
                        obtain ⟨Ao34, co34, eo34⟩ := Kd.R_slice HO113.out
                        subst eo34
                        obtain ⟨Ao35, co35, eo35⟩ := Kd.R_slice HO_6.out
                        subst eo35
                        obtain ⟨Ao36, co36, eo36⟩ := Kd.R_slice HO_8.out
                        subst eo36
                        go_wp2
                        repeat (go_quiet (fail); try go_wp2)
                        go_meet
                        case rel => exact ⟨_, (((t110.length : Int) != (wrap64 ((t102.length : Int) + (t106.length : Int))))), (by first | rfl | (simp; done) | (simp [*]; done)), H', ⟨by have := HJ11.out; first | omega | exact Nat.le_refl _⟩, ⟨by (with_reducible repeat (first | apply Kd.R_alloc | apply Kd.R_drewN | apply Kd.R_drew)); exact HO_6.out⟩, ⟨by (with_reducible repeat (first | apply Kd.R_alloc | apply Kd.R_drewN | apply Kd.R_drew)); exact HO_8.out⟩, ⟨by (with_reducible repeat (first | apply Kd.R_alloc | apply Kd.R_drewN | apply Kd.R_drew)); exact Kd.R_mono HO113.out (fun _ hk => ⟨hk.1.2, hk.2⟩)⟩, ⟨by repeat (first | (with_reducible first | exact HB.out | apply below_alloc | apply pw_below_drewN | apply below_drew1) | exact HB.out)⟩⟩
                      · rw [if_neg c33] at H
                        have c33b0 : (t111 == 0) = false := beq_eq_false_iff_ne.mpr c33
                        have c33b1 : (t111 != 0) = true := bne_iff_ne.mpr c33
                        (first | rw [c33b0] | (simp only [i64_w, i32_w]; rw [c33b0]) | skip)
                        have H' := Aside0.mk H
                        clear H
                        go_wp2
                        repeat (go_quiet (fail); try go_wp2)
                        go_meet
                        case rel => exact ⟨_, (true), (by first | rfl | (simp; done) | (simp [*]; done)), H', ⟨by have := HJ11.out; first | omega | exact Nat.le_refl _⟩, ⟨by (with_reducible repeat (first | apply Kd.R_alloc | apply Kd.R_drewN | apply Kd.R_drew)); exact HO_6.out⟩, ⟨by (with_reducible repeat (first | apply Kd.R_alloc | apply Kd.R_drewN | apply Kd.R_drew)); exact HO_8.out⟩, ⟨by (with_reducible repeat (first | apply Kd.R_alloc | apply Kd.R_drewN | apply Kd.R_drew)); exact Kd.R_mono HO113.out (fun _ hk => ⟨hk.1.2, hk.2⟩)⟩, ⟨by repeat (first | (with_reducible first | exact HB.out | apply below_alloc | apply pw_below_drewN | apply below_drew1) | exact HB.out)⟩⟩
                    case rest =>
                      clear HC31
                      (try clear c1); (try clear c2); (try clear p2); (try clear c3); (try clear c5); (try clear c5b0); (try clear c5b1); (try clear c6); (try clear c6b0); (try clear c6b1); (try clear p6); (try clear c8); (try clear c8b0); (try clear c8b1); (try clear c9); (try clear c9b0); (try clear c9b1); (try clear c11); (try clear c16); (try clear c16b0); (try clear c16b1); (try clear c17); (try clear c18); (try clear c19); (try clear c19b0); (try clear c19b1); (try clear c20); (try clear c20b0); (try clear c20b1); (try clear c22); (try clear c22b0); (try clear c22b1); (try clear c22b2); (try clear c23); (try clear c23b0); (try clear c23b1); (try clear c28); (try clear c28b0); (try clear c28b1); (try clear c28b2); (try clear c29); (try clear c29b0); (try clear c29b1); (try clear c29b2); (try clear c33); (try clear c33b0); (try clear c33b1); (try clear p2)
                      obtain ⟨kq, x81_30, rfl, HA, HJ30, HO_6, HO_8, HO_10, HB⟩ := hcut
                      cases kq with
                      | zero => exact absurd HA.out (by simp [millwrightlaw19_TraceRows.j1])
                      | succ kj30 =>
                        have H := HA.out
                        clear HA
                        simp only [millwrightlaw19_TraceRows.j1] at H
                        by_cases c37 : x81_30 = true
                        · subst c37
                          have H1 : (some false) = some r := by rw [if_pos rfl] at H; exact H
                          clear H
                          have H := H1
                          clear H1
                          obtain rfl := Option.some.inj H
                          go_wp2
                          repeat (go_quiet (fail); try go_wp2)
                          go_ret
                          exact ⟨by first | rfl | (simp [errW_none, errW_some] <;> rfl) | (simp only [← hji4, ← hji7]; first | rfl | (simp [errW_none, errW_some] <;> rfl)) | (simp [*, errW_none, errW_some] <;> rfl), by repeat (first | (with_reducible first | exact HB.out | apply below_alloc | apply pw_below_drewN | apply below_drew1) | exact HB.out)⟩
                        · replace c37 := Bool.eq_false_iff.mpr c37
                          subst c37
                          have H1 : (millwrightlaw19_TraceRows.l0 kj30 t101 t102 t106 t110 0) = some r := by rw [if_neg (show ¬ (false = true) by decide)] at H; exact H
                          clear H
                          have H := H1
                          clear H1
                          have H' := Aside0.mk H
                          clear H
                          go_wp2
                          repeat (go_quiet (fail); try go_wp2)
                          go_loopg [12] kj30 (fun kq v12 w' => ∃ (x12_3 : Int), v12 = .int .i64 x12_3 ∧ Aside0 (millwrightlaw19_TraceRows.l0 kq t101 t102 t106 t110 x12_3 = some r) ∧ Aside0 (kq ≤ kj30) ∧ Aside0 (Kd.R k42 42 w' w.heap.size (fun k_ => some k_ ≠ (v108 : Value).ownBlock ∧ some k_ ≠ (v112 : Value).ownBlock) v104 t102) ∧ Aside0 (Kd.R k42 42 w' w.heap.size (fun k_ => some k_ ≠ (v104 : Value).ownBlock ∧ some k_ ≠ (v112 : Value).ownBlock) v108 t106) ∧ Aside0 (Kd.R k42 42 w' w.heap.size (fun k_ => some k_ ≠ (v104 : Value).ownBlock ∧ some k_ ≠ (v108 : Value).ownBlock) v112 t110) ∧ Aside0 (Below w.heap.size w w'))
                          case atStart => exact ⟨(0), (by first | rfl | (simp; done) | (simp [*]; done)), H', ⟨Nat.le_refl _⟩, ⟨by (with_reducible repeat (first | apply Kd.R_alloc | apply Kd.R_drewN | apply Kd.R_drew)); exact HO_6.out⟩, ⟨by (with_reducible repeat (first | apply Kd.R_alloc | apply Kd.R_drewN | apply Kd.R_drew)); exact HO_8.out⟩, ⟨by (with_reducible repeat (first | apply Kd.R_alloc | apply Kd.R_drewN | apply Kd.R_drew)); exact HO_10.out⟩, ⟨by repeat (first | (with_reducible first | exact HB.out | apply below_alloc | apply pw_below_drewN | apply below_drew1) | exact HB.out)⟩⟩
                          case round =>
                            clear H'
                            (try clear c1); (try clear c2); (try clear p2); (try clear c3); (try clear c5); (try clear c5b0); (try clear c5b1); (try clear c6); (try clear c6b0); (try clear c6b1); (try clear p6); (try clear c8); (try clear c8b0); (try clear c8b1); (try clear c9); (try clear c9b0); (try clear c9b1); (try clear c11); (try clear c16); (try clear c16b0); (try clear c16b1); (try clear c17); (try clear c18); (try clear c19); (try clear c19b0); (try clear c19b1); (try clear c20); (try clear c20b0); (try clear c20b1); (try clear c22); (try clear c22b0); (try clear c22b1); (try clear c22b2); (try clear c23); (try clear c23b0); (try clear c23b1); (try clear c28); (try clear c28b0); (try clear c28b1); (try clear c28b2); (try clear c29); (try clear c29b0); (try clear c29b1); (try clear c29b2); (try clear c33); (try clear c33b0); (try clear c33b1); (try clear c37); (try clear p2); (try clear p6)
                            obtain ⟨x12_3, rfl, HA, HK3, HO_6, HO_8, HO_10, HB⟩ := hrel
                            cases gk with
                            | zero => exact absurd HA.out (by simp [millwrightlaw19_TraceRows.l0])
                            | succ k3 =>
                              have H := HA.out
                              clear HA
                              simp only [millwrightlaw19_TraceRows.l0] at H
                              by_cases c38 : x12_3 < (t110.length : Int)
                              · rw [if_pos c38] at H
                                have c38b0 : decide (x12_3 < (t110.length : Int)) = true := decide_eq_true c38
                                clear c38
                                by_cases c39 : x12_3 < (t102.length : Int)
                                · rw [if_pos c39] at H
                                  have c39b0 : decide (x12_3 < (t102.length : Int)) = true := decide_eq_true c39
                                  clear c39
                                  by_cases c40 : 0 ≤ x12_3
                                  · rw [if_pos c40] at H
                                    have c40b0 : decide (0 ≤ x12_3) = true := decide_eq_true c40
                                    clear c40
                                    by_cases c41 : (!(((rd_T42 t110 x12_3).f0) == ((rd_T42 t102 x12_3).f0)) || (!(((rd_T42 t110 x12_3).f1) == ((rd_T42 t102 x12_3).f1)) || (!(((rd_T42 t110 x12_3).f2) == ((rd_T42 t102 x12_3).f2)) || (!(((rd_T42 t110 x12_3).f3) == ((rd_T42 t102 x12_3).f3)) || (!(((rd_T42 t110 x12_3).f4) == ((rd_T42 t102 x12_3).f4))))))) = true
                                    · rw [if_pos c41] at H
                                      have c41b0 : (!(((rd_T42 t110 x12_3).f0) == ((rd_T42 t102 x12_3).f0)) || (!(((rd_T42 t110 x12_3).f1) == ((rd_T42 t102 x12_3).f1)) || (!(((rd_T42 t110 x12_3).f2) == ((rd_T42 t102 x12_3).f2)) || (!(((rd_T42 t110 x12_3).f3) == ((rd_T42 t102 x12_3).f3)) || (!(((rd_T42 t110 x12_3).f4) == ((rd_T42 t102 x12_3).f4))))))) = true := c41
                                      clear c41
                                      obtain rfl := Option.some.inj H
                                      obtain ⟨Ao42, co42, eo42⟩ := Kd.R_slice HO_10.out
                                      subst eo42
                                      obtain ⟨Ao46, co46, eo46⟩ := Kd.R_slice HO_6.out
                                      subst eo46
                                      go_upto_region 15 with (first | ((with_reducible refine gate_dst (N := 13) rfl ?_); (try (refine gate_guard (by rfl) ?_; dsimp only)); refine box_event ?hg (N := 13) ?hd (cs := #[.int .i64 0, .int .i64 0, .int .i64 0, .int .i64 0, .int .i64 0]) (t := 42) ?hr ?_; (case hd => rfl); (case hg => rfl); (case hr => first | (go_simp; done) | (go_simp; rfl)); intro gb hg w45 hbox hb; have GE := Aside0.mk (Nat.le_of_eq hg.symm); have HX := Aside0.mk hbox; have HW := Aside0.mk hb; clear hg hb hbox; have hcz0 : w45.cell? ⟨gb, 0, none⟩ = some (.int .i64 0) := (blk_cell HX.out 0).trans rfl; have hcz1 : w45.cell? ⟨gb, 1, none⟩ = some (.int .i64 0) := (blk_cell HX.out 1).trans rfl; have hcz2 : w45.cell? ⟨gb, 2, none⟩ = some (.int .i64 0) := (blk_cell HX.out 2).trans rfl; have hcz3 : w45.cell? ⟨gb, 3, none⟩ = some (.int .i64 0) := (blk_cell HX.out 3).trans rfl; have hcz4 : w45.cell? ⟨gb, 4, none⟩ = some (.int .i64 0) := (blk_cell HX.out 4).trans rfl; have hfz0 := blk_frozen HX.out 0; have hfz1 := blk_frozen HX.out 1; have hfz2 := blk_frozen HX.out 2; have hfz3 := blk_frozen HX.out 3; have hfz4 := blk_frozen HX.out 4))
                                      obtain ⟨w46, hw46, hX, hW⟩ := set5' (.int .i64 0) (.int .i64 0) (.int .i64 0) (.int .i64 0) (.int .i64 0) HX.out HW.out GE.out
                                      rw [← hw46]
                                      have HX2 := Aside0.mk hX
                                      have HW2 := Aside0.mk hW
                                      clear hcz0 hcz1 hcz2 hcz3 hcz4 hfz0 hfz1 hfz2 hfz3 hfz4 HX HW hX hW hw46
                                      have hcz0 : w46.cell? ⟨gb, 0, none⟩ = some (.int .i64 0) := (blk_cell HX2.out 0).trans rfl
                                      have hcz1 : w46.cell? ⟨gb, 1, none⟩ = some (.int .i64 0) := (blk_cell HX2.out 1).trans rfl
                                      have hcz2 : w46.cell? ⟨gb, 2, none⟩ = some (.int .i64 0) := (blk_cell HX2.out 2).trans rfl
                                      have hcz3 : w46.cell? ⟨gb, 3, none⟩ = some (.int .i64 0) := (blk_cell HX2.out 3).trans rfl
                                      have hcz4 : w46.cell? ⟨gb, 4, none⟩ = some (.int .i64 0) := (blk_cell HX2.out 4).trans rfl
                                      have hfz0 := blk_frozen HX2.out 0
                                      have hfz1 := blk_frozen HX2.out 1
                                      have hfz2 := blk_frozen HX2.out 2
                                      have hfz3 := blk_frozen HX2.out 3
                                      have hfz4 := blk_frozen HX2.out 4
                                      have p133 : 0 ≤ (x12_3 : Int) := (of_decide_eq_true (by first | (with_reducible assumption) | assumption))
                                      have q133 : x12_3 < (t102.length : Int) := (of_decide_eq_true (by first | (with_reducible assumption) | assumption))
                                      obtain ⟨ad133, e133, hx133_0, hx133_1, hx133_2, hx133_3, hx133_4⟩ := at_T42 (Kd.C_below (Kd.R_reads' HO_6.out).2.2 HW2.out) x12_3 p133 q133
                                      cases e133
                                      replace p133 := eq_true p133
                                      replace q133 := eq_true q133
                                      go_upto_region 18 with fail
                                      obtain ⟨w47, hw47, hX, hW⟩ := set5' (.int .i64 (rd_T42 t102 x12_3).f0) (.int .i64 (rd_T42 t102 x12_3).f1) (.int .i64 (rd_T42 t102 x12_3).f2) (.int .i64 (rd_T42 t102 x12_3).f3) (.int .i64 (rd_T42 t102 x12_3).f4) HX2.out HW2.out GE.out
                                      rw [← hw47]
                                      have HX3 := Aside0.mk hX
                                      have HW3 := Aside0.mk hW
                                      clear hcz0 hcz1 hcz2 hcz3 hcz4 hfz0 hfz1 hfz2 hfz3 hfz4 hx133_0 hx133_1 hx133_2 hx133_3 hx133_4 HX2 HW2 hX hW hw47
                                      have hcz0 : w47.cell? ⟨gb, 0, none⟩ = some (.int .i64 (rd_T42 t102 x12_3).f0) := (blk_cell HX3.out 0).trans rfl
                                      have hcz1 : w47.cell? ⟨gb, 1, none⟩ = some (.int .i64 (rd_T42 t102 x12_3).f1) := (blk_cell HX3.out 1).trans rfl
                                      have hcz2 : w47.cell? ⟨gb, 2, none⟩ = some (.int .i64 (rd_T42 t102 x12_3).f2) := (blk_cell HX3.out 2).trans rfl
                                      have hcz3 : w47.cell? ⟨gb, 3, none⟩ = some (.int .i64 (rd_T42 t102 x12_3).f3) := (blk_cell HX3.out 3).trans rfl
                                      have hcz4 : w47.cell? ⟨gb, 4, none⟩ = some (.int .i64 (rd_T42 t102 x12_3).f4) := (blk_cell HX3.out 4).trans rfl
                                      have hfz0 := blk_frozen HX3.out 0
                                      have hfz1 := blk_frozen HX3.out 1
                                      have hfz2 := blk_frozen HX3.out 2
                                      have hfz3 := blk_frozen HX3.out 3
                                      have hfz4 := blk_frozen HX3.out 4
                                      have p134 : 0 ≤ (x12_3 : Int) := (of_decide_eq_true (by first | (with_reducible assumption) | assumption))
                                      have q134 : x12_3 < (t110.length : Int) := (of_decide_eq_true (by first | (with_reducible assumption) | assumption))
                                      obtain ⟨ad134, e134, hx134_0, hx134_1, hx134_2, hx134_3, hx134_4⟩ := at_T42 (Kd.C_below (Kd.R_reads' HO_10.out).2.2 HW3.out) x12_3 p134 q134
                                      cases e134
                                      replace p134 := eq_true p134
                                      replace q134 := eq_true q134
                                      go_wp2
                                      repeat (go_quiet (fail); try go_wp2)
                                      go_ret
                                      exact ⟨by first | rfl | (simp [*]; done), by repeat (first | (with_reducible first | exact below_step HB.out HW3.out | apply below_alloc | apply pw_below_drewN | apply below_drew1) | exact below_step HB.out HW3.out)⟩
                                    · rw [if_neg c41] at H
                                      have c41b0 : (!(((rd_T42 t110 x12_3).f0) == ((rd_T42 t102 x12_3).f0)) || (!(((rd_T42 t110 x12_3).f1) == ((rd_T42 t102 x12_3).f1)) || (!(((rd_T42 t110 x12_3).f2) == ((rd_T42 t102 x12_3).f2)) || (!(((rd_T42 t110 x12_3).f3) == ((rd_T42 t102 x12_3).f3)) || (!(((rd_T42 t110 x12_3).f4) == ((rd_T42 t102 x12_3).f4))))))) = false := by simpa using c41
                                      clear c41
                                      have H' := Aside0.mk H
                                      clear H
                                      obtain ⟨Ao46, co46, eo46⟩ := Kd.R_slice HO_10.out
                                      subst eo46
                                      obtain ⟨Ao46, co46, eo46⟩ := Kd.R_slice HO_6.out
                                      subst eo46
                                      go_upto_region 15 with (first | ((with_reducible refine gate_dst (N := 13) rfl ?_); (try (refine gate_guard (by rfl) ?_; dsimp only)); refine box_event ?hg (N := 13) ?hd (cs := #[.int .i64 0, .int .i64 0, .int .i64 0, .int .i64 0, .int .i64 0]) (t := 42) ?hr ?_; (case hd => rfl); (case hg => rfl); (case hr => first | (go_simp; done) | (go_simp; rfl)); intro gb hg w45 hbox hb; have GE := Aside0.mk (Nat.le_of_eq hg.symm); have HX := Aside0.mk hbox; have HW := Aside0.mk hb; clear hg hb hbox; have hcz0 : w45.cell? ⟨gb, 0, none⟩ = some (.int .i64 0) := (blk_cell HX.out 0).trans rfl; have hcz1 : w45.cell? ⟨gb, 1, none⟩ = some (.int .i64 0) := (blk_cell HX.out 1).trans rfl; have hcz2 : w45.cell? ⟨gb, 2, none⟩ = some (.int .i64 0) := (blk_cell HX.out 2).trans rfl; have hcz3 : w45.cell? ⟨gb, 3, none⟩ = some (.int .i64 0) := (blk_cell HX.out 3).trans rfl; have hcz4 : w45.cell? ⟨gb, 4, none⟩ = some (.int .i64 0) := (blk_cell HX.out 4).trans rfl; have hfz0 := blk_frozen HX.out 0; have hfz1 := blk_frozen HX.out 1; have hfz2 := blk_frozen HX.out 2; have hfz3 := blk_frozen HX.out 3; have hfz4 := blk_frozen HX.out 4))
                                      obtain ⟨w46, hw46, hX, hW⟩ := set5' (.int .i64 0) (.int .i64 0) (.int .i64 0) (.int .i64 0) (.int .i64 0) HX.out HW.out GE.out
                                      rw [← hw46]
                                      have HX2 := Aside0.mk hX
                                      have HW2 := Aside0.mk hW
                                      clear hcz0 hcz1 hcz2 hcz3 hcz4 hfz0 hfz1 hfz2 hfz3 hfz4 HX HW hX hW hw46
                                      have hcz0 : w46.cell? ⟨gb, 0, none⟩ = some (.int .i64 0) := (blk_cell HX2.out 0).trans rfl
                                      have hcz1 : w46.cell? ⟨gb, 1, none⟩ = some (.int .i64 0) := (blk_cell HX2.out 1).trans rfl
                                      have hcz2 : w46.cell? ⟨gb, 2, none⟩ = some (.int .i64 0) := (blk_cell HX2.out 2).trans rfl
                                      have hcz3 : w46.cell? ⟨gb, 3, none⟩ = some (.int .i64 0) := (blk_cell HX2.out 3).trans rfl
                                      have hcz4 : w46.cell? ⟨gb, 4, none⟩ = some (.int .i64 0) := (blk_cell HX2.out 4).trans rfl
                                      have hfz0 := blk_frozen HX2.out 0
                                      have hfz1 := blk_frozen HX2.out 1
                                      have hfz2 := blk_frozen HX2.out 2
                                      have hfz3 := blk_frozen HX2.out 3
                                      have hfz4 := blk_frozen HX2.out 4
                                      have p133 : 0 ≤ (x12_3 : Int) := (of_decide_eq_true (by first | (with_reducible assumption) | assumption))
                                      have q133 : x12_3 < (t102.length : Int) := (of_decide_eq_true (by first | (with_reducible assumption) | assumption))
                                      obtain ⟨ad133, e133, hx133_0, hx133_1, hx133_2, hx133_3, hx133_4⟩ := at_T42 (Kd.C_below (Kd.R_reads' HO_6.out).2.2 HW2.out) x12_3 p133 q133
                                      cases e133
                                      replace p133 := eq_true p133
                                      replace q133 := eq_true q133
                                      go_upto_region 18 with fail
                                      obtain ⟨w47, hw47, hX, hW⟩ := set5' (.int .i64 (rd_T42 t102 x12_3).f0) (.int .i64 (rd_T42 t102 x12_3).f1) (.int .i64 (rd_T42 t102 x12_3).f2) (.int .i64 (rd_T42 t102 x12_3).f3) (.int .i64 (rd_T42 t102 x12_3).f4) HX2.out HW2.out GE.out
                                      rw [← hw47]
                                      have HX3 := Aside0.mk hX
                                      have HW3 := Aside0.mk hW
                                      clear hcz0 hcz1 hcz2 hcz3 hcz4 hfz0 hfz1 hfz2 hfz3 hfz4 hx133_0 hx133_1 hx133_2 hx133_3 hx133_4 HX2 HW2 hX hW hw47
                                      have hcz0 : w47.cell? ⟨gb, 0, none⟩ = some (.int .i64 (rd_T42 t102 x12_3).f0) := (blk_cell HX3.out 0).trans rfl
                                      have hcz1 : w47.cell? ⟨gb, 1, none⟩ = some (.int .i64 (rd_T42 t102 x12_3).f1) := (blk_cell HX3.out 1).trans rfl
                                      have hcz2 : w47.cell? ⟨gb, 2, none⟩ = some (.int .i64 (rd_T42 t102 x12_3).f2) := (blk_cell HX3.out 2).trans rfl
                                      have hcz3 : w47.cell? ⟨gb, 3, none⟩ = some (.int .i64 (rd_T42 t102 x12_3).f3) := (blk_cell HX3.out 3).trans rfl
                                      have hcz4 : w47.cell? ⟨gb, 4, none⟩ = some (.int .i64 (rd_T42 t102 x12_3).f4) := (blk_cell HX3.out 4).trans rfl
                                      have hfz0 := blk_frozen HX3.out 0
                                      have hfz1 := blk_frozen HX3.out 1
                                      have hfz2 := blk_frozen HX3.out 2
                                      have hfz3 := blk_frozen HX3.out 3
                                      have hfz4 := blk_frozen HX3.out 4
                                      have p134 : 0 ≤ (x12_3 : Int) := (of_decide_eq_true (by first | (with_reducible assumption) | assumption))
                                      have q134 : x12_3 < (t110.length : Int) := (of_decide_eq_true (by first | (with_reducible assumption) | assumption))
                                      obtain ⟨ad134, e134, hx134_0, hx134_1, hx134_2, hx134_3, hx134_4⟩ := at_T42 (Kd.C_below (Kd.R_reads' HO_10.out).2.2 HW3.out) x12_3 p134 q134
                                      cases e134
                                      replace p134 := eq_true p134
                                      replace q134 := eq_true q134
                                      go_wp2
                                      repeat (go_quiet (fail); try go_wp2)
                                      go_roundg k3
                                      case measure => have := HJ11.out; have := HJ30.out; have := HK3.out; omega
                                      case rel => exact ⟨(wrap64 (x12_3 + 1)), (by first | rfl | (simp; done) | (simp [*]; done)), H', ⟨by have := HJ11.out; have := HJ30.out; have := HK3.out; omega⟩, ⟨by (with_reducible repeat (first | apply Kd.R_alloc | apply Kd.R_drewN | apply Kd.R_drew)); exact Kd.R_below HO_6.out HW3.out⟩, ⟨by (with_reducible repeat (first | apply Kd.R_alloc | apply Kd.R_drewN | apply Kd.R_drew)); exact Kd.R_below HO_8.out HW3.out⟩, ⟨by (with_reducible repeat (first | apply Kd.R_alloc | apply Kd.R_drewN | apply Kd.R_drew)); exact Kd.R_below HO_10.out HW3.out⟩, ⟨by repeat (first | (with_reducible first | exact below_step HB.out HW3.out | apply below_alloc | apply pw_below_drewN | apply below_drew1) | exact below_step HB.out HW3.out)⟩⟩
                                  · rw [if_neg c40] at H
                                    exact absurd H (by simp)
                                · rw [if_neg c39] at H
                                  have c39b0 : decide (x12_3 < (t102.length : Int)) = false := decide_eq_false c39
                                  clear c39
                                  obtain ⟨ji50, hji50⟩ : ∃ j_ : Int, (wrap64 (x12_3 - (t102.length : Int))) = j_ := ⟨_, rfl⟩
                                  replace H : (if 0 ≤ (ji50) then (if (ji50) < (t106.length : Int) then (if 0 ≤ x12_3 then (if (!(((rd_T42 t110 x12_3).f0) == ((rd_T42 t106 (ji50)).f0)) || (!(((rd_T42 t110 x12_3).f1) == ((rd_T42 t106 (ji50)).f1)) || (!(((rd_T42 t110 x12_3).f2) == ((rd_T42 t106 (ji50)).f2)) || (!(((rd_T42 t110 x12_3).f3) == ((rd_T42 t106 (ji50)).f3)) || (!(((rd_T42 t110 x12_3).f4) == ((rd_T42 t106 (ji50)).f4))))))) = true then (some false) else (millwrightlaw19_TraceRows.l0 k3 t101 t102 t106 t110 (wrap64 (x12_3 + 1)))) else (none)) else (none)) else (none)) = some r := by first | (rw [hji50] at H; exact H) | (simp only [hji50] at H ⊢; exact H)
                                  have hji50w : (IntKind.i64.wrap (x12_3 - (t102.length : Int))) = ji50 := (i64_w _).trans hji50
                                  by_cases c51 : 0 ≤ (ji50)
                                  · rw [if_pos c51] at H
                                    have c51b0 : decide (0 ≤ (ji50)) = true := decide_eq_true c51
                                    clear c51
                                    by_cases c52 : (ji50) < (t106.length : Int)
                                    · rw [if_pos c52] at H
                                      have c52b0 : decide ((ji50) < (t106.length : Int)) = true := decide_eq_true c52
                                      clear c52
                                      by_cases c53 : 0 ≤ x12_3
                                      · rw [if_pos c53] at H
                                        have c53b0 : decide (0 ≤ x12_3) = true := decide_eq_true c53
                                        clear c53
                                        by_cases c54 : (!(((rd_T42 t110 x12_3).f0) == ((rd_T42 t106 (ji50)).f0)) || (!(((rd_T42 t110 x12_3).f1) == ((rd_T42 t106 (ji50)).f1)) || (!(((rd_T42 t110 x12_3).f2) == ((rd_T42 t106 (ji50)).f2)) || (!(((rd_T42 t110 x12_3).f3) == ((rd_T42 t106 (ji50)).f3)) || (!(((rd_T42 t110 x12_3).f4) == ((rd_T42 t106 (ji50)).f4))))))) = true
                                        · rw [if_pos c54] at H
                                          have c54b0 : (!(((rd_T42 t110 x12_3).f0) == ((rd_T42 t106 (ji50)).f0)) || (!(((rd_T42 t110 x12_3).f1) == ((rd_T42 t106 (ji50)).f1)) || (!(((rd_T42 t110 x12_3).f2) == ((rd_T42 t106 (ji50)).f2)) || (!(((rd_T42 t110 x12_3).f3) == ((rd_T42 t106 (ji50)).f3)) || (!(((rd_T42 t110 x12_3).f4) == ((rd_T42 t106 (ji50)).f4))))))) = true := c54
                                          clear c54
                                          obtain rfl := Option.some.inj H
                                          obtain ⟨Ao55, co55, eo55⟩ := Kd.R_slice HO_10.out
                                          subst eo55
                                          obtain ⟨Ao46, co46, eo46⟩ := Kd.R_slice HO_6.out
                                          subst eo46
                                          obtain ⟨Ao47, co47, eo47⟩ := Kd.R_slice HO_8.out
                                          subst eo47
                                          go_upto_region 15 with (first | ((with_reducible refine gate_dst (N := 13) rfl ?_); (try (refine gate_guard (by rfl) ?_; dsimp only)); refine box_event ?hg (N := 13) ?hd (cs := #[.int .i64 0, .int .i64 0, .int .i64 0, .int .i64 0, .int .i64 0]) (t := 42) ?hr ?_; (case hd => rfl); (case hg => rfl); (case hr => first | (go_simp; done) | (go_simp; rfl)); intro gb hg w45 hbox hb; have GE := Aside0.mk (Nat.le_of_eq hg.symm); have HX := Aside0.mk hbox; have HW := Aside0.mk hb; clear hg hb hbox; have hcz0 : w45.cell? ⟨gb, 0, none⟩ = some (.int .i64 0) := (blk_cell HX.out 0).trans rfl; have hcz1 : w45.cell? ⟨gb, 1, none⟩ = some (.int .i64 0) := (blk_cell HX.out 1).trans rfl; have hcz2 : w45.cell? ⟨gb, 2, none⟩ = some (.int .i64 0) := (blk_cell HX.out 2).trans rfl; have hcz3 : w45.cell? ⟨gb, 3, none⟩ = some (.int .i64 0) := (blk_cell HX.out 3).trans rfl; have hcz4 : w45.cell? ⟨gb, 4, none⟩ = some (.int .i64 0) := (blk_cell HX.out 4).trans rfl; have hfz0 := blk_frozen HX.out 0; have hfz1 := blk_frozen HX.out 1; have hfz2 := blk_frozen HX.out 2; have hfz3 := blk_frozen HX.out 3; have hfz4 := blk_frozen HX.out 4))
                                          obtain ⟨w46, hw46, hX, hW⟩ := set5' (.int .i64 0) (.int .i64 0) (.int .i64 0) (.int .i64 0) (.int .i64 0) HX.out HW.out GE.out
                                          rw [← hw46]
                                          have HX2 := Aside0.mk hX
                                          have HW2 := Aside0.mk hW
                                          clear hcz0 hcz1 hcz2 hcz3 hcz4 hfz0 hfz1 hfz2 hfz3 hfz4 HX HW hX hW hw46
                                          have hcz0 : w46.cell? ⟨gb, 0, none⟩ = some (.int .i64 0) := (blk_cell HX2.out 0).trans rfl
                                          have hcz1 : w46.cell? ⟨gb, 1, none⟩ = some (.int .i64 0) := (blk_cell HX2.out 1).trans rfl
                                          have hcz2 : w46.cell? ⟨gb, 2, none⟩ = some (.int .i64 0) := (blk_cell HX2.out 2).trans rfl
                                          have hcz3 : w46.cell? ⟨gb, 3, none⟩ = some (.int .i64 0) := (blk_cell HX2.out 3).trans rfl
                                          have hcz4 : w46.cell? ⟨gb, 4, none⟩ = some (.int .i64 0) := (blk_cell HX2.out 4).trans rfl
                                          have hfz0 := blk_frozen HX2.out 0
                                          have hfz1 := blk_frozen HX2.out 1
                                          have hfz2 := blk_frozen HX2.out 2
                                          have hfz3 := blk_frozen HX2.out 3
                                          have hfz4 := blk_frozen HX2.out 4
                                          have p133 : 0 ≤ (ji50 : Int) := (of_decide_eq_true (by first | (with_reducible assumption) | assumption))
                                          have q133 : ji50 < (t106.length : Int) := (of_decide_eq_true (by first | (with_reducible assumption) | assumption))
                                          obtain ⟨ad133, e133, hx133_0, hx133_1, hx133_2, hx133_3, hx133_4⟩ := at_T42 (Kd.C_below (Kd.R_reads' HO_8.out).2.2 HW2.out) ji50 p133 q133
                                          cases e133
                                          replace p133 := eq_true p133
                                          replace q133 := eq_true q133
                                          go_upto_region 18 with fail
                                          obtain ⟨w47, hw47, hX, hW⟩ := set5' (.int .i64 (rd_T42 t106 ji50).f0) (.int .i64 (rd_T42 t106 ji50).f1) (.int .i64 (rd_T42 t106 ji50).f2) (.int .i64 (rd_T42 t106 ji50).f3) (.int .i64 (rd_T42 t106 ji50).f4) HX2.out HW2.out GE.out
                                          rw [← hw47]
                                          have HX3 := Aside0.mk hX
                                          have HW3 := Aside0.mk hW
                                          clear hcz0 hcz1 hcz2 hcz3 hcz4 hfz0 hfz1 hfz2 hfz3 hfz4 hx133_0 hx133_1 hx133_2 hx133_3 hx133_4 HX2 HW2 hX hW hw47
                                          have hcz0 : w47.cell? ⟨gb, 0, none⟩ = some (.int .i64 (rd_T42 t106 ji50).f0) := (blk_cell HX3.out 0).trans rfl
                                          have hcz1 : w47.cell? ⟨gb, 1, none⟩ = some (.int .i64 (rd_T42 t106 ji50).f1) := (blk_cell HX3.out 1).trans rfl
                                          have hcz2 : w47.cell? ⟨gb, 2, none⟩ = some (.int .i64 (rd_T42 t106 ji50).f2) := (blk_cell HX3.out 2).trans rfl
                                          have hcz3 : w47.cell? ⟨gb, 3, none⟩ = some (.int .i64 (rd_T42 t106 ji50).f3) := (blk_cell HX3.out 3).trans rfl
                                          have hcz4 : w47.cell? ⟨gb, 4, none⟩ = some (.int .i64 (rd_T42 t106 ji50).f4) := (blk_cell HX3.out 4).trans rfl
                                          have hfz0 := blk_frozen HX3.out 0
                                          have hfz1 := blk_frozen HX3.out 1
                                          have hfz2 := blk_frozen HX3.out 2
                                          have hfz3 := blk_frozen HX3.out 3
                                          have hfz4 := blk_frozen HX3.out 4
                                          have p134 : 0 ≤ (x12_3 : Int) := (of_decide_eq_true (by first | (with_reducible assumption) | assumption))
                                          have q134 : x12_3 < (t110.length : Int) := (of_decide_eq_true (by first | (with_reducible assumption) | assumption))
                                          obtain ⟨ad134, e134, hx134_0, hx134_1, hx134_2, hx134_3, hx134_4⟩ := at_T42 (Kd.C_below (Kd.R_reads' HO_10.out).2.2 HW3.out) x12_3 p134 q134
                                          cases e134
                                          replace p134 := eq_true p134
                                          replace q134 := eq_true q134
                                          go_wp2
                                          repeat (go_quiet (fail); try go_wp2)
                                          go_ret
                                          exact ⟨by first | rfl | (simp [*]; done), by repeat (first | (with_reducible first | exact below_step HB.out HW3.out | apply below_alloc | apply pw_below_drewN | apply below_drew1) | exact below_step HB.out HW3.out)⟩
                                        · rw [if_neg c54] at H
                                          have c54b0 : (!(((rd_T42 t110 x12_3).f0) == ((rd_T42 t106 (ji50)).f0)) || (!(((rd_T42 t110 x12_3).f1) == ((rd_T42 t106 (ji50)).f1)) || (!(((rd_T42 t110 x12_3).f2) == ((rd_T42 t106 (ji50)).f2)) || (!(((rd_T42 t110 x12_3).f3) == ((rd_T42 t106 (ji50)).f3)) || (!(((rd_T42 t110 x12_3).f4) == ((rd_T42 t106 (ji50)).f4))))))) = false := by simpa using c54
                                          clear c54
                                          have H' := Aside0.mk H
                                          clear H
                                          obtain ⟨Ao60, co60, eo60⟩ := Kd.R_slice HO_10.out
                                          subst eo60
                                          obtain ⟨Ao46, co46, eo46⟩ := Kd.R_slice HO_6.out
                                          subst eo46
                                          obtain ⟨Ao47, co47, eo47⟩ := Kd.R_slice HO_8.out
                                          subst eo47
                                          go_upto_region 15 with (first | ((with_reducible refine gate_dst (N := 13) rfl ?_); (try (refine gate_guard (by rfl) ?_; dsimp only)); refine box_event ?hg (N := 13) ?hd (cs := #[.int .i64 0, .int .i64 0, .int .i64 0, .int .i64 0, .int .i64 0]) (t := 42) ?hr ?_; (case hd => rfl); (case hg => rfl); (case hr => first | (go_simp; done) | (go_simp; rfl)); intro gb hg w45 hbox hb; have GE := Aside0.mk (Nat.le_of_eq hg.symm); have HX := Aside0.mk hbox; have HW := Aside0.mk hb; clear hg hb hbox; have hcz0 : w45.cell? ⟨gb, 0, none⟩ = some (.int .i64 0) := (blk_cell HX.out 0).trans rfl; have hcz1 : w45.cell? ⟨gb, 1, none⟩ = some (.int .i64 0) := (blk_cell HX.out 1).trans rfl; have hcz2 : w45.cell? ⟨gb, 2, none⟩ = some (.int .i64 0) := (blk_cell HX.out 2).trans rfl; have hcz3 : w45.cell? ⟨gb, 3, none⟩ = some (.int .i64 0) := (blk_cell HX.out 3).trans rfl; have hcz4 : w45.cell? ⟨gb, 4, none⟩ = some (.int .i64 0) := (blk_cell HX.out 4).trans rfl; have hfz0 := blk_frozen HX.out 0; have hfz1 := blk_frozen HX.out 1; have hfz2 := blk_frozen HX.out 2; have hfz3 := blk_frozen HX.out 3; have hfz4 := blk_frozen HX.out 4))
                                          obtain ⟨w46, hw46, hX, hW⟩ := set5' (.int .i64 0) (.int .i64 0) (.int .i64 0) (.int .i64 0) (.int .i64 0) HX.out HW.out GE.out
                                          rw [← hw46]
                                          have HX2 := Aside0.mk hX
                                          have HW2 := Aside0.mk hW
                                          clear hcz0 hcz1 hcz2 hcz3 hcz4 hfz0 hfz1 hfz2 hfz3 hfz4 HX HW hX hW hw46
                                          have hcz0 : w46.cell? ⟨gb, 0, none⟩ = some (.int .i64 0) := (blk_cell HX2.out 0).trans rfl
                                          have hcz1 : w46.cell? ⟨gb, 1, none⟩ = some (.int .i64 0) := (blk_cell HX2.out 1).trans rfl
                                          have hcz2 : w46.cell? ⟨gb, 2, none⟩ = some (.int .i64 0) := (blk_cell HX2.out 2).trans rfl
                                          have hcz3 : w46.cell? ⟨gb, 3, none⟩ = some (.int .i64 0) := (blk_cell HX2.out 3).trans rfl
                                          have hcz4 : w46.cell? ⟨gb, 4, none⟩ = some (.int .i64 0) := (blk_cell HX2.out 4).trans rfl
                                          have hfz0 := blk_frozen HX2.out 0
                                          have hfz1 := blk_frozen HX2.out 1
                                          have hfz2 := blk_frozen HX2.out 2
                                          have hfz3 := blk_frozen HX2.out 3
                                          have hfz4 := blk_frozen HX2.out 4
                                          have p133 : 0 ≤ (ji50 : Int) := (of_decide_eq_true (by first | (with_reducible assumption) | assumption))
                                          have q133 : ji50 < (t106.length : Int) := (of_decide_eq_true (by first | (with_reducible assumption) | assumption))
                                          obtain ⟨ad133, e133, hx133_0, hx133_1, hx133_2, hx133_3, hx133_4⟩ := at_T42 (Kd.C_below (Kd.R_reads' HO_8.out).2.2 HW2.out) ji50 p133 q133
                                          cases e133
                                          replace p133 := eq_true p133
                                          replace q133 := eq_true q133
                                          go_upto_region 18 with fail
                                          obtain ⟨w47, hw47, hX, hW⟩ := set5' (.int .i64 (rd_T42 t106 ji50).f0) (.int .i64 (rd_T42 t106 ji50).f1) (.int .i64 (rd_T42 t106 ji50).f2) (.int .i64 (rd_T42 t106 ji50).f3) (.int .i64 (rd_T42 t106 ji50).f4) HX2.out HW2.out GE.out
                                          rw [← hw47]
                                          have HX3 := Aside0.mk hX
                                          have HW3 := Aside0.mk hW
                                          clear hcz0 hcz1 hcz2 hcz3 hcz4 hfz0 hfz1 hfz2 hfz3 hfz4 hx133_0 hx133_1 hx133_2 hx133_3 hx133_4 HX2 HW2 hX hW hw47
                                          have hcz0 : w47.cell? ⟨gb, 0, none⟩ = some (.int .i64 (rd_T42 t106 ji50).f0) := (blk_cell HX3.out 0).trans rfl
                                          have hcz1 : w47.cell? ⟨gb, 1, none⟩ = some (.int .i64 (rd_T42 t106 ji50).f1) := (blk_cell HX3.out 1).trans rfl
                                          have hcz2 : w47.cell? ⟨gb, 2, none⟩ = some (.int .i64 (rd_T42 t106 ji50).f2) := (blk_cell HX3.out 2).trans rfl
                                          have hcz3 : w47.cell? ⟨gb, 3, none⟩ = some (.int .i64 (rd_T42 t106 ji50).f3) := (blk_cell HX3.out 3).trans rfl
                                          have hcz4 : w47.cell? ⟨gb, 4, none⟩ = some (.int .i64 (rd_T42 t106 ji50).f4) := (blk_cell HX3.out 4).trans rfl
                                          have hfz0 := blk_frozen HX3.out 0
                                          have hfz1 := blk_frozen HX3.out 1
                                          have hfz2 := blk_frozen HX3.out 2
                                          have hfz3 := blk_frozen HX3.out 3
                                          have hfz4 := blk_frozen HX3.out 4
                                          have p134 : 0 ≤ (x12_3 : Int) := (of_decide_eq_true (by first | (with_reducible assumption) | assumption))
                                          have q134 : x12_3 < (t110.length : Int) := (of_decide_eq_true (by first | (with_reducible assumption) | assumption))
                                          obtain ⟨ad134, e134, hx134_0, hx134_1, hx134_2, hx134_3, hx134_4⟩ := at_T42 (Kd.C_below (Kd.R_reads' HO_10.out).2.2 HW3.out) x12_3 p134 q134
                                          cases e134
                                          replace p134 := eq_true p134
                                          replace q134 := eq_true q134
                                          go_wp2
                                          repeat (go_quiet (fail); try go_wp2)
                                          go_roundg k3
                                          case measure => have := HJ11.out; have := HJ30.out; have := HK3.out; omega
                                          case rel => exact ⟨(wrap64 (x12_3 + 1)), (by first | rfl | (simp; done) | (simp [*]; done)), H', ⟨by have := HJ11.out; have := HJ30.out; have := HK3.out; omega⟩, ⟨by (with_reducible repeat (first | apply Kd.R_alloc | apply Kd.R_drewN | apply Kd.R_drew)); exact Kd.R_below HO_6.out HW3.out⟩, ⟨by (with_reducible repeat (first | apply Kd.R_alloc | apply Kd.R_drewN | apply Kd.R_drew)); exact Kd.R_below HO_8.out HW3.out⟩, ⟨by (with_reducible repeat (first | apply Kd.R_alloc | apply Kd.R_drewN | apply Kd.R_drew)); exact Kd.R_below HO_10.out HW3.out⟩, ⟨by repeat (first | (with_reducible first | exact below_step HB.out HW3.out | apply below_alloc | apply pw_below_drewN | apply below_drew1) | exact below_step HB.out HW3.out)⟩⟩
                                      · rw [if_neg c53] at H
                                        exact absurd H (by simp)
                                    · rw [if_neg c52] at H
                                      exact absurd H (by simp)
                                  · rw [if_neg c51] at H
                                    exact absurd H (by simp)
                              · rw [if_neg c38] at H
                                have c38b0 : decide (x12_3 < (t110.length : Int)) = false := decide_eq_false c38
                                clear c38
                                replace H := Option.bind_eq_some_iff.mp H
                                obtain ⟨t114, A650, H⟩ := H
                                replace H : ((trace_Parse.f t114).bind fun bt115 => (if t101 = true then (if bt115.2 = 0 then (some ((bt115.1.length : Int) == (t110.length : Int))) else (some false)) else (some false))) = some r := H
                                have A65 := Aside0.mk A650
                                clear A650
                                replace H := Option.bind_eq_some_iff.mp H
                                obtain ⟨⟨t115, t116⟩, A660, H⟩ := H
                                replace H : (if t101 = true then (if t116 = 0 then (some ((t115.length : Int) == (t110.length : Int))) else (some false)) else (some false)) = some r := H
                                have A66 := Aside0.mk A660
                                clear A660
                                by_cases c67 : t101 = true
                                · subst c67
                                  have H1 : (if t116 = 0 then (some ((t115.length : Int) == (t110.length : Int))) else (some false)) = some r := by rw [if_pos rfl] at H; exact H
                                  clear H
                                  have H := H1
                                  clear H1
                                  by_cases c68 : t116 = 0
                                  · rw [if_pos c68] at H
                                    have c68b0 : (t116 == 0) = true := beq_iff_eq.mpr c68
                                    have c68b1 : (t116 != 0) = false := bne_eq_false_iff_eq.mpr c68
                                    clear c68
                                    obtain rfl := Option.some.inj H
                                    obtain ⟨Ao69, co69, eo69⟩ := Kd.R_slice HO_10.out
                                    subst eo69
                                    go_wp2_with (first | (go_at_call 20; (with_reducible refine (trace_Text.calls _ _ t110 t114 _ ?side1 ?side2 A65.out (TrL.Laid.below HT (by repeat (first | (with_reducible first | exact HB.out | apply below_alloc | apply pw_below_drewN | apply below_drew1) | exact HB.out)))).mono ?_); (case side1 => repeat (first | exact (Kd.R_reads' HO_10.out).2.2 | (with_reducible refine Kd.C_alloc ?_ _) | (with_reducible refine Kd.C_drewN ?_ _) | (with_reducible refine Kd.C_drew ?_))); (case side2 => exact (Kd.R_reads' HO_10.out).2.1); rintro e w70 ⟨rfl, hb⟩; have n0_ := Aside0.mk (Kd.R_below (by (with_reducible repeat (first | apply Kd.R_alloc | apply Kd.R_drewN | apply Kd.R_drew)); exact HO_6.out) hb); have n1_ := Aside0.mk (Kd.R_below (by (with_reducible repeat (first | apply Kd.R_alloc | apply Kd.R_drewN | apply Kd.R_drew)); exact HO_8.out) hb); have n2_ := Aside0.mk (Kd.R_below (by (with_reducible repeat (first | apply Kd.R_alloc | apply Kd.R_drewN | apply Kd.R_drew)); exact HO_10.out) hb); have n3_ := Aside0.mk (below_step (by repeat (first | (with_reducible first | exact HB.out | apply below_alloc | apply pw_below_drewN | apply below_drew1) | exact HB.out)) hb); clear HO_6; clear HO_8; clear HO_10; clear HB; have HO_6 := n0_; have HO_8 := n1_; have HO_10 := n2_; have HB := n3_; clear n0_ n1_ n2_ n3_; (try clear hb); (try clear hb2); (try clear hk); (try clear hi)) | (go_at_call 18; (with_reducible refine (trace_Parse.calls t114 t115 t116 _ A66.out (TrL.Laid.below HT (by repeat (first | (with_reducible first | exact HB.out | apply below_alloc | apply pw_below_drewN | apply below_drew1) | exact HB.out)))).mono ?_); rintro e w71 ⟨v117, rfl, ho0, hb⟩; have n0_ := Aside0.mk (Kd.R_elder' (by (with_reducible repeat (first | apply Kd.R_alloc | apply Kd.R_drewN | apply Kd.R_drew)); exact HO_6.out) (Kd.R_base ho0) hb); have n1_ := Aside0.mk (Kd.R_elder' (by (with_reducible repeat (first | apply Kd.R_alloc | apply Kd.R_drewN | apply Kd.R_drew)); exact HO_8.out) (Kd.R_base ho0) hb); have n2_ := Aside0.mk (Kd.R_elder' (by (with_reducible repeat (first | apply Kd.R_alloc | apply Kd.R_drewN | apply Kd.R_drew)); exact HO_10.out) (Kd.R_base ho0) hb); have n3_ := Aside0.mk (Kd.R_lower (Kd.R_new' (Kd.R_new' (Kd.R_new' ho0 (Kd.R_lt (by (with_reducible repeat (first | apply Kd.R_alloc | apply Kd.R_drewN | apply Kd.R_drew)); exact HO_6.out))) (Kd.R_lt (by (with_reducible repeat (first | apply Kd.R_alloc | apply Kd.R_drewN | apply Kd.R_drew)); exact HO_8.out))) (Kd.R_lt (by (with_reducible repeat (first | apply Kd.R_alloc | apply Kd.R_drewN | apply Kd.R_drew)); exact HO_10.out))) (below_size (by repeat (first | (with_reducible first | exact HB.out | apply below_alloc | apply pw_below_drewN | apply below_drew1) | exact HB.out)))); have n4_ := Aside0.mk (below_step (by repeat (first | (with_reducible first | exact HB.out | apply below_alloc | apply pw_below_drewN | apply below_drew1) | exact HB.out)) hb); clear HO_6; clear HO_8; clear HO_10; clear HB; have HO_6 := n0_; have HO_8 := n1_; have HO_10 := n2_; have HO118 := n3_; have HB := n4_; clear n0_ n1_ n2_ n3_ n4_; (try clear hb); (try clear hb2); (try clear hk); (try clear hi); (try clear ho0); obtain ⟨Ao72, co72, eo72⟩ := Kd.R_slice HO118.out; subst eo72))
                                    repeat (go_quiet (fail); try go_wp2)
                                    go_ret
                                    exact ⟨by first | rfl | (simp [errW_none, errW_some] <;> rfl) | (simp only [← hji4, ← hji7]; first | rfl | (simp [errW_none, errW_some] <;> rfl)) | (simp [*, errW_none, errW_some] <;> rfl), by repeat (first | (with_reducible first | exact HB.out | apply below_alloc | apply pw_below_drewN | apply below_drew1) | exact HB.out)⟩
                                  · rw [if_neg c68] at H
                                    have c68b0 : (t116 == 0) = false := beq_eq_false_iff_ne.mpr c68
                                    have c68b1 : (t116 != 0) = true := bne_iff_ne.mpr c68
                                    obtain rfl := Option.some.inj H
                                    obtain ⟨Ao73, co73, eo73⟩ := Kd.R_slice HO_10.out
                                    subst eo73
                                    go_wp2_with (first | (go_at_call 20; (with_reducible refine (trace_Text.calls _ _ t110 t114 _ ?side1 ?side2 A65.out (TrL.Laid.below HT (by repeat (first | (with_reducible first | exact HB.out | apply below_alloc | apply pw_below_drewN | apply below_drew1) | exact HB.out)))).mono ?_); (case side1 => repeat (first | exact (Kd.R_reads' HO_10.out).2.2 | (with_reducible refine Kd.C_alloc ?_ _) | (with_reducible refine Kd.C_drewN ?_ _) | (with_reducible refine Kd.C_drew ?_))); (case side2 => exact (Kd.R_reads' HO_10.out).2.1); rintro e w74 ⟨rfl, hb⟩; have n0_ := Aside0.mk (Kd.R_below (by (with_reducible repeat (first | apply Kd.R_alloc | apply Kd.R_drewN | apply Kd.R_drew)); exact HO_6.out) hb); have n1_ := Aside0.mk (Kd.R_below (by (with_reducible repeat (first | apply Kd.R_alloc | apply Kd.R_drewN | apply Kd.R_drew)); exact HO_8.out) hb); have n2_ := Aside0.mk (Kd.R_below (by (with_reducible repeat (first | apply Kd.R_alloc | apply Kd.R_drewN | apply Kd.R_drew)); exact HO_10.out) hb); have n3_ := Aside0.mk (below_step (by repeat (first | (with_reducible first | exact HB.out | apply below_alloc | apply pw_below_drewN | apply below_drew1) | exact HB.out)) hb); clear HO_6; clear HO_8; clear HO_10; clear HB; have HO_6 := n0_; have HO_8 := n1_; have HO_10 := n2_; have HB := n3_; clear n0_ n1_ n2_ n3_; (try clear hb); (try clear hb2); (try clear hk); (try clear hi)) | (go_at_call 18; (with_reducible refine (trace_Parse.calls t114 t115 t116 _ A66.out (TrL.Laid.below HT (by repeat (first | (with_reducible first | exact HB.out | apply below_alloc | apply pw_below_drewN | apply below_drew1) | exact HB.out)))).mono ?_); rintro e w75 ⟨v117, rfl, ho0, hb⟩; have n0_ := Aside0.mk (Kd.R_elder' (by (with_reducible repeat (first | apply Kd.R_alloc | apply Kd.R_drewN | apply Kd.R_drew)); exact HO_6.out) (Kd.R_base ho0) hb); have n1_ := Aside0.mk (Kd.R_elder' (by (with_reducible repeat (first | apply Kd.R_alloc | apply Kd.R_drewN | apply Kd.R_drew)); exact HO_8.out) (Kd.R_base ho0) hb); have n2_ := Aside0.mk (Kd.R_elder' (by (with_reducible repeat (first | apply Kd.R_alloc | apply Kd.R_drewN | apply Kd.R_drew)); exact HO_10.out) (Kd.R_base ho0) hb); have n3_ := Aside0.mk (Kd.R_lower (Kd.R_new' (Kd.R_new' (Kd.R_new' ho0 (Kd.R_lt (by (with_reducible repeat (first | apply Kd.R_alloc | apply Kd.R_drewN | apply Kd.R_drew)); exact HO_6.out))) (Kd.R_lt (by (with_reducible repeat (first | apply Kd.R_alloc | apply Kd.R_drewN | apply Kd.R_drew)); exact HO_8.out))) (Kd.R_lt (by (with_reducible repeat (first | apply Kd.R_alloc | apply Kd.R_drewN | apply Kd.R_drew)); exact HO_10.out))) (below_size (by repeat (first | (with_reducible first | exact HB.out | apply below_alloc | apply pw_below_drewN | apply below_drew1) | exact HB.out)))); have n4_ := Aside0.mk (below_step (by repeat (first | (with_reducible first | exact HB.out | apply below_alloc | apply pw_below_drewN | apply below_drew1) | exact HB.out)) hb); clear HO_6; clear HO_8; clear HO_10; clear HB; have HO_6 := n0_; have HO_8 := n1_; have HO_10 := n2_; have HO118 := n3_; have HB := n4_; clear n0_ n1_ n2_ n3_ n4_; (try clear hb); (try clear hb2); (try clear hk); (try clear hi); (try clear ho0)))
                                    repeat (go_quiet (fail); try go_wp2)
                                    go_ret
                                    exact ⟨by first | rfl | (simp [errW_none, errW_some] <;> rfl) | (simp only [← hji4, ← hji7]; first | rfl | (simp [errW_none, errW_some] <;> rfl)) | (simp [*, errW_none, errW_some] <;> rfl), by repeat (first | (with_reducible first | exact HB.out | apply below_alloc | apply pw_below_drewN | apply below_drew1) | exact HB.out)⟩
                                · replace c67 := Bool.eq_false_iff.mpr c67
                                  subst c67
                                  have H1 : (some false) = some r := by rw [if_neg (show ¬ (false = true) by decide)] at H; exact H
                                  clear H
                                  have H := H1
                                  clear H1
                                  obtain rfl := Option.some.inj H
                                  obtain ⟨Ao76, co76, eo76⟩ := Kd.R_slice HO_10.out
                                  subst eo76
                                  go_wp2_with (first | (go_at_call 20; (with_reducible refine (trace_Text.calls _ _ t110 t114 _ ?side1 ?side2 A65.out (TrL.Laid.below HT (by repeat (first | (with_reducible first | exact HB.out | apply below_alloc | apply pw_below_drewN | apply below_drew1) | exact HB.out)))).mono ?_); (case side1 => repeat (first | exact (Kd.R_reads' HO_10.out).2.2 | (with_reducible refine Kd.C_alloc ?_ _) | (with_reducible refine Kd.C_drewN ?_ _) | (with_reducible refine Kd.C_drew ?_))); (case side2 => exact (Kd.R_reads' HO_10.out).2.1); rintro e w77 ⟨rfl, hb⟩; have n0_ := Aside0.mk (Kd.R_below (by (with_reducible repeat (first | apply Kd.R_alloc | apply Kd.R_drewN | apply Kd.R_drew)); exact HO_6.out) hb); have n1_ := Aside0.mk (Kd.R_below (by (with_reducible repeat (first | apply Kd.R_alloc | apply Kd.R_drewN | apply Kd.R_drew)); exact HO_8.out) hb); have n2_ := Aside0.mk (Kd.R_below (by (with_reducible repeat (first | apply Kd.R_alloc | apply Kd.R_drewN | apply Kd.R_drew)); exact HO_10.out) hb); have n3_ := Aside0.mk (below_step (by repeat (first | (with_reducible first | exact HB.out | apply below_alloc | apply pw_below_drewN | apply below_drew1) | exact HB.out)) hb); clear HO_6; clear HO_8; clear HO_10; clear HB; have HO_6 := n0_; have HO_8 := n1_; have HO_10 := n2_; have HB := n3_; clear n0_ n1_ n2_ n3_; (try clear hb); (try clear hb2); (try clear hk); (try clear hi)) | (go_at_call 18; (with_reducible refine (trace_Parse.calls t114 t115 t116 _ A66.out (TrL.Laid.below HT (by repeat (first | (with_reducible first | exact HB.out | apply below_alloc | apply pw_below_drewN | apply below_drew1) | exact HB.out)))).mono ?_); rintro e w78 ⟨v117, rfl, ho0, hb⟩; have n0_ := Aside0.mk (Kd.R_elder' (by (with_reducible repeat (first | apply Kd.R_alloc | apply Kd.R_drewN | apply Kd.R_drew)); exact HO_6.out) (Kd.R_base ho0) hb); have n1_ := Aside0.mk (Kd.R_elder' (by (with_reducible repeat (first | apply Kd.R_alloc | apply Kd.R_drewN | apply Kd.R_drew)); exact HO_8.out) (Kd.R_base ho0) hb); have n2_ := Aside0.mk (Kd.R_elder' (by (with_reducible repeat (first | apply Kd.R_alloc | apply Kd.R_drewN | apply Kd.R_drew)); exact HO_10.out) (Kd.R_base ho0) hb); have n3_ := Aside0.mk (Kd.R_lower (Kd.R_new' (Kd.R_new' (Kd.R_new' ho0 (Kd.R_lt (by (with_reducible repeat (first | apply Kd.R_alloc | apply Kd.R_drewN | apply Kd.R_drew)); exact HO_6.out))) (Kd.R_lt (by (with_reducible repeat (first | apply Kd.R_alloc | apply Kd.R_drewN | apply Kd.R_drew)); exact HO_8.out))) (Kd.R_lt (by (with_reducible repeat (first | apply Kd.R_alloc | apply Kd.R_drewN | apply Kd.R_drew)); exact HO_10.out))) (below_size (by repeat (first | (with_reducible first | exact HB.out | apply below_alloc | apply pw_below_drewN | apply below_drew1) | exact HB.out)))); have n4_ := Aside0.mk (below_step (by repeat (first | (with_reducible first | exact HB.out | apply below_alloc | apply pw_below_drewN | apply below_drew1) | exact HB.out)) hb); clear HO_6; clear HO_8; clear HO_10; clear HB; have HO_6 := n0_; have HO_8 := n1_; have HO_10 := n2_; have HO118 := n3_; have HB := n4_; clear n0_ n1_ n2_ n3_ n4_; (try clear hb); (try clear hb2); (try clear hk); (try clear hi); (try clear ho0)))
                                  repeat (go_quiet (fail); try go_wp2)
                                  go_ret
                                  exact ⟨by first | rfl | (simp [errW_none, errW_some] <;> rfl) | (simp only [← hji4, ← hji7]; first | rfl | (simp [errW_none, errW_some] <;> rfl)) | (simp [*, errW_none, errW_some] <;> rfl), by repeat (first | (with_reducible first | exact HB.out | apply below_alloc | apply pw_below_drewN | apply below_drew1) | exact HB.out)⟩
                  · rw [if_neg c29] at H
                    exact absurd H (by simp)
                · rw [if_neg c28] at H
                  exact absurd H (by simp)
        · rw [if_neg c9] at H
          exact absurd H (by simp)
      · rw [if_neg c8] at H
        exact absurd H (by simp)
    · rw [if_neg c6] at H
      exact absurd H (by simp)
  · rw [if_neg c5] at H
    exact absurd H (by simp)

/-- THE ONE PURE STATEMENT of millwrightlaw19_TraceRows: yours. -/
def millwrightlaw19_TraceRows.Pure : Prop := ∀ (a0 : ByteArray) (a1 : ByteArray), a0.size ≤ 140737488351232 → a1.size ≤ 140737488351232 → ∃ k, millwrightlaw19_TraceRows.f k a0 a1 = some true
theorem millwrightlaw19_TraceRows.walk (P : millwrightlaw19_TraceRows.Pure) (a0 : ByteArray) (a1 : ByteArray) (w : World) (w0 : a0.size ≤ 140737488351232) (w1 : a1.size ≤ 140737488351232) (HT : TrL.Laid w) :
    Calls Tryd.prog 11 #[.string a0, .string a1] w fun e w' => e = .returned (.bool true) ∧ Below w.heap.size w w' := by
  obtain ⟨k, h⟩ := P a0 a1 w0 w1
  refine (millwrightlaw19_TraceRows.calls k a0 a1 true w h HT).mono ?_
  rintro e w' ⟨rfl, hd⟩
  exact ⟨rfl, hd⟩

end Go.Proofs.YtckcepmkfegkiaaDoor.PTraceRows
