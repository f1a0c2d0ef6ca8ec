-- Printed for this claim by a program of this project's own, over the kit's printer; some functions are told by hand.
import Derived.Test.YtckcepmkfegkiaaDoorPTraceParsesx0
namespace Go.Proofs.YtckcepmkfegkiaaDoor.PTraceParses
open Go.RowKit Go.Proofs.YtckcepmkfegkiaaDoorW.PrintWords Go.Proofs.YtckcepmkfegkiaaDoorW.PrintLast Go.Proofs.YtckcepmkfegkiaaDoorW.PrintMore
attribute [local go_sem] max2_int min2_int max_two min_two max_three min_three max_four min_four   -- for this text's walks alone
set_option linter.unusedVariables false
set_option linter.unusedSimpArgs false

-- NOT PRINTED: function 31 (trace_Event_known)

-- NOT PRINTED: function 37 (trace_audit_may)

-- NOT PRINTED: function 64 (trace_task_64)

-- NOT PRINTED: function 60 (trace_task_60)

-- NOT PRINTED: function 54 (trace_audit_held)

-- NOT PRINTED: function 65 (num_told)

-- NOT PRINTED: function 62 (num_Add)

-- NOT PRINTED: function 55 (trace_audit_fits)

-- NOT PRINTED: function 38 (trace_audit_starts)

-- NOT PRINTED: function 23 (trace_audit_takes)


/-! ### trace_Audit: function 15 -/
def trace_Audit.g1 (x : S50) : TrS.Tsk := ⟨x.f0, x.f1⟩
def trace_Audit.g2 (x : S42) : TrS.Ev := ⟨x.f0, x.f1, x.f2, x.f3, x.f4⟩
def trace_Audit.f (a0_0 : Int) (a0_1 : Int) (a0_2 : Int) (a0_3 : Int) (a0_4 : Int) (a0_5 : Int) (a0_6 : Int) (a0_7 : Int) (a0_8 : Int) (a0_9 : Int) (l1 : List S50) (l2 : List S42) : Option (Int × Int) := if l1.length ≤ 4398046511104 ∧ l2.length ≤ 4398046511104 then some (TrS.audit ⟨a0_0, a0_1, a0_2, a0_3, a0_4, a0_5, a0_6, a0_7, a0_8, a0_9⟩ (l1.map trace_Audit.g1) (l2.map trace_Audit.g2)) else none
theorem trace_Audit.calls (a0_0 : Int) (a0_1 : Int) (a0_2 : Int) (a0_3 : Int) (a0_4 : Int) (a0_5 : Int) (a0_6 : Int) (a0_7 : Int) (a0_8 : Int) (a0_9 : Int) (A1 : Option Addr) (c1 : Nat) (l1 : List S50) (A2 : Option Addr) (c2 : Nat) (l2 : List S42) (r1 : Int) (r2 : Int) (w : World) (hr1 : Kd.C k50 w A1 l1.length l1) (hc1 : l1.length ≤ c1) (hr2 : Kd.C k42 w A2 l2.length l2) (hc2 : l2.length ≤ c2) (h : trace_Audit.f a0_0 a0_1 a0_2 a0_3 a0_4 a0_5 a0_6 a0_7 a0_8 a0_9 l1 l2 = some (r1, r2)) (HT : TrL.Laid w) {n1 n2 : Nat} (hn1 : l1.length = n1 := by first | rfl | exact LexE.take_len (of_decide_eq_true (by assumption)) (of_decide_eq_true (by assumption))) (hn2 : l2.length = n2 := by first | rfl | exact LexE.take_len (of_decide_eq_true (by assumption)) (of_decide_eq_true (by assumption))) :
    Calls Tryd.prog 15 #[.agg #[.int .i64 a0_0, .int .i64 a0_1, .int .i64 a0_2, .int .i64 a0_3, .int .i64 a0_4, .int .i64 a0_5, .int .i64 a0_6, .int .i64 a0_7, .int .i64 a0_8, .int .i64 a0_9], .slice A1 n1 c1, .slice A2 n2 c2] w fun e w' => e = .returned (.tuple #[.int .i64 r1, .int .i64 r2]) ∧ Below w.heap.size w w' := by
  simp only [trace_Audit.f] at h
  split at h
  · rename_i hs
    subst hn1
    subst hn2
    exact TrSh.audit_b ⟨a0_0, a0_1, a0_2, a0_3, a0_4, a0_5, a0_6, a0_7, a0_8, a0_9⟩ (l1.map trace_Audit.g1) (l2.map trace_Audit.g2) A1 c1 A2 c2 w r1 r2 (Option.some.inj h) _ _ (List.length_map _) (List.length_map _) (TrL.C_map trace_Audit.g1 rfl (fun _ _ _ h => h) hr1) (TrL.C_map trace_Audit.g2 rfl (fun _ _ _ h => h) hr2) HT.2.1 hs.1 hs.2
  · exact absurd h (by simp)


-- NOT PRINTED: function 56 (lex_kind)

-- NOT PRINTED: function 43 (lex_scan_next)

-- NOT PRINTED: function 44 (lex_scan_take)

-- NOT PRINTED: function 45 (lex_scan_end)

-- NOT PRINTED: function 25 (lex_Lex)

-- NOT PRINTED: function 26 (lex_Token)

-- NOT PRINTED: function 46 (slices_Index_string_string)

-- NOT PRINTED: function 47 (num_Parse)

-- NOT PRINTED: function 28 (trace_event)


/-! ### trace_Parse: function 18 -/
def trace_Parse.u (x : TrS.Ev) : S42 := ⟨x.kind, x.task, x.slot, x.epoch, x.tick⟩
def trace_Parse.f (a0 : ByteArray) : Option ((List S42) × Int) := if a0.size ≤ 9223372036854775807 then some ((TrQ.parseT (bytesOf a0)).1.map trace_Parse.u, (TrQ.parseT (bytesOf a0)).2) else none
theorem trace_Parse.calls (a0 : ByteArray) (r1 : List S42) (r2 : Int) (w : World) (h : trace_Parse.f a0 = some (r1, r2)) (HT : TrL.Laid w) :
    Calls Tryd.prog 18 #[.string a0] w fun e w' => ∃ v0_ : Value, e = .returned (.tuple #[v0_, .int .i64 r2]) ∧ Kd.R k42 42 w' w.heap.size (fun _ => True) v0_ r1 ∧ Below w.heap.size w w' := by
  simp only [trace_Parse.f] at h
  split at h
  · rename_i hs
    have h2 := Option.some.inj h
    simp only [Prod.mk.injEq] at h2
    obtain ⟨rfl, rfl⟩ := h2
    refine (TrY.parse_calls a0 w HT.1 hs).mono fun e w' hp => ?_
    obtain ⟨v, he, ho, hB⟩ := hp
    exact ⟨v, he, LexE.R_map trace_Parse.u rfl (fun _ _ _ _ _ h => h) ho, hB⟩
  · exact absurd h (by simp)


-- NOT PRINTED: function 58 (abi_NoEscape)

-- NOT PRINTED: function 52 (strings_Builder_copyCheck)

-- NOT PRINTED: function 32 (strings_Builder_WriteString)

-- NOT PRINTED: function 66 (strconv_small)

-- NOT PRINTED: function 70 (strconv_log10Pow2)

-- NOT PRINTED: function 71 (bits_Len64)

-- NOT PRINTED: function 72 (strconv_bool2_int)

-- NOT PRINTED: function 67 (strconv_numDigits)

-- NOT PRINTED: function 68 (strconv_formatBase10)

-- NOT PRINTED: function 73 (strconv_isPowerOfTwo)

-- NOT PRINTED: function 75 (bits_TrailingZeros32)

-- NOT PRINTED: function 76 (bits_TrailingZeros64)

-- NOT PRINTED: function 74 (bits_TrailingZeros)

-- NOT PRINTED: function 69 (strconv_formatBits)

-- NOT PRINTED: function 63 (strconv_FormatInt)

-- NOT PRINTED: function 59 (strconv_Itoa_59)

-- NOT PRINTED: function 53 (strconv_Itoa_53)

-- NOT PRINTED: function 33 (num_Text)

-- NOT PRINTED: function 34 (strings_Builder_String)


/-! ### trace_Text: function 20 -/
def trace_Text.g (x : S42) : TrS.Ev := ⟨x.f0, x.f1, x.f2, x.f3, x.f4⟩
def trace_Text.inI (n : Int) : Bool := decide (-9223372036854775808 ≤ n) && decide (n ≤ 9223372036854775807)
def trace_Text.evIn (x : S42) : Bool := trace_Text.inI x.f1 && (trace_Text.inI x.f2 && (trace_Text.inI x.f3 && trace_Text.inI x.f4))
def trace_Text.f (l0 : List S42) : Option ByteArray := if l0.length ≤ 4398046511104 ∧ (TrX.textL (l0.map trace_Text.g)).length ≤ 140737488355328 ∧ l0.all trace_Text.evIn = true then some ⟨(TrX.textL (l0.map trace_Text.g)).toArray⟩ else none
theorem trace_Text.ok (l0 : List S42) (h : l0.all trace_Text.evIn = true) : ∀ e ∈ l0.map trace_Text.g, TrX.EvIn e := by
  intro e he
  obtain ⟨x, hx, rfl⟩ := List.mem_map.1 he
  have := List.all_eq_true.1 h x hx
  simp only [trace_Text.evIn, trace_Text.inI, Bool.and_eq_true, decide_eq_true_eq] at this
  exact this
theorem trace_Text.calls (A0 : Option Addr) (c0 : Nat) (l0 : List S42) (r : ByteArray) (w : World) (hr0 : Kd.C k42 w A0 l0.length l0) (hc0 : l0.length ≤ c0) (h : trace_Text.f l0 = some r) (HT : TrL.Laid w) {n : Nat} (hn : l0.length = n := by first | rfl | exact LexE.take_len (of_decide_eq_true (by assumption)) (of_decide_eq_true (by assumption))) :
    Calls Tryd.prog 20 #[.slice A0 n c0] w fun e w' => e = .returned (.string r) ∧ Below w.heap.size w w' := by
  simp only [trace_Text.f] at h
  split at h
  · rename_i hs
    subst hn
    have h2 := Option.some.inj h
    subst h2
    exact TrSh.text_b (l0.map trace_Text.g) A0 c0 w _ rfl _ (List.length_map _) (TrL.C_map trace_Text.g rfl (fun _ _ _ h => h) hr0) HT.1 HT.2.2 (trace_Text.ok l0 hs.2.2) hs.1 hs.2.1
  · exact absurd h (by simp)



/-! ### millwrightlaw19_shown: function 14 -/
def millwrightlaw19_shown.f : Option Bool := some true
theorem millwrightlaw19_shown.calls (r : Bool) (w : World) (h : millwrightlaw19_shown.f = some r) (HT : TrL.Laid w) :
    Calls Tryd.prog 14 #[] w fun e w' => e = .returned (.bool r) ∧ Below w.heap.size w w' := by
  simp only [millwrightlaw19_shown.f, Option.some.injEq] at h
  subst h
  exact TrL.shown_calls w HT


/-! ### millwrightlaw19_refs: function 17 -/
def millwrightlaw19_refs.l0 : Nat → List (S42) → List (S39) → Int → Option ((List (S39)))
  | 0, _, _, _ => none
  | k + 1, x0, x3, x4 => if x4 < (x0.length : Int) then (if 0 ≤ x4 then (if x3.length < 3518437208883 then (millwrightlaw19_refs.l0 k x0 (x3 ++ [(⟨(rd_T42 x0 x4).f0, (rd_T42 x0 x4).f1, (rd_T42 x0 x4).f2, (rd_T42 x0 x4).f3, (rd_T42 x0 x4).f4⟩ : S39)]) (wrap64 (x4 + 1))) else (none)) else (none)) else (some x3)
def millwrightlaw19_refs.f (k : Nat) (l0 : List (S42)) : Option ((List (S39))) := millwrightlaw19_refs.l0 k l0 ([] : List (S39)) 0
theorem millwrightlaw19_refs.mono_l : ∀ k, (∀ y0 y1 y2, LeO (millwrightlaw19_refs.l0 k y0 y1 y2) (millwrightlaw19_refs.l0 (k + 1) y0 y1 y2))
  | 0 => fun _ _ _ r h => by simp [millwrightlaw19_refs.l0] at h
  | k + 1 => by
    have ih0 := millwrightlaw19_refs.mono_l k
    · intro y0 y1 y2
      unfold millwrightlaw19_refs.l0
      repeat' first
      | (with_reducible exact ih0 _ _ _)
      | (with_reducible exact LeO.refl _)
      | (with_reducible exact LeO.none _)
      | (with_reducible refine LeO.ite ?_ ?_)
      | (with_reducible refine LeO.bind ?_ (fun _ => ?_))
      | exact ih0 _ _ _
      | exact LeO.none _
      | refine LeO.ite ?_ ?_
      | refine LeO.bind ?_ (fun _ => ?_)
theorem millwrightlaw19_refs.mono : ∀ a0 k, LeO (millwrightlaw19_refs.f k a0) (millwrightlaw19_refs.f (k + 1) a0) := by
  intro a0 k
  have ih0 := millwrightlaw19_refs.mono_l k
  unfold millwrightlaw19_refs.f
  repeat' first
      | (with_reducible exact ih0 _ _ _)
      | (with_reducible exact LeO.refl _)
      | (with_reducible exact LeO.none _)
      | (with_reducible refine LeO.ite ?_ ?_)
      | (with_reducible refine LeO.bind ?_ (fun _ => ?_))
      | exact ih0 _ _ _
      | exact LeO.none _
      | refine LeO.ite ?_ ?_
      | refine LeO.bind ?_ (fun _ => ?_)
set_option maxHeartbeats 8000000 in
set_option maxRecDepth 100000 in
theorem millwrightlaw19_refs.calls (k : Nat) (A0 : Option Addr) (c0 : Nat) (l0 : List (S42)) (r : List (S39)) (w : World) (hr0 : Kd.C k42 w A0 l0.length l0) (hc0 : l0.length ≤ c0) (h : millwrightlaw19_refs.f k l0 = some r) :
    Calls Tryd.prog 17 #[.slice A0 l0.length c0] w fun e w' => ∃ v0_ : Value, e = .returned (v0_) ∧ Kd.R k39 39 w' w.heap.size (fun _ => True) v0_ r ∧ Below w.heap.size w w' := by
  have hu42 := Tryd.underlying42
  have hu39 := Tryd.underlying39
  have HR0 := Aside0.mk hr0
  have HC0 := Aside0.mk hc0
  clear hr0 hc0
  have HB := Aside0.mk (Below.refl w.heap.size w)
  have H : (millwrightlaw19_refs.l0 k l0 ([] : List (S39)) 0) = some r := h
  clear h
  have H' := Aside0.mk H
  clear H
  go_enter Tryd.func17, Tryd.ntmps17
  go_wp2
  go_loopg [3, 4] k (fun kq v3 v4 w' => ∃ (x3_1 : List (S39)) (x4_1 : Int), v4 = .int .i64 x4_1 ∧ Aside0 (millwrightlaw19_refs.l0 kq l0 x3_1 x4_1 = some r) ∧ Aside0 (kq ≤ k) ∧ Aside0 (Kd.R k39 39 w' w.heap.size (fun _ => True) v3 x3_1) ∧ Aside0 (Below w.heap.size w w'))
  case atStart => exact ⟨(([] : List (S39))), (0), (by first | rfl | (simp; done) | (simp [*]; done)), H', ⟨Nat.le_refl _⟩, ⟨by first | exact Kd.R_nil _ _ _ _ _ | exact Kd.N_nil _ _ _ _ _ | exact Kd.V_nil _ _ _ _ _ | exact Kd.Q_nil _ _ _ _ _ | exact Kd.S_nil _ _ _ _ _⟩, ⟨by repeat (first | (with_reducible first | exact HB.out | apply below_alloc | apply pw_below_drewN | apply below_drew1) | exact HB.out)⟩⟩
  case round =>
    clear H'
    try clear c1
    obtain ⟨x3_1, x4_1, rfl, HA, HK1, HO_3, HB⟩ := hrel
    cases gk with
    | zero => exact absurd HA.out (by simp [millwrightlaw19_refs.l0])
    | succ k1 =>
      have H := HA.out
      clear HA
      simp only [millwrightlaw19_refs.l0] at H
      by_cases c2 : x4_1 < (l0.length : Int)
      · rw [if_pos c2] at H
        have c2b0 : decide (x4_1 < (l0.length : Int)) = true := decide_eq_true c2
        clear c2
        by_cases c3 : 0 ≤ x4_1
        · rw [if_pos c3] at H
          have c3b0 : decide (0 ≤ x4_1) = true := decide_eq_true c3
          clear c3
          by_cases c4 : x3_1.length < 3518437208883
          · rw [if_pos c4] at H
            have LMc4 := Aside0.mk c4
            clear c4
            obtain ⟨y103, hy103⟩ : ∃ y_ : List (S39), y_ = (x3_1 ++ [(⟨(rd_T42 l0 x4_1).f0, (rd_T42 l0 x4_1).f1, (rd_T42 l0 x4_1).f2, (rd_T42 l0 x4_1).f3, (rd_T42 l0 x4_1).f4⟩ : S39)]) := ⟨_, rfl⟩
            replace H : (millwrightlaw19_refs.l0 k1 l0 y103 (wrap64 (x4_1 + 1))) = some r := by first | (rw [hy103]; with_reducible exact H) | (have H2_ := (Option.bind_some _ _).symm.trans H; rw [hy103]; with_reducible exact H2_) | (have H2_ := (Option.bind_some _ _).symm.trans H; with_reducible exact H2_) | with_reducible exact H | (rw [hy103]; exact H) | exact H
            have Ny103 := Aside0.mk hy103
            clear hy103
            have H' := Aside0.mk H
            clear H
            have p101 : 0 ≤ (x4_1 : Int) := of_decide_eq_true (by first | (with_reducible assumption) | assumption)
            have q101 : x4_1 < (l0.length : Int) := of_decide_eq_true (by first | (with_reducible assumption) | assumption)
            obtain ⟨ad101, e101, hx101_0, hx101_1, hx101_2, hx101_3, hx101_4⟩ := at_T42 HR0.out x4_1 p101 q101
            cases e101
            replace hx101_0 := (HB.out.cell (World.block_lt_of_cell? w _ hx101_0)).trans hx101_0
            replace hx101_1 := (HB.out.cell (World.block_lt_of_cell? w _ hx101_1)).trans hx101_1
            replace hx101_2 := (HB.out.cell (World.block_lt_of_cell? w _ hx101_2)).trans hx101_2
            replace hx101_3 := (HB.out.cell (World.block_lt_of_cell? w _ hx101_3)).trans hx101_3
            replace hx101_4 := (HB.out.cell (World.block_lt_of_cell? w _ hx101_4)).trans hx101_4
            replace p101 := eq_true p101
            replace q101 := eq_true q101
            go_wp2_with (first | ((with_reducible refine gate_dst (N := 5) rfl ?_); refine box_event ?hg (N := 5) ?hd (cs := #[.int .i64 0, .int .i64 0, .int .i64 0, .int .i64 0, .int .i64 0]) (t := 42) ?hr ?_; (case hd => rfl); (case hg => rfl); (case hr => first | (go_simp; done) | (go_simp; rfl)); intro gb102 hg w5 hbox hb; have n0_ := Aside0.mk (Kd.R_below (by (with_reducible repeat (first | apply Kd.R_alloc | apply Kd.R_drewN | apply Kd.R_drew)); exact HO_3.out) hb); have n1_ := Aside0.mk (below_step (by repeat (first | (with_reducible first | exact HB.out | apply below_alloc | apply pw_below_drewN | apply below_drew1) | exact HB.out)) hb); have n2_ := Aside0.mk (hbox); have n3_ := Aside0.mk ((by rw [hg]; exact (below_size (by repeat (first | (with_reducible first | exact HB.out | apply below_alloc | apply pw_below_drewN | apply below_drew1) | exact HB.out))) : w.heap.size ≤ gb102)); have n4_ := Aside0.mk ((by rw [hg]; exact (below_size (by repeat (first | (with_reducible first | exact HB.out | apply below_alloc | apply pw_below_drewN | apply below_drew1) | exact HB.out))) : w.heap.size ≤ gb102)); clear HO_3; clear HB; have HO_3 := n0_; have HB := n1_; have BK102 := n2_; have GW102 := n3_; have GE102 := n4_; clear n0_ n1_ n2_ n3_ n4_; clear hb hbox hg; have hcz6_0 : w5.cell? ⟨gb102, 0, none⟩ = some (.int .i64 0) := (blk_cell BK102.out 0).trans rfl; have hcz6_1 : w5.cell? ⟨gb102, 1, none⟩ = some (.int .i64 0) := (blk_cell BK102.out 1).trans rfl; have hcz6_2 : w5.cell? ⟨gb102, 2, none⟩ = some (.int .i64 0) := (blk_cell BK102.out 2).trans rfl; have hcz6_3 : w5.cell? ⟨gb102, 3, none⟩ = some (.int .i64 0) := (blk_cell BK102.out 3).trans rfl; have hcz6_4 : w5.cell? ⟨gb102, 4, none⟩ = some (.int .i64 0) := (blk_cell BK102.out 4).trans rfl; have hfz6_0 := blk_frozen BK102.out 0; have hfz6_1 := blk_frozen BK102.out 1; have hfz6_2 := blk_frozen BK102.out 2; have hfz6_3 := blk_frozen BK102.out 3; have hfz6_4 := blk_frozen BK102.out 4) | ((with_reducible refine gate_builtin (b := .append) (xs := #[.tmp 16, .tmp 28]) rfl ?_); at_builtin; refine Kd.R_append k39 (w0 := w) w.heap.size rfl (.tmp 16) (.tmp 28) 31 39 (.agg #[(.int .i64 0), (.int .i64 0), (.int .i64 0), (.int .i64 0), (.int .i64 0)]) 40 rfl Tryd.underlying31 info39 rfl (by decide) (by omega) u3 x3_1 (⟨(rd_T42 l0 x4_1).f0, (rd_T42 l0 x4_1).f1, (rd_T42 l0 x4_1).f2, (rd_T42 l0 x4_1).f3, (rd_T42 l0 x4_1).f4⟩ : S39) [.int .i64 ((rd_T42 l0 x4_1).f0), .int .i64 ((rd_T42 l0 x4_1).f1), .int .i64 ((rd_T42 l0 x4_1).f2), .int .i64 ((rd_T42 l0 x4_1).f3), .int .i64 ((rd_T42 l0 x4_1).f4)] (fun _ => True) (fun _ => False) rfl (by first | (go_simp; done) | (go_simp; rfl)) ?aP (fun _ hk => hk.elim) ?aF ?aO ?aB ?aS ?aL ?_; (case aP => exact k39_mkM _ _ _ (⟨(rd_T42 l0 x4_1).f0, (rd_T42 l0 x4_1).f1, (rd_T42 l0 x4_1).f2, (rd_T42 l0 x4_1).f3, (rd_T42 l0 x4_1).f4⟩ : S39)); (case aB => exact (by repeat (first | (with_reducible first | exact HB.out | apply below_alloc | apply pw_below_drewN | apply below_drew1 | refine below_set ?_ GE102.out) | exact HB.out))); (case aF => exact (fun _ _ => trivial)); (case aO => exact (by (with_reducible repeat (first | apply Kd.R_alloc | apply Kd.R_drewN | apply Kd.R_drew)); exact Kd.R_mono (Kd.R_far (p := ⟨gb102, 4, none⟩) (Kd.R_far (p := ⟨gb102, 3, none⟩) (Kd.R_far (p := ⟨gb102, 2, none⟩) (Kd.R_far (p := ⟨gb102, 1, none⟩) (Kd.R_far (p := ⟨gb102, 0, none⟩) (Kd.R_types HO_3.out BK102.out (by decide)) (fun _ hk => hk.2) (.int .i64 ((rd_T42 l0 x4_1).f0))) (fun _ hk => hk.2) (.int .i64 ((rd_T42 l0 x4_1).f1))) (fun _ hk => hk.2) (.int .i64 ((rd_T42 l0 x4_1).f2))) (fun _ hk => hk.2) (.int .i64 ((rd_T42 l0 x4_1).f3))) (fun _ hk => hk.2) (.int .i64 ((rd_T42 l0 x4_1).f4))) (fun _ hk => trivial))); (case aS => exact (below_size (by repeat (first | (with_reducible first | exact HB.out | apply below_alloc | apply pw_below_drewN | apply below_drew1 | refine below_set ?_ GE102.out) | exact HB.out)))); (case aL => have := LMc4.out; omega); intro v104 w7 ho hb hg hat; rw [← Ny103.out] at ho; have n0_ := Aside0.mk (blk_grown (g := gb102) (o := .cells #[.int .i64 ((rd_T42 l0 x4_1).f0), .int .i64 ((rd_T42 l0 x4_1).f1), .int .i64 ((rd_T42 l0 x4_1).f2), .int .i64 ((rd_T42 l0 x4_1).f3), .int .i64 ((rd_T42 l0 x4_1).f4)] 42 (0, 0)) (by (with_reducible repeat (first | refine blk_drewN ?_ _ | refine blk_drew ?_ | refine blk_alloc ?_ _)); refine blk_put (cs := #[.int .i64 ((rd_T42 l0 x4_1).f0), .int .i64 ((rd_T42 l0 x4_1).f1), .int .i64 ((rd_T42 l0 x4_1).f2), .int .i64 ((rd_T42 l0 x4_1).f3), .int .i64 0]) ?_ 4 _ rfl; (with_reducible repeat (first | refine blk_drewN ?_ _ | refine blk_drew ?_ | refine blk_alloc ?_ _)); refine blk_put (cs := #[.int .i64 ((rd_T42 l0 x4_1).f0), .int .i64 ((rd_T42 l0 x4_1).f1), .int .i64 ((rd_T42 l0 x4_1).f2), .int .i64 0, .int .i64 0]) ?_ 3 _ rfl; (with_reducible repeat (first | refine blk_drewN ?_ _ | refine blk_drew ?_ | refine blk_alloc ?_ _)); refine blk_put (cs := #[.int .i64 ((rd_T42 l0 x4_1).f0), .int .i64 ((rd_T42 l0 x4_1).f1), .int .i64 0, .int .i64 0, .int .i64 0]) ?_ 2 _ rfl; (with_reducible repeat (first | refine blk_drewN ?_ _ | refine blk_drew ?_ | refine blk_alloc ?_ _)); refine blk_put (cs := #[.int .i64 ((rd_T42 l0 x4_1).f0), .int .i64 0, .int .i64 0, .int .i64 0, .int .i64 0]) ?_ 1 _ rfl; (with_reducible repeat (first | refine blk_drewN ?_ _ | refine blk_drew ?_ | refine blk_alloc ?_ _)); refine blk_put (cs := #[.int .i64 0, .int .i64 0, .int .i64 0, .int .i64 0, .int .i64 0]) ?_ 0 _ rfl; (with_reducible repeat (first | refine blk_drewN ?_ _ | refine blk_drew ?_ | refine blk_alloc ?_ _)); exact BK102.out) hg (Kd.R_ne HO_3.out BK102.out (by decide))); have n1_ := Aside0.mk (hb); have n2_ := Aside0.mk (ho); clear BK102; clear HB; clear HO_3; have BK102 := n0_; have HB := n1_; have HO105 := n2_; clear n0_ n1_ n2_; clear ho hb hg hat))
            go_roundg k1
            case measure => have := HK1.out; omega
            case rel => exact ⟨(y103), (wrap64 (x4_1 + 1)), (by first | rfl | (simp; done) | (simp [*]; done)), H', ⟨by have := HK1.out; omega⟩, ⟨by (with_reducible repeat (first | apply Kd.R_alloc | apply Kd.R_drewN | apply Kd.R_drew)); exact HO105.out⟩, ⟨by repeat (first | (with_reducible first | exact HB.out | apply below_alloc | apply pw_below_drewN | apply below_drew1 | refine below_set ?_ GE102.out) | exact HB.out)⟩⟩
          · rw [if_neg c4] at H
            exact absurd H (by simp)
        · rw [if_neg c3] at H
          exact absurd H (by simp)
      · rw [if_neg c2] at H
        have c2b0 : decide (x4_1 < (l0.length : Int)) = false := decide_eq_false c2
        clear c2
        obtain rfl := Option.some.inj H
        go_wp2
        go_ret
        exact ⟨_, by first | rfl | (simp [errW_none, errW_some] <;> rfl) | (simp [*, errW_none, errW_some] <;> rfl), by (with_reducible repeat (first | apply Kd.R_alloc | apply Kd.R_drewN | apply Kd.R_drew)); exact HO_3.out, by repeat (first | (with_reducible first | exact HB.out | apply below_alloc | apply pw_below_drewN | apply below_drew1) | exact HB.out)⟩

/-! ### millwrightref02_kind: function 57 -/
mutual
def millwrightref02_kind.j0 : Nat → Int → Bool → Option (Int)
  | 0, _, _ => none
  | k + 1, x0, x16 => if x16 = true then (some 1) else (if x0 ≥ 48 then (millwrightref02_kind.j1 k x0 (decide (x0 ≤ 57))) else (millwrightref02_kind.j1 k x0 false))
def millwrightref02_kind.j1 : Nat → Int → Bool → Option (Int)
  | 0, _, _ => none
  | k + 1, x0, x22 => if x22 = true then (some 2) else (if x0 = 32 then (some 3) else (if x0 = 9 then (some 3) else (if x0 = 13 then (some 3) else (some 0))))
end
def millwrightref02_kind.f (k : Nat) (a0 : Int) : Option (Int) := if a0 ≥ 97 then (if a0 ≤ 122 then (millwrightref02_kind.j0 k a0 true) else (if a0 ≥ 65 then (millwrightref02_kind.j0 k a0 (decide (a0 ≤ 90))) else (millwrightref02_kind.j0 k a0 false))) else (if a0 ≥ 65 then (millwrightref02_kind.j0 k a0 (decide (a0 ≤ 90))) else (millwrightref02_kind.j0 k a0 false))
theorem millwrightref02_kind.mono_l : ∀ k, (∀ y0 y1, LeO (millwrightref02_kind.j0 k y0 y1) (millwrightref02_kind.j0 (k + 1) y0 y1)) ∧ (∀ y0 y1, LeO (millwrightref02_kind.j1 k y0 y1) (millwrightref02_kind.j1 (k + 1) y0 y1))
  | 0 => ⟨fun _ _ r h => by simp [millwrightref02_kind.j0] at h, fun _ _ r h => by simp [millwrightref02_kind.j1] at h⟩
  | k + 1 => by
    obtain ⟨ih0, ih1⟩ := millwrightref02_kind.mono_l k
    refine ⟨?_, ?_⟩
    · intro y0 y1
      unfold millwrightref02_kind.j0
      repeat' first
      | (with_reducible exact ih0 _ _)
      | (with_reducible exact ih1 _ _)
      | (with_reducible exact LeO.refl _)
      | (with_reducible exact LeO.none _)
      | (with_reducible refine LeO.ite ?_ ?_)
      | (with_reducible refine LeO.bind ?_ (fun _ => ?_))
      | exact ih0 _ _
      | exact ih1 _ _
      | exact LeO.none _
      | refine LeO.ite ?_ ?_
      | refine LeO.bind ?_ (fun _ => ?_)
    · intro y0 y1
      unfold millwrightref02_kind.j1
      repeat' first
      | (with_reducible exact ih0 _ _)
      | (with_reducible exact ih1 _ _)
      | (with_reducible exact LeO.refl _)
      | (with_reducible exact LeO.none _)
      | (with_reducible refine LeO.ite ?_ ?_)
      | (with_reducible refine LeO.bind ?_ (fun _ => ?_))
      | exact ih0 _ _
      | exact ih1 _ _
      | exact LeO.none _
      | refine LeO.ite ?_ ?_
      | refine LeO.bind ?_ (fun _ => ?_)
theorem millwrightref02_kind.mono : ∀ a0 k, LeO (millwrightref02_kind.f k a0) (millwrightref02_kind.f (k + 1) a0) := by
  intro a0 k
  obtain ⟨ih0, ih1⟩ := millwrightref02_kind.mono_l k
  unfold millwrightref02_kind.f
  repeat' first
      | (with_reducible exact ih0 _ _)
      | (with_reducible exact ih1 _ _)
      | (with_reducible exact LeO.refl _)
      | (with_reducible exact LeO.none _)
      | (with_reducible refine LeO.ite ?_ ?_)
      | (with_reducible refine LeO.bind ?_ (fun _ => ?_))
      | exact ih0 _ _
      | exact ih1 _ _
      | exact LeO.none _
      | refine LeO.ite ?_ ?_
      | refine LeO.bind ?_ (fun _ => ?_)
set_option maxHeartbeats 8000000 in
set_option maxRecDepth 100000 in
theorem millwrightref02_kind.calls (k : Nat) (a0 : Int) (r : Int) (w : World) (h : millwrightref02_kind.f k a0 = some r) :
    Calls Tryd.prog 57 #[.int .u8 a0] w fun e w' => e = .returned (.int .i64 r) ∧ Drawn0 w w' := by
  have H : (if a0 ≥ 97 then (if a0 ≤ 122 then (millwrightref02_kind.j0 k a0 true) else (if a0 ≥ 65 then (millwrightref02_kind.j0 k a0 (decide (a0 ≤ 90))) else (millwrightref02_kind.j0 k a0 false))) else (if a0 ≥ 65 then (millwrightref02_kind.j0 k a0 (decide (a0 ≤ 90))) else (millwrightref02_kind.j0 k a0 false))) = some r := h
  clear h
  have HC2 := Aside0.mk H
  clear H
  go_enter Tryd.func57, Tryd.ntmps57
  go_upto_region 1 with (fail)
  go_cut [16] (fun v16 wc => ∃ (kq : Nat) (x16_1 : Bool), v16 = .bool x16_1 ∧ Aside0 (millwrightref02_kind.j0 kq a0 x16_1 = some r) ∧ Aside0 (kq ≤ k) ∧ Drawn0 w wc)
  case first =>
    have H := HC2.out
    clear HC2
    by_cases c3 : a0 ≥ 97
    · rw [if_pos c3] at H
      have c3b0 : decide (97 ≤ a0) = true := decide_eq_true c3
      clear c3
      (first | rw [c3b0] | (simp only [i64_w, i32_w]; rw [c3b0]) | skip)
      by_cases c4 : a0 ≤ 122
      · rw [if_pos c4] at H
        have c4b0 : decide (a0 ≤ 122) = true := decide_eq_true c4
        clear c4
        have H' := Aside0.mk H
        clear H
        go_wp2
        go_meet
        case rel => exact ⟨_, (true), (by first | rfl | (simp; done) | (simp [*]; done)), H', ⟨by first | omega | exact Nat.le_refl _⟩, by repeat (first | exact Drawn0.refl _ | apply Drawn0.step)⟩
      · rw [if_neg c4] at H
        have c4b0 : decide (a0 ≤ 122) = false := decide_eq_false c4
        clear c4
        by_cases c5 : a0 ≥ 65
        · rw [if_pos c5] at H
          have c5b0 : decide (65 ≤ a0) = true := decide_eq_true c5
          clear c5
          have H' := Aside0.mk H
          clear H
          go_wp2
          go_meet
          case rel => exact ⟨_, (decide (a0 ≤ 90)), (by first | rfl | (simp; done) | (simp [*]; done)), H', ⟨by first | omega | exact Nat.le_refl _⟩, by repeat (first | exact Drawn0.refl _ | apply Drawn0.step)⟩
        · rw [if_neg c5] at H
          have c5b0 : decide (65 ≤ a0) = false := decide_eq_false c5
          clear c5
          have H' := Aside0.mk H
          clear H
          go_wp2
          go_meet
          case rel => exact ⟨_, (false), (by first | rfl | (simp; done) | (simp [*]; done)), H', ⟨by first | omega | exact Nat.le_refl _⟩, by repeat (first | exact Drawn0.refl _ | apply Drawn0.step)⟩
    · rw [if_neg c3] at H
      have c3b0 : decide (97 ≤ a0) = false := decide_eq_false c3
      clear c3
      (first | rw [c3b0] | (simp only [i64_w, i32_w]; rw [c3b0]) | skip)
      by_cases c6 : a0 ≥ 65
      · rw [if_pos c6] at H
        have c6b0 : decide (65 ≤ a0) = true := decide_eq_true c6
        clear c6
        have H' := Aside0.mk H
        clear H
        go_wp2
        go_meet
        case rel => exact ⟨_, (decide (a0 ≤ 90)), (by first | rfl | (simp; done) | (simp [*]; done)), H', ⟨by first | omega | exact Nat.le_refl _⟩, by repeat (first | exact Drawn0.refl _ | apply Drawn0.step)⟩
      · rw [if_neg c6] at H
        have c6b0 : decide (65 ≤ a0) = false := decide_eq_false c6
        clear c6
        have H' := Aside0.mk H
        clear H
        go_wp2
        go_meet
        case rel => exact ⟨_, (false), (by first | rfl | (simp; done) | (simp [*]; done)), H', ⟨by first | omega | exact Nat.le_refl _⟩, by repeat (first | exact Drawn0.refl _ | apply Drawn0.step)⟩
  case rest =>
    clear HC2
    try clear p2
    try clear c3
    try clear c3b0
    try clear c4
    try clear c4b0
    try clear c5
    try clear c5b0
    try clear c6
    try clear c6b0
    obtain ⟨kq, x16_1, rfl, HA, HJ1, ⟨mc1, rfl⟩⟩ := hcut
    cases kq with
    | zero => exact absurd HA.out (by simp [millwrightref02_kind.j0])
    | succ kj1 =>
      have H := HA.out
      clear HA
      simp only [millwrightref02_kind.j0] at H
      by_cases c7 : x16_1 = true
      · subst c7
        have H1 : (some 1) = some r := by rw [if_pos rfl] at H; exact H
        clear H
        have H := H1
        clear H1
        obtain rfl := Option.some.inj H
        go_wp2
        go_ret
        exact ⟨by first | rfl | (simp; done) | (simp [*]; done), by repeat (first | exact Drawn0.refl _ | apply Drawn0.step)⟩
      · replace c7 := Bool.eq_false_iff.mpr c7
        subst c7
        have H1 : (if a0 ≥ 48 then (millwrightref02_kind.j1 kj1 a0 (decide (a0 ≤ 57))) else (millwrightref02_kind.j1 kj1 a0 false)) = some r := by rw [if_neg (show ¬ (false = true) by decide)] at H; exact H
        clear H
        have H := H1
        clear H1
        have HC8 := Aside0.mk H
        clear H
        go_upto_region 3 with (fail)
        go_cut [22] (fun v22 wc => ∃ (kq : Nat) (x22_7 : Bool), v22 = .bool x22_7 ∧ Aside0 (millwrightref02_kind.j1 kq a0 x22_7 = some r) ∧ Aside0 (kq ≤ kj1) ∧ Drawn0 w wc)
        case first =>
          have H := HC8.out
          clear HC8
          by_cases c9 : a0 ≥ 48
          · rw [if_pos c9] at H
            have c9b0 : decide (48 ≤ a0) = true := decide_eq_true c9
            clear c9
            (first | rw [c9b0] | (simp only [i64_w, i32_w]; rw [c9b0]) | skip)
            have H' := Aside0.mk H
            clear H
            go_wp2
            go_meet
            case rel => exact ⟨_, (decide (a0 ≤ 57)), (by first | rfl | (simp; done) | (simp [*]; done)), H', ⟨by have := HJ1.out; first | omega | exact Nat.le_refl _⟩, by repeat (first | exact Drawn0.refl _ | apply Drawn0.step)⟩
          · rw [if_neg c9] at H
            have c9b0 : decide (48 ≤ a0) = false := decide_eq_false c9
            clear c9
            (first | rw [c9b0] | (simp only [i64_w, i32_w]; rw [c9b0]) | skip)
            have H' := Aside0.mk H
            clear H
            go_wp2
            go_meet
            case rel => exact ⟨_, (false), (by first | rfl | (simp; done) | (simp [*]; done)), H', ⟨by have := HJ1.out; first | omega | exact Nat.le_refl _⟩, by repeat (first | exact Drawn0.refl _ | apply Drawn0.step)⟩
        case rest =>
          clear HC8
          try clear c1
          try clear p2
          try clear c3
          try clear c3b0
          try clear c4
          try clear c4b0
          try clear c5
          try clear c5b0
          try clear c6
          try clear c6b0
          try clear c7
          try clear c9
          try clear c9b0
          try clear p2
          obtain ⟨kq, x22_7, rfl, HA, HJ7, ⟨mc7, rfl⟩⟩ := hcut
          cases kq with
          | zero => exact absurd HA.out (by simp [millwrightref02_kind.j1])
          | succ kj7 =>
            have H := HA.out
            clear HA
            simp only [millwrightref02_kind.j1] at H
            by_cases c10 : x22_7 = true
            · subst c10
              have H1 : (some 2) = some r := by rw [if_pos rfl] at H; exact H
              clear H
              have H := H1
              clear H1
              obtain rfl := Option.some.inj H
              go_wp2
              go_ret
              exact ⟨by first | rfl | (simp; done) | (simp [*]; done), by repeat (first | exact Drawn0.refl _ | apply Drawn0.step)⟩
            · replace c10 := Bool.eq_false_iff.mpr c10
              subst c10
              have H1 : (if a0 = 32 then (some 3) else (if a0 = 9 then (some 3) else (if a0 = 13 then (some 3) else (some 0)))) = some r := by rw [if_neg (show ¬ (false = true) by decide)] at H; exact H
              clear H
              have H := H1
              clear H1
              by_cases c11 : a0 = 32
              · rw [if_pos c11] at H
                have c11b0 : (a0 == 32) = true := beq_iff_eq.mpr c11
                have c11b1 : (a0 != 32) = false := bne_eq_false_iff_eq.mpr c11
                clear c11
                obtain rfl := Option.some.inj H
                go_wp2
                go_ret
                exact ⟨by first | rfl | (simp; done) | (simp [*]; done), by repeat (first | exact Drawn0.refl _ | apply Drawn0.step)⟩
              · rw [if_neg c11] at H
                have c11b0 : (a0 == 32) = false := beq_eq_false_iff_ne.mpr c11
                have c11b1 : (a0 != 32) = true := bne_iff_ne.mpr c11
                by_cases c12 : a0 = 9
                · rw [if_pos c12] at H
                  have c12b0 : (a0 == 9) = true := beq_iff_eq.mpr c12
                  have c12b1 : (a0 != 9) = false := bne_eq_false_iff_eq.mpr c12
                  clear c12
                  obtain rfl := Option.some.inj H
                  go_wp2
                  go_ret
                  exact ⟨by first | rfl | (simp; done) | (simp [*]; done), by repeat (first | exact Drawn0.refl _ | apply Drawn0.step)⟩
                · rw [if_neg c12] at H
                  have c12b0 : (a0 == 9) = false := beq_eq_false_iff_ne.mpr c12
                  have c12b1 : (a0 != 9) = true := bne_iff_ne.mpr c12
                  by_cases c13 : a0 = 13
                  · rw [if_pos c13] at H
                    have c13b0 : (a0 == 13) = true := beq_iff_eq.mpr c13
                    have c13b1 : (a0 != 13) = false := bne_eq_false_iff_eq.mpr c13
                    clear c13
                    obtain rfl := Option.some.inj H
                    go_wp2
                    go_ret
                    exact ⟨by first | rfl | (simp; done) | (simp [*]; done), by repeat (first | exact Drawn0.refl _ | apply Drawn0.step)⟩
                  · rw [if_neg c13] at H
                    have c13b0 : (a0 == 13) = false := beq_eq_false_iff_ne.mpr c13
                    have c13b1 : (a0 != 13) = true := bne_iff_ne.mpr c13
                    obtain rfl := Option.some.inj H
                    go_wp2
                    go_ret
                    exact ⟨by first | rfl | (simp; done) | (simp [*]; done), by repeat (first | exact Drawn0.refl _ | apply Drawn0.step)⟩

end Go.Proofs.YtckcepmkfegkiaaDoor.PTraceParses
