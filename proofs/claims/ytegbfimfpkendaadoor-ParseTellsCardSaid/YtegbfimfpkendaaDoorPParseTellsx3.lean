-- Printed for this claim by a program of this project's own, over the kit's printer; some functions are told by hand.
import Derived.Test.YtegbfimfpkendaaDoorPParseTellsx0
import Derived.Test.YtegbfimfpkendaaDoorPParseTellsx2
namespace Go.Proofs.YtegbfimfpkendaaDoor.PParseTells
open Go.RowKit Go.Proofs.YtegbfimfpkendaaDoorW.PrintWords Go.Proofs.YtegbfimfpkendaaDoorW.PrintLast Go.Proofs.YtegbfimfpkendaaDoorW.PrintMore
attribute [local go_sem] max2_int min2_int max_two min_two max_three min_three max_four min_four   -- for this text's walks alone
set_option linter.unusedVariables false
set_option linter.unusedSimpArgs false

/-! ### millwrightref02_cut: function 42 -/
def millwrightref02_cut.l0 : Nat → ByteArray → Int → Option (ByteArray)
  | 0, _, _ => none
  | k + 1, x0, x3 => if x3 < (x0.size : Int) then (if 0 ≤ x3 then (if (bt x0 x3) = 35 then (if x3 ≤ (x0.size : Int) then (some (x0.extract 0 (x3 : Int).toNat)) else (none)) else (millwrightref02_cut.l0 k x0 (wrap64 (x3 + 1)))) else (none)) else (some x0)
def millwrightref02_cut.f (k : Nat) (a0 : ByteArray) : Option (ByteArray) := millwrightref02_cut.l0 k a0 0
theorem millwrightref02_cut.mono_l : ∀ k, (∀ y0 y1, LeO (millwrightref02_cut.l0 k y0 y1) (millwrightref02_cut.l0 (k + 1) y0 y1))
  | 0 => fun _ _ r h => by simp [millwrightref02_cut.l0] at h
  | k + 1 => by
    have ih0 := millwrightref02_cut.mono_l k
    · intro y0 y1
      unfold millwrightref02_cut.l0
      repeat' first
      | (with_reducible exact ih0 _ _)
      | (with_reducible exact LeO.refl _)
      | (with_reducible exact LeO.none _)
      | (with_reducible refine LeO.ite ?_ ?_)
      | (with_reducible refine LeO.bind ?_ (fun _ => ?_))
      | exact ih0 _ _
      | exact LeO.none _
      | refine LeO.ite ?_ ?_
      | refine LeO.bind ?_ (fun _ => ?_)
theorem millwrightref02_cut.mono : ∀ a0 k, LeO (millwrightref02_cut.f k a0) (millwrightref02_cut.f (k + 1) a0) := by
  intro a0 k
  have ih0 := millwrightref02_cut.mono_l k
  unfold millwrightref02_cut.f
  repeat' first
      | (with_reducible exact ih0 _ _)
      | (with_reducible exact LeO.refl _)
      | (with_reducible exact LeO.none _)
      | (with_reducible refine LeO.ite ?_ ?_)
      | (with_reducible refine LeO.bind ?_ (fun _ => ?_))
      | exact ih0 _ _
      | exact LeO.none _
      | refine LeO.ite ?_ ?_
      | refine LeO.bind ?_ (fun _ => ?_)
set_option maxHeartbeats 8000000 in
set_option maxRecDepth 100000 in
theorem millwrightref02_cut.calls (k : Nat) (a0 : ByteArray) (r : ByteArray) (w : World) (h : millwrightref02_cut.f k a0 = some r) :
    Calls Tryd.prog 42 #[.string a0] w fun e w' => e = .returned (.string r) ∧ Drawn0 w w' := by
  have H : (millwrightref02_cut.l0 k a0 0) = some r := h
  clear h
  have H' := Aside0.mk H
  clear H
  go_enter Tryd.func42, Tryd.ntmps42
  go_wp2
  go_loopg [3] k (fun kq v3 w' => ∃ (x3_1 : Int), v3 = .int .i64 x3_1 ∧ Aside0 (millwrightref02_cut.l0 kq a0 x3_1 = some r) ∧ Aside0 (kq ≤ k) ∧ Drawn0 w w')
  case atStart => exact ⟨(0), (by first | rfl | (simp; done) | (simp [*]; done)), H', ⟨Nat.le_refl _⟩, by repeat (first | exact Drawn0.refl _ | apply Drawn0.step)⟩
  case round =>
    clear H'
    obtain ⟨x3_1, rfl, HA, HK1, ⟨m1, rfl⟩⟩ := hrel
    cases gk with
    | zero => exact absurd HA.out (by simp [millwrightref02_cut.l0])
    | succ k1 =>
      have H := HA.out
      clear HA
      simp only [millwrightref02_cut.l0] at H
      by_cases c2 : x3_1 < (a0.size : Int)
      · rw [if_pos c2] at H
        have c2b0 : decide (x3_1 < (a0.size : Int)) = true := decide_eq_true c2
        clear c2
        by_cases c3 : 0 ≤ x3_1
        · rw [if_pos c3] at H
          have c3b0 : decide (0 ≤ x3_1) = true := decide_eq_true c3
          clear c3
          by_cases c5 : (bt a0 x3_1) = 35
          · rw [if_pos c5] at H
            have c5b0 : ((bt a0 x3_1) == 35) = true := beq_iff_eq.mpr c5
            have c5b1 : ((bt a0 x3_1) != 35) = false := bne_eq_false_iff_eq.mpr c5
            clear c5
            have c6b0 := eq_true (of_decide_eq_true (by first | (with_reducible assumption) | assumption) : 0 ≤ x3_1)
            by_cases c7 : x3_1 ≤ (a0.size : Int)
            · rw [if_pos c7] at H
              have c7b0 := eq_true c7
              have c7b1 : decide (x3_1 ≤ (a0.size : Int)) = true := decide_eq_true c7
              clear c7
              obtain rfl := Option.some.inj H
              have p4 : 0 ≤ (x3_1 : Int) := of_decide_eq_true (by first | (with_reducible assumption) | assumption)
              have q4 : x3_1 < (a0.size : Int) := of_decide_eq_true (by first | (with_reducible assumption) | assumption)
              have hx4 := bt_at a0 x3_1
              replace p4 := eq_true p4
              replace q4 := eq_true q4
              go_wp2
              go_ret
              exact ⟨by first | rfl | (simp; done) | (simp [*]; done), by repeat (first | exact Drawn0.refl _ | apply Drawn0.step)⟩
            · rw [if_neg c7] at H
              exact absurd H (by simp)
          · rw [if_neg c5] at H
            have c5b0 : ((bt a0 x3_1) == 35) = false := beq_eq_false_iff_ne.mpr c5
            have c5b1 : ((bt a0 x3_1) != 35) = true := bne_iff_ne.mpr c5
            have H' := Aside0.mk H
            clear H
            have p4 : 0 ≤ (x3_1 : Int) := of_decide_eq_true (by first | (with_reducible assumption) | assumption)
            have q4 : x3_1 < (a0.size : Int) := of_decide_eq_true (by first | (with_reducible assumption) | assumption)
            have hx4 := bt_at a0 x3_1
            replace p4 := eq_true p4
            replace q4 := eq_true q4
            go_wp2
            go_roundg k1
            case measure => have := HK1.out; omega
            case rel => exact ⟨(wrap64 (x3_1 + 1)), (by first | rfl | (simp; done) | (simp [*]; done)), H', ⟨by have := HK1.out; omega⟩, by repeat (first | exact Drawn0.refl _ | apply Drawn0.step)⟩
        · rw [if_neg c3] at H
          exact absurd H (by simp)
      · rw [if_neg c2] at H
        have c2b0 : decide (x3_1 < (a0.size : Int)) = false := decide_eq_false c2
        clear c2
        obtain rfl := Option.some.inj H
        go_wp2
        go_ret
        exact ⟨by first | rfl | (simp; done) | (simp [*]; done), by repeat (first | exact Drawn0.refl _ | apply Drawn0.step)⟩

/-! ### millwrightref02_Lex: function 22 -/
mutual
def millwrightref02_Lex.l0 : Nat → ByteArray → List (S68) → Int → Int → Int → Option ((List (S68)) × Int × Int)
  | 0, _, _, _, _, _ => none
  | k + 1, x0, x5, x6, x7, x8 => if x8 ≤ (x0.size : Int) then (if x8 < (x0.size : Int) then (if 0 ≤ x8 then (millwrightref02_Lex.j1 k x0 x5 x6 x7 x8 ((bt x0 x8) != 10)) else (none)) else (millwrightref02_Lex.j1 k x0 x5 x6 x7 x8 false)) else (some (x5, 0, 0))
def millwrightref02_Lex.j1 : Nat → ByteArray → List (S68) → Int → Int → Int → Bool → Option ((List (S68)) × Int × Int)
  | 0, _, _, _, _, _, _ => none
  | k + 1, x0, x5, x6, x7, x8, x30 => if x30 = true then (millwrightref02_Lex.l0 k x0 x5 x6 x7 (wrap64 (x8 + 1))) else (if 0 ≤ x7 then (if x7 ≤ x8 then (if x8 ≤ (x0.size : Int) then ((millwrightref02_cut.f k (x0.extract (x7 : Int).toNat (x8 : Int).toNat)).bind fun t119 => ((millwrightref02_row.f k t119 x6).bind fun bt120 => (if bt120.2 = true then (if x5.length + bt120.1.length < 4398046511104 then (millwrightref02_Lex.l0 k x0 (x5 ++ bt120.1) (wrap64 (x6 + 1)) (wrap64 (x8 + 1)) (wrap64 (x8 + 1))) else (none)) else (some (([] : List (S68)), x6, 2))))) else (none)) else (none)) else (none))
end
def millwrightref02_Lex.f (k : Nat) (a0 : ByteArray) : Option ((List (S68)) × Int × Int) := if (a0.size : Int) > 65536 then (some (([] : List (S68)), 0, 4)) else (millwrightref02_Lex.l0 k a0 (([] : List (S68))) 1 0 0)
theorem millwrightref02_Lex.mono_l : ∀ k, (∀ y0 y1 y2 y3 y4, LeO (millwrightref02_Lex.l0 k y0 y1 y2 y3 y4) (millwrightref02_Lex.l0 (k + 1) y0 y1 y2 y3 y4)) ∧ (∀ y0 y1 y2 y3 y4 y5, LeO (millwrightref02_Lex.j1 k y0 y1 y2 y3 y4 y5) (millwrightref02_Lex.j1 (k + 1) y0 y1 y2 y3 y4 y5))
  | 0 => ⟨fun _ _ _ _ _ r h => by simp [millwrightref02_Lex.l0] at h, fun _ _ _ _ _ _ r h => by simp [millwrightref02_Lex.j1] at h⟩
  | k + 1 => by
    obtain ⟨ih0, ih1⟩ := millwrightref02_Lex.mono_l k
    refine ⟨?_, ?_⟩
    · intro y0 y1 y2 y3 y4
      unfold millwrightref02_Lex.l0
      repeat' first
      | (with_reducible exact ih0 _ _ _ _ _)
      | (with_reducible exact ih1 _ _ _ _ _ _)
      | (with_reducible exact millwrightref02_cut.mono _ _)
      | (with_reducible exact millwrightref02_row.mono _ _ _)
      | (with_reducible exact LeO.refl _)
      | (with_reducible exact LeO.none _)
      | (with_reducible refine LeO.ite ?_ ?_)
      | (with_reducible refine LeO.bind ?_ (fun _ => ?_))
      | exact ih0 _ _ _ _ _
      | exact ih1 _ _ _ _ _ _
      | exact millwrightref02_cut.mono _ _
      | exact millwrightref02_row.mono _ _ _
      | exact LeO.none _
      | refine LeO.ite ?_ ?_
      | refine LeO.bind ?_ (fun _ => ?_)
    · intro y0 y1 y2 y3 y4 y5
      unfold millwrightref02_Lex.j1
      repeat' first
      | (with_reducible exact ih0 _ _ _ _ _)
      | (with_reducible exact ih1 _ _ _ _ _ _)
      | (with_reducible exact millwrightref02_cut.mono _ _)
      | (with_reducible exact millwrightref02_row.mono _ _ _)
      | (with_reducible exact LeO.refl _)
      | (with_reducible exact LeO.none _)
      | (with_reducible refine LeO.ite ?_ ?_)
      | (with_reducible refine LeO.bind ?_ (fun _ => ?_))
      | exact ih0 _ _ _ _ _
      | exact ih1 _ _ _ _ _ _
      | exact millwrightref02_cut.mono _ _
      | exact millwrightref02_row.mono _ _ _
      | exact LeO.none _
      | refine LeO.ite ?_ ?_
      | refine LeO.bind ?_ (fun _ => ?_)
theorem millwrightref02_Lex.mono : ∀ a0 k, LeO (millwrightref02_Lex.f k a0) (millwrightref02_Lex.f (k + 1) a0) := by
  intro a0 k
  obtain ⟨ih0, ih1⟩ := millwrightref02_Lex.mono_l k
  unfold millwrightref02_Lex.f
  repeat' first
      | (with_reducible exact ih0 _ _ _ _ _)
      | (with_reducible exact ih1 _ _ _ _ _ _)
      | (with_reducible exact millwrightref02_cut.mono _ _)
      | (with_reducible exact millwrightref02_row.mono _ _ _)
      | (with_reducible exact LeO.refl _)
      | (with_reducible exact LeO.none _)
      | (with_reducible refine LeO.ite ?_ ?_)
      | (with_reducible refine LeO.bind ?_ (fun _ => ?_))
      | exact ih0 _ _ _ _ _
      | exact ih1 _ _ _ _ _ _
      | exact millwrightref02_cut.mono _ _
      | exact millwrightref02_row.mono _ _ _
      | exact LeO.none _
      | refine LeO.ite ?_ ?_
      | refine LeO.bind ?_ (fun _ => ?_)
set_option maxHeartbeats 8000000 in
set_option maxRecDepth 100000 in
theorem millwrightref02_Lex.calls (k : Nat) (a0 : ByteArray) (r1 : List (S68)) (r2 : Int) (r3 : Int) (w : World) (h : millwrightref02_Lex.f k a0 = some (r1, r2, r3)) :
    Calls Tryd.prog 22 #[.string a0] w fun e w' => ∃ v0_ : Value, e = .returned (.tuple #[v0_, .int .i64 r2, .int .i64 r3]) ∧ Kd.R k68 68 w' w.heap.size (fun _ => True) v0_ r1 ∧ Below w.heap.size w w' := by
  have HB := Aside0.mk (Below.refl w.heap.size w)
  have H : (if (a0.size : Int) > 65536 then (some (([] : List (S68)), 0, 4)) else (millwrightref02_Lex.l0 k a0 (([] : List (S68))) 1 0 0)) = some (r1, r2, r3) := h
  clear h
  by_cases c2 : (a0.size : Int) > 65536
  · rw [if_pos c2] at H
    have c2b0 : decide (65536 < (a0.size : Int)) = true := decide_eq_true c2
    have c2b1 : decide (65536 < a0.size) = true := decide_eq_true (by omega)
    clear c2
    simp only [Option.some.injEq, Prod.mk.injEq] at H
    obtain ⟨rfl, rfl, rfl⟩ := H
    go_enter Tryd.func22, Tryd.ntmps22
    go_wp2
    go_ret3
    exact ⟨_, by first | rfl | (simp [errW_none, errW_some] <;> rfl) | (simp [*, errW_none, errW_some] <;> rfl), by first | exact Kd.R_nil _ _ _ _ _ | exact Kd.N_nil _ _ _ _ _ | exact Kd.V_nil _ _ _ _ _ | exact Kd.Q_nil _ _ _ _ _ | exact Kd.S_nil _ _ _ _ _, by repeat (first | (with_reducible first | exact HB.out | apply below_alloc | apply pw_below_drewN | apply below_drew1) | exact HB.out)⟩
  · rw [if_neg c2] at H
    have c2b0 : decide (65536 < (a0.size : Int)) = false := decide_eq_false c2
    have c2b1 : decide (65536 < a0.size) = false := decide_eq_false (by omega)
    clear c2
    obtain ⟨y116, hy116⟩ : ∃ y_ : List (S68), y_ = (([] : List (S68))) := ⟨_, rfl⟩
    replace H : (millwrightref02_Lex.l0 k a0 y116 1 0 0) = some (r1, r2, r3) := by first | (rw [hy116]; with_reducible exact H) | (have H2_ := (Option.bind_some _ _).symm.trans H; rw [hy116]; with_reducible exact H2_) | (have H2_ := (Option.bind_some _ _).symm.trans H; with_reducible exact H2_) | with_reducible exact H | (rw [hy116]; exact H) | exact H
    have Ny116 := Aside0.mk hy116
    clear hy116
    have H' := Aside0.mk H
    clear H
    go_enter Tryd.func22, Tryd.ntmps22
    go_wp2_with (first | ((with_reducible refine gate_dst (N := 14) rfl ?_); refine Kd.R_lit k68 _ 68 ?hg (N := 14) ?hd (xs := ([] : List (S68))) (inner := []) (ok := fun _ => True) (okp := fun _ => True) ?hr ?hp (fun _ hk => hk) trivial (Below.refl _ _) (Nat.le_refl _) (by simp) ?_; (case hd => rfl); (case hg => rfl); (case hr => first | (go_simp; done) | (go_simp; rfl)); (case hp => exact (Reps.none _ _)); intro v117 w3 ho4 hb hg_ hnew_; clear hg_ hnew_; (first | rw [← Ny116.out] at ho4 | (simp only [Int.reduceToNat] at ho4; rw [← Ny116.out] at ho4)); have n0_ := Aside0.mk (Kd.R_lower ho4 (below_size (by repeat (first | (with_reducible first | exact HB.out | apply below_alloc | apply pw_below_drewN | apply below_drew1) | exact HB.out)))); have n1_ := Aside0.mk (below_step (by repeat (first | (with_reducible first | exact HB.out | apply below_alloc | apply pw_below_drewN | apply below_drew1) | exact HB.out)) hb); clear HB; have HO118 := n0_; have HB := n1_; clear n0_ n1_; clear hb ho4))
    go_loopg [5, 6, 7, 8] k (fun kq v5 v6 v7 v8 w' => ∃ (x5_1 : List (S68)) (x6_1 : Int) (x7_1 : Int) (x8_1 : Int), v6 = .int .i64 x6_1 ∧ v7 = .int .i64 x7_1 ∧ v8 = .int .i64 x8_1 ∧ Aside0 (millwrightref02_Lex.l0 kq a0 x5_1 x6_1 x7_1 x8_1 = some (r1, r2, r3)) ∧ Aside0 (kq ≤ k) ∧ Aside0 (Kd.R k68 68 w' w.heap.size (fun _ => True) v5 x5_1) ∧ Aside0 (Below w.heap.size w w'))
    case atStart => exact ⟨(y116), (1), (0), (0), (by first | rfl | (simp; done) | (simp [*]; done)), (by first | rfl | (simp; done) | (simp [*]; done)), (by first | rfl | (simp; done) | (simp [*]; done)), H', ⟨Nat.le_refl _⟩, ⟨by (with_reducible repeat (first | apply Kd.R_alloc | apply Kd.R_drewN | apply Kd.R_drew)); exact HO118.out⟩, ⟨by repeat (first | (with_reducible first | exact HB.out | apply below_alloc | apply pw_below_drewN | apply below_drew1) | exact HB.out)⟩⟩
    case round =>
      clear H'
      try clear c2
      try clear c2b0
      try clear c2b1
      try clear p2
      obtain ⟨x5_1, x6_1, x7_1, x8_1, rfl, rfl, rfl, HA, HK1, HO_5, HB⟩ := hrel
      cases gk with
      | zero => exact absurd HA.out (by simp [millwrightref02_Lex.l0])
      | succ k1 =>
        have H := HA.out
        clear HA
        simp only [millwrightref02_Lex.l0] at H
        by_cases c5 : x8_1 ≤ (a0.size : Int)
        · rw [if_pos c5] at H
          have c5b0 : decide (x8_1 ≤ (a0.size : Int)) = true := decide_eq_true c5
          clear c5
          have HC6 := Aside0.mk H
          clear H
          go_upto_region 9 with (fail)
          go_cut [30] (fun v30 wc => ∃ (kq : Nat) (x30_5 : Bool), v30 = .bool x30_5 ∧ Aside0 (millwrightref02_Lex.j1 kq a0 x5_1 x6_1 x7_1 x8_1 x30_5 = some (r1, r2, r3)) ∧ Aside0 (kq ≤ k1) ∧ Aside0 (Kd.R k68 68 wc w.heap.size (fun _ => True) u5 x5_1) ∧ Aside0 (Below w.heap.size w wc))
          case first =>
            have H := HC6.out
            clear HC6
            by_cases c7 : x8_1 < (a0.size : Int)
            · rw [if_pos c7] at H
              have c7b0 : decide (x8_1 < (a0.size : Int)) = true := decide_eq_true c7
              clear c7
              (first | rw [c7b0] | (simp only [i64_w, i32_w]; rw [c7b0]) | skip)
              by_cases c8 : 0 ≤ x8_1
              · rw [if_pos c8] at H
                have c8b0 : decide (0 ≤ x8_1) = true := decide_eq_true c8
                clear c8
                have H' := Aside0.mk H
                clear H
                have p9 : 0 ≤ (x8_1 : Int) := of_decide_eq_true (by first | (with_reducible assumption) | assumption)
                have q9 : x8_1 < (a0.size : Int) := of_decide_eq_true (by first | (with_reducible assumption) | assumption)
                have hx9 := bt_at a0 x8_1
                replace p9 := eq_true p9
                replace q9 := eq_true q9
                go_wp2
                go_meet
                case rel => exact ⟨_, (((bt a0 x8_1) != 10)), (by first | rfl | (simp; done) | (simp [*]; done)), H', ⟨by have := HK1.out; first | omega | exact Nat.le_refl _⟩, ⟨by (with_reducible repeat (first | apply Kd.R_alloc | apply Kd.R_drewN | apply Kd.R_drew)); exact HO_5.out⟩, ⟨by repeat (first | (with_reducible first | exact HB.out | apply below_alloc | apply pw_below_drewN | apply below_drew1) | exact HB.out)⟩⟩
              · rw [if_neg c8] at H
                exact absurd H (by simp)
            · rw [if_neg c7] at H
              have c7b0 : decide (x8_1 < (a0.size : Int)) = false := decide_eq_false c7
              clear c7
              (first | rw [c7b0] | (simp only [i64_w, i32_w]; rw [c7b0]) | skip)
              have H' := Aside0.mk H
              clear H
              go_wp2
              go_meet
              case rel => exact ⟨_, (false), (by first | rfl | (simp; done) | (simp [*]; done)), H', ⟨by have := HK1.out; first | omega | exact Nat.le_refl _⟩, ⟨by (with_reducible repeat (first | apply Kd.R_alloc | apply Kd.R_drewN | apply Kd.R_drew)); exact HO_5.out⟩, ⟨by repeat (first | (with_reducible first | exact HB.out | apply below_alloc | apply pw_below_drewN | apply below_drew1) | exact HB.out)⟩⟩
          case rest =>
            clear HC6
            try clear c2
            try clear c2b0
            try clear c2b1
            try clear p2
            try clear c5
            try clear c5b0
            try clear c7
            try clear c7b0
            try clear c8
            try clear c8b0
            try clear p9
            try clear q9
            try clear hx9
            try clear p2
            try clear p9
            try clear q9
            obtain ⟨kq, x30_5, rfl, HA, HJ5, HO_5, HB⟩ := hcut
            cases kq with
            | zero => exact absurd HA.out (by simp [millwrightref02_Lex.j1])
            | succ kj5 =>
              have H := HA.out
              clear HA
              simp only [millwrightref02_Lex.j1] at H
              by_cases c10 : x30_5 = true
              · subst c10
                have H1 : (millwrightref02_Lex.l0 kj5 a0 x5_1 x6_1 x7_1 (wrap64 (x8_1 + 1))) = some (r1, r2, r3) := by rw [if_pos rfl] at H; exact H
                clear H
                have H := H1
                clear H1
                have H' := Aside0.mk H
                clear H
                go_wp2
                go_roundg kj5
                case measure => have := HK1.out; have := HJ5.out; omega
                case rel => exact ⟨(x5_1), (x6_1), (x7_1), (wrap64 (x8_1 + 1)), (by first | rfl | (simp; done) | (simp [*]; done)), (by first | rfl | (simp; done) | (simp [*]; done)), (by first | rfl | (simp; done) | (simp [*]; done)), H', ⟨by have := HK1.out; have := HJ5.out; omega⟩, ⟨by (with_reducible repeat (first | apply Kd.R_alloc | apply Kd.R_drewN | apply Kd.R_drew)); exact HO_5.out⟩, ⟨by repeat (first | (with_reducible first | exact HB.out | apply below_alloc | apply pw_below_drewN | apply below_drew1) | exact HB.out)⟩⟩
              · replace c10 := Bool.eq_false_iff.mpr c10
                subst c10
                have H1 : (if 0 ≤ x7_1 then (if x7_1 ≤ x8_1 then (if x8_1 ≤ (a0.size : Int) then ((millwrightref02_cut.f kj5 (a0.extract (x7_1 : Int).toNat (x8_1 : Int).toNat)).bind fun t119 => ((millwrightref02_row.f kj5 t119 x6_1).bind fun bt120 => (if bt120.2 = true then (if x5_1.length + bt120.1.length < 4398046511104 then (millwrightref02_Lex.l0 kj5 a0 (x5_1 ++ bt120.1) (wrap64 (x6_1 + 1)) (wrap64 (x8_1 + 1)) (wrap64 (x8_1 + 1))) else (none)) else (some (([] : List (S68)), x6_1, 2))))) else (none)) else (none)) else (none)) = some (r1, r2, r3) := by rw [if_neg (show ¬ (false = true) by decide)] at H; exact H
                clear H
                have H := H1
                clear H1
                by_cases c11 : 0 ≤ x7_1
                · rw [if_pos c11] at H
                  have c11b0 := eq_true c11
                  have c11b1 : decide (0 ≤ x7_1) = true := decide_eq_true c11
                  clear c11
                  by_cases c12 : x7_1 ≤ x8_1
                  · rw [if_pos c12] at H
                    have c12b0 := eq_true c12
                    have c12b1 : decide (x7_1 ≤ x8_1) = true := decide_eq_true c12
                    clear c12
                    by_cases c13 : x8_1 ≤ (a0.size : Int)
                    · rw [if_pos c13] at H
                      have c13b0 := eq_true c13
                      have c13b1 : decide (x8_1 ≤ (a0.size : Int)) = true := decide_eq_true c13
                      clear c13
                      replace H := Option.bind_eq_some_iff.mp H
                      obtain ⟨t119, A140, H⟩ := H
                      replace H : ((millwrightref02_row.f kj5 t119 x6_1).bind fun bt120 => (if bt120.2 = true then (if x5_1.length + bt120.1.length < 4398046511104 then (millwrightref02_Lex.l0 kj5 a0 (x5_1 ++ bt120.1) (wrap64 (x6_1 + 1)) (wrap64 (x8_1 + 1)) (wrap64 (x8_1 + 1))) else (none)) else (some (([] : List (S68)), x6_1, 2)))) = some (r1, r2, r3) := H
                      have A14 := Aside0.mk A140
                      clear A140
                      replace H := Option.bind_eq_some_iff.mp H
                      obtain ⟨⟨t120, t121⟩, A150, H⟩ := H
                      replace H : (if t121 = true then (if x5_1.length + t120.length < 4398046511104 then (millwrightref02_Lex.l0 kj5 a0 (x5_1 ++ t120) (wrap64 (x6_1 + 1)) (wrap64 (x8_1 + 1)) (wrap64 (x8_1 + 1))) else (none)) else (some (([] : List (S68)), x6_1, 2))) = some (r1, r2, r3) := H
                      have A15 := Aside0.mk A150
                      clear A150
                      by_cases c16 : t121 = true
                      · subst c16
                        have H1 : (if x5_1.length + t120.length < 4398046511104 then (millwrightref02_Lex.l0 kj5 a0 (x5_1 ++ t120) (wrap64 (x6_1 + 1)) (wrap64 (x8_1 + 1)) (wrap64 (x8_1 + 1))) else (none)) = some (r1, r2, r3) := by rw [if_pos rfl] at H; exact H
                        clear H
                        have H := H1
                        clear H1
                        by_cases c17 : x5_1.length + t120.length < 4398046511104
                        · rw [if_pos c17] at H
                          have LMc17 := Aside0.mk c17
                          clear c17
                          obtain ⟨y124, hy124⟩ : ∃ y_ : List (S68), y_ = (x5_1 ++ t120) := ⟨_, rfl⟩
                          replace H : (millwrightref02_Lex.l0 kj5 a0 y124 (wrap64 (x6_1 + 1)) (wrap64 (x8_1 + 1)) (wrap64 (x8_1 + 1))) = some (r1, r2, r3) := by first | (rw [hy124]; with_reducible exact H) | (have H2_ := (Option.bind_some _ _).symm.trans H; rw [hy124]; with_reducible exact H2_) | (have H2_ := (Option.bind_some _ _).symm.trans H; with_reducible exact H2_) | with_reducible exact H | (rw [hy124]; exact H) | exact H
                          have Ny124 := Aside0.mk hy124
                          clear hy124
                          have H' := Aside0.mk H
                          clear H
                          go_wp2_with (first | ((with_reducible refine gate_callee (f := 42) rfl ?_); refine goesL_ (some 36) rfl rfl Tryd.func42 (by kernel_rfl) rfl #[.string (a0.extract (x7_1 : Int).toNat (x8_1 : Int).toNat)] rfl (by (try simp only [List.map_toArray, List.map_cons, List.map_nil]); first | done | rfl | (simp only [List.length_drop, List.length_take]; rfl)) ?_; (with_reducible refine (millwrightref02_cut.calls kj5 (a0.extract (x7_1 : Int).toNat (x8_1 : Int).toNat) t119 _ A14.out).mono ?_); rintro e w' ⟨rfl, ⟨nd, rfl⟩⟩; refine ⟨_, rfl, ?_⟩) | ((with_reducible refine gate_callee (f := 41) rfl ?_); refine goesL_ (some 38) rfl rfl Tryd.func41 (by kernel_rfl) rfl #[.string t119, .int .i64 x6_1] rfl (by (try simp only [List.map_toArray, List.map_cons, List.map_nil]); first | done | rfl | (simp only [List.length_drop, List.length_take]; rfl)) ?_; (with_reducible refine (millwrightref02_row.calls kj5 t119 x6_1 t120 true _ A15.out).mono ?_); rintro e w18 ⟨v122, rfl, ho0, hb⟩; refine ⟨_, rfl, ?_⟩; have n0_ := Aside0.mk (Kd.R_elder' (by (with_reducible repeat (first | apply Kd.R_alloc | apply Kd.R_drewN | apply Kd.R_drew)); exact HO_5.out) (Kd.R_base ho0) hb); have n1_ := Aside0.mk (Kd.R_lower (Kd.R_new' ho0 (Kd.R_lt (by (with_reducible repeat (first | apply Kd.R_alloc | apply Kd.R_drewN | apply Kd.R_drew)); exact HO_5.out))) (below_size (by repeat (first | (with_reducible first | exact HB.out | apply below_alloc | apply pw_below_drewN | apply below_drew1) | exact HB.out)))); have n2_ := Aside0.mk (below_step (by repeat (first | (with_reducible first | exact HB.out | apply below_alloc | apply pw_below_drewN | apply below_drew1) | exact HB.out)) hb); clear HO_5; clear HB; have HO_5 := n0_; have HO123 := n1_; have HB := n2_; clear n0_ n1_ n2_; (try clear hb); (try clear hb2); (try clear hk); (try clear hi); (try clear ho0); obtain ⟨Ao20, co20, eo20⟩ := Kd.R_slice HO123.out; subst eo20) | ((with_reducible refine gate_builtin (b := .append) (xs := #[.tmp 44, .tmp 45]) rfl ?_); at_builtin; refine Kd.R_append_rows k68 (w0 := w) w.heap.size rfl (.tmp 44) (.tmp 45) 63 68 (.agg #[(.int .i64 0), (.string ⟨#[]⟩), (.int .i64 0)]) 32 rfl Tryd.underlying63 info68 rfl (by decide) (by omega) u5 x5_1 t120 _ _ _ (fun k_ => some k_ ≠ (.slice Ao20 t120.length co20 : Value).ownBlock) (fun _ => False) rfl rfl ?aO ?aR (fun _ _ h => h) (fun _ h => h.elim) ?aF ?aB ?aS ?aL ?_; (case aR => repeat (first | exact (Kd.R_reads' HO123.out).2.2 | (with_reducible refine Kd.C_alloc ?_ _) | (with_reducible refine Kd.C_drewN ?_ _) | (with_reducible refine Kd.C_drew ?_))); (case aB => exact (by repeat (first | (with_reducible first | exact HB.out | apply below_alloc | apply pw_below_drewN | apply below_drew1) | exact HB.out))); (case aF => exact (fun k_ hk => Kd.fresh' (Kd.R_lt (by (with_reducible repeat (first | apply Kd.R_alloc | apply Kd.R_drewN | apply Kd.R_drew)); exact HO123.out)) k_ hk)); (case aO => exact (by (with_reducible repeat (first | apply Kd.R_alloc | apply Kd.R_drewN | apply Kd.R_drew)); exact Kd.R_mono HO_5.out (fun _ hk => hk.2))); (case aS => exact (below_size (by repeat (first | (with_reducible first | exact HB.out | apply below_alloc | apply pw_below_drewN | apply below_drew1) | exact HB.out)))); (case aL => have := LMc17.out; omega); intro v125 w19 ho hb hg hat; rw [← Ny124.out] at ho; have n0_ := Aside0.mk (Kd.R_after (ok := (fun _ => True)) (by (with_reducible repeat (first | apply Kd.R_alloc | apply Kd.R_drewN | apply Kd.R_drew)); exact HO123.out) hg hat); have n1_ := Aside0.mk (hb); have n2_ := Aside0.mk (ho); clear HO123; clear HB; clear HO_5; have HO123 := n0_; have HB := n1_; have HO126 := n2_; clear n0_ n1_ n2_; clear ho hb hg hat))
                          go_roundg kj5
                          case measure => have := HK1.out; have := HJ5.out; omega
                          case rel => exact ⟨(y124), (wrap64 (x6_1 + 1)), (wrap64 (x8_1 + 1)), (wrap64 (x8_1 + 1)), (by first | rfl | (simp; done) | (simp [*]; done)), (by first | rfl | (simp; done) | (simp [*]; done)), (by first | rfl | (simp; done) | (simp [*]; done)), H', ⟨by have := HK1.out; have := HJ5.out; omega⟩, ⟨by (with_reducible repeat (first | apply Kd.R_alloc | apply Kd.R_drewN | apply Kd.R_drew)); exact Kd.R_mono HO126.out (fun _ hk => trivial)⟩, ⟨by repeat (first | (with_reducible first | exact HB.out | apply below_alloc | apply pw_below_drewN | apply below_drew1) | exact HB.out)⟩⟩
                        · rw [if_neg c17] at H
                          exact absurd H (by simp)
                      · replace c16 := Bool.eq_false_iff.mpr c16
                        subst c16
                        have H1 : (some (([] : List (S68)), x6_1, 2)) = some (r1, r2, r3) := by rw [if_neg (show ¬ (false = true) by decide)] at H; exact H
                        clear H
                        have H := H1
                        clear H1
                        simp only [Option.some.injEq, Prod.mk.injEq] at H
                        obtain ⟨rfl, rfl, rfl⟩ := H
                        go_wp2_with (first | ((with_reducible refine gate_callee (f := 42) rfl ?_); refine goesL_ (some 36) rfl rfl Tryd.func42 (by kernel_rfl) rfl #[.string (a0.extract (x7_1 : Int).toNat (x8_1 : Int).toNat)] rfl (by (try simp only [List.map_toArray, List.map_cons, List.map_nil]); first | done | rfl | (simp only [List.length_drop, List.length_take]; rfl)) ?_; (with_reducible refine (millwrightref02_cut.calls kj5 (a0.extract (x7_1 : Int).toNat (x8_1 : Int).toNat) t119 _ A14.out).mono ?_); rintro e w' ⟨rfl, ⟨nd, rfl⟩⟩; refine ⟨_, rfl, ?_⟩) | ((with_reducible refine gate_callee (f := 41) rfl ?_); refine goesL_ (some 38) rfl rfl Tryd.func41 (by kernel_rfl) rfl #[.string t119, .int .i64 x6_1] rfl (by (try simp only [List.map_toArray, List.map_cons, List.map_nil]); first | done | rfl | (simp only [List.length_drop, List.length_take]; rfl)) ?_; (with_reducible refine (millwrightref02_row.calls kj5 t119 x6_1 t120 false _ A15.out).mono ?_); rintro e w21 ⟨v122, rfl, ho0, hb⟩; refine ⟨_, rfl, ?_⟩; have n0_ := Aside0.mk (Kd.R_elder' (by (with_reducible repeat (first | apply Kd.R_alloc | apply Kd.R_drewN | apply Kd.R_drew)); exact HO_5.out) (Kd.R_base ho0) hb); have n1_ := Aside0.mk (Kd.R_lower (Kd.R_new' ho0 (Kd.R_lt (by (with_reducible repeat (first | apply Kd.R_alloc | apply Kd.R_drewN | apply Kd.R_drew)); exact HO_5.out))) (below_size (by repeat (first | (with_reducible first | exact HB.out | apply below_alloc | apply pw_below_drewN | apply below_drew1) | exact HB.out)))); have n2_ := Aside0.mk (below_step (by repeat (first | (with_reducible first | exact HB.out | apply below_alloc | apply pw_below_drewN | apply below_drew1) | exact HB.out)) hb); clear HO_5; clear HB; have HO_5 := n0_; have HO123 := n1_; have HB := n2_; clear n0_ n1_ n2_; (try clear hb); (try clear hb2); (try clear hk); (try clear hi); (try clear ho0)))
                        go_ret3
                        exact ⟨_, by first | rfl | (simp [errW_none, errW_some] <;> rfl) | (simp [*, errW_none, errW_some] <;> rfl), by first | exact Kd.R_nil _ _ _ _ _ | exact Kd.N_nil _ _ _ _ _ | exact Kd.V_nil _ _ _ _ _ | exact Kd.Q_nil _ _ _ _ _ | exact Kd.S_nil _ _ _ _ _, by repeat (first | (with_reducible first | exact HB.out | apply below_alloc | apply pw_below_drewN | apply below_drew1) | exact HB.out)⟩
                    · rw [if_neg c13] at H
                      exact absurd H (by simp)
                  · rw [if_neg c12] at H
                    exact absurd H (by simp)
                · rw [if_neg c11] at H
                  exact absurd H (by simp)
        · rw [if_neg c5] at H
          have c5b0 : decide (x8_1 ≤ (a0.size : Int)) = false := decide_eq_false c5
          clear c5
          simp only [Option.some.injEq, Prod.mk.injEq] at H
          obtain ⟨rfl, rfl, rfl⟩ := H
          go_wp2
          go_ret3
          exact ⟨_, by first | rfl | (simp [errW_none, errW_some] <;> rfl) | (simp [*, errW_none, errW_some] <;> rfl), by (with_reducible repeat (first | apply Kd.R_alloc | apply Kd.R_drewN | apply Kd.R_drew)); exact HO_5.out, by repeat (first | (with_reducible first | exact HB.out | apply below_alloc | apply pw_below_drewN | apply below_drew1) | exact HB.out)⟩

/-! ### millwrightref03_Name: function 30 -/
def millwrightref03_Name.f (a0 : Int) : Option (ByteArray) := (some (([(⟨#[98, 117, 100, 103, 101, 116]⟩ : ByteArray), (⟨#[115, 108, 111, 116, 115]⟩ : ByteArray), (⟨#[97, 99, 116, 105, 118, 101]⟩ : ByteArray), (⟨#[113, 117, 101, 117, 101]⟩ : ByteArray), (⟨#[116, 114, 105, 101, 115]⟩ : ByteArray), (⟨#[112, 114, 101, 101, 109, 112, 116, 115]⟩ : ByteArray), (⟨#[116, 105, 109, 101, 111, 117, 116]⟩ : ByteArray), (⟨#[98, 97, 99, 107, 111, 102, 102]⟩ : ByteArray), (⟨#[109, 111, 115, 116]⟩ : ByteArray), (⟨#[113, 117, 97, 110, 116, 117, 109]⟩ : ByteArray)] : List ByteArray) : List ByteArray)).bind fun y127 => (if 0 ≤ a0 then (if a0 < (y127.length : Int) then (some (rdOf ByteArray.empty y127 a0)) else (none)) else (none))
set_option maxHeartbeats 8000000 in
set_option maxRecDepth 100000 in
theorem millwrightref03_Name.calls (a0 : Int) (r : ByteArray) (w : World) (h : millwrightref03_Name.f a0 = some r) :
    Calls Tryd.prog 30 #[.int .i64 a0] w fun e w' => e = .returned (.string r) ∧ Below w.heap.size w w' := by
  have HB := Aside0.mk (Below.refl w.heap.size w)
  have H : ((some (([(⟨#[98, 117, 100, 103, 101, 116]⟩ : ByteArray), (⟨#[115, 108, 111, 116, 115]⟩ : ByteArray), (⟨#[97, 99, 116, 105, 118, 101]⟩ : ByteArray), (⟨#[113, 117, 101, 117, 101]⟩ : ByteArray), (⟨#[116, 114, 105, 101, 115]⟩ : ByteArray), (⟨#[112, 114, 101, 101, 109, 112, 116, 115]⟩ : ByteArray), (⟨#[116, 105, 109, 101, 111, 117, 116]⟩ : ByteArray), (⟨#[98, 97, 99, 107, 111, 102, 102]⟩ : ByteArray), (⟨#[109, 111, 115, 116]⟩ : ByteArray), (⟨#[113, 117, 97, 110, 116, 117, 109]⟩ : ByteArray)] : List ByteArray) : List ByteArray)).bind fun y127 => (if 0 ≤ a0 then (if a0 < (y127.length : Int) then (some (rdOf ByteArray.empty y127 a0)) else (none)) else (none))) = some r := h
  clear h
  obtain ⟨y127, hy127⟩ : ∃ y_ : List ByteArray, y_ = (([(⟨#[98, 117, 100, 103, 101, 116]⟩ : ByteArray), (⟨#[115, 108, 111, 116, 115]⟩ : ByteArray), (⟨#[97, 99, 116, 105, 118, 101]⟩ : ByteArray), (⟨#[113, 117, 101, 117, 101]⟩ : ByteArray), (⟨#[116, 114, 105, 101, 115]⟩ : ByteArray), (⟨#[112, 114, 101, 101, 109, 112, 116, 115]⟩ : ByteArray), (⟨#[116, 105, 109, 101, 111, 117, 116]⟩ : ByteArray), (⟨#[98, 97, 99, 107, 111, 102, 102]⟩ : ByteArray), (⟨#[109, 111, 115, 116]⟩ : ByteArray), (⟨#[113, 117, 97, 110, 116, 117, 109]⟩ : ByteArray)] : List ByteArray)) := ⟨_, rfl⟩
  replace H : (if 0 ≤ a0 then (if a0 < (y127.length : Int) then (some (rdOf ByteArray.empty y127 a0)) else (none)) else (none)) = some r := by first | (rw [hy127]; with_reducible exact H) | (have H2_ := (Option.bind_some _ _).symm.trans H; rw [hy127]; with_reducible exact H2_) | (have H2_ := (Option.bind_some _ _).symm.trans H; with_reducible exact H2_) | with_reducible exact H | (rw [hy127]; exact H) | exact H
  have Ny127 := Aside0.mk hy127
  clear hy127
  by_cases c2 : 0 ≤ a0
  · rw [if_pos c2] at H
    have c2b0 : decide (0 ≤ a0) = true := decide_eq_true c2
    clear c2
    by_cases c3 : a0 < (y127.length : Int)
    · rw [if_pos c3] at H
      have c3b0 : decide (a0 < (y127.length : Int)) = true := decide_eq_true c3
      clear c3
      obtain rfl := Option.some.inj H
      go_enter Tryd.func30, Tryd.ntmps30
      go_wp2_with (first | ((with_reducible refine gate_dst (N := 4) rfl ?_); refine Kd.R_lit Kd.string _ 9 ?hg (N := 4) ?hd (xs := ([(⟨#[98, 117, 100, 103, 101, 116]⟩ : ByteArray), (⟨#[115, 108, 111, 116, 115]⟩ : ByteArray), (⟨#[97, 99, 116, 105, 118, 101]⟩ : ByteArray), (⟨#[113, 117, 101, 117, 101]⟩ : ByteArray), (⟨#[116, 114, 105, 101, 115]⟩ : ByteArray), (⟨#[112, 114, 101, 101, 109, 112, 116, 115]⟩ : ByteArray), (⟨#[116, 105, 109, 101, 111, 117, 116]⟩ : ByteArray), (⟨#[98, 97, 99, 107, 111, 102, 102]⟩ : ByteArray), (⟨#[109, 111, 115, 116]⟩ : ByteArray), (⟨#[113, 117, 97, 110, 116, 117, 109]⟩ : ByteArray)] : List ByteArray)) (inner := [.string (⟨#[98, 117, 100, 103, 101, 116]⟩ : ByteArray), .string (⟨#[115, 108, 111, 116, 115]⟩ : ByteArray), .string (⟨#[97, 99, 116, 105, 118, 101]⟩ : ByteArray), .string (⟨#[113, 117, 101, 117, 101]⟩ : ByteArray), .string (⟨#[116, 114, 105, 101, 115]⟩ : ByteArray), .string (⟨#[112, 114, 101, 101, 109, 112, 116, 115]⟩ : ByteArray), .string (⟨#[116, 105, 109, 101, 111, 117, 116]⟩ : ByteArray), .string (⟨#[98, 97, 99, 107, 111, 102, 102]⟩ : ByteArray), .string (⟨#[109, 111, 115, 116]⟩ : ByteArray), .string (⟨#[113, 117, 97, 110, 116, 117, 109]⟩ : ByteArray)]) (ok := fun _ => True) (okp := fun _ => True) ?hr ?hp (fun _ hk => hk) trivial (Below.refl _ _) (Nat.le_refl _) (by simp) ?_; (case hd => rfl); (case hg => rfl); (case hr => first | (go_simp; done) | (go_simp; rfl)); (case hp => exact (Reps.one (show Kd.M Kd.string _ _ _ (⟨#[98, 117, 100, 103, 101, 116]⟩ : ByteArray) [.string (⟨#[98, 117, 100, 103, 101, 116]⟩ : ByteArray)] from rfl) (Reps.one (show Kd.M Kd.string _ _ _ (⟨#[115, 108, 111, 116, 115]⟩ : ByteArray) [.string (⟨#[115, 108, 111, 116, 115]⟩ : ByteArray)] from rfl) (Reps.one (show Kd.M Kd.string _ _ _ (⟨#[97, 99, 116, 105, 118, 101]⟩ : ByteArray) [.string (⟨#[97, 99, 116, 105, 118, 101]⟩ : ByteArray)] from rfl) (Reps.one (show Kd.M Kd.string _ _ _ (⟨#[113, 117, 101, 117, 101]⟩ : ByteArray) [.string (⟨#[113, 117, 101, 117, 101]⟩ : ByteArray)] from rfl) (Reps.one (show Kd.M Kd.string _ _ _ (⟨#[116, 114, 105, 101, 115]⟩ : ByteArray) [.string (⟨#[116, 114, 105, 101, 115]⟩ : ByteArray)] from rfl) (Reps.one (show Kd.M Kd.string _ _ _ (⟨#[112, 114, 101, 101, 109, 112, 116, 115]⟩ : ByteArray) [.string (⟨#[112, 114, 101, 101, 109, 112, 116, 115]⟩ : ByteArray)] from rfl) (Reps.one (show Kd.M Kd.string _ _ _ (⟨#[116, 105, 109, 101, 111, 117, 116]⟩ : ByteArray) [.string (⟨#[116, 105, 109, 101, 111, 117, 116]⟩ : ByteArray)] from rfl) (Reps.one (show Kd.M Kd.string _ _ _ (⟨#[98, 97, 99, 107, 111, 102, 102]⟩ : ByteArray) [.string (⟨#[98, 97, 99, 107, 111, 102, 102]⟩ : ByteArray)] from rfl) (Reps.one (show Kd.M Kd.string _ _ _ (⟨#[109, 111, 115, 116]⟩ : ByteArray) [.string (⟨#[109, 111, 115, 116]⟩ : ByteArray)] from rfl) (Reps.one (show Kd.M Kd.string _ _ _ (⟨#[113, 117, 97, 110, 116, 117, 109]⟩ : ByteArray) [.string (⟨#[113, 117, 97, 110, 116, 117, 109]⟩ : ByteArray)] from rfl) (Reps.none _ _)))))))))))); intro v128 w4 ho5 hb hg_ hnew_; clear hg_ hnew_; (first | rw [← Ny127.out] at ho5 | (simp only [Int.reduceToNat] at ho5; rw [← Ny127.out] at ho5)); have n0_ := Aside0.mk (Kd.R_lower ho5 (below_size (by repeat (first | (with_reducible first | exact HB.out | apply below_alloc | apply pw_below_drewN | apply below_drew1) | exact HB.out)))); have n1_ := Aside0.mk (below_step (by repeat (first | (with_reducible first | exact HB.out | apply below_alloc | apply pw_below_drewN | apply below_drew1) | exact HB.out)) hb); clear HB; have HO129 := n0_; have HB := n1_; clear n0_ n1_; clear hb ho5; obtain ⟨Ao6, co6, eo6⟩ := Kd.R_slice HO129.out; subst eo6; have p130 : 0 ≤ (a0 : Int) := of_decide_eq_true (by first | (with_reducible assumption) | assumption); have q130 : a0 < (y127.length : Int) := of_decide_eq_true (by first | (with_reducible assumption) | assumption); obtain ⟨ad130, e130, hx130_0⟩ := Kd.at_string (Kd.R_reads' HO129.out).2.2 a0 p130 q130; cases e130; replace p130 := eq_true p130; replace q130 := eq_true q130))
      go_ret
      exact ⟨by first | rfl | (simp [errW_none, errW_some] <;> rfl) | (simp [*, errW_none, errW_some] <;> rfl), by repeat (first | (with_reducible first | exact HB.out | apply below_alloc | apply pw_below_drewN | apply below_drew1) | exact HB.out)⟩
    · rw [if_neg c3] at H
      exact absurd H (by simp)
  · rw [if_neg c2] at H
    exact absurd H (by simp)

/-! ### millwrightref03_form: function 43 -/
def millwrightref03_form.l0 : Nat → List ByteArray → Int → Option (List ByteArray)
  | 0, _, _ => none
  | k + 1, x5, x6 => if x6 < 10 then ((millwrightref03_Name.f x6).bind fun t134 => ((some (([t134, (⟨#[78]⟩ : ByteArray)] : List ByteArray) : List ByteArray)).bind fun y135 => (if x5.length + y135.length < 8796093022208 then (millwrightref03_form.l0 k (x5 ++ y135) (wrap64 (x6 + 1))) else (none)))) else (some x5)
def millwrightref03_form.f (k : Nat) (a0 : ByteArray) (a1 : ByteArray) : Option (List ByteArray) := if a0.toList = ([99, 111, 110, 102, 105, 103] : List UInt8) then (millwrightref03_form.l0 k (([(⟨#[99, 111, 110, 102, 105, 103]⟩ : ByteArray)] : List ByteArray)) 0) else (if a0.toList = ([116, 97, 115, 107] : List UInt8) then (some (([(⟨#[116, 97, 115, 107]⟩ : ByteArray), (⟨#[78]⟩ : ByteArray), (⟨#[78]⟩ : ByteArray)] : List ByteArray))) else (if a0.toList = ([115, 117, 98, 109, 105, 116] : List UInt8) then (some (([(⟨#[115, 117, 98, 109, 105, 116]⟩ : ByteArray), (⟨#[78]⟩ : ByteArray), (⟨#[78]⟩ : ByteArray), (⟨#[78]⟩ : ByteArray)] : List ByteArray))) else (if a0.toList = ([99, 97, 110, 99, 101, 108] : List UInt8) then (some (([(⟨#[99, 97, 110, 99, 101, 108]⟩ : ByteArray), (⟨#[78]⟩ : ByteArray)] : List ByteArray))) else (if a0.toList = ([113, 117, 101, 114, 121] : List UInt8) then (some (([(⟨#[113, 117, 101, 114, 121]⟩ : ByteArray), (⟨#[78]⟩ : ByteArray)] : List ByteArray))) else (if a0.toList = ([116, 105, 99, 107] : List UInt8) then (some (([(⟨#[116, 105, 99, 107]⟩ : ByteArray)] : List ByteArray))) else (if a0.toList = ([100, 105, 115, 112, 97, 116, 99, 104] : List UInt8) then (some (([(⟨#[100, 105, 115, 112, 97, 116, 99, 104]⟩ : ByteArray)] : List ByteArray))) else (if a0.toList = ([97, 110, 115, 119, 101, 114] : List UInt8) then (if a1.toList = ([110, 101, 101, 100] : List UInt8) then (some (([(⟨#[97, 110, 115, 119, 101, 114]⟩ : ByteArray), (⟨#[78]⟩ : ByteArray), (⟨#[78]⟩ : ByteArray), (⟨#[110, 101, 101, 100]⟩ : ByteArray), (⟨#[78]⟩ : ByteArray)] : List ByteArray))) else (if a1.toList = ([102, 97, 105, 108] : List UInt8) then (some (([(⟨#[97, 110, 115, 119, 101, 114]⟩ : ByteArray), (⟨#[78]⟩ : ByteArray), (⟨#[78]⟩ : ByteArray), (⟨#[102, 97, 105, 108]⟩ : ByteArray)] : List ByteArray))) else (some (([(⟨#[97, 110, 115, 119, 101, 114]⟩ : ByteArray), (⟨#[78]⟩ : ByteArray), (⟨#[78]⟩ : ByteArray), (⟨#[100, 105, 100]⟩ : ByteArray)] : List ByteArray))))) else (some ([] : List ByteArray)))))))))
theorem millwrightref03_form.mono_l : ∀ k, (∀ y0 y1, LeO (millwrightref03_form.l0 k y0 y1) (millwrightref03_form.l0 (k + 1) y0 y1))
  | 0 => fun _ _ r h => by simp [millwrightref03_form.l0] at h
  | k + 1 => by
    have ih0 := millwrightref03_form.mono_l k
    · intro y0 y1
      unfold millwrightref03_form.l0
      repeat' first
      | (with_reducible exact ih0 _ _)
      | (with_reducible exact LeO.refl _)
      | (with_reducible exact LeO.none _)
      | (with_reducible refine LeO.ite ?_ ?_)
      | (with_reducible refine LeO.bind ?_ (fun _ => ?_))
      | exact ih0 _ _
      | exact LeO.none _
      | refine LeO.ite ?_ ?_
      | refine LeO.bind ?_ (fun _ => ?_)
theorem millwrightref03_form.mono : ∀ a0 a1 k, LeO (millwrightref03_form.f k a0 a1) (millwrightref03_form.f (k + 1) a0 a1) := by
  intro a0 a1 k
  have ih0 := millwrightref03_form.mono_l k
  unfold millwrightref03_form.f
  repeat' first
      | (with_reducible exact ih0 _ _)
      | (with_reducible exact LeO.refl _)
      | (with_reducible exact LeO.none _)
      | (with_reducible refine LeO.ite ?_ ?_)
      | (with_reducible refine LeO.bind ?_ (fun _ => ?_))
      | exact ih0 _ _
      | exact LeO.none _
      | refine LeO.ite ?_ ?_
      | refine LeO.bind ?_ (fun _ => ?_)
set_option maxHeartbeats 8000000 in
set_option maxRecDepth 100000 in
theorem millwrightref03_form.calls (k : Nat) (a0 : ByteArray) (a1 : ByteArray) (r : List ByteArray) (w : World) (h : millwrightref03_form.f k a0 a1 = some r) :
    Calls Tryd.prog 43 #[.string a0, .string a1] w fun e w' => ∃ v0_ : Value, e = .returned (v0_) ∧ Kd.R Kd.string 9 w' w.heap.size (fun _ => True) v0_ r ∧ Below w.heap.size w w' := by
  have HB := Aside0.mk (Below.refl w.heap.size w)
  have H : (if a0.toList = ([99, 111, 110, 102, 105, 103] : List UInt8) then (millwrightref03_form.l0 k (([(⟨#[99, 111, 110, 102, 105, 103]⟩ : ByteArray)] : List ByteArray)) 0) else (if a0.toList = ([116, 97, 115, 107] : List UInt8) then (some (([(⟨#[116, 97, 115, 107]⟩ : ByteArray), (⟨#[78]⟩ : ByteArray), (⟨#[78]⟩ : ByteArray)] : List ByteArray))) else (if a0.toList = ([115, 117, 98, 109, 105, 116] : List UInt8) then (some (([(⟨#[115, 117, 98, 109, 105, 116]⟩ : ByteArray), (⟨#[78]⟩ : ByteArray), (⟨#[78]⟩ : ByteArray), (⟨#[78]⟩ : ByteArray)] : List ByteArray))) else (if a0.toList = ([99, 97, 110, 99, 101, 108] : List UInt8) then (some (([(⟨#[99, 97, 110, 99, 101, 108]⟩ : ByteArray), (⟨#[78]⟩ : ByteArray)] : List ByteArray))) else (if a0.toList = ([113, 117, 101, 114, 121] : List UInt8) then (some (([(⟨#[113, 117, 101, 114, 121]⟩ : ByteArray), (⟨#[78]⟩ : ByteArray)] : List ByteArray))) else (if a0.toList = ([116, 105, 99, 107] : List UInt8) then (some (([(⟨#[116, 105, 99, 107]⟩ : ByteArray)] : List ByteArray))) else (if a0.toList = ([100, 105, 115, 112, 97, 116, 99, 104] : List UInt8) then (some (([(⟨#[100, 105, 115, 112, 97, 116, 99, 104]⟩ : ByteArray)] : List ByteArray))) else (if a0.toList = ([97, 110, 115, 119, 101, 114] : List UInt8) then (if a1.toList = ([110, 101, 101, 100] : List UInt8) then (some (([(⟨#[97, 110, 115, 119, 101, 114]⟩ : ByteArray), (⟨#[78]⟩ : ByteArray), (⟨#[78]⟩ : ByteArray), (⟨#[110, 101, 101, 100]⟩ : ByteArray), (⟨#[78]⟩ : ByteArray)] : List ByteArray))) else (if a1.toList = ([102, 97, 105, 108] : List UInt8) then (some (([(⟨#[97, 110, 115, 119, 101, 114]⟩ : ByteArray), (⟨#[78]⟩ : ByteArray), (⟨#[78]⟩ : ByteArray), (⟨#[102, 97, 105, 108]⟩ : ByteArray)] : List ByteArray))) else (some (([(⟨#[97, 110, 115, 119, 101, 114]⟩ : ByteArray), (⟨#[78]⟩ : ByteArray), (⟨#[78]⟩ : ByteArray), (⟨#[100, 105, 100]⟩ : ByteArray)] : List ByteArray))))) else (some ([] : List ByteArray)))))))))) = some r := h
  clear h
  by_cases c3 : a0.toList = ([99, 111, 110, 102, 105, 103] : List UInt8)
  · rw [if_pos c3] at H
    have c3b0 : (a0.toList == ([99, 111, 110, 102, 105, 103] : List UInt8)) = true := beq_iff_eq.mpr c3
    have c3b1 : (a0.toList != ([99, 111, 110, 102, 105, 103] : List UInt8)) = false := bne_eq_false_iff_eq.mpr c3
    clear c3
    obtain ⟨y131, hy131⟩ : ∃ y_ : List ByteArray, y_ = (([(⟨#[99, 111, 110, 102, 105, 103]⟩ : ByteArray)] : List ByteArray)) := ⟨_, rfl⟩
    replace H : (millwrightref03_form.l0 k y131 0) = some r := by first | (rw [hy131]; with_reducible exact H) | (have H2_ := (Option.bind_some _ _).symm.trans H; rw [hy131]; with_reducible exact H2_) | (have H2_ := (Option.bind_some _ _).symm.trans H; with_reducible exact H2_) | with_reducible exact H | (rw [hy131]; exact H) | exact H
    have Ny131 := Aside0.mk hy131
    clear hy131
    have H' := Aside0.mk H
    clear H
    go_enter Tryd.func43, Tryd.ntmps43
    go_wp2_with (first | ((with_reducible refine gate_dst (N := 10) rfl ?_); refine Kd.R_lit Kd.string _ 9 ?hg (N := 10) ?hd (xs := ([(⟨#[99, 111, 110, 102, 105, 103]⟩ : ByteArray)] : List ByteArray)) (inner := [.string (⟨#[99, 111, 110, 102, 105, 103]⟩ : ByteArray)]) (ok := fun _ => True) (okp := fun _ => True) ?hr ?hp (fun _ hk => hk) trivial (Below.refl _ _) (Nat.le_refl _) (by simp) ?_; (case hd => rfl); (case hg => rfl); (case hr => first | (go_simp; done) | (go_simp; rfl)); (case hp => exact (Reps.one (show Kd.M Kd.string _ _ _ (⟨#[99, 111, 110, 102, 105, 103]⟩ : ByteArray) [.string (⟨#[99, 111, 110, 102, 105, 103]⟩ : ByteArray)] from rfl) (Reps.none _ _))); intro v132 w4 ho5 hb hg_ hnew_; clear hg_ hnew_; (first | rw [← Ny131.out] at ho5 | (simp only [Int.reduceToNat] at ho5; rw [← Ny131.out] at ho5)); have n0_ := Aside0.mk (Kd.R_lower ho5 (below_size (by repeat (first | (with_reducible first | exact HB.out | apply below_alloc | apply pw_below_drewN | apply below_drew1) | exact HB.out)))); have n1_ := Aside0.mk (below_step (by repeat (first | (with_reducible first | exact HB.out | apply below_alloc | apply pw_below_drewN | apply below_drew1) | exact HB.out)) hb); clear HB; have HO133 := n0_; have HB := n1_; clear n0_ n1_; clear hb ho5))
    go_loopg [5, 6] k (fun kq v5 v6 w' => ∃ (x5_1 : List ByteArray) (x6_1 : Int), v6 = .int .i64 x6_1 ∧ Aside0 (millwrightref03_form.l0 kq x5_1 x6_1 = some r) ∧ Aside0 (kq ≤ k) ∧ Aside0 (Kd.R Kd.string 9 w' w.heap.size (fun _ => True) v5 x5_1) ∧ Aside0 (Below w.heap.size w w'))
    case atStart => exact ⟨(y131), (0), (by first | rfl | (simp; done) | (simp [*]; done)), H', ⟨Nat.le_refl _⟩, ⟨by (with_reducible repeat (first | apply Kd.R_alloc | apply Kd.R_drewN | apply Kd.R_drew)); exact HO133.out⟩, ⟨by repeat (first | (with_reducible first | exact HB.out | apply below_alloc | apply pw_below_drewN | apply below_drew1) | exact HB.out)⟩⟩
    case round =>
      clear H'
      try clear p2
      try clear c3
      try clear c3b0
      try clear c3b1
      try clear c4
      obtain ⟨x5_1, x6_1, rfl, HA, HK1, HO_5, HB⟩ := hrel
      cases gk with
      | zero => exact absurd HA.out (by simp [millwrightref03_form.l0])
      | succ k1 =>
        have H := HA.out
        clear HA
        simp only [millwrightref03_form.l0] at H
        by_cases c6 : x6_1 < 10
        · rw [if_pos c6] at H
          have c6b0 : decide (x6_1 < 10) = true := decide_eq_true c6
          clear c6
          replace H := Option.bind_eq_some_iff.mp H
          obtain ⟨t134, A70, H⟩ := H
          replace H : ((some (([t134, (⟨#[78]⟩ : ByteArray)] : List ByteArray) : List ByteArray)).bind fun y135 => (if x5_1.length + y135.length < 8796093022208 then (millwrightref03_form.l0 k1 (x5_1 ++ y135) (wrap64 (x6_1 + 1))) else (none))) = some r := H
          have A7 := Aside0.mk A70
          clear A70
          obtain ⟨y135, hy135⟩ : ∃ y_ : List ByteArray, y_ = (([t134, (⟨#[78]⟩ : ByteArray)] : List ByteArray)) := ⟨_, rfl⟩
          replace H : (if x5_1.length + y135.length < 8796093022208 then (millwrightref03_form.l0 k1 (x5_1 ++ y135) (wrap64 (x6_1 + 1))) else (none)) = some r := by first | (rw [hy135]; with_reducible exact H) | (have H2_ := (Option.bind_some _ _).symm.trans H; rw [hy135]; with_reducible exact H2_) | (have H2_ := (Option.bind_some _ _).symm.trans H; with_reducible exact H2_) | with_reducible exact H | (rw [hy135]; exact H) | exact H
          have Ny135 := Aside0.mk hy135
          clear hy135
          by_cases c8 : x5_1.length + y135.length < 8796093022208
          · rw [if_pos c8] at H
            have LMc8 := Aside0.mk c8
            clear c8
            obtain ⟨y138, hy138⟩ : ∃ y_ : List ByteArray, y_ = (x5_1 ++ y135) := ⟨_, rfl⟩
            replace H : (millwrightref03_form.l0 k1 y138 (wrap64 (x6_1 + 1))) = some r := by first | (rw [hy138]; with_reducible exact H) | (have H2_ := (Option.bind_some _ _).symm.trans H; rw [hy138]; with_reducible exact H2_) | (have H2_ := (Option.bind_some _ _).symm.trans H; with_reducible exact H2_) | with_reducible exact H | (rw [hy138]; exact H) | exact H
            have Ny138 := Aside0.mk hy138
            clear hy138
            have H' := Aside0.mk H
            clear H
            go_wp2_with (first | ((with_reducible refine gate_callee (f := 30) rfl ?_); refine goesL_ (some 17) rfl rfl Tryd.func30 (by kernel_rfl) rfl #[.int .i64 x6_1] rfl (by (try simp only [List.map_toArray, List.map_cons, List.map_nil]); first | done | rfl | (simp only [List.length_drop, List.length_take]; rfl)) ?_; (with_reducible refine (millwrightref03_Name.calls x6_1 t134 _ A7.out).mono ?_); rintro e w9 ⟨rfl, hb⟩; refine ⟨_, rfl, ?_⟩; have n0_ := Aside0.mk (Kd.R_below (by (with_reducible repeat (first | apply Kd.R_alloc | apply Kd.R_drewN | apply Kd.R_drew)); exact HO_5.out) hb); have n1_ := Aside0.mk (below_step (by repeat (first | (with_reducible first | exact HB.out | apply below_alloc | apply pw_below_drewN | apply below_drew1) | exact HB.out)) hb); clear HO_5; clear HB; have HO_5 := n0_; have HB := n1_; clear n0_ n1_; (try clear hb); (try clear hb2); (try clear hk); (try clear hi)) | ((with_reducible refine gate_dst (N := 18) rfl ?_); refine Kd.R_lit Kd.string _ 9 ?hg (N := 18) ?hd (xs := ([t134, (⟨#[78]⟩ : ByteArray)] : List ByteArray)) (inner := [.string t134, .string (⟨#[78]⟩ : ByteArray)]) (ok := fun _ => True) (okp := fun _ => True) ?hr ?hp (fun _ hk => hk) trivial (Below.refl _ _) (Nat.le_refl _) (by simp) ?_; (case hd => rfl); (case hg => rfl); (case hr => first | (go_simp; done) | (go_simp; rfl)); (case hp => exact (Reps.one (show Kd.M Kd.string _ _ _ t134 [.string t134] from rfl) (Reps.one (show Kd.M Kd.string _ _ _ (⟨#[78]⟩ : ByteArray) [.string (⟨#[78]⟩ : ByteArray)] from rfl) (Reps.none _ _)))); intro v136 w10 ho11 hb hg_ hnew_; clear hg_ hnew_; (first | rw [← Ny135.out] at ho11 | (simp only [Int.reduceToNat] at ho11; rw [← Ny135.out] at ho11)); have n0_ := Aside0.mk (Kd.R_elder' (by (with_reducible repeat (first | apply Kd.R_alloc | apply Kd.R_drewN | apply Kd.R_drew)); exact HO_5.out) (Kd.R_base ho11) hb); have n1_ := Aside0.mk (Kd.R_lower (Kd.R_new' ho11 (Kd.R_lt (by (with_reducible repeat (first | apply Kd.R_alloc | apply Kd.R_drewN | apply Kd.R_drew)); exact HO_5.out))) (below_size (by repeat (first | (with_reducible first | exact HB.out | apply below_alloc | apply pw_below_drewN | apply below_drew1) | exact HB.out)))); have n2_ := Aside0.mk (below_step (by repeat (first | (with_reducible first | exact HB.out | apply below_alloc | apply pw_below_drewN | apply below_drew1) | exact HB.out)) hb); clear HO_5; clear HB; have HO_5 := n0_; have HO137 := n1_; have HB := n2_; clear n0_ n1_ n2_; clear hb ho11; obtain ⟨Ao13, co13, eo13⟩ := Kd.R_slice HO137.out; subst eo13) | ((with_reducible refine gate_builtin (b := .append) (xs := #[.tmp 15, .tmp 18]) rfl ?_); at_builtin; refine Kd.R_append_rows Kd.string (w0 := w) w.heap.size rfl (.tmp 15) (.tmp 18) 49 9 (.string ⟨#[]⟩) 16 rfl Tryd.underlying49 info9 rfl (by decide) (by omega) u5 x5_1 y135 _ _ _ (fun k_ => some k_ ≠ (.slice Ao13 y135.length co13 : Value).ownBlock) (fun _ => False) rfl rfl ?aO ?aR (fun _ _ h => h) (fun _ h => h.elim) ?aF ?aB ?aS ?aL ?_; (case aR => repeat (first | exact (Kd.R_reads' HO137.out).2.2 | (with_reducible refine Kd.C_alloc ?_ _) | (with_reducible refine Kd.C_drewN ?_ _) | (with_reducible refine Kd.C_drew ?_))); (case aB => exact (by repeat (first | (with_reducible first | exact HB.out | apply below_alloc | apply pw_below_drewN | apply below_drew1) | exact HB.out))); (case aF => exact (fun k_ hk => Kd.fresh' (Kd.R_lt (by (with_reducible repeat (first | apply Kd.R_alloc | apply Kd.R_drewN | apply Kd.R_drew)); exact HO137.out)) k_ hk)); (case aO => exact (by (with_reducible repeat (first | apply Kd.R_alloc | apply Kd.R_drewN | apply Kd.R_drew)); exact Kd.R_mono HO_5.out (fun _ hk => hk.2))); (case aS => exact (below_size (by repeat (first | (with_reducible first | exact HB.out | apply below_alloc | apply pw_below_drewN | apply below_drew1) | exact HB.out)))); (case aL => have := LMc8.out; omega); intro v139 w12 ho hb hg hat; rw [← Ny138.out] at ho; have n0_ := Aside0.mk (Kd.R_after (ok := (fun _ => True)) (by (with_reducible repeat (first | apply Kd.R_alloc | apply Kd.R_drewN | apply Kd.R_drew)); exact HO137.out) hg hat); have n1_ := Aside0.mk (hb); have n2_ := Aside0.mk (ho); clear HO137; clear HB; clear HO_5; have HO137 := n0_; have HB := n1_; have HO140 := n2_; clear n0_ n1_ n2_; clear ho hb hg hat))
            go_roundg k1
            case measure => have := HK1.out; omega
            case rel => exact ⟨(y138), (wrap64 (x6_1 + 1)), (by first | rfl | (simp; done) | (simp [*]; done)), H', ⟨by have := HK1.out; omega⟩, ⟨by (with_reducible repeat (first | apply Kd.R_alloc | apply Kd.R_drewN | apply Kd.R_drew)); exact Kd.R_mono HO140.out (fun _ hk => trivial)⟩, ⟨by repeat (first | (with_reducible first | exact HB.out | apply below_alloc | apply pw_below_drewN | apply below_drew1) | exact HB.out)⟩⟩
          · rw [if_neg c8] at H
            exact absurd H (by simp)
        · rw [if_neg c6] at H
          have c6b0 : decide (x6_1 < 10) = false := decide_eq_false c6
          clear c6
          obtain rfl := Option.some.inj H
          go_wp2
          go_ret
          exact ⟨_, by first | rfl | (simp [errW_none, errW_some] <;> rfl) | (simp [*, errW_none, errW_some] <;> rfl), by (with_reducible repeat (first | apply Kd.R_alloc | apply Kd.R_drewN | apply Kd.R_drew)); exact HO_5.out, by repeat (first | (with_reducible first | exact HB.out | apply below_alloc | apply pw_below_drewN | apply below_drew1) | exact HB.out)⟩
  · rw [if_neg c3] at H
    have c3b0 : (a0.toList == ([99, 111, 110, 102, 105, 103] : List UInt8)) = false := beq_eq_false_iff_ne.mpr c3
    have c3b1 : (a0.toList != ([99, 111, 110, 102, 105, 103] : List UInt8)) = true := bne_iff_ne.mpr c3
    by_cases c14 : a0.toList = ([116, 97, 115, 107] : List UInt8)
    · rw [if_pos c14] at H
      have c14b0 : (a0.toList == ([116, 97, 115, 107] : List UInt8)) = true := beq_iff_eq.mpr c14
      have c14b1 : (a0.toList != ([116, 97, 115, 107] : List UInt8)) = false := bne_eq_false_iff_eq.mpr c14
      clear c14
      obtain ⟨y141, hy141⟩ : ∃ y_ : List ByteArray, y_ = (([(⟨#[116, 97, 115, 107]⟩ : ByteArray), (⟨#[78]⟩ : ByteArray), (⟨#[78]⟩ : ByteArray)] : List ByteArray)) := ⟨_, rfl⟩
      replace H : (some y141) = some r := by first | (rw [hy141]; with_reducible exact H) | (have H2_ := (Option.bind_some _ _).symm.trans H; rw [hy141]; with_reducible exact H2_) | (have H2_ := (Option.bind_some _ _).symm.trans H; with_reducible exact H2_) | with_reducible exact H | (rw [hy141]; exact H) | exact H
      have Ny141 := Aside0.mk hy141
      clear hy141
      obtain rfl := Option.some.inj H
      go_enter Tryd.func43, Tryd.ntmps43
      go_wp2_with (first | ((with_reducible refine gate_dst (N := 23) rfl ?_); refine Kd.R_lit Kd.string _ 9 ?hg (N := 23) ?hd (xs := ([(⟨#[116, 97, 115, 107]⟩ : ByteArray), (⟨#[78]⟩ : ByteArray), (⟨#[78]⟩ : ByteArray)] : List ByteArray)) (inner := [.string (⟨#[116, 97, 115, 107]⟩ : ByteArray), .string (⟨#[78]⟩ : ByteArray), .string (⟨#[78]⟩ : ByteArray)]) (ok := fun _ => True) (okp := fun _ => True) ?hr ?hp (fun _ hk => hk) trivial (Below.refl _ _) (Nat.le_refl _) (by simp) ?_; (case hd => rfl); (case hg => rfl); (case hr => first | (go_simp; done) | (go_simp; rfl)); (case hp => exact (Reps.one (show Kd.M Kd.string _ _ _ (⟨#[116, 97, 115, 107]⟩ : ByteArray) [.string (⟨#[116, 97, 115, 107]⟩ : ByteArray)] from rfl) (Reps.one (show Kd.M Kd.string _ _ _ (⟨#[78]⟩ : ByteArray) [.string (⟨#[78]⟩ : ByteArray)] from rfl) (Reps.one (show Kd.M Kd.string _ _ _ (⟨#[78]⟩ : ByteArray) [.string (⟨#[78]⟩ : ByteArray)] from rfl) (Reps.none _ _))))); intro v142 w15 ho16 hb hg_ hnew_; clear hg_ hnew_; (first | rw [← Ny141.out] at ho16 | (simp only [Int.reduceToNat] at ho16; rw [← Ny141.out] at ho16)); have n0_ := Aside0.mk (Kd.R_lower ho16 (below_size (by repeat (first | (with_reducible first | exact HB.out | apply below_alloc | apply pw_below_drewN | apply below_drew1) | exact HB.out)))); have n1_ := Aside0.mk (below_step (by repeat (first | (with_reducible first | exact HB.out | apply below_alloc | apply pw_below_drewN | apply below_drew1) | exact HB.out)) hb); clear HB; have HO143 := n0_; have HB := n1_; clear n0_ n1_; clear hb ho16))
      go_ret
      exact ⟨_, by first | rfl | (simp [errW_none, errW_some] <;> rfl) | (simp [*, errW_none, errW_some] <;> rfl), by (with_reducible repeat (first | apply Kd.R_alloc | apply Kd.R_drewN | apply Kd.R_drew)); exact HO143.out, by repeat (first | (with_reducible first | exact HB.out | apply below_alloc | apply pw_below_drewN | apply below_drew1) | exact HB.out)⟩
    · rw [if_neg c14] at H
      have c14b0 : (a0.toList == ([116, 97, 115, 107] : List UInt8)) = false := beq_eq_false_iff_ne.mpr c14
      have c14b1 : (a0.toList != ([116, 97, 115, 107] : List UInt8)) = true := bne_iff_ne.mpr c14
      by_cases c17 : a0.toList = ([115, 117, 98, 109, 105, 116] : List UInt8)
      · rw [if_pos c17] at H
        have c17b0 : (a0.toList == ([115, 117, 98, 109, 105, 116] : List UInt8)) = true := beq_iff_eq.mpr c17
        have c17b1 : (a0.toList != ([115, 117, 98, 109, 105, 116] : List UInt8)) = false := bne_eq_false_iff_eq.mpr c17
        clear c17
        obtain ⟨y144, hy144⟩ : ∃ y_ : List ByteArray, y_ = (([(⟨#[115, 117, 98, 109, 105, 116]⟩ : ByteArray), (⟨#[78]⟩ : ByteArray), (⟨#[78]⟩ : ByteArray), (⟨#[78]⟩ : ByteArray)] : List ByteArray)) := ⟨_, rfl⟩
        replace H : (some y144) = some r := by first | (rw [hy144]; with_reducible exact H) | (have H2_ := (Option.bind_some _ _).symm.trans H; rw [hy144]; with_reducible exact H2_) | (have H2_ := (Option.bind_some _ _).symm.trans H; with_reducible exact H2_) | with_reducible exact H | (rw [hy144]; exact H) | exact H
        have Ny144 := Aside0.mk hy144
        clear hy144
        obtain rfl := Option.some.inj H
        go_enter Tryd.func43, Tryd.ntmps43
        go_wp2_with (first | ((with_reducible refine gate_dst (N := 26) rfl ?_); refine Kd.R_lit Kd.string _ 9 ?hg (N := 26) ?hd (xs := ([(⟨#[115, 117, 98, 109, 105, 116]⟩ : ByteArray), (⟨#[78]⟩ : ByteArray), (⟨#[78]⟩ : ByteArray), (⟨#[78]⟩ : ByteArray)] : List ByteArray)) (inner := [.string (⟨#[115, 117, 98, 109, 105, 116]⟩ : ByteArray), .string (⟨#[78]⟩ : ByteArray), .string (⟨#[78]⟩ : ByteArray), .string (⟨#[78]⟩ : ByteArray)]) (ok := fun _ => True) (okp := fun _ => True) ?hr ?hp (fun _ hk => hk) trivial (Below.refl _ _) (Nat.le_refl _) (by simp) ?_; (case hd => rfl); (case hg => rfl); (case hr => first | (go_simp; done) | (go_simp; rfl)); (case hp => exact (Reps.one (show Kd.M Kd.string _ _ _ (⟨#[115, 117, 98, 109, 105, 116]⟩ : ByteArray) [.string (⟨#[115, 117, 98, 109, 105, 116]⟩ : ByteArray)] from rfl) (Reps.one (show Kd.M Kd.string _ _ _ (⟨#[78]⟩ : ByteArray) [.string (⟨#[78]⟩ : ByteArray)] from rfl) (Reps.one (show Kd.M Kd.string _ _ _ (⟨#[78]⟩ : ByteArray) [.string (⟨#[78]⟩ : ByteArray)] from rfl) (Reps.one (show Kd.M Kd.string _ _ _ (⟨#[78]⟩ : ByteArray) [.string (⟨#[78]⟩ : ByteArray)] from rfl) (Reps.none _ _)))))); intro v145 w18 ho19 hb hg_ hnew_; clear hg_ hnew_; (first | rw [← Ny144.out] at ho19 | (simp only [Int.reduceToNat] at ho19; rw [← Ny144.out] at ho19)); have n0_ := Aside0.mk (Kd.R_lower ho19 (below_size (by repeat (first | (with_reducible first | exact HB.out | apply below_alloc | apply pw_below_drewN | apply below_drew1) | exact HB.out)))); have n1_ := Aside0.mk (below_step (by repeat (first | (with_reducible first | exact HB.out | apply below_alloc | apply pw_below_drewN | apply below_drew1) | exact HB.out)) hb); clear HB; have HO146 := n0_; have HB := n1_; clear n0_ n1_; clear hb ho19))
        go_ret
        exact ⟨_, by first | rfl | (simp [errW_none, errW_some] <;> rfl) | (simp [*, errW_none, errW_some] <;> rfl), by (with_reducible repeat (first | apply Kd.R_alloc | apply Kd.R_drewN | apply Kd.R_drew)); exact HO146.out, by repeat (first | (with_reducible first | exact HB.out | apply below_alloc | apply pw_below_drewN | apply below_drew1) | exact HB.out)⟩
      · rw [if_neg c17] at H
        have c17b0 : (a0.toList == ([115, 117, 98, 109, 105, 116] : List UInt8)) = false := beq_eq_false_iff_ne.mpr c17
        have c17b1 : (a0.toList != ([115, 117, 98, 109, 105, 116] : List UInt8)) = true := bne_iff_ne.mpr c17
        by_cases c20 : a0.toList = ([99, 97, 110, 99, 101, 108] : List UInt8)
        · rw [if_pos c20] at H
          have c20b0 : (a0.toList == ([99, 97, 110, 99, 101, 108] : List UInt8)) = true := beq_iff_eq.mpr c20
          have c20b1 : (a0.toList != ([99, 97, 110, 99, 101, 108] : List UInt8)) = false := bne_eq_false_iff_eq.mpr c20
          clear c20
          obtain ⟨y147, hy147⟩ : ∃ y_ : List ByteArray, y_ = (([(⟨#[99, 97, 110, 99, 101, 108]⟩ : ByteArray), (⟨#[78]⟩ : ByteArray)] : List ByteArray)) := ⟨_, rfl⟩
          replace H : (some y147) = some r := by first | (rw [hy147]; with_reducible exact H) | (have H2_ := (Option.bind_some _ _).symm.trans H; rw [hy147]; with_reducible exact H2_) | (have H2_ := (Option.bind_some _ _).symm.trans H; with_reducible exact H2_) | with_reducible exact H | (rw [hy147]; exact H) | exact H
          have Ny147 := Aside0.mk hy147
          clear hy147
          obtain rfl := Option.some.inj H
          go_enter Tryd.func43, Tryd.ntmps43
          go_wp2_with (first | ((with_reducible refine gate_dst (N := 29) rfl ?_); refine Kd.R_lit Kd.string _ 9 ?hg (N := 29) ?hd (xs := ([(⟨#[99, 97, 110, 99, 101, 108]⟩ : ByteArray), (⟨#[78]⟩ : ByteArray)] : List ByteArray)) (inner := [.string (⟨#[99, 97, 110, 99, 101, 108]⟩ : ByteArray), .string (⟨#[78]⟩ : ByteArray)]) (ok := fun _ => True) (okp := fun _ => True) ?hr ?hp (fun _ hk => hk) trivial (Below.refl _ _) (Nat.le_refl _) (by simp) ?_; (case hd => rfl); (case hg => rfl); (case hr => first | (go_simp; done) | (go_simp; rfl)); (case hp => exact (Reps.one (show Kd.M Kd.string _ _ _ (⟨#[99, 97, 110, 99, 101, 108]⟩ : ByteArray) [.string (⟨#[99, 97, 110, 99, 101, 108]⟩ : ByteArray)] from rfl) (Reps.one (show Kd.M Kd.string _ _ _ (⟨#[78]⟩ : ByteArray) [.string (⟨#[78]⟩ : ByteArray)] from rfl) (Reps.none _ _)))); intro v148 w21 ho22 hb hg_ hnew_; clear hg_ hnew_; (first | rw [← Ny147.out] at ho22 | (simp only [Int.reduceToNat] at ho22; rw [← Ny147.out] at ho22)); have n0_ := Aside0.mk (Kd.R_lower ho22 (below_size (by repeat (first | (with_reducible first | exact HB.out | apply below_alloc | apply pw_below_drewN | apply below_drew1) | exact HB.out)))); have n1_ := Aside0.mk (below_step (by repeat (first | (with_reducible first | exact HB.out | apply below_alloc | apply pw_below_drewN | apply below_drew1) | exact HB.out)) hb); clear HB; have HO149 := n0_; have HB := n1_; clear n0_ n1_; clear hb ho22))
          go_ret
          exact ⟨_, by first | rfl | (simp [errW_none, errW_some] <;> rfl) | (simp [*, errW_none, errW_some] <;> rfl), by (with_reducible repeat (first | apply Kd.R_alloc | apply Kd.R_drewN | apply Kd.R_drew)); exact HO149.out, by repeat (first | (with_reducible first | exact HB.out | apply below_alloc | apply pw_below_drewN | apply below_drew1) | exact HB.out)⟩
        · rw [if_neg c20] at H
          have c20b0 : (a0.toList == ([99, 97, 110, 99, 101, 108] : List UInt8)) = false := beq_eq_false_iff_ne.mpr c20
          have c20b1 : (a0.toList != ([99, 97, 110, 99, 101, 108] : List UInt8)) = true := bne_iff_ne.mpr c20
          by_cases c23 : a0.toList = ([113, 117, 101, 114, 121] : List UInt8)
          · rw [if_pos c23] at H
            have c23b0 : (a0.toList == ([113, 117, 101, 114, 121] : List UInt8)) = true := beq_iff_eq.mpr c23
            have c23b1 : (a0.toList != ([113, 117, 101, 114, 121] : List UInt8)) = false := bne_eq_false_iff_eq.mpr c23
            clear c23
            obtain ⟨y150, hy150⟩ : ∃ y_ : List ByteArray, y_ = (([(⟨#[113, 117, 101, 114, 121]⟩ : ByteArray), (⟨#[78]⟩ : ByteArray)] : List ByteArray)) := ⟨_, rfl⟩
            replace H : (some y150) = some r := by first | (rw [hy150]; with_reducible exact H) | (have H2_ := (Option.bind_some _ _).symm.trans H; rw [hy150]; with_reducible exact H2_) | (have H2_ := (Option.bind_some _ _).symm.trans H; with_reducible exact H2_) | with_reducible exact H | (rw [hy150]; exact H) | exact H
            have Ny150 := Aside0.mk hy150
            clear hy150
            obtain rfl := Option.some.inj H
            go_enter Tryd.func43, Tryd.ntmps43
            go_wp2_with (first | ((with_reducible refine gate_dst (N := 32) rfl ?_); refine Kd.R_lit Kd.string _ 9 ?hg (N := 32) ?hd (xs := ([(⟨#[113, 117, 101, 114, 121]⟩ : ByteArray), (⟨#[78]⟩ : ByteArray)] : List ByteArray)) (inner := [.string (⟨#[113, 117, 101, 114, 121]⟩ : ByteArray), .string (⟨#[78]⟩ : ByteArray)]) (ok := fun _ => True) (okp := fun _ => True) ?hr ?hp (fun _ hk => hk) trivial (Below.refl _ _) (Nat.le_refl _) (by simp) ?_; (case hd => rfl); (case hg => rfl); (case hr => first | (go_simp; done) | (go_simp; rfl)); (case hp => exact (Reps.one (show Kd.M Kd.string _ _ _ (⟨#[113, 117, 101, 114, 121]⟩ : ByteArray) [.string (⟨#[113, 117, 101, 114, 121]⟩ : ByteArray)] from rfl) (Reps.one (show Kd.M Kd.string _ _ _ (⟨#[78]⟩ : ByteArray) [.string (⟨#[78]⟩ : ByteArray)] from rfl) (Reps.none _ _)))); intro v151 w24 ho25 hb hg_ hnew_; clear hg_ hnew_; (first | rw [← Ny150.out] at ho25 | (simp only [Int.reduceToNat] at ho25; rw [← Ny150.out] at ho25)); have n0_ := Aside0.mk (Kd.R_lower ho25 (below_size (by repeat (first | (with_reducible first | exact HB.out | apply below_alloc | apply pw_below_drewN | apply below_drew1) | exact HB.out)))); have n1_ := Aside0.mk (below_step (by repeat (first | (with_reducible first | exact HB.out | apply below_alloc | apply pw_below_drewN | apply below_drew1) | exact HB.out)) hb); clear HB; have HO152 := n0_; have HB := n1_; clear n0_ n1_; clear hb ho25))
            go_ret
            exact ⟨_, by first | rfl | (simp [errW_none, errW_some] <;> rfl) | (simp [*, errW_none, errW_some] <;> rfl), by (with_reducible repeat (first | apply Kd.R_alloc | apply Kd.R_drewN | apply Kd.R_drew)); exact HO152.out, by repeat (first | (with_reducible first | exact HB.out | apply below_alloc | apply pw_below_drewN | apply below_drew1) | exact HB.out)⟩
          · rw [if_neg c23] at H
            have c23b0 : (a0.toList == ([113, 117, 101, 114, 121] : List UInt8)) = false := beq_eq_false_iff_ne.mpr c23
            have c23b1 : (a0.toList != ([113, 117, 101, 114, 121] : List UInt8)) = true := bne_iff_ne.mpr c23
            by_cases c26 : a0.toList = ([116, 105, 99, 107] : List UInt8)
            · rw [if_pos c26] at H
              have c26b0 : (a0.toList == ([116, 105, 99, 107] : List UInt8)) = true := beq_iff_eq.mpr c26
              have c26b1 : (a0.toList != ([116, 105, 99, 107] : List UInt8)) = false := bne_eq_false_iff_eq.mpr c26
              clear c26
              obtain ⟨y153, hy153⟩ : ∃ y_ : List ByteArray, y_ = (([(⟨#[116, 105, 99, 107]⟩ : ByteArray)] : List ByteArray)) := ⟨_, rfl⟩
              replace H : (some y153) = some r := by first | (rw [hy153]; with_reducible exact H) | (have H2_ := (Option.bind_some _ _).symm.trans H; rw [hy153]; with_reducible exact H2_) | (have H2_ := (Option.bind_some _ _).symm.trans H; with_reducible exact H2_) | with_reducible exact H | (rw [hy153]; exact H) | exact H
              have Ny153 := Aside0.mk hy153
              clear hy153
              obtain rfl := Option.some.inj H
              go_enter Tryd.func43, Tryd.ntmps43
              go_wp2_with (first | ((with_reducible refine gate_dst (N := 35) rfl ?_); refine Kd.R_lit Kd.string _ 9 ?hg (N := 35) ?hd (xs := ([(⟨#[116, 105, 99, 107]⟩ : ByteArray)] : List ByteArray)) (inner := [.string (⟨#[116, 105, 99, 107]⟩ : ByteArray)]) (ok := fun _ => True) (okp := fun _ => True) ?hr ?hp (fun _ hk => hk) trivial (Below.refl _ _) (Nat.le_refl _) (by simp) ?_; (case hd => rfl); (case hg => rfl); (case hr => first | (go_simp; done) | (go_simp; rfl)); (case hp => exact (Reps.one (show Kd.M Kd.string _ _ _ (⟨#[116, 105, 99, 107]⟩ : ByteArray) [.string (⟨#[116, 105, 99, 107]⟩ : ByteArray)] from rfl) (Reps.none _ _))); intro v154 w27 ho28 hb hg_ hnew_; clear hg_ hnew_; (first | rw [← Ny153.out] at ho28 | (simp only [Int.reduceToNat] at ho28; rw [← Ny153.out] at ho28)); have n0_ := Aside0.mk (Kd.R_lower ho28 (below_size (by repeat (first | (with_reducible first | exact HB.out | apply below_alloc | apply pw_below_drewN | apply below_drew1) | exact HB.out)))); have n1_ := Aside0.mk (below_step (by repeat (first | (with_reducible first | exact HB.out | apply below_alloc | apply pw_below_drewN | apply below_drew1) | exact HB.out)) hb); clear HB; have HO155 := n0_; have HB := n1_; clear n0_ n1_; clear hb ho28))
              go_ret
              exact ⟨_, by first | rfl | (simp [errW_none, errW_some] <;> rfl) | (simp [*, errW_none, errW_some] <;> rfl), by (with_reducible repeat (first | apply Kd.R_alloc | apply Kd.R_drewN | apply Kd.R_drew)); exact HO155.out, by repeat (first | (with_reducible first | exact HB.out | apply below_alloc | apply pw_below_drewN | apply below_drew1) | exact HB.out)⟩
            · rw [if_neg c26] at H
              have c26b0 : (a0.toList == ([116, 105, 99, 107] : List UInt8)) = false := beq_eq_false_iff_ne.mpr c26
              have c26b1 : (a0.toList != ([116, 105, 99, 107] : List UInt8)) = true := bne_iff_ne.mpr c26
              by_cases c29 : a0.toList = ([100, 105, 115, 112, 97, 116, 99, 104] : List UInt8)
              · rw [if_pos c29] at H
                have c29b0 : (a0.toList == ([100, 105, 115, 112, 97, 116, 99, 104] : List UInt8)) = true := beq_iff_eq.mpr c29
                have c29b1 : (a0.toList != ([100, 105, 115, 112, 97, 116, 99, 104] : List UInt8)) = false := bne_eq_false_iff_eq.mpr c29
                clear c29
                obtain ⟨y156, hy156⟩ : ∃ y_ : List ByteArray, y_ = (([(⟨#[100, 105, 115, 112, 97, 116, 99, 104]⟩ : ByteArray)] : List ByteArray)) := ⟨_, rfl⟩
                replace H : (some y156) = some r := by first | (rw [hy156]; with_reducible exact H) | (have H2_ := (Option.bind_some _ _).symm.trans H; rw [hy156]; with_reducible exact H2_) | (have H2_ := (Option.bind_some _ _).symm.trans H; with_reducible exact H2_) | with_reducible exact H | (rw [hy156]; exact H) | exact H
                have Ny156 := Aside0.mk hy156
                clear hy156
                obtain rfl := Option.some.inj H
                go_enter Tryd.func43, Tryd.ntmps43
                go_wp2_with (first | ((with_reducible refine gate_dst (N := 38) rfl ?_); refine Kd.R_lit Kd.string _ 9 ?hg (N := 38) ?hd (xs := ([(⟨#[100, 105, 115, 112, 97, 116, 99, 104]⟩ : ByteArray)] : List ByteArray)) (inner := [.string (⟨#[100, 105, 115, 112, 97, 116, 99, 104]⟩ : ByteArray)]) (ok := fun _ => True) (okp := fun _ => True) ?hr ?hp (fun _ hk => hk) trivial (Below.refl _ _) (Nat.le_refl _) (by simp) ?_; (case hd => rfl); (case hg => rfl); (case hr => first | (go_simp; done) | (go_simp; rfl)); (case hp => exact (Reps.one (show Kd.M Kd.string _ _ _ (⟨#[100, 105, 115, 112, 97, 116, 99, 104]⟩ : ByteArray) [.string (⟨#[100, 105, 115, 112, 97, 116, 99, 104]⟩ : ByteArray)] from rfl) (Reps.none _ _))); intro v157 w30 ho31 hb hg_ hnew_; clear hg_ hnew_; (first | rw [← Ny156.out] at ho31 | (simp only [Int.reduceToNat] at ho31; rw [← Ny156.out] at ho31)); have n0_ := Aside0.mk (Kd.R_lower ho31 (below_size (by repeat (first | (with_reducible first | exact HB.out | apply below_alloc | apply pw_below_drewN | apply below_drew1) | exact HB.out)))); have n1_ := Aside0.mk (below_step (by repeat (first | (with_reducible first | exact HB.out | apply below_alloc | apply pw_below_drewN | apply below_drew1) | exact HB.out)) hb); clear HB; have HO158 := n0_; have HB := n1_; clear n0_ n1_; clear hb ho31))
                go_ret
                exact ⟨_, by first | rfl | (simp [errW_none, errW_some] <;> rfl) | (simp [*, errW_none, errW_some] <;> rfl), by (with_reducible repeat (first | apply Kd.R_alloc | apply Kd.R_drewN | apply Kd.R_drew)); exact HO158.out, by repeat (first | (with_reducible first | exact HB.out | apply below_alloc | apply pw_below_drewN | apply below_drew1) | exact HB.out)⟩
              · rw [if_neg c29] at H
                have c29b0 : (a0.toList == ([100, 105, 115, 112, 97, 116, 99, 104] : List UInt8)) = false := beq_eq_false_iff_ne.mpr c29
                have c29b1 : (a0.toList != ([100, 105, 115, 112, 97, 116, 99, 104] : List UInt8)) = true := bne_iff_ne.mpr c29
                by_cases c32 : a0.toList = ([97, 110, 115, 119, 101, 114] : List UInt8)
                · rw [if_pos c32] at H
                  have c32b0 : (a0.toList == ([97, 110, 115, 119, 101, 114] : List UInt8)) = true := beq_iff_eq.mpr c32
                  have c32b1 : (a0.toList != ([97, 110, 115, 119, 101, 114] : List UInt8)) = false := bne_eq_false_iff_eq.mpr c32
                  clear c32
                  by_cases c33 : a1.toList = ([110, 101, 101, 100] : List UInt8)
                  · rw [if_pos c33] at H
                    have c33b0 : (a1.toList == ([110, 101, 101, 100] : List UInt8)) = true := beq_iff_eq.mpr c33
                    have c33b1 : (a1.toList != ([110, 101, 101, 100] : List UInt8)) = false := bne_eq_false_iff_eq.mpr c33
                    clear c33
                    obtain ⟨y159, hy159⟩ : ∃ y_ : List ByteArray, y_ = (([(⟨#[97, 110, 115, 119, 101, 114]⟩ : ByteArray), (⟨#[78]⟩ : ByteArray), (⟨#[78]⟩ : ByteArray), (⟨#[110, 101, 101, 100]⟩ : ByteArray), (⟨#[78]⟩ : ByteArray)] : List ByteArray)) := ⟨_, rfl⟩
                    replace H : (some y159) = some r := by first | (rw [hy159]; with_reducible exact H) | (have H2_ := (Option.bind_some _ _).symm.trans H; rw [hy159]; with_reducible exact H2_) | (have H2_ := (Option.bind_some _ _).symm.trans H; with_reducible exact H2_) | with_reducible exact H | (rw [hy159]; exact H) | exact H
                    have Ny159 := Aside0.mk hy159
                    clear hy159
                    obtain rfl := Option.some.inj H
                    go_enter Tryd.func43, Tryd.ntmps43
                    go_wp2_with (first | ((with_reducible refine gate_dst (N := 43) rfl ?_); refine Kd.R_lit Kd.string _ 9 ?hg (N := 43) ?hd (xs := ([(⟨#[97, 110, 115, 119, 101, 114]⟩ : ByteArray), (⟨#[78]⟩ : ByteArray), (⟨#[78]⟩ : ByteArray), (⟨#[110, 101, 101, 100]⟩ : ByteArray), (⟨#[78]⟩ : ByteArray)] : List ByteArray)) (inner := [.string (⟨#[97, 110, 115, 119, 101, 114]⟩ : ByteArray), .string (⟨#[78]⟩ : ByteArray), .string (⟨#[78]⟩ : ByteArray), .string (⟨#[110, 101, 101, 100]⟩ : ByteArray), .string (⟨#[78]⟩ : ByteArray)]) (ok := fun _ => True) (okp := fun _ => True) ?hr ?hp (fun _ hk => hk) trivial (Below.refl _ _) (Nat.le_refl _) (by simp) ?_; (case hd => rfl); (case hg => rfl); (case hr => first | (go_simp; done) | (go_simp; rfl)); (case hp => exact (Reps.one (show Kd.M Kd.string _ _ _ (⟨#[97, 110, 115, 119, 101, 114]⟩ : ByteArray) [.string (⟨#[97, 110, 115, 119, 101, 114]⟩ : ByteArray)] from rfl) (Reps.one (show Kd.M Kd.string _ _ _ (⟨#[78]⟩ : ByteArray) [.string (⟨#[78]⟩ : ByteArray)] from rfl) (Reps.one (show Kd.M Kd.string _ _ _ (⟨#[78]⟩ : ByteArray) [.string (⟨#[78]⟩ : ByteArray)] from rfl) (Reps.one (show Kd.M Kd.string _ _ _ (⟨#[110, 101, 101, 100]⟩ : ByteArray) [.string (⟨#[110, 101, 101, 100]⟩ : ByteArray)] from rfl) (Reps.one (show Kd.M Kd.string _ _ _ (⟨#[78]⟩ : ByteArray) [.string (⟨#[78]⟩ : ByteArray)] from rfl) (Reps.none _ _))))))); intro v160 w34 ho35 hb hg_ hnew_; clear hg_ hnew_; (first | rw [← Ny159.out] at ho35 | (simp only [Int.reduceToNat] at ho35; rw [← Ny159.out] at ho35)); have n0_ := Aside0.mk (Kd.R_lower ho35 (below_size (by repeat (first | (with_reducible first | exact HB.out | apply below_alloc | apply pw_below_drewN | apply below_drew1) | exact HB.out)))); have n1_ := Aside0.mk (below_step (by repeat (first | (with_reducible first | exact HB.out | apply below_alloc | apply pw_below_drewN | apply below_drew1) | exact HB.out)) hb); clear HB; have HO161 := n0_; have HB := n1_; clear n0_ n1_; clear hb ho35))
                    go_ret
                    exact ⟨_, by first | rfl | (simp [errW_none, errW_some] <;> rfl) | (simp [*, errW_none, errW_some] <;> rfl), by (with_reducible repeat (first | apply Kd.R_alloc | apply Kd.R_drewN | apply Kd.R_drew)); exact HO161.out, by repeat (first | (with_reducible first | exact HB.out | apply below_alloc | apply pw_below_drewN | apply below_drew1) | exact HB.out)⟩
                  · rw [if_neg c33] at H
                    have c33b0 : (a1.toList == ([110, 101, 101, 100] : List UInt8)) = false := beq_eq_false_iff_ne.mpr c33
                    have c33b1 : (a1.toList != ([110, 101, 101, 100] : List UInt8)) = true := bne_iff_ne.mpr c33
                    by_cases c36 : a1.toList = ([102, 97, 105, 108] : List UInt8)
                    · rw [if_pos c36] at H
                      have c36b0 : (a1.toList == ([102, 97, 105, 108] : List UInt8)) = true := beq_iff_eq.mpr c36
                      have c36b1 : (a1.toList != ([102, 97, 105, 108] : List UInt8)) = false := bne_eq_false_iff_eq.mpr c36
                      clear c36
                      obtain ⟨y162, hy162⟩ : ∃ y_ : List ByteArray, y_ = (([(⟨#[97, 110, 115, 119, 101, 114]⟩ : ByteArray), (⟨#[78]⟩ : ByteArray), (⟨#[78]⟩ : ByteArray), (⟨#[102, 97, 105, 108]⟩ : ByteArray)] : List ByteArray)) := ⟨_, rfl⟩
                      replace H : (some y162) = some r := by first | (rw [hy162]; with_reducible exact H) | (have H2_ := (Option.bind_some _ _).symm.trans H; rw [hy162]; with_reducible exact H2_) | (have H2_ := (Option.bind_some _ _).symm.trans H; with_reducible exact H2_) | with_reducible exact H | (rw [hy162]; exact H) | exact H
                      have Ny162 := Aside0.mk hy162
                      clear hy162
                      obtain rfl := Option.some.inj H
                      go_enter Tryd.func43, Tryd.ntmps43
                      go_wp2_with (first | ((with_reducible refine gate_dst (N := 46) rfl ?_); refine Kd.R_lit Kd.string _ 9 ?hg (N := 46) ?hd (xs := ([(⟨#[97, 110, 115, 119, 101, 114]⟩ : ByteArray), (⟨#[78]⟩ : ByteArray), (⟨#[78]⟩ : ByteArray), (⟨#[102, 97, 105, 108]⟩ : ByteArray)] : List ByteArray)) (inner := [.string (⟨#[97, 110, 115, 119, 101, 114]⟩ : ByteArray), .string (⟨#[78]⟩ : ByteArray), .string (⟨#[78]⟩ : ByteArray), .string (⟨#[102, 97, 105, 108]⟩ : ByteArray)]) (ok := fun _ => True) (okp := fun _ => True) ?hr ?hp (fun _ hk => hk) trivial (Below.refl _ _) (Nat.le_refl _) (by simp) ?_; (case hd => rfl); (case hg => rfl); (case hr => first | (go_simp; done) | (go_simp; rfl)); (case hp => exact (Reps.one (show Kd.M Kd.string _ _ _ (⟨#[97, 110, 115, 119, 101, 114]⟩ : ByteArray) [.string (⟨#[97, 110, 115, 119, 101, 114]⟩ : ByteArray)] from rfl) (Reps.one (show Kd.M Kd.string _ _ _ (⟨#[78]⟩ : ByteArray) [.string (⟨#[78]⟩ : ByteArray)] from rfl) (Reps.one (show Kd.M Kd.string _ _ _ (⟨#[78]⟩ : ByteArray) [.string (⟨#[78]⟩ : ByteArray)] from rfl) (Reps.one (show Kd.M Kd.string _ _ _ (⟨#[102, 97, 105, 108]⟩ : ByteArray) [.string (⟨#[102, 97, 105, 108]⟩ : ByteArray)] from rfl) (Reps.none _ _)))))); intro v163 w37 ho38 hb hg_ hnew_; clear hg_ hnew_; (first | rw [← Ny162.out] at ho38 | (simp only [Int.reduceToNat] at ho38; rw [← Ny162.out] at ho38)); have n0_ := Aside0.mk (Kd.R_lower ho38 (below_size (by repeat (first | (with_reducible first | exact HB.out | apply below_alloc | apply pw_below_drewN | apply below_drew1) | exact HB.out)))); have n1_ := Aside0.mk (below_step (by repeat (first | (with_reducible first | exact HB.out | apply below_alloc | apply pw_below_drewN | apply below_drew1) | exact HB.out)) hb); clear HB; have HO164 := n0_; have HB := n1_; clear n0_ n1_; clear hb ho38))
                      go_ret
                      exact ⟨_, by first | rfl | (simp [errW_none, errW_some] <;> rfl) | (simp [*, errW_none, errW_some] <;> rfl), by (with_reducible repeat (first | apply Kd.R_alloc | apply Kd.R_drewN | apply Kd.R_drew)); exact HO164.out, by repeat (first | (with_reducible first | exact HB.out | apply below_alloc | apply pw_below_drewN | apply below_drew1) | exact HB.out)⟩
                    · rw [if_neg c36] at H
                      have c36b0 : (a1.toList == ([102, 97, 105, 108] : List UInt8)) = false := beq_eq_false_iff_ne.mpr c36
                      have c36b1 : (a1.toList != ([102, 97, 105, 108] : List UInt8)) = true := bne_iff_ne.mpr c36
                      obtain ⟨y165, hy165⟩ : ∃ y_ : List ByteArray, y_ = (([(⟨#[97, 110, 115, 119, 101, 114]⟩ : ByteArray), (⟨#[78]⟩ : ByteArray), (⟨#[78]⟩ : ByteArray), (⟨#[100, 105, 100]⟩ : ByteArray)] : List ByteArray)) := ⟨_, rfl⟩
                      replace H : (some y165) = some r := by first | (rw [hy165]; with_reducible exact H) | (have H2_ := (Option.bind_some _ _).symm.trans H; rw [hy165]; with_reducible exact H2_) | (have H2_ := (Option.bind_some _ _).symm.trans H; with_reducible exact H2_) | with_reducible exact H | (rw [hy165]; exact H) | exact H
                      have Ny165 := Aside0.mk hy165
                      clear hy165
                      obtain rfl := Option.some.inj H
                      go_enter Tryd.func43, Tryd.ntmps43
                      go_wp2_with (first | ((with_reducible refine gate_dst (N := 47) rfl ?_); refine Kd.R_lit Kd.string _ 9 ?hg (N := 47) ?hd (xs := ([(⟨#[97, 110, 115, 119, 101, 114]⟩ : ByteArray), (⟨#[78]⟩ : ByteArray), (⟨#[78]⟩ : ByteArray), (⟨#[100, 105, 100]⟩ : ByteArray)] : List ByteArray)) (inner := [.string (⟨#[97, 110, 115, 119, 101, 114]⟩ : ByteArray), .string (⟨#[78]⟩ : ByteArray), .string (⟨#[78]⟩ : ByteArray), .string (⟨#[100, 105, 100]⟩ : ByteArray)]) (ok := fun _ => True) (okp := fun _ => True) ?hr ?hp (fun _ hk => hk) trivial (Below.refl _ _) (Nat.le_refl _) (by simp) ?_; (case hd => rfl); (case hg => rfl); (case hr => first | (go_simp; done) | (go_simp; rfl)); (case hp => exact (Reps.one (show Kd.M Kd.string _ _ _ (⟨#[97, 110, 115, 119, 101, 114]⟩ : ByteArray) [.string (⟨#[97, 110, 115, 119, 101, 114]⟩ : ByteArray)] from rfl) (Reps.one (show Kd.M Kd.string _ _ _ (⟨#[78]⟩ : ByteArray) [.string (⟨#[78]⟩ : ByteArray)] from rfl) (Reps.one (show Kd.M Kd.string _ _ _ (⟨#[78]⟩ : ByteArray) [.string (⟨#[78]⟩ : ByteArray)] from rfl) (Reps.one (show Kd.M Kd.string _ _ _ (⟨#[100, 105, 100]⟩ : ByteArray) [.string (⟨#[100, 105, 100]⟩ : ByteArray)] from rfl) (Reps.none _ _)))))); intro v166 w39 ho40 hb hg_ hnew_; clear hg_ hnew_; (first | rw [← Ny165.out] at ho40 | (simp only [Int.reduceToNat] at ho40; rw [← Ny165.out] at ho40)); have n0_ := Aside0.mk (Kd.R_lower ho40 (below_size (by repeat (first | (with_reducible first | exact HB.out | apply below_alloc | apply pw_below_drewN | apply below_drew1) | exact HB.out)))); have n1_ := Aside0.mk (below_step (by repeat (first | (with_reducible first | exact HB.out | apply below_alloc | apply pw_below_drewN | apply below_drew1) | exact HB.out)) hb); clear HB; have HO167 := n0_; have HB := n1_; clear n0_ n1_; clear hb ho40))
                      go_ret
                      exact ⟨_, by first | rfl | (simp [errW_none, errW_some] <;> rfl) | (simp [*, errW_none, errW_some] <;> rfl), by (with_reducible repeat (first | apply Kd.R_alloc | apply Kd.R_drewN | apply Kd.R_drew)); exact HO167.out, by repeat (first | (with_reducible first | exact HB.out | apply below_alloc | apply pw_below_drewN | apply below_drew1) | exact HB.out)⟩
                · rw [if_neg c32] at H
                  have c32b0 : (a0.toList == ([97, 110, 115, 119, 101, 114] : List UInt8)) = false := beq_eq_false_iff_ne.mpr c32
                  have c32b1 : (a0.toList != ([97, 110, 115, 119, 101, 114] : List UInt8)) = true := bne_iff_ne.mpr c32
                  obtain rfl := Option.some.inj H
                  go_enter Tryd.func43, Tryd.ntmps43
                  go_wp2
                  go_ret
                  exact ⟨_, by first | rfl | (simp [errW_none, errW_some] <;> rfl) | (simp [*, errW_none, errW_some] <;> rfl), by first | exact Kd.R_nil _ _ _ _ _ | exact Kd.N_nil _ _ _ _ _ | exact Kd.V_nil _ _ _ _ _ | exact Kd.Q_nil _ _ _ _ _ | exact Kd.S_nil _ _ _ _ _, by repeat (first | (with_reducible first | exact HB.out | apply below_alloc | apply pw_below_drewN | apply below_drew1) | exact HB.out)⟩

end Go.Proofs.YtegbfimfpkendaaDoor.PParseTells
