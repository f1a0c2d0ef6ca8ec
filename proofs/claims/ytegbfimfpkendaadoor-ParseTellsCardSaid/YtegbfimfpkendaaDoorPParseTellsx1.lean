-- Printed for this claim by a program of this project's own, over the kit's printer; some functions are told by hand.
import Derived.Test.YtegbfimfpkendaaDoorPParseTellsx0
namespace Go.Proofs.YtegbfimfpkendaaDoor.PParseTells
open Go.RowKit Go.Proofs.YtegbfimfpkendaaDoorW.PrintWords Go.Proofs.YtegbfimfpkendaaDoorW.PrintLast Go.Proofs.YtegbfimfpkendaaDoorW.PrintMore
attribute [local go_sem] max2_int min2_int max_two min_two max_three min_three max_four min_four   -- for this text's walks alone
set_option linter.unusedVariables false
set_option linter.unusedSimpArgs false

-- NOT PRINTED: function 48 (lex_kind)

-- NOT PRINTED: function 32 (lex_scan_next)

-- NOT PRINTED: function 33 (lex_scan_take)

-- NOT PRINTED: function 34 (lex_scan_end)

-- NOT PRINTED: function 18 (lex_Lex)

-- NOT PRINTED: function 20 (parse_rows)

-- NOT PRINTED: function 36 (parse_row_must)

-- NOT PRINTED: function 35 (parse_row_word)

-- NOT PRINTED: function 25 (parse_numbers)

-- NOT PRINTED: function 49 (num_Parse)

-- NOT PRINTED: function 38 (parse_row_number)

-- NOT PRINTED: function 37 (parse_row_config)

-- NOT PRINTED: function 39 (parse_row_find)

-- NOT PRINTED: function 40 (parse_row_op)

-- NOT PRINTED: function 21 (parse_File_takes)

-- NOT PRINTED: function 10 (parse_Parse)

-- NOT PRINTED: function 56 (strconv_small)

-- NOT PRINTED: function 60 (strconv_log10Pow2)

-- NOT PRINTED: function 61 (bits_Len64)

-- NOT PRINTED: function 62 (strconv_bool2_int)

-- NOT PRINTED: function 57 (strconv_numDigits)

-- NOT PRINTED: function 58 (strconv_formatBase10)

-- NOT PRINTED: function 63 (strconv_isPowerOfTwo)

-- NOT PRINTED: function 65 (bits_TrailingZeros32)

-- NOT PRINTED: function 66 (bits_TrailingZeros64)

-- NOT PRINTED: function 64 (bits_TrailingZeros)

-- NOT PRINTED: function 59 (strconv_formatBits)

-- NOT PRINTED: function 55 (strconv_FormatInt)

-- NOT PRINTED: function 54 (strconv_Itoa_54)

-- NOT PRINTED: function 53 (strconv_Itoa_53)

-- NOT PRINTED: function 47 (num_Text)

-- NOT PRINTED: function 26 (parse_text_number)

-- NOT PRINTED: function 27 (parse_text_op)

-- NOT PRINTED: function 14 (parse_Text)

-- NOT PRINTED: function 16 (millwrightlaw03_head)

-- NOT PRINTED: function 9 (millwrightlaw03_shown)

/-! ### millwrightref02_kind: function 50 -/
mutual
def millwrightref02_kind.j0 : Nat → Int → Bool → Option (Int)
  | 0, _, _ => none
  | k + 1, x0, x16 => if x16 = true then (some 1) else (if x0 ≥ 48 then (millwrightref02_kind.j1 k x0 (decide (x0 ≤ 57))) else (millwrightref02_kind.j1 k x0 false))
def millwrightref02_kind.j1 : Nat → Int → Bool → Option (Int)
  | 0, _, _ => none
  | k + 1, x0, x22 => if x22 = true then (some 2) else (if x0 = 32 then (some 3) else (if x0 = 9 then (some 3) else (if x0 = 13 then (some 3) else (some 0))))
end
def millwrightref02_kind.f (k : Nat) (a0 : Int) : Option (Int) := if a0 ≥ 97 then (if a0 ≤ 122 then (millwrightref02_kind.j0 k a0 true) else (if a0 ≥ 65 then (millwrightref02_kind.j0 k a0 (decide (a0 ≤ 90))) else (millwrightref02_kind.j0 k a0 false))) else (if a0 ≥ 65 then (millwrightref02_kind.j0 k a0 (decide (a0 ≤ 90))) else (millwrightref02_kind.j0 k a0 false))
theorem millwrightref02_kind.mono_l : ∀ k, (∀ y0 y1, LeO (millwrightref02_kind.j0 k y0 y1) (millwrightref02_kind.j0 (k + 1) y0 y1)) ∧ (∀ y0 y1, LeO (millwrightref02_kind.j1 k y0 y1) (millwrightref02_kind.j1 (k + 1) y0 y1))
  | 0 => ⟨fun _ _ r h => by simp [millwrightref02_kind.j0] at h, fun _ _ r h => by simp [millwrightref02_kind.j1] at h⟩
  | k + 1 => by
    obtain ⟨ih0, ih1⟩ := millwrightref02_kind.mono_l k
    refine ⟨?_, ?_⟩
    · intro y0 y1
      unfold millwrightref02_kind.j0
      repeat' first
      | (with_reducible exact ih0 _ _)
      | (with_reducible exact ih1 _ _)
      | (with_reducible exact LeO.refl _)
      | (with_reducible exact LeO.none _)
      | (with_reducible refine LeO.ite ?_ ?_)
      | (with_reducible refine LeO.bind ?_ (fun _ => ?_))
      | exact ih0 _ _
      | exact ih1 _ _
      | exact LeO.none _
      | refine LeO.ite ?_ ?_
      | refine LeO.bind ?_ (fun _ => ?_)
    · intro y0 y1
      unfold millwrightref02_kind.j1
      repeat' first
      | (with_reducible exact ih0 _ _)
      | (with_reducible exact ih1 _ _)
      | (with_reducible exact LeO.refl _)
      | (with_reducible exact LeO.none _)
      | (with_reducible refine LeO.ite ?_ ?_)
      | (with_reducible refine LeO.bind ?_ (fun _ => ?_))
      | exact ih0 _ _
      | exact ih1 _ _
      | exact LeO.none _
      | refine LeO.ite ?_ ?_
      | refine LeO.bind ?_ (fun _ => ?_)
theorem millwrightref02_kind.mono : ∀ a0 k, LeO (millwrightref02_kind.f k a0) (millwrightref02_kind.f (k + 1) a0) := by
  intro a0 k
  obtain ⟨ih0, ih1⟩ := millwrightref02_kind.mono_l k
  unfold millwrightref02_kind.f
  repeat' first
      | (with_reducible exact ih0 _ _)
      | (with_reducible exact ih1 _ _)
      | (with_reducible exact LeO.refl _)
      | (with_reducible exact LeO.none _)
      | (with_reducible refine LeO.ite ?_ ?_)
      | (with_reducible refine LeO.bind ?_ (fun _ => ?_))
      | exact ih0 _ _
      | exact ih1 _ _
      | exact LeO.none _
      | refine LeO.ite ?_ ?_
      | refine LeO.bind ?_ (fun _ => ?_)
set_option maxHeartbeats 8000000 in
set_option maxRecDepth 100000 in
theorem millwrightref02_kind.calls (k : Nat) (a0 : Int) (r : Int) (w : World) (h : millwrightref02_kind.f k a0 = some r) :
    Calls Tryd.prog 50 #[.int .u8 a0] w fun e w' => e = .returned (.int .i64 r) ∧ Drawn0 w w' := by
  have H : (if a0 ≥ 97 then (if a0 ≤ 122 then (millwrightref02_kind.j0 k a0 true) else (if a0 ≥ 65 then (millwrightref02_kind.j0 k a0 (decide (a0 ≤ 90))) else (millwrightref02_kind.j0 k a0 false))) else (if a0 ≥ 65 then (millwrightref02_kind.j0 k a0 (decide (a0 ≤ 90))) else (millwrightref02_kind.j0 k a0 false))) = some r := h
  clear h
  have HC2 := Aside0.mk H
  clear H
  go_enter Tryd.func50, Tryd.ntmps50
  go_upto_region 1 with (fail)
  go_cut [16] (fun v16 wc => ∃ (kq : Nat) (x16_1 : Bool), v16 = .bool x16_1 ∧ Aside0 (millwrightref02_kind.j0 kq a0 x16_1 = some r) ∧ Aside0 (kq ≤ k) ∧ Drawn0 w wc)
  case first =>
    have H := HC2.out
    clear HC2
    by_cases c3 : a0 ≥ 97
    · rw [if_pos c3] at H
      have c3b0 : decide (97 ≤ a0) = true := decide_eq_true c3
      clear c3
      (first | rw [c3b0] | (simp only [i64_w, i32_w]; rw [c3b0]) | skip)
      by_cases c4 : a0 ≤ 122
      · rw [if_pos c4] at H
        have c4b0 : decide (a0 ≤ 122) = true := decide_eq_true c4
        clear c4
        have H' := Aside0.mk H
        clear H
        go_wp2
        go_meet
        case rel => exact ⟨_, (true), (by first | rfl | (simp; done) | (simp [*]; done)), H', ⟨by first | omega | exact Nat.le_refl _⟩, by repeat (first | exact Drawn0.refl _ | apply Drawn0.step)⟩
      · rw [if_neg c4] at H
        have c4b0 : decide (a0 ≤ 122) = false := decide_eq_false c4
        clear c4
        by_cases c5 : a0 ≥ 65
        · rw [if_pos c5] at H
          have c5b0 : decide (65 ≤ a0) = true := decide_eq_true c5
          clear c5
          have H' := Aside0.mk H
          clear H
          go_wp2
          go_meet
          case rel => exact ⟨_, (decide (a0 ≤ 90)), (by first | rfl | (simp; done) | (simp [*]; done)), H', ⟨by first | omega | exact Nat.le_refl _⟩, by repeat (first | exact Drawn0.refl _ | apply Drawn0.step)⟩
        · rw [if_neg c5] at H
          have c5b0 : decide (65 ≤ a0) = false := decide_eq_false c5
          clear c5
          have H' := Aside0.mk H
          clear H
          go_wp2
          go_meet
          case rel => exact ⟨_, (false), (by first | rfl | (simp; done) | (simp [*]; done)), H', ⟨by first | omega | exact Nat.le_refl _⟩, by repeat (first | exact Drawn0.refl _ | apply Drawn0.step)⟩
    · rw [if_neg c3] at H
      have c3b0 : decide (97 ≤ a0) = false := decide_eq_false c3
      clear c3
      (first | rw [c3b0] | (simp only [i64_w, i32_w]; rw [c3b0]) | skip)
      by_cases c6 : a0 ≥ 65
      · rw [if_pos c6] at H
        have c6b0 : decide (65 ≤ a0) = true := decide_eq_true c6
        clear c6
        have H' := Aside0.mk H
        clear H
        go_wp2
        go_meet
        case rel => exact ⟨_, (decide (a0 ≤ 90)), (by first | rfl | (simp; done) | (simp [*]; done)), H', ⟨by first | omega | exact Nat.le_refl _⟩, by repeat (first | exact Drawn0.refl _ | apply Drawn0.step)⟩
      · rw [if_neg c6] at H
        have c6b0 : decide (65 ≤ a0) = false := decide_eq_false c6
        clear c6
        have H' := Aside0.mk H
        clear H
        go_wp2
        go_meet
        case rel => exact ⟨_, (false), (by first | rfl | (simp; done) | (simp [*]; done)), H', ⟨by first | omega | exact Nat.le_refl _⟩, by repeat (first | exact Drawn0.refl _ | apply Drawn0.step)⟩
  case rest =>
    clear HC2
    try clear p2
    try clear c3
    try clear c3b0
    try clear c4
    try clear c4b0
    try clear c5
    try clear c5b0
    try clear c6
    try clear c6b0
    obtain ⟨kq, x16_1, rfl, HA, HJ1, ⟨mc1, rfl⟩⟩ := hcut
    cases kq with
    | zero => exact absurd HA.out (by simp [millwrightref02_kind.j0])
    | succ kj1 =>
      have H := HA.out
      clear HA
      simp only [millwrightref02_kind.j0] at H
      by_cases c7 : x16_1 = true
      · subst c7
        have H1 : (some 1) = some r := by rw [if_pos rfl] at H; exact H
        clear H
        have H := H1
        clear H1
        obtain rfl := Option.some.inj H
        go_wp2
        go_ret
        exact ⟨by first | rfl | (simp; done) | (simp [*]; done), by repeat (first | exact Drawn0.refl _ | apply Drawn0.step)⟩
      · replace c7 := Bool.eq_false_iff.mpr c7
        subst c7
        have H1 : (if a0 ≥ 48 then (millwrightref02_kind.j1 kj1 a0 (decide (a0 ≤ 57))) else (millwrightref02_kind.j1 kj1 a0 false)) = some r := by rw [if_neg (show ¬ (false = true) by decide)] at H; exact H
        clear H
        have H := H1
        clear H1
        have HC8 := Aside0.mk H
        clear H
        go_upto_region 3 with (fail)
        go_cut [22] (fun v22 wc => ∃ (kq : Nat) (x22_7 : Bool), v22 = .bool x22_7 ∧ Aside0 (millwrightref02_kind.j1 kq a0 x22_7 = some r) ∧ Aside0 (kq ≤ kj1) ∧ Drawn0 w wc)
        case first =>
          have H := HC8.out
          clear HC8
          by_cases c9 : a0 ≥ 48
          · rw [if_pos c9] at H
            have c9b0 : decide (48 ≤ a0) = true := decide_eq_true c9
            clear c9
            (first | rw [c9b0] | (simp only [i64_w, i32_w]; rw [c9b0]) | skip)
            have H' := Aside0.mk H
            clear H
            go_wp2
            go_meet
            case rel => exact ⟨_, (decide (a0 ≤ 57)), (by first | rfl | (simp; done) | (simp [*]; done)), H', ⟨by have := HJ1.out; first | omega | exact Nat.le_refl _⟩, by repeat (first | exact Drawn0.refl _ | apply Drawn0.step)⟩
          · rw [if_neg c9] at H
            have c9b0 : decide (48 ≤ a0) = false := decide_eq_false c9
            clear c9
            (first | rw [c9b0] | (simp only [i64_w, i32_w]; rw [c9b0]) | skip)
            have H' := Aside0.mk H
            clear H
            go_wp2
            go_meet
            case rel => exact ⟨_, (false), (by first | rfl | (simp; done) | (simp [*]; done)), H', ⟨by have := HJ1.out; first | omega | exact Nat.le_refl _⟩, by repeat (first | exact Drawn0.refl _ | apply Drawn0.step)⟩
        case rest =>
          clear HC8
          try clear c1
          try clear p2
          try clear c3
          try clear c3b0
          try clear c4
          try clear c4b0
          try clear c5
          try clear c5b0
          try clear c6
          try clear c6b0
          try clear c7
          try clear c9
          try clear c9b0
          try clear p2
          obtain ⟨kq, x22_7, rfl, HA, HJ7, ⟨mc7, rfl⟩⟩ := hcut
          cases kq with
          | zero => exact absurd HA.out (by simp [millwrightref02_kind.j1])
          | succ kj7 =>
            have H := HA.out
            clear HA
            simp only [millwrightref02_kind.j1] at H
            by_cases c10 : x22_7 = true
            · subst c10
              have H1 : (some 2) = some r := by rw [if_pos rfl] at H; exact H
              clear H
              have H := H1
              clear H1
              obtain rfl := Option.some.inj H
              go_wp2
              go_ret
              exact ⟨by first | rfl | (simp; done) | (simp [*]; done), by repeat (first | exact Drawn0.refl _ | apply Drawn0.step)⟩
            · replace c10 := Bool.eq_false_iff.mpr c10
              subst c10
              have H1 : (if a0 = 32 then (some 3) else (if a0 = 9 then (some 3) else (if a0 = 13 then (some 3) else (some 0)))) = some r := by rw [if_neg (show ¬ (false = true) by decide)] at H; exact H
              clear H
              have H := H1
              clear H1
              by_cases c11 : a0 = 32
              · rw [if_pos c11] at H
                have c11b0 : (a0 == 32) = true := beq_iff_eq.mpr c11
                have c11b1 : (a0 != 32) = false := bne_eq_false_iff_eq.mpr c11
                clear c11
                obtain rfl := Option.some.inj H
                go_wp2
                go_ret
                exact ⟨by first | rfl | (simp; done) | (simp [*]; done), by repeat (first | exact Drawn0.refl _ | apply Drawn0.step)⟩
              · rw [if_neg c11] at H
                have c11b0 : (a0 == 32) = false := beq_eq_false_iff_ne.mpr c11
                have c11b1 : (a0 != 32) = true := bne_iff_ne.mpr c11
                by_cases c12 : a0 = 9
                · rw [if_pos c12] at H
                  have c12b0 : (a0 == 9) = true := beq_iff_eq.mpr c12
                  have c12b1 : (a0 != 9) = false := bne_eq_false_iff_eq.mpr c12
                  clear c12
                  obtain rfl := Option.some.inj H
                  go_wp2
                  go_ret
                  exact ⟨by first | rfl | (simp; done) | (simp [*]; done), by repeat (first | exact Drawn0.refl _ | apply Drawn0.step)⟩
                · rw [if_neg c12] at H
                  have c12b0 : (a0 == 9) = false := beq_eq_false_iff_ne.mpr c12
                  have c12b1 : (a0 != 9) = true := bne_iff_ne.mpr c12
                  by_cases c13 : a0 = 13
                  · rw [if_pos c13] at H
                    have c13b0 : (a0 == 13) = true := beq_iff_eq.mpr c13
                    have c13b1 : (a0 != 13) = false := bne_eq_false_iff_eq.mpr c13
                    clear c13
                    obtain rfl := Option.some.inj H
                    go_wp2
                    go_ret
                    exact ⟨by first | rfl | (simp; done) | (simp [*]; done), by repeat (first | exact Drawn0.refl _ | apply Drawn0.step)⟩
                  · rw [if_neg c13] at H
                    have c13b0 : (a0 == 13) = false := beq_eq_false_iff_ne.mpr c13
                    have c13b1 : (a0 != 13) = true := bne_iff_ne.mpr c13
                    obtain rfl := Option.some.inj H
                    go_wp2
                    go_ret
                    exact ⟨by first | rfl | (simp; done) | (simp [*]; done), by repeat (first | exact Drawn0.refl _ | apply Drawn0.step)⟩

end Go.Proofs.YtegbfimfpkendaaDoor.PParseTells
