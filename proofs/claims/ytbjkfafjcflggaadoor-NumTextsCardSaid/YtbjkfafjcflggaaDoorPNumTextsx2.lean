-- Printed for this claim by a program of this project's own, over the kit's printer; some functions are told by hand.
import Derived.Test.YtbjkfafjcflggaaDoorPNumTextsx0
import Derived.Test.YtbjkfafjcflggaaDoorPNumTextsx1
namespace Go.Proofs.YtbjkfafjcflggaaDoor.PNumTexts
open Go.RowKit Go.Proofs.YtbjkfafjcflggaaDoorW.PrintWords Go.Proofs.YtbjkfafjcflggaaDoorW.PrintLast Go.Proofs.YtbjkfafjcflggaaDoorW.PrintMore
attribute [local go_sem] max2_int min2_int max_two min_two max_three min_three max_four min_four   -- for this text's walks alone
set_option linter.unusedVariables false
set_option linter.unusedSimpArgs false

/-! ### millwrightlaw01_NumTexts: function 5 -/
mutual
def millwrightlaw01_NumTexts.j0 : Nat → Int → ByteArray → Bool → ByteArray → Int → Int → Int → Option (Bool)
  | 0, _, _, _, _, _, _, _ => none
  | k + 1, x0, x1, x5, x6, x7, x8, x9 => if x0 < 0 then (millwrightlaw01_NumTexts.j1 k x0 x1 x5 x6 x7 x8 2) else (millwrightlaw01_NumTexts.j1 k x0 x1 x5 x6 x7 x8 x9)
def millwrightlaw01_NumTexts.j1 : Nat → Int → ByteArray → Bool → ByteArray → Int → Int → Int → Option (Bool)
  | 0, _, _, _, _, _, _, _ => none
  | k + 1, x0, x1, x5, x6, x7, x8, x9 => if x8 = x9 then (if x8 = 0 then (if x7 = x0 then (if x0 ≥ 0 then ((millwrightref01_Text.f k x0).bind fun t137 => (if x6.toList = t137.toList then (if x0 < 0 then (if 0 < (x6.size : Int) then (millwrightlaw01_NumTexts.j2 k x1 x5 ((bt x6 0) != 45)) else (none)) else (millwrightlaw01_NumTexts.j2 k x1 x5 false)) else (millwrightlaw01_NumTexts.j2 k x1 x5 true))) else (if x0 < 0 then (if 0 < (x6.size : Int) then (millwrightlaw01_NumTexts.j2 k x1 x5 ((bt x6 0) != 45)) else (none)) else (millwrightlaw01_NumTexts.j2 k x1 x5 false))) else (millwrightlaw01_NumTexts.j2 k x1 x5 true)) else (if x7 = 0 then (if x0 ≥ 0 then ((millwrightref01_Text.f k x0).bind fun t138 => (if x6.toList = t138.toList then (if x0 < 0 then (if 0 < (x6.size : Int) then (millwrightlaw01_NumTexts.j2 k x1 x5 ((bt x6 0) != 45)) else (none)) else (millwrightlaw01_NumTexts.j2 k x1 x5 false)) else (millwrightlaw01_NumTexts.j2 k x1 x5 true))) else (if x0 < 0 then (if 0 < (x6.size : Int) then (millwrightlaw01_NumTexts.j2 k x1 x5 ((bt x6 0) != 45)) else (none)) else (millwrightlaw01_NumTexts.j2 k x1 x5 false))) else (millwrightlaw01_NumTexts.j2 k x1 x5 true))) else (millwrightlaw01_NumTexts.j2 k x1 x5 true)
def millwrightlaw01_NumTexts.j2 : Nat → ByteArray → Bool → Bool → Option (Bool)
  | 0, _, _, _ => none
  | k + 1, x1, x5, x62 => if x62 = true then (some false) else (if 0 ≤ (mn (x1.size : Int) 50) then (if (mn (x1.size : Int) 50) ≤ (x1.size : Int) then ((num_Parse.f (x1.extract 0 ((mn (x1.size : Int) 50) : Int).toNat)).bind fun bt139 => (if x5 = true then (if bt139.2 = 0 then ((num_Text.f bt139.1).bind fun t141 => (some (t141.toList == (x1.extract 0 ((mn (x1.size : Int) 50) : Int).toNat).toList))) else (some true)) else (some false))) else (none)) else (none))
end
def millwrightlaw01_NumTexts.f (k : Nat) (a0 : Int) (a1 : ByteArray) : Option (Bool) := (millwrightlaw01_shown.f k).bind fun t133 => ((num_Text.f a0).bind fun t134 => ((num_Parse.f t134).bind fun bt135 => (if a0 > 1048576 then (millwrightlaw01_NumTexts.j0 k a0 a1 t133 t134 bt135.1 bt135.2 3) else (millwrightlaw01_NumTexts.j0 k a0 a1 t133 t134 bt135.1 bt135.2 0))))
theorem millwrightlaw01_NumTexts.mono_l : ∀ k, (∀ y0 y1 y2 y3 y4 y5 y6, LeO (millwrightlaw01_NumTexts.j0 k y0 y1 y2 y3 y4 y5 y6) (millwrightlaw01_NumTexts.j0 (k + 1) y0 y1 y2 y3 y4 y5 y6)) ∧ (∀ y0 y1 y2 y3 y4 y5 y6, LeO (millwrightlaw01_NumTexts.j1 k y0 y1 y2 y3 y4 y5 y6) (millwrightlaw01_NumTexts.j1 (k + 1) y0 y1 y2 y3 y4 y5 y6)) ∧ (∀ y0 y1 y2, LeO (millwrightlaw01_NumTexts.j2 k y0 y1 y2) (millwrightlaw01_NumTexts.j2 (k + 1) y0 y1 y2))
  | 0 => ⟨fun _ _ _ _ _ _ _ r h => by simp [millwrightlaw01_NumTexts.j0] at h, fun _ _ _ _ _ _ _ r h => by simp [millwrightlaw01_NumTexts.j1] at h, fun _ _ _ r h => by simp [millwrightlaw01_NumTexts.j2] at h⟩
  | k + 1 => by
    obtain ⟨ih0, ih1, ih2⟩ := millwrightlaw01_NumTexts.mono_l k
    refine ⟨?_, ?_, ?_⟩
    · intro y0 y1 y2 y3 y4 y5 y6
      unfold millwrightlaw01_NumTexts.j0
      repeat' first
      | (with_reducible exact ih0 _ _ _ _ _ _ _)
      | (with_reducible exact ih1 _ _ _ _ _ _ _)
      | (with_reducible exact ih2 _ _ _)
      | (with_reducible exact millwrightlaw01_shown.mono _)
      | (with_reducible exact millwrightref01_Text.mono _ _)
      | (with_reducible exact LeO.refl _)
      | (with_reducible exact LeO.none _)
      | (with_reducible refine LeO.ite ?_ ?_)
      | (with_reducible refine LeO.bind ?_ (fun _ => ?_))
      | exact ih0 _ _ _ _ _ _ _
      | exact ih1 _ _ _ _ _ _ _
      | exact ih2 _ _ _
      | exact millwrightlaw01_shown.mono _
      | exact millwrightref01_Text.mono _ _
      | exact LeO.none _
      | refine LeO.ite ?_ ?_
      | refine LeO.bind ?_ (fun _ => ?_)
    · intro y0 y1 y2 y3 y4 y5 y6
      unfold millwrightlaw01_NumTexts.j1
      repeat' first
      | (with_reducible exact ih0 _ _ _ _ _ _ _)
      | (with_reducible exact ih1 _ _ _ _ _ _ _)
      | (with_reducible exact ih2 _ _ _)
      | (with_reducible exact millwrightlaw01_shown.mono _)
      | (with_reducible exact millwrightref01_Text.mono _ _)
      | (with_reducible exact LeO.refl _)
      | (with_reducible exact LeO.none _)
      | (with_reducible refine LeO.ite ?_ ?_)
      | (with_reducible refine LeO.bind ?_ (fun _ => ?_))
      | exact ih0 _ _ _ _ _ _ _
      | exact ih1 _ _ _ _ _ _ _
      | exact ih2 _ _ _
      | exact millwrightlaw01_shown.mono _
      | exact millwrightref01_Text.mono _ _
      | exact LeO.none _
      | refine LeO.ite ?_ ?_
      | refine LeO.bind ?_ (fun _ => ?_)
    · intro y0 y1 y2
      unfold millwrightlaw01_NumTexts.j2
      repeat' first
      | (with_reducible exact ih0 _ _ _ _ _ _ _)
      | (with_reducible exact ih1 _ _ _ _ _ _ _)
      | (with_reducible exact ih2 _ _ _)
      | (with_reducible exact millwrightlaw01_shown.mono _)
      | (with_reducible exact millwrightref01_Text.mono _ _)
      | (with_reducible exact LeO.refl _)
      | (with_reducible exact LeO.none _)
      | (with_reducible refine LeO.ite ?_ ?_)
      | (with_reducible refine LeO.bind ?_ (fun _ => ?_))
      | exact ih0 _ _ _ _ _ _ _
      | exact ih1 _ _ _ _ _ _ _
      | exact ih2 _ _ _
      | exact millwrightlaw01_shown.mono _
      | exact millwrightref01_Text.mono _ _
      | exact LeO.none _
      | refine LeO.ite ?_ ?_
      | refine LeO.bind ?_ (fun _ => ?_)
theorem millwrightlaw01_NumTexts.mono : ∀ a0 a1 k, LeO (millwrightlaw01_NumTexts.f k a0 a1) (millwrightlaw01_NumTexts.f (k + 1) a0 a1) := by
  intro a0 a1 k
  obtain ⟨ih0, ih1, ih2⟩ := millwrightlaw01_NumTexts.mono_l k
  unfold millwrightlaw01_NumTexts.f
  repeat' first
      | (with_reducible exact ih0 _ _ _ _ _ _ _)
      | (with_reducible exact ih1 _ _ _ _ _ _ _)
      | (with_reducible exact ih2 _ _ _)
      | (with_reducible exact millwrightlaw01_shown.mono _)
      | (with_reducible exact millwrightref01_Text.mono _ _)
      | (with_reducible exact LeO.refl _)
      | (with_reducible exact LeO.none _)
      | (with_reducible refine LeO.ite ?_ ?_)
      | (with_reducible refine LeO.bind ?_ (fun _ => ?_))
      | exact ih0 _ _ _ _ _ _ _
      | exact ih1 _ _ _ _ _ _ _
      | exact ih2 _ _ _
      | exact millwrightlaw01_shown.mono _
      | exact millwrightref01_Text.mono _ _
      | exact LeO.none _
      | refine LeO.ite ?_ ?_
      | refine LeO.bind ?_ (fun _ => ?_)
set_option maxHeartbeats 8000000 in
set_option maxRecDepth 100000 in
theorem millwrightlaw01_NumTexts.calls (k : Nat) (a0 : Int) (a1 : ByteArray) (r : Bool) (w : World) (h : millwrightlaw01_NumTexts.f k a0 a1 = some r) (HT : NumA.Tab w) :
    Calls Tryd.prog 5 #[.int .i64 a0, .string a1] w fun e w' => e = .returned (.bool r) ∧ Below w.heap.size w w' := by
  have HB := Aside0.mk (Below.refl w.heap.size w)
  have H : ((millwrightlaw01_shown.f k).bind fun t133 => ((num_Text.f a0).bind fun t134 => ((num_Parse.f t134).bind fun bt135 => (if a0 > 1048576 then (millwrightlaw01_NumTexts.j0 k a0 a1 t133 t134 bt135.1 bt135.2 3) else (millwrightlaw01_NumTexts.j0 k a0 a1 t133 t134 bt135.1 bt135.2 0))))) = some r := h
  clear h
  replace H := Option.bind_eq_some_iff.mp H
  obtain ⟨t133, A30, H⟩ := H
  replace H : ((num_Text.f a0).bind fun t134 => ((num_Parse.f t134).bind fun bt135 => (if a0 > 1048576 then (millwrightlaw01_NumTexts.j0 k a0 a1 t133 t134 bt135.1 bt135.2 3) else (millwrightlaw01_NumTexts.j0 k a0 a1 t133 t134 bt135.1 bt135.2 0)))) = some r := H
  have A3 := Aside0.mk A30
  clear A30
  replace H := Option.bind_eq_some_iff.mp H
  obtain ⟨t134, A40, H⟩ := H
  replace H : ((num_Parse.f t134).bind fun bt135 => (if a0 > 1048576 then (millwrightlaw01_NumTexts.j0 k a0 a1 t133 t134 bt135.1 bt135.2 3) else (millwrightlaw01_NumTexts.j0 k a0 a1 t133 t134 bt135.1 bt135.2 0))) = some r := H
  have A4 := Aside0.mk A40
  clear A40
  replace H := Option.bind_eq_some_iff.mp H
  obtain ⟨⟨t135, t136⟩, A50, H⟩ := H
  replace H : (if a0 > 1048576 then (millwrightlaw01_NumTexts.j0 k a0 a1 t133 t134 t135 t136 3) else (millwrightlaw01_NumTexts.j0 k a0 a1 t133 t134 t135 t136 0)) = some r := H
  have A5 := Aside0.mk A50
  clear A50
  have HC6 := Aside0.mk H
  clear H
  go_enter Tryd.func5, Tryd.ntmps5
  go_upto_if 21 with (first | ((with_reducible refine gate_callee (f := 13) rfl ?_); refine goesL_ (some 12) rfl rfl Tryd.func13 (by kernel_rfl) rfl #[] rfl (by (try simp only [List.map_toArray, List.map_cons, List.map_nil]); first | done | rfl | (simp only [List.length_drop, List.length_take]; rfl)) ?_; (with_reducible refine (millwrightlaw01_shown.calls k  t133 _ A3.out (NumA.Tab.below HT (by repeat (first | (with_reducible first | exact HB.out | apply below_alloc | apply pw_below_drewN | apply below_drew1) | exact HB.out)))).mono ?_); rintro e w7 ⟨rfl, hb⟩; refine ⟨_, rfl, ?_⟩; have n0_ := Aside0.mk (below_step (by repeat (first | (with_reducible first | exact HB.out | apply below_alloc | apply pw_below_drewN | apply below_drew1) | exact HB.out)) hb); clear HB; have HB := n0_; clear n0_; (try clear hb); (try clear hb2); (try clear hk); (try clear hi)) | ((with_reducible refine gate_callee (f := 18) rfl ?_); refine goesL_ (some 14) rfl rfl Tryd.func18 (by kernel_rfl) rfl #[.int .i64 a0] rfl (by (try simp only [List.map_toArray, List.map_cons, List.map_nil]); first | done | rfl | (simp only [List.length_drop, List.length_take]; rfl)) ?_; (with_reducible refine (num_Text.calls a0 t134 _ A4.out (NumA.Tab.below HT (by repeat (first | (with_reducible first | exact HB.out | apply below_alloc | apply pw_below_drewN | apply below_drew1) | exact HB.out)))).mono ?_); rintro e w8 ⟨rfl, hb⟩; refine ⟨_, rfl, ?_⟩; have n0_ := Aside0.mk (below_step (by repeat (first | (with_reducible first | exact HB.out | apply below_alloc | apply pw_below_drewN | apply below_drew1) | exact HB.out)) hb); clear HB; have HB := n0_; clear n0_; (try clear hb); (try clear hb2); (try clear hk); (try clear hi)) | ((with_reducible refine gate_callee (f := 16) rfl ?_); refine goesL_ (some 17) rfl rfl Tryd.func16 (by kernel_rfl) rfl #[.string t134] rfl (by (try simp only [List.map_toArray, List.map_cons, List.map_nil]); first | done | rfl | (simp only [List.length_drop, List.length_take]; rfl)) ?_; (with_reducible refine (num_Parse.calls t134 t135 t136 _ A5.out).mono ?_); rintro e w9 ⟨rfl, hb⟩; refine ⟨_, rfl, ?_⟩; have n0_ := Aside0.mk (below_step (by repeat (first | (with_reducible first | exact HB.out | apply below_alloc | apply pw_below_drewN | apply below_drew1) | exact HB.out)) hb); clear HB; have HB := n0_; clear n0_; (try clear hb); (try clear hb2); (try clear hk); (try clear hi)))
  (try simp only [Act.put, List.setIfInBounds_toArray, List.set_cons_zero, List.set_cons_succ])
  go_cut [9] (fun v9 wc => ∃ (kq : Nat) (x9_5 : Int), v9 = .int .i64 x9_5 ∧ Aside0 (millwrightlaw01_NumTexts.j0 kq a0 a1 t133 t134 t135 t136 x9_5 = some r) ∧ Aside0 (kq ≤ k) ∧ Aside0 (Below w.heap.size w wc))
  case first =>
    have H := HC6.out
    clear HC6
    by_cases c10 : a0 > 1048576
    · rw [if_pos c10] at H
      have c10b0 : decide (1048576 < a0) = true := decide_eq_true c10
      clear c10
      (first | rw [c10b0] | (simp only [i64_w, i32_w]; rw [c10b0]) | skip)
      have H' := Aside0.mk H
      clear H
      go_wp2
      go_meet
      case rel => exact ⟨_, (3), (by first | rfl | (simp; done) | (simp [*]; done)), H', ⟨by first | omega | exact Nat.le_refl _⟩, ⟨by repeat (first | (with_reducible first | exact HB.out | apply below_alloc | apply pw_below_drewN | apply below_drew1) | exact HB.out)⟩⟩
    · rw [if_neg c10] at H
      have c10b0 : decide (1048576 < a0) = false := decide_eq_false c10
      clear c10
      (first | rw [c10b0] | (simp only [i64_w, i32_w]; rw [c10b0]) | skip)
      have H' := Aside0.mk H
      clear H
      go_wp2
      go_meet
      case rel => exact ⟨_, (0), (by first | rfl | (simp; done) | (simp [*]; done)), H', ⟨by first | omega | exact Nat.le_refl _⟩, ⟨by repeat (first | (with_reducible first | exact HB.out | apply below_alloc | apply pw_below_drewN | apply below_drew1) | exact HB.out)⟩⟩
  case rest =>
    clear HC6
    try clear c1
    try clear p2
    try clear c5
    try clear c10
    try clear c10b0
    obtain ⟨kq, x9_5, rfl, HA, HJ5, HB⟩ := hcut
    cases kq with
    | zero => exact absurd HA.out (by simp [millwrightlaw01_NumTexts.j0])
    | succ kj5 =>
      have H := HA.out
      clear HA
      simp only [millwrightlaw01_NumTexts.j0] at H
      have HC11 := Aside0.mk H
      clear H
      go_upto_if 23 with (fail)
      go_cut [9] (fun v9 wc => ∃ (kq : Nat) (x9_10 : Int), v9 = .int .i64 x9_10 ∧ Aside0 (millwrightlaw01_NumTexts.j1 kq a0 a1 t133 t134 t135 t136 x9_10 = some r) ∧ Aside0 (kq ≤ kj5) ∧ Aside0 (Below w.heap.size w wc))
      case first =>
        have H := HC11.out
        clear HC11
        by_cases c12 : a0 < 0
        · rw [if_pos c12] at H
          have c12b0 : decide (a0 < 0) = true := decide_eq_true c12
          clear c12
          (first | rw [c12b0] | (simp only [i64_w, i32_w]; rw [c12b0]) | skip)
          have H' := Aside0.mk H
          clear H
          go_wp2
          go_meet
          case rel => exact ⟨_, (2), (by first | rfl | (simp; done) | (simp [*]; done)), H', ⟨by have := HJ5.out; first | omega | exact Nat.le_refl _⟩, ⟨by repeat (first | (with_reducible first | exact HB.out | apply below_alloc | apply pw_below_drewN | apply below_drew1) | exact HB.out)⟩⟩
        · rw [if_neg c12] at H
          have c12b0 : decide (a0 < 0) = false := decide_eq_false c12
          clear c12
          (first | rw [c12b0] | (simp only [i64_w, i32_w]; rw [c12b0]) | skip)
          have H' := Aside0.mk H
          clear H
          go_wp2
          go_meet
          case rel => exact ⟨_, (x9_5), (by first | rfl | (simp; done) | (simp [*]; done)), H', ⟨by have := HJ5.out; first | omega | exact Nat.le_refl _⟩, ⟨by repeat (first | (with_reducible first | exact HB.out | apply below_alloc | apply pw_below_drewN | apply below_drew1) | exact HB.out)⟩⟩
      case rest =>
        clear HC11
        try clear c1
        try clear p2
        try clear c5
        try clear c10
        try clear c10b0
        try clear c12
        try clear c12b0
        try clear p2
        obtain ⟨kq, x9_10, rfl, HA, HJ10, HB⟩ := hcut
        cases kq with
        | zero => exact absurd HA.out (by simp [millwrightlaw01_NumTexts.j1])
        | succ kj10 =>
          have H := HA.out
          clear HA
          simp only [millwrightlaw01_NumTexts.j1] at H
          have HC13 := Aside0.mk H
          clear H
          go_upto_region 9 with (fail)
          go_cut [62] (fun v62 wc => ∃ (kq : Nat) (x62_12 : Bool), v62 = .bool x62_12 ∧ Aside0 (millwrightlaw01_NumTexts.j2 kq a1 t133 x62_12 = some r) ∧ Aside0 (kq ≤ kj10) ∧ Aside0 (Below w.heap.size w wc))
          case first =>
            have H := HC13.out
            clear HC13
            by_cases c14 : t136 = x9_10
            · rw [if_pos c14] at H
              have c14b0 : (t136 == x9_10) = true := beq_iff_eq.mpr c14
              have c14b1 : (t136 != x9_10) = false := bne_eq_false_iff_eq.mpr c14
              clear c14
              (first | rw [c14b0] | (simp only [i64_w, i32_w]; rw [c14b0]) | skip)
              by_cases c15 : t136 = 0
              · rw [if_pos c15] at H
                have c15b0 : (t136 == 0) = true := beq_iff_eq.mpr c15
                have c15b1 : (t136 != 0) = false := bne_eq_false_iff_eq.mpr c15
                clear c15
                by_cases c16 : t135 = a0
                · rw [if_pos c16] at H
                  have c16b0 : (t135 == a0) = true := beq_iff_eq.mpr c16
                  have c16b1 : (t135 != a0) = false := bne_eq_false_iff_eq.mpr c16
                  clear c16
                  by_cases c17 : a0 ≥ 0
                  · rw [if_pos c17] at H
                    have c17b0 : decide (0 ≤ a0) = true := decide_eq_true c17
                    clear c17
                    replace H := Option.bind_eq_some_iff.mp H
                    obtain ⟨t137, A180, H⟩ := H
                    replace H : (if t134.toList = t137.toList then (if a0 < 0 then (if 0 < (t134.size : Int) then (millwrightlaw01_NumTexts.j2 kj10 a1 t133 ((bt t134 0) != 45)) else (none)) else (millwrightlaw01_NumTexts.j2 kj10 a1 t133 false)) else (millwrightlaw01_NumTexts.j2 kj10 a1 t133 true)) = some r := H
                    have A18 := Aside0.mk A180
                    clear A180
                    by_cases c19 : t134.toList = t137.toList
                    · rw [if_pos c19] at H
                      have c19b0 : (t134.toList == t137.toList) = true := beq_iff_eq.mpr c19
                      have c19b1 : (t134.toList != t137.toList) = false := bne_eq_false_iff_eq.mpr c19
                      clear c19
                      by_cases c20 : a0 < 0
                      · rw [if_pos c20] at H
                        have c20b0 : decide (a0 < 0) = true := decide_eq_true c20
                        clear c20
                        by_cases c21 : 0 < (t134.size : Int)
                        · rw [if_pos c21] at H
                          have c21b0 : decide (0 < (t134.size : Int)) = true := decide_eq_true c21
                          have c21b1 : decide (0 < t134.size) = true := decide_eq_true (by omega)
                          clear c21
                          have H' := Aside0.mk H
                          clear H
                          go_wp2_with (first | (go_at_call 19; (with_reducible refine (millwrightref01_Text.calls kj10 a0 t137 _ A18.out).mono ?_); rintro e w23 ⟨rfl, hb⟩; have n0_ := Aside0.mk (below_step (by repeat (first | (with_reducible first | exact HB.out | apply below_alloc | apply pw_below_drewN | apply below_drew1) | exact HB.out)) hb); clear HB; have HB := n0_; clear n0_; (try clear hb); (try clear hb2); (try clear hk); (try clear hi); have p22 : 0 ≤ (0 : Int) := (by omega); have q22 : 0 < t134.size := (by have : (0 : Int) < (t134.size : Int) := of_decide_eq_true (by first | (with_reducible assumption) | assumption); omega); have hx22 : ∀ h : 0 < t134.size, ((t134[0]'h).toNat : Int) = bt t134 0 := bt_at t134 0; clear p22; have qi22 : (0 < (t134.size : Int)) = True := eq_true (of_decide_eq_true (by first | (with_reducible assumption) | assumption)); replace q22 := eq_true q22))
                          go_meet
                          case rel => exact ⟨_, (((bt t134 0) != 45)), (by first | rfl | (simp; done) | (simp [*]; done)), H', ⟨by have := HJ5.out; have := HJ10.out; first | omega | exact Nat.le_refl _⟩, ⟨by repeat (first | (with_reducible first | exact HB.out | apply below_alloc | apply pw_below_drewN | apply below_drew1) | exact HB.out)⟩⟩
                        · rw [if_neg c21] at H
                          exact absurd H (by simp)
                      · rw [if_neg c20] at H
                        have c20b0 : decide (a0 < 0) = false := decide_eq_false c20
                        clear c20
                        have H' := Aside0.mk H
                        clear H
                        go_wp2_with (first | (go_at_call 19; (with_reducible refine (millwrightref01_Text.calls kj10 a0 t137 _ A18.out).mono ?_); rintro e w24 ⟨rfl, hb⟩; have n0_ := Aside0.mk (below_step (by repeat (first | (with_reducible first | exact HB.out | apply below_alloc | apply pw_below_drewN | apply below_drew1) | exact HB.out)) hb); clear HB; have HB := n0_; clear n0_; (try clear hb); (try clear hb2); (try clear hk); (try clear hi)))
                        go_meet
                        case rel => exact ⟨_, (false), (by first | rfl | (simp; done) | (simp [*]; done)), H', ⟨by have := HJ5.out; have := HJ10.out; first | omega | exact Nat.le_refl _⟩, ⟨by repeat (first | (with_reducible first | exact HB.out | apply below_alloc | apply pw_below_drewN | apply below_drew1) | exact HB.out)⟩⟩
                    · rw [if_neg c19] at H
                      have c19b0 : (t134.toList == t137.toList) = false := beq_eq_false_iff_ne.mpr c19
                      have c19b1 : (t134.toList != t137.toList) = true := bne_iff_ne.mpr c19
                      have H' := Aside0.mk H
                      clear H
                      go_wp2_with (first | (go_at_call 19; (with_reducible refine (millwrightref01_Text.calls kj10 a0 t137 _ A18.out).mono ?_); rintro e w25 ⟨rfl, hb⟩; have n0_ := Aside0.mk (below_step (by repeat (first | (with_reducible first | exact HB.out | apply below_alloc | apply pw_below_drewN | apply below_drew1) | exact HB.out)) hb); clear HB; have HB := n0_; clear n0_; (try clear hb); (try clear hb2); (try clear hk); (try clear hi)))
                      go_meet
                      case rel => exact ⟨_, (true), (by first | rfl | (simp; done) | (simp [*]; done)), H', ⟨by have := HJ5.out; have := HJ10.out; first | omega | exact Nat.le_refl _⟩, ⟨by repeat (first | (with_reducible first | exact HB.out | apply below_alloc | apply pw_below_drewN | apply below_drew1) | exact HB.out)⟩⟩
                  · rw [if_neg c17] at H
                    have c17b0 : decide (0 ≤ a0) = false := decide_eq_false c17
                    clear c17
                    by_cases c26 : a0 < 0
                    · rw [if_pos c26] at H
                      have c26b0 : decide (a0 < 0) = true := decide_eq_true c26
                      clear c26
                      by_cases c27 : 0 < (t134.size : Int)
                      · rw [if_pos c27] at H
                        have c27b0 : decide (0 < (t134.size : Int)) = true := decide_eq_true c27
                        have c27b1 : decide (0 < t134.size) = true := decide_eq_true (by omega)
                        clear c27
                        have H' := Aside0.mk H
                        clear H
                        have p28 : 0 ≤ (0 : Int) := (by omega)
                        have q28 : 0 < t134.size := (by have : (0 : Int) < (t134.size : Int) := of_decide_eq_true (by first | (with_reducible assumption) | assumption); omega)
                        have hx28 : ∀ h : 0 < t134.size, ((t134[0]'h).toNat : Int) = bt t134 0 := bt_at t134 0
                        clear p28
                        have qi28 : (0 < (t134.size : Int)) = True := eq_true (of_decide_eq_true (by first | (with_reducible assumption) | assumption))
                        replace q28 := eq_true q28
                        go_wp2
                        go_meet
                        case rel => exact ⟨_, (((bt t134 0) != 45)), (by first | rfl | (simp; done) | (simp [*]; done)), H', ⟨by have := HJ5.out; have := HJ10.out; first | omega | exact Nat.le_refl _⟩, ⟨by repeat (first | (with_reducible first | exact HB.out | apply below_alloc | apply pw_below_drewN | apply below_drew1) | exact HB.out)⟩⟩
                      · rw [if_neg c27] at H
                        exact absurd H (by simp)
                    · rw [if_neg c26] at H
                      have c26b0 : decide (a0 < 0) = false := decide_eq_false c26
                      clear c26
                      have H' := Aside0.mk H
                      clear H
                      go_wp2
                      go_meet
                      case rel => exact ⟨_, (false), (by first | rfl | (simp; done) | (simp [*]; done)), H', ⟨by have := HJ5.out; have := HJ10.out; first | omega | exact Nat.le_refl _⟩, ⟨by repeat (first | (with_reducible first | exact HB.out | apply below_alloc | apply pw_below_drewN | apply below_drew1) | exact HB.out)⟩⟩
                · rw [if_neg c16] at H
                  have c16b0 : (t135 == a0) = false := beq_eq_false_iff_ne.mpr c16
                  have c16b1 : (t135 != a0) = true := bne_iff_ne.mpr c16
                  have H' := Aside0.mk H
                  clear H
                  go_wp2
                  go_meet
                  case rel => exact ⟨_, (true), (by first | rfl | (simp; done) | (simp [*]; done)), H', ⟨by have := HJ5.out; have := HJ10.out; first | omega | exact Nat.le_refl _⟩, ⟨by repeat (first | (with_reducible first | exact HB.out | apply below_alloc | apply pw_below_drewN | apply below_drew1) | exact HB.out)⟩⟩
              · rw [if_neg c15] at H
                have c15b0 : (t136 == 0) = false := beq_eq_false_iff_ne.mpr c15
                have c15b1 : (t136 != 0) = true := bne_iff_ne.mpr c15
                by_cases c29 : t135 = 0
                · rw [if_pos c29] at H
                  have c29b0 : (t135 == 0) = true := beq_iff_eq.mpr c29
                  have c29b1 : (t135 != 0) = false := bne_eq_false_iff_eq.mpr c29
                  clear c29
                  by_cases c30 : a0 ≥ 0
                  · rw [if_pos c30] at H
                    have c30b0 : decide (0 ≤ a0) = true := decide_eq_true c30
                    clear c30
                    replace H := Option.bind_eq_some_iff.mp H
                    obtain ⟨t138, A310, H⟩ := H
                    replace H : (if t134.toList = t138.toList then (if a0 < 0 then (if 0 < (t134.size : Int) then (millwrightlaw01_NumTexts.j2 kj10 a1 t133 ((bt t134 0) != 45)) else (none)) else (millwrightlaw01_NumTexts.j2 kj10 a1 t133 false)) else (millwrightlaw01_NumTexts.j2 kj10 a1 t133 true)) = some r := H
                    have A31 := Aside0.mk A310
                    clear A310
                    by_cases c32 : t134.toList = t138.toList
                    · rw [if_pos c32] at H
                      have c32b0 : (t134.toList == t138.toList) = true := beq_iff_eq.mpr c32
                      have c32b1 : (t134.toList != t138.toList) = false := bne_eq_false_iff_eq.mpr c32
                      clear c32
                      by_cases c33 : a0 < 0
                      · rw [if_pos c33] at H
                        have c33b0 : decide (a0 < 0) = true := decide_eq_true c33
                        clear c33
                        by_cases c34 : 0 < (t134.size : Int)
                        · rw [if_pos c34] at H
                          have c34b0 : decide (0 < (t134.size : Int)) = true := decide_eq_true c34
                          have c34b1 : decide (0 < t134.size) = true := decide_eq_true (by omega)
                          clear c34
                          have H' := Aside0.mk H
                          clear H
                          go_wp2_with (first | (go_at_call 19; (with_reducible refine (millwrightref01_Text.calls kj10 a0 t138 _ A31.out).mono ?_); rintro e w36 ⟨rfl, hb⟩; have n0_ := Aside0.mk (below_step (by repeat (first | (with_reducible first | exact HB.out | apply below_alloc | apply pw_below_drewN | apply below_drew1) | exact HB.out)) hb); clear HB; have HB := n0_; clear n0_; (try clear hb); (try clear hb2); (try clear hk); (try clear hi); have p35 : 0 ≤ (0 : Int) := (by omega); have q35 : 0 < t134.size := (by have : (0 : Int) < (t134.size : Int) := of_decide_eq_true (by first | (with_reducible assumption) | assumption); omega); have hx35 : ∀ h : 0 < t134.size, ((t134[0]'h).toNat : Int) = bt t134 0 := bt_at t134 0; clear p35; have qi35 : (0 < (t134.size : Int)) = True := eq_true (of_decide_eq_true (by first | (with_reducible assumption) | assumption)); replace q35 := eq_true q35))
                          go_meet
                          case rel => exact ⟨_, (((bt t134 0) != 45)), (by first | rfl | (simp; done) | (simp [*]; done)), H', ⟨by have := HJ5.out; have := HJ10.out; first | omega | exact Nat.le_refl _⟩, ⟨by repeat (first | (with_reducible first | exact HB.out | apply below_alloc | apply pw_below_drewN | apply below_drew1) | exact HB.out)⟩⟩
                        · rw [if_neg c34] at H
                          exact absurd H (by simp)
                      · rw [if_neg c33] at H
                        have c33b0 : decide (a0 < 0) = false := decide_eq_false c33
                        clear c33
                        have H' := Aside0.mk H
                        clear H
                        go_wp2_with (first | (go_at_call 19; (with_reducible refine (millwrightref01_Text.calls kj10 a0 t138 _ A31.out).mono ?_); rintro e w37 ⟨rfl, hb⟩; have n0_ := Aside0.mk (below_step (by repeat (first | (with_reducible first | exact HB.out | apply below_alloc | apply pw_below_drewN | apply below_drew1) | exact HB.out)) hb); clear HB; have HB := n0_; clear n0_; (try clear hb); (try clear hb2); (try clear hk); (try clear hi)))
                        go_meet
                        case rel => exact ⟨_, (false), (by first | rfl | (simp; done) | (simp [*]; done)), H', ⟨by have := HJ5.out; have := HJ10.out; first | omega | exact Nat.le_refl _⟩, ⟨by repeat (first | (with_reducible first | exact HB.out | apply below_alloc | apply pw_below_drewN | apply below_drew1) | exact HB.out)⟩⟩
                    · rw [if_neg c32] at H
                      have c32b0 : (t134.toList == t138.toList) = false := beq_eq_false_iff_ne.mpr c32
                      have c32b1 : (t134.toList != t138.toList) = true := bne_iff_ne.mpr c32
                      have H' := Aside0.mk H
                      clear H
                      go_wp2_with (first | (go_at_call 19; (with_reducible refine (millwrightref01_Text.calls kj10 a0 t138 _ A31.out).mono ?_); rintro e w38 ⟨rfl, hb⟩; have n0_ := Aside0.mk (below_step (by repeat (first | (with_reducible first | exact HB.out | apply below_alloc | apply pw_below_drewN | apply below_drew1) | exact HB.out)) hb); clear HB; have HB := n0_; clear n0_; (try clear hb); (try clear hb2); (try clear hk); (try clear hi)))
                      go_meet
                      case rel => exact ⟨_, (true), (by first | rfl | (simp; done) | (simp [*]; done)), H', ⟨by have := HJ5.out; have := HJ10.out; first | omega | exact Nat.le_refl _⟩, ⟨by repeat (first | (with_reducible first | exact HB.out | apply below_alloc | apply pw_below_drewN | apply below_drew1) | exact HB.out)⟩⟩
                  · rw [if_neg c30] at H
                    have c30b0 : decide (0 ≤ a0) = false := decide_eq_false c30
                    clear c30
                    by_cases c39 : a0 < 0
                    · rw [if_pos c39] at H
                      have c39b0 : decide (a0 < 0) = true := decide_eq_true c39
                      clear c39
                      by_cases c40 : 0 < (t134.size : Int)
                      · rw [if_pos c40] at H
                        have c40b0 : decide (0 < (t134.size : Int)) = true := decide_eq_true c40
                        have c40b1 : decide (0 < t134.size) = true := decide_eq_true (by omega)
                        clear c40
                        have H' := Aside0.mk H
                        clear H
                        have p41 : 0 ≤ (0 : Int) := (by omega)
                        have q41 : 0 < t134.size := (by have : (0 : Int) < (t134.size : Int) := of_decide_eq_true (by first | (with_reducible assumption) | assumption); omega)
                        have hx41 : ∀ h : 0 < t134.size, ((t134[0]'h).toNat : Int) = bt t134 0 := bt_at t134 0
                        clear p41
                        have qi41 : (0 < (t134.size : Int)) = True := eq_true (of_decide_eq_true (by first | (with_reducible assumption) | assumption))
                        replace q41 := eq_true q41
                        go_wp2
                        go_meet
                        case rel => exact ⟨_, (((bt t134 0) != 45)), (by first | rfl | (simp; done) | (simp [*]; done)), H', ⟨by have := HJ5.out; have := HJ10.out; first | omega | exact Nat.le_refl _⟩, ⟨by repeat (first | (with_reducible first | exact HB.out | apply below_alloc | apply pw_below_drewN | apply below_drew1) | exact HB.out)⟩⟩
                      · rw [if_neg c40] at H
                        exact absurd H (by simp)
                    · rw [if_neg c39] at H
                      have c39b0 : decide (a0 < 0) = false := decide_eq_false c39
                      clear c39
                      have H' := Aside0.mk H
                      clear H
                      go_wp2
                      go_meet
                      case rel => exact ⟨_, (false), (by first | rfl | (simp; done) | (simp [*]; done)), H', ⟨by have := HJ5.out; have := HJ10.out; first | omega | exact Nat.le_refl _⟩, ⟨by repeat (first | (with_reducible first | exact HB.out | apply below_alloc | apply pw_below_drewN | apply below_drew1) | exact HB.out)⟩⟩
                · rw [if_neg c29] at H
                  have c29b0 : (t135 == 0) = false := beq_eq_false_iff_ne.mpr c29
                  have c29b1 : (t135 != 0) = true := bne_iff_ne.mpr c29
                  have H' := Aside0.mk H
                  clear H
                  go_wp2
                  go_meet
                  case rel => exact ⟨_, (true), (by first | rfl | (simp; done) | (simp [*]; done)), H', ⟨by have := HJ5.out; have := HJ10.out; first | omega | exact Nat.le_refl _⟩, ⟨by repeat (first | (with_reducible first | exact HB.out | apply below_alloc | apply pw_below_drewN | apply below_drew1) | exact HB.out)⟩⟩
            · rw [if_neg c14] at H
              have c14b0 : (t136 == x9_10) = false := beq_eq_false_iff_ne.mpr c14
              have c14b1 : (t136 != x9_10) = true := bne_iff_ne.mpr c14
              (first | rw [c14b0] | (simp only [i64_w, i32_w]; rw [c14b0]) | skip)
              have H' := Aside0.mk H
              clear H
              go_wp2
              go_meet
              case rel => exact ⟨_, (true), (by first | rfl | (simp; done) | (simp [*]; done)), H', ⟨by have := HJ5.out; have := HJ10.out; first | omega | exact Nat.le_refl _⟩, ⟨by repeat (first | (with_reducible first | exact HB.out | apply below_alloc | apply pw_below_drewN | apply below_drew1) | exact HB.out)⟩⟩
          case rest =>
            clear HC13
            try clear c1
            try clear c2
            try clear p2
            try clear q2
            try clear hx2
            try clear qi2
            try clear c3
            try clear p3
            try clear q3
            try clear hx3
            try clear qi3
            try clear c4
            try clear p4
            try clear q4
            try clear hx4
            try clear qi4
            try clear c5
            try clear c10
            try clear c10b0
            try clear c12
            try clear c12b0
            try clear c13
            try clear c14
            try clear c14b0
            try clear c14b1
            try clear c15
            try clear c15b0
            try clear c15b1
            try clear c16
            try clear c16b0
            try clear c16b1
            try clear c17
            try clear c17b0
            try clear c18
            try clear c19
            try clear c19b0
            try clear c19b1
            try clear c20
            try clear c20b0
            try clear c21
            try clear c21b0
            try clear c21b1
            try clear p22
            try clear q22
            try clear hx22
            try clear qi22
            try clear c26
            try clear c26b0
            try clear c27
            try clear c27b0
            try clear c27b1
            try clear p28
            try clear q28
            try clear hx28
            try clear qi28
            try clear c29
            try clear c29b0
            try clear c29b1
            try clear c30
            try clear c30b0
            try clear c32
            try clear c32b0
            try clear c32b1
            try clear c33
            try clear c33b0
            try clear c34
            try clear c34b0
            try clear c34b1
            try clear p35
            try clear q35
            try clear hx35
            try clear qi35
            try clear c39
            try clear c39b0
            try clear c40
            try clear c40b0
            try clear c40b1
            try clear p41
            try clear q41
            try clear hx41
            try clear qi41
            try clear p2
            try clear p22
            try clear p28
            try clear p35
            try clear p41
            try clear q22
            try clear q28
            try clear q35
            try clear q41
            obtain ⟨kq, x62_12, rfl, HA, HJ12, HB⟩ := hcut
            cases kq with
            | zero => exact absurd HA.out (by simp [millwrightlaw01_NumTexts.j2])
            | succ kj12 =>
              have H := HA.out
              clear HA
              simp only [millwrightlaw01_NumTexts.j2] at H
              by_cases c42 : x62_12 = true
              · subst c42
                have H1 : (some false) = some r := by rw [if_pos rfl] at H; exact H
                clear H
                have H := H1
                clear H1
                obtain rfl := Option.some.inj H
                go_wp2
                go_ret
                exact ⟨by first | rfl | (simp [errW_none, errW_some] <;> rfl) | (simp [*, errW_none, errW_some] <;> rfl), by repeat (first | (with_reducible first | exact HB.out | apply below_alloc | apply pw_below_drewN | apply below_drew1) | exact HB.out)⟩
              · replace c42 := Bool.eq_false_iff.mpr c42
                subst c42
                have H1 : (if 0 ≤ (mn (a1.size : Int) 50) then (if (mn (a1.size : Int) 50) ≤ (a1.size : Int) then ((num_Parse.f (a1.extract 0 ((mn (a1.size : Int) 50) : Int).toNat)).bind fun bt139 => (if t133 = true then (if bt139.2 = 0 then ((num_Text.f bt139.1).bind fun t141 => (some (t141.toList == (a1.extract 0 ((mn (a1.size : Int) 50) : Int).toNat).toList))) else (some true)) else (some false))) else (none)) else (none)) = some r := by rw [if_neg (show ¬ (false = true) by decide)] at H; exact H
                clear H
                have H := H1
                clear H1
                obtain ⟨ji43, hji43⟩ : ∃ j_ : Int, (mn (a1.size : Int) 50) = j_ := ⟨_, rfl⟩
                replace H : (if 0 ≤ (ji43) then (if (ji43) ≤ (a1.size : Int) then ((num_Parse.f (a1.extract 0 ((ji43) : Int).toNat)).bind fun bt139 => (if t133 = true then (if bt139.2 = 0 then ((num_Text.f bt139.1).bind fun t141 => (some (t141.toList == (a1.extract 0 ((ji43) : Int).toNat).toList))) else (some true)) else (some false))) else (none)) else (none)) = some r := by first | (rw [hji43] at H; exact H) | (simp only [hji43] at H ⊢; exact H)
                have hji43_ : (if 50 < (a1.size : Int) then 50 else (a1.size : Int)) = ji43 := hji43
                by_cases c44 : 0 ≤ (ji43)
                · rw [if_pos c44] at H
                  have c44b0 := eq_true c44
                  have c44b1 : decide (0 ≤ (ji43)) = true := decide_eq_true c44
                  clear c44
                  by_cases c45 : (ji43) ≤ (a1.size : Int)
                  · rw [if_pos c45] at H
                    have c45b0 := eq_true c45
                    have c45b1 : decide ((ji43) ≤ (a1.size : Int)) = true := decide_eq_true c45
                    clear c45
                    replace H := Option.bind_eq_some_iff.mp H
                    obtain ⟨⟨t139, t140⟩, A460, H⟩ := H
                    replace H : (if t133 = true then (if t140 = 0 then ((num_Text.f t139).bind fun t141 => (some (t141.toList == (a1.extract 0 ((ji43) : Int).toNat).toList))) else (some true)) else (some false)) = some r := H
                    have A46 := Aside0.mk A460
                    clear A460
                    by_cases c47 : t133 = true
                    · subst c47
                      have H1 : (if t140 = 0 then ((num_Text.f t139).bind fun t141 => (some (t141.toList == (a1.extract 0 ((ji43) : Int).toNat).toList))) else (some true)) = some r := by rw [if_pos rfl] at H; exact H
                      clear H
                      have H := H1
                      clear H1
                      by_cases c48 : t140 = 0
                      · rw [if_pos c48] at H
                        have c48b0 : (t140 == 0) = true := beq_iff_eq.mpr c48
                        have c48b1 : (t140 != 0) = false := bne_eq_false_iff_eq.mpr c48
                        clear c48
                        replace H := Option.bind_eq_some_iff.mp H
                        obtain ⟨t141, A490, H⟩ := H
                        replace H : (some (t141.toList == (a1.extract 0 ((ji43) : Int).toNat).toList)) = some r := H
                        have A49 := Aside0.mk A490
                        clear A490
                        obtain rfl := Option.some.inj H
                        go_wp2_with (first | ((with_reducible refine gate_callee (f := 16) rfl ?_); refine goesL_ (some 70) rfl rfl Tryd.func16 (by kernel_rfl) rfl #[.string (a1.extract 0 ((ji43) : Int).toNat)] rfl (by (try simp only [List.map_toArray, List.map_cons, List.map_nil]); first | done | (simp only [hji43]; rfl) | rfl | (simp only [List.length_drop, List.length_take]; rfl)) ?_; (with_reducible refine (num_Parse.calls (a1.extract 0 ((ji43) : Int).toNat) t139 t140 _ A46.out).mono ?_); rintro e w50 ⟨rfl, hb⟩; refine ⟨_, rfl, ?_⟩; have n0_ := Aside0.mk (below_step (by repeat (first | (with_reducible first | exact HB.out | apply below_alloc | apply pw_below_drewN | apply below_drew1) | exact HB.out)) hb); clear HB; have HB := n0_; clear n0_; (try clear hb); (try clear hb2); (try clear hk); (try clear hi)) | (go_at_call 18; (with_reducible refine (num_Text.calls t139 t141 _ A49.out (NumA.Tab.below HT (by repeat (first | (with_reducible first | exact HB.out | apply below_alloc | apply pw_below_drewN | apply below_drew1) | exact HB.out)))).mono ?_); rintro e w51 ⟨rfl, hb⟩; have n0_ := Aside0.mk (below_step (by repeat (first | (with_reducible first | exact HB.out | apply below_alloc | apply pw_below_drewN | apply below_drew1) | exact HB.out)) hb); clear HB; have HB := n0_; clear n0_; (try clear hb); (try clear hb2); (try clear hk); (try clear hi)))
                        go_ret
                        exact ⟨by first | rfl | (simp [errW_none, errW_some] <;> rfl) | (simp only [← hji43]; first | rfl | (simp [errW_none, errW_some] <;> rfl)) | (simp [*, errW_none, errW_some] <;> rfl), by repeat (first | (with_reducible first | exact HB.out | apply below_alloc | apply pw_below_drewN | apply below_drew1) | exact HB.out)⟩
                      · rw [if_neg c48] at H
                        have c48b0 : (t140 == 0) = false := beq_eq_false_iff_ne.mpr c48
                        have c48b1 : (t140 != 0) = true := bne_iff_ne.mpr c48
                        obtain rfl := Option.some.inj H
                        go_wp2_with (first | ((with_reducible refine gate_callee (f := 16) rfl ?_); refine goesL_ (some 70) rfl rfl Tryd.func16 (by kernel_rfl) rfl #[.string (a1.extract 0 ((ji43) : Int).toNat)] rfl (by (try simp only [List.map_toArray, List.map_cons, List.map_nil]); first | done | (simp only [hji43]; rfl) | rfl | (simp only [List.length_drop, List.length_take]; rfl)) ?_; (with_reducible refine (num_Parse.calls (a1.extract 0 ((ji43) : Int).toNat) t139 t140 _ A46.out).mono ?_); rintro e w52 ⟨rfl, hb⟩; refine ⟨_, rfl, ?_⟩; have n0_ := Aside0.mk (below_step (by repeat (first | (with_reducible first | exact HB.out | apply below_alloc | apply pw_below_drewN | apply below_drew1) | exact HB.out)) hb); clear HB; have HB := n0_; clear n0_; (try clear hb); (try clear hb2); (try clear hk); (try clear hi)))
                        go_ret
                        exact ⟨by first | rfl | (simp [errW_none, errW_some] <;> rfl) | (simp only [← hji43]; first | rfl | (simp [errW_none, errW_some] <;> rfl)) | (simp [*, errW_none, errW_some] <;> rfl), by repeat (first | (with_reducible first | exact HB.out | apply below_alloc | apply pw_below_drewN | apply below_drew1) | exact HB.out)⟩
                    · replace c47 := Bool.eq_false_iff.mpr c47
                      subst c47
                      have H1 : (some false) = some r := by rw [if_neg (show ¬ (false = true) by decide)] at H; exact H
                      clear H
                      have H := H1
                      clear H1
                      obtain rfl := Option.some.inj H
                      go_wp2_with (first | ((with_reducible refine gate_callee (f := 16) rfl ?_); refine goesL_ (some 70) rfl rfl Tryd.func16 (by kernel_rfl) rfl #[.string (a1.extract 0 ((ji43) : Int).toNat)] rfl (by (try simp only [List.map_toArray, List.map_cons, List.map_nil]); first | done | (simp only [hji43]; rfl) | rfl | (simp only [List.length_drop, List.length_take]; rfl)) ?_; (with_reducible refine (num_Parse.calls (a1.extract 0 ((ji43) : Int).toNat) t139 t140 _ A46.out).mono ?_); rintro e w53 ⟨rfl, hb⟩; refine ⟨_, rfl, ?_⟩; have n0_ := Aside0.mk (below_step (by repeat (first | (with_reducible first | exact HB.out | apply below_alloc | apply pw_below_drewN | apply below_drew1) | exact HB.out)) hb); clear HB; have HB := n0_; clear n0_; (try clear hb); (try clear hb2); (try clear hk); (try clear hi)))
                      go_ret
                      exact ⟨by first | rfl | (simp [errW_none, errW_some] <;> rfl) | (simp only [← hji43]; first | rfl | (simp [errW_none, errW_some] <;> rfl)) | (simp [*, errW_none, errW_some] <;> rfl), by repeat (first | (with_reducible first | exact HB.out | apply below_alloc | apply pw_below_drewN | apply below_drew1) | exact HB.out)⟩
                  · rw [if_neg c45] at H
                    exact absurd H (by simp)
                · rw [if_neg c44] at H
                  exact absurd H (by simp)

/-- THE ONE PURE STATEMENT of millwrightlaw01_NumTexts: yours. -/
def millwrightlaw01_NumTexts.Pure : Prop := ∀ (a0 : Int) (a1 : ByteArray), (Lit.int .i64 a0).wf = true → a1.size ≤ 140737488351232 → ∃ k, millwrightlaw01_NumTexts.f k a0 a1 = some true
theorem millwrightlaw01_NumTexts.walk (P : millwrightlaw01_NumTexts.Pure) (a0 : Int) (a1 : ByteArray) (w : World) (w0 : (Lit.int .i64 a0).wf = true) (w1 : a1.size ≤ 140737488351232) (HT : NumA.Tab w) :
    Calls Tryd.prog 5 #[.int .i64 a0, .string a1] w fun e w' => e = .returned (.bool true) ∧ Below w.heap.size w w' := by
  obtain ⟨k, h⟩ := P a0 a1 w0 w1
  refine (millwrightlaw01_NumTexts.calls k a0 a1 true w h HT).mono ?_
  rintro e w' ⟨rfl, hd⟩
  exact ⟨rfl, hd⟩

end Go.Proofs.YtbjkfafjcflggaaDoor.PNumTexts
