-- Printed for this claim by a program of this project's own, over the kit's printer; some functions are told by hand.
import Derived.Test.YtbjkfafjcflggaaDoorPNumDigitsx0
import Derived.Test.YtbjkfafjcflggaaDoorPNumDigitsx1
namespace Go.Proofs.YtbjkfafjcflggaaDoor.PNumDigits
open Go.RowKit Go.Proofs.YtbjkfafjcflggaaDoorW.PrintWords Go.Proofs.YtbjkfafjcflggaaDoorW.PrintLast Go.Proofs.YtbjkfafjcflggaaDoorW.PrintMore
attribute [local go_sem] max2_int min2_int max_two min_two max_three min_three max_four min_four   -- for this text's walks alone
set_option linter.unusedVariables false
set_option linter.unusedSimpArgs false

/-! ### millwrightlaw01_NumDigits: function 9 -/
mutual
def millwrightlaw01_NumDigits.j0 : Nat → Int → Bool → ByteArray → Option (Bool)
  | 0, _, _, _ => none
  | k + 1, x2, x7, x8 => if x2 ≥ 48 then (millwrightlaw01_NumDigits.j1 k x2 x7 x8 (decide (x2 ≤ 57))) else (millwrightlaw01_NumDigits.j1 k x2 x7 x8 false)
def millwrightlaw01_NumDigits.j1 : Nat → Int → Bool → ByteArray → Bool → Option (Bool)
  | 0, _, _, _, _ => none
  | k + 1, x2, x7, x8, x74 => if x74 = true then (some x7) else ((some (([x2] : List Int) : List Int)).bind fun y134 => (if x8.size + (strOfNums y134).size ≤ 9223372036854775807 then ((num_Parse.f (x8 ++ (strOfNums y134))).bind fun bt137 => ((some (([x2] : List Int) : List Int)).bind fun y139 => (if (strOfNums y139).size + x8.size ≤ 9223372036854775807 then ((num_Parse.f ((strOfNums y139) ++ x8)).bind fun bt142 => (if x7 = true then (if bt137.1 = 0 then (if bt137.2 = 2 then (if bt142.1 = 0 then (some (bt142.2 == 2)) else (some false)) else (some false)) else (some false)) else (some false))) else (none)))) else (none)))
end
def millwrightlaw01_NumDigits.f (k : Nat) (a0 : Int) (a1 : Int) (a2 : Int) : Option (Bool) := (millwrightlaw01_shown.f k).bind fun t127 => ((num_Text.f (Int.tmod (Go.bits .and .i64 a0 268435455) 1048577)).bind fun t128 => ((some (([(48 + (Int.tmod a1 10)) % 256] : List Int) : List Int)).bind fun y129 => (if t128.size + (strOfNums y129).size ≤ 9223372036854775807 then ((num_Parse.f (t128 ++ (strOfNums y129))).bind fun bt132 => (if (Int.tmod (Go.bits .and .i64 a0 268435455) 1048577) = 0 then (if bt132.2 = 2 then (if bt132.1 = 0 then (millwrightlaw01_NumDigits.j0 k a2 t127 t128) else (some false)) else (some false)) else (if ((bt132.2 == 0) != (decide ((wrap64 ((wrap64 (10 * (Int.tmod (Go.bits .and .i64 a0 268435455) 1048577))) + (wrap64 (Int.tmod a1 10)))) ≤ 1048576))) = true then (some false) else (if bt132.2 = 0 then (if bt132.1 = (wrap64 ((wrap64 (10 * (Int.tmod (Go.bits .and .i64 a0 268435455) 1048577))) + (wrap64 (Int.tmod a1 10)))) then (millwrightlaw01_NumDigits.j0 k a2 t127 t128) else (some false)) else (if bt132.2 = 3 then (millwrightlaw01_NumDigits.j0 k a2 t127 t128) else (some false)))))) else (none))))
theorem millwrightlaw01_NumDigits.mono_l : ∀ k, (∀ y0 y1 y2, LeO (millwrightlaw01_NumDigits.j0 k y0 y1 y2) (millwrightlaw01_NumDigits.j0 (k + 1) y0 y1 y2)) ∧ (∀ y0 y1 y2 y3, LeO (millwrightlaw01_NumDigits.j1 k y0 y1 y2 y3) (millwrightlaw01_NumDigits.j1 (k + 1) y0 y1 y2 y3))
  | 0 => ⟨fun _ _ _ r h => by simp [millwrightlaw01_NumDigits.j0] at h, fun _ _ _ _ r h => by simp [millwrightlaw01_NumDigits.j1] at h⟩
  | k + 1 => by
    obtain ⟨ih0, ih1⟩ := millwrightlaw01_NumDigits.mono_l k
    refine ⟨?_, ?_⟩
    · intro y0 y1 y2
      unfold millwrightlaw01_NumDigits.j0
      repeat' first
      | (with_reducible exact ih0 _ _ _)
      | (with_reducible exact ih1 _ _ _ _)
      | (with_reducible exact millwrightlaw01_shown.mono _)
      | (with_reducible exact LeO.refl _)
      | (with_reducible exact LeO.none _)
      | (with_reducible refine LeO.ite ?_ ?_)
      | (with_reducible refine LeO.bind ?_ (fun _ => ?_))
      | exact ih0 _ _ _
      | exact ih1 _ _ _ _
      | exact millwrightlaw01_shown.mono _
      | exact LeO.none _
      | refine LeO.ite ?_ ?_
      | refine LeO.bind ?_ (fun _ => ?_)
    · intro y0 y1 y2 y3
      unfold millwrightlaw01_NumDigits.j1
      repeat' first
      | (with_reducible exact ih0 _ _ _)
      | (with_reducible exact ih1 _ _ _ _)
      | (with_reducible exact millwrightlaw01_shown.mono _)
      | (with_reducible exact LeO.refl _)
      | (with_reducible exact LeO.none _)
      | (with_reducible refine LeO.ite ?_ ?_)
      | (with_reducible refine LeO.bind ?_ (fun _ => ?_))
      | exact ih0 _ _ _
      | exact ih1 _ _ _ _
      | exact millwrightlaw01_shown.mono _
      | exact LeO.none _
      | refine LeO.ite ?_ ?_
      | refine LeO.bind ?_ (fun _ => ?_)
theorem millwrightlaw01_NumDigits.mono : ∀ a0 a1 a2 k, LeO (millwrightlaw01_NumDigits.f k a0 a1 a2) (millwrightlaw01_NumDigits.f (k + 1) a0 a1 a2) := by
  intro a0 a1 a2 k
  obtain ⟨ih0, ih1⟩ := millwrightlaw01_NumDigits.mono_l k
  unfold millwrightlaw01_NumDigits.f
  repeat' first
      | (with_reducible exact ih0 _ _ _)
      | (with_reducible exact ih1 _ _ _ _)
      | (with_reducible exact millwrightlaw01_shown.mono _)
      | (with_reducible exact LeO.refl _)
      | (with_reducible exact LeO.none _)
      | (with_reducible refine LeO.ite ?_ ?_)
      | (with_reducible refine LeO.bind ?_ (fun _ => ?_))
      | exact ih0 _ _ _
      | exact ih1 _ _ _ _
      | exact millwrightlaw01_shown.mono _
      | exact LeO.none _
      | refine LeO.ite ?_ ?_
      | refine LeO.bind ?_ (fun _ => ?_)
set_option maxHeartbeats 8000000 in
set_option maxRecDepth 100000 in
theorem millwrightlaw01_NumDigits.calls (k : Nat) (a0 : Int) (a1 : Int) (a2 : Int) (r : Bool) (w : World) (h : millwrightlaw01_NumDigits.f k a0 a1 a2 = some r) (HT : NumA.Tab w) :
    Calls Tryd.prog 9 #[.int .i64 a0, .int .u8 a1, .int .u8 a2] w fun e w' => e = .returned (.bool r) ∧ Below w.heap.size w w' := by
  have HB := Aside0.mk (Below.refl w.heap.size w)
  have H : ((millwrightlaw01_shown.f k).bind fun t127 => ((num_Text.f (Int.tmod (Go.bits .and .i64 a0 268435455) 1048577)).bind fun t128 => ((some (([(48 + (Int.tmod a1 10)) % 256] : List Int) : List Int)).bind fun y129 => (if t128.size + (strOfNums y129).size ≤ 9223372036854775807 then ((num_Parse.f (t128 ++ (strOfNums y129))).bind fun bt132 => (if (Int.tmod (Go.bits .and .i64 a0 268435455) 1048577) = 0 then (if bt132.2 = 2 then (if bt132.1 = 0 then (millwrightlaw01_NumDigits.j0 k a2 t127 t128) else (some false)) else (some false)) else (if ((bt132.2 == 0) != (decide ((wrap64 ((wrap64 (10 * (Int.tmod (Go.bits .and .i64 a0 268435455) 1048577))) + (wrap64 (Int.tmod a1 10)))) ≤ 1048576))) = true then (some false) else (if bt132.2 = 0 then (if bt132.1 = (wrap64 ((wrap64 (10 * (Int.tmod (Go.bits .and .i64 a0 268435455) 1048577))) + (wrap64 (Int.tmod a1 10)))) then (millwrightlaw01_NumDigits.j0 k a2 t127 t128) else (some false)) else (if bt132.2 = 3 then (millwrightlaw01_NumDigits.j0 k a2 t127 t128) else (some false)))))) else (none))))) = some r := h
  clear h
  replace H := Option.bind_eq_some_iff.mp H
  obtain ⟨t127, A40, H⟩ := H
  replace H : ((num_Text.f (Int.tmod (Go.bits .and .i64 a0 268435455) 1048577)).bind fun t128 => ((some (([(48 + (Int.tmod a1 10)) % 256] : List Int) : List Int)).bind fun y129 => (if t128.size + (strOfNums y129).size ≤ 9223372036854775807 then ((num_Parse.f (t128 ++ (strOfNums y129))).bind fun bt132 => (if (Int.tmod (Go.bits .and .i64 a0 268435455) 1048577) = 0 then (if bt132.2 = 2 then (if bt132.1 = 0 then (millwrightlaw01_NumDigits.j0 k a2 t127 t128) else (some false)) else (some false)) else (if ((bt132.2 == 0) != (decide ((wrap64 ((wrap64 (10 * (Int.tmod (Go.bits .and .i64 a0 268435455) 1048577))) + (wrap64 (Int.tmod a1 10)))) ≤ 1048576))) = true then (some false) else (if bt132.2 = 0 then (if bt132.1 = (wrap64 ((wrap64 (10 * (Int.tmod (Go.bits .and .i64 a0 268435455) 1048577))) + (wrap64 (Int.tmod a1 10)))) then (millwrightlaw01_NumDigits.j0 k a2 t127 t128) else (some false)) else (if bt132.2 = 3 then (millwrightlaw01_NumDigits.j0 k a2 t127 t128) else (some false)))))) else (none)))) = some r := H
  have A4 := Aside0.mk A40
  clear A40
  replace H := Option.bind_eq_some_iff.mp H
  obtain ⟨t128, A50, H⟩ := H
  replace H : ((some (([(48 + (Int.tmod a1 10)) % 256] : List Int) : List Int)).bind fun y129 => (if t128.size + (strOfNums y129).size ≤ 9223372036854775807 then ((num_Parse.f (t128 ++ (strOfNums y129))).bind fun bt132 => (if (Int.tmod (Go.bits .and .i64 a0 268435455) 1048577) = 0 then (if bt132.2 = 2 then (if bt132.1 = 0 then (millwrightlaw01_NumDigits.j0 k a2 t127 t128) else (some false)) else (some false)) else (if ((bt132.2 == 0) != (decide ((wrap64 ((wrap64 (10 * (Int.tmod (Go.bits .and .i64 a0 268435455) 1048577))) + (wrap64 (Int.tmod a1 10)))) ≤ 1048576))) = true then (some false) else (if bt132.2 = 0 then (if bt132.1 = (wrap64 ((wrap64 (10 * (Int.tmod (Go.bits .and .i64 a0 268435455) 1048577))) + (wrap64 (Int.tmod a1 10)))) then (millwrightlaw01_NumDigits.j0 k a2 t127 t128) else (some false)) else (if bt132.2 = 3 then (millwrightlaw01_NumDigits.j0 k a2 t127 t128) else (some false)))))) else (none))) = some r := H
  have A5 := Aside0.mk A50
  clear A50
  obtain ⟨y129, hy129⟩ : ∃ y_ : List Int, y_ = (([(48 + (Int.tmod a1 10)) % 256] : List Int)) := ⟨_, rfl⟩
  replace H : (if t128.size + (strOfNums y129).size ≤ 9223372036854775807 then ((num_Parse.f (t128 ++ (strOfNums y129))).bind fun bt132 => (if (Int.tmod (Go.bits .and .i64 a0 268435455) 1048577) = 0 then (if bt132.2 = 2 then (if bt132.1 = 0 then (millwrightlaw01_NumDigits.j0 k a2 t127 t128) else (some false)) else (some false)) else (if ((bt132.2 == 0) != (decide ((wrap64 ((wrap64 (10 * (Int.tmod (Go.bits .and .i64 a0 268435455) 1048577))) + (wrap64 (Int.tmod a1 10)))) ≤ 1048576))) = true then (some false) else (if bt132.2 = 0 then (if bt132.1 = (wrap64 ((wrap64 (10 * (Int.tmod (Go.bits .and .i64 a0 268435455) 1048577))) + (wrap64 (Int.tmod a1 10)))) then (millwrightlaw01_NumDigits.j0 k a2 t127 t128) else (some false)) else (if bt132.2 = 3 then (millwrightlaw01_NumDigits.j0 k a2 t127 t128) else (some false)))))) else (none)) = some r := by first | (rw [hy129]; with_reducible exact H) | (have H2_ := (Option.bind_some _ _).symm.trans H; rw [hy129]; with_reducible exact H2_) | (have H2_ := (Option.bind_some _ _).symm.trans H; with_reducible exact H2_) | with_reducible exact H | (rw [hy129]; exact H) | exact H
  have Ny129 := Aside0.mk hy129
  clear hy129
  by_cases c6 : t128.size + (strOfNums y129).size ≤ 9223372036854775807
  · rw [if_pos c6] at H
    have c6b0 := eq_true c6
    have c6b1 : decide (t128.size + (strOfNums y129).size ≤ 9223372036854775807) = true := decide_eq_true c6
    try have c6b2 : (9223372036854775807 < t128.size + (strOfNums y129).size) = False := eq_false (Nat.not_lt.2 c6)
    replace H := Option.bind_eq_some_iff.mp H
    obtain ⟨⟨t132, t133⟩, A70, H⟩ := H
    replace H : (if (Int.tmod (Go.bits .and .i64 a0 268435455) 1048577) = 0 then (if t133 = 2 then (if t132 = 0 then (millwrightlaw01_NumDigits.j0 k a2 t127 t128) else (some false)) else (some false)) else (if ((t133 == 0) != (decide ((wrap64 ((wrap64 (10 * (Int.tmod (Go.bits .and .i64 a0 268435455) 1048577))) + (wrap64 (Int.tmod a1 10)))) ≤ 1048576))) = true then (some false) else (if t133 = 0 then (if t132 = (wrap64 ((wrap64 (10 * (Int.tmod (Go.bits .and .i64 a0 268435455) 1048577))) + (wrap64 (Int.tmod a1 10)))) then (millwrightlaw01_NumDigits.j0 k a2 t127 t128) else (some false)) else (if t133 = 3 then (millwrightlaw01_NumDigits.j0 k a2 t127 t128) else (some false))))) = some r := H
    have A7 := Aside0.mk A70
    clear A70
    have HC8 := Aside0.mk H
    clear H
    go_enter Tryd.func9, Tryd.ntmps9
    go_upto_if 40 with (first | ((with_reducible refine gate_callee (f := 13) rfl ?_); refine goesL_ (some 16) rfl rfl Tryd.func13 (by kernel_rfl) rfl #[] rfl (by (try simp only [List.map_toArray, List.map_cons, List.map_nil]); first | done | rfl | (simp only [List.length_drop, List.length_take]; rfl)) ?_; (with_reducible refine (millwrightlaw01_shown.calls k  t127 _ A4.out (NumA.Tab.below HT (by repeat (first | (with_reducible first | exact HB.out | apply below_alloc | apply pw_below_drewN | apply below_drew1) | exact HB.out)))).mono ?_); rintro e w9 ⟨rfl, hb⟩; refine ⟨_, rfl, ?_⟩; have n0_ := Aside0.mk (below_step (by repeat (first | (with_reducible first | exact HB.out | apply below_alloc | apply pw_below_drewN | apply below_drew1) | exact HB.out)) hb); clear HB; have HB := n0_; clear n0_; (try clear hb); (try clear hb2); (try clear hk); (try clear hi)) | ((with_reducible refine gate_callee (f := 18) rfl ?_); refine goesL_ (some 23) rfl rfl Tryd.func18 (by kernel_rfl) rfl #[.int .i64 (Int.tmod (Go.bits .and .i64 a0 268435455) 1048577)] rfl (by (try simp only [List.map_toArray, List.map_cons, List.map_nil]); first | done | rfl | (simp only [List.length_drop, List.length_take]; rfl)) ?_; (with_reducible refine (num_Text.calls (Int.tmod (Go.bits .and .i64 a0 268435455) 1048577) t128 _ A5.out (NumA.Tab.below HT (by repeat (first | (with_reducible first | exact HB.out | apply below_alloc | apply pw_below_drewN | apply below_drew1) | exact HB.out)))).mono ?_); rintro e w10 ⟨rfl, hb⟩; refine ⟨_, rfl, ?_⟩; have n0_ := Aside0.mk (below_step (by repeat (first | (with_reducible first | exact HB.out | apply below_alloc | apply pw_below_drewN | apply below_drew1) | exact HB.out)) hb); clear HB; have HB := n0_; clear n0_; (try clear hb); (try clear hb2); (try clear hk); (try clear hi)) | ((with_reducible refine gate_dst (N := 28) rfl ?_); refine Kd.R_lit (Kd.int .u8) _ 5 ?hg (N := 28) ?hd (xs := ([(48 + (Int.tmod a1 10)) % 256] : List Int)) (inner := [.int .u8 ((48 + (Int.tmod a1 10)) % 256)]) (ok := fun _ => True) (okp := fun _ => True) ?hr ?hp (fun _ hk => hk) trivial (Below.refl _ _) (Nat.le_refl _) (by simp) ?_; (case hd => rfl); (case hg => rfl); (case hr => first | (go_simp; done) | (go_simp; rfl)); (case hp => exact (Reps.one (show Kd.M (Kd.int .u8) _ _ _ ((48 + (Int.tmod a1 10)) % 256) [.int .u8 ((48 + (Int.tmod a1 10)) % 256)] from rfl) (Reps.none _ _))); intro v130 w11 ho12 hb hg_ hnew_; clear hg_ hnew_; (first | rw [← Ny129.out] at ho12 | (simp only [Int.reduceToNat] at ho12; rw [← Ny129.out] at ho12)); have n0_ := Aside0.mk (Kd.R_lower ho12 (below_size (by repeat (first | (with_reducible first | exact HB.out | apply below_alloc | apply pw_below_drewN | apply below_drew1) | exact HB.out)))); have n1_ := Aside0.mk (below_step (by repeat (first | (with_reducible first | exact HB.out | apply below_alloc | apply pw_below_drewN | apply below_drew1) | exact HB.out)) hb); clear HB; have HO131 := n0_; have HB := n1_; clear n0_ n1_; clear hb ho12; have hcv13 := own_string (P := Tryd.prog) Tryd.underlying35 Tryd.underlying5 Tryd.underlying9 (Kd.own_of_R HO131.out)) | ((with_reducible refine gate_callee (f := 16) rfl ?_); refine goesL_ (some 31) rfl rfl Tryd.func16 (by kernel_rfl) rfl #[.string (t128 ++ (strOfNums y129))] rfl (by (try simp only [List.map_toArray, List.map_cons, List.map_nil]); first | done | rfl | (simp only [List.length_drop, List.length_take]; rfl)) ?_; (with_reducible refine (num_Parse.calls (t128 ++ (strOfNums y129)) t132 t133 _ A7.out).mono ?_); rintro e w14 ⟨rfl, hb⟩; refine ⟨_, rfl, ?_⟩; have n0_ := Aside0.mk (Kd.R_below (by (with_reducible repeat (first | apply Kd.R_alloc | apply Kd.R_drewN | apply Kd.R_drew)); exact HO131.out) hb); have n1_ := Aside0.mk (below_step (by repeat (first | (with_reducible first | exact HB.out | apply below_alloc | apply pw_below_drewN | apply below_drew1) | exact HB.out)) hb); clear HO131; clear HB; have HO131 := n0_; have HB := n1_; clear n0_ n1_; (try clear hb); (try clear hb2); (try clear hk); (try clear hi)))
    (try simp only [Act.put, List.setIfInBounds_toArray, List.set_cons_zero, List.set_cons_succ])
    go_cut [] (fun wc => ∃ (kq : Nat), Aside0 (millwrightlaw01_NumDigits.j0 kq a2 t127 t128 = some r) ∧ Aside0 (kq ≤ k) ∧ Aside0 (Below w.heap.size w wc))
    case first =>
      have H := HC8.out
      clear HC8
      by_cases c15 : (Int.tmod (Go.bits .and .i64 a0 268435455) 1048577) = 0
      · rw [if_pos c15] at H
        have c15b0 : ((Int.tmod (Go.bits .and .i64 a0 268435455) 1048577) == 0) = true := beq_iff_eq.mpr c15
        have c15b1 : ((Int.tmod (Go.bits .and .i64 a0 268435455) 1048577) != 0) = false := bne_eq_false_iff_eq.mpr c15
        clear c15
        (first | rw [c15b0] | (simp only [i64_w, i32_w]; rw [c15b0]) | skip)
        by_cases c16 : t133 = 2
        · rw [if_pos c16] at H
          have c16b0 : (t133 == 2) = true := beq_iff_eq.mpr c16
          have c16b1 : (t133 != 2) = false := bne_eq_false_iff_eq.mpr c16
          clear c16
          by_cases c17 : t132 = 0
          · rw [if_pos c17] at H
            have c17b0 : (t132 == 0) = true := beq_iff_eq.mpr c17
            have c17b1 : (t132 != 0) = false := bne_eq_false_iff_eq.mpr c17
            clear c17
            have H' := Aside0.mk H
            clear H
            go_wp2
            go_meet
            case rel => exact ⟨_, H', ⟨by first | omega | exact Nat.le_refl _⟩, ⟨by repeat (first | (with_reducible first | exact HB.out | apply below_alloc | apply pw_below_drewN | apply below_drew1) | exact HB.out)⟩⟩
          · rw [if_neg c17] at H
            have c17b0 : (t132 == 0) = false := beq_eq_false_iff_ne.mpr c17
            have c17b1 : (t132 != 0) = true := bne_iff_ne.mpr c17
            obtain rfl := Option.some.inj H
            go_wp2
            go_ret
            exact ⟨by first | rfl | (simp [errW_none, errW_some] <;> rfl) | (simp [*, errW_none, errW_some] <;> rfl), by repeat (first | (with_reducible first | exact HB.out | apply below_alloc | apply pw_below_drewN | apply below_drew1) | exact HB.out)⟩
        · rw [if_neg c16] at H
          have c16b0 : (t133 == 2) = false := beq_eq_false_iff_ne.mpr c16
          have c16b1 : (t133 != 2) = true := bne_iff_ne.mpr c16
          obtain rfl := Option.some.inj H
          go_wp2
          go_ret
          exact ⟨by first | rfl | (simp [errW_none, errW_some] <;> rfl) | (simp [*, errW_none, errW_some] <;> rfl), by repeat (first | (with_reducible first | exact HB.out | apply below_alloc | apply pw_below_drewN | apply below_drew1) | exact HB.out)⟩
      · rw [if_neg c15] at H
        have c15b0 : ((Int.tmod (Go.bits .and .i64 a0 268435455) 1048577) == 0) = false := beq_eq_false_iff_ne.mpr c15
        have c15b1 : ((Int.tmod (Go.bits .and .i64 a0 268435455) 1048577) != 0) = true := bne_iff_ne.mpr c15
        (first | rw [c15b0] | (simp only [i64_w, i32_w]; rw [c15b0]) | skip)
        by_cases c18 : ((t133 == 0) != (decide ((wrap64 ((wrap64 (10 * (Int.tmod (Go.bits .and .i64 a0 268435455) 1048577))) + (wrap64 (Int.tmod a1 10)))) ≤ 1048576))) = true
        · rw [if_pos c18] at H
          have c18b0 : ((t133 == 0) != (decide ((wrap64 ((wrap64 (10 * (Int.tmod (Go.bits .and .i64 a0 268435455) 1048577))) + (wrap64 (Int.tmod a1 10)))) ≤ 1048576))) = true := c18
          (try (have c18b1 : decide ((t133 == 0) = (decide ((wrap64 ((wrap64 (10 * (Int.tmod (Go.bits .and .i64 a0 268435455) 1048577))) + (wrap64 (Int.tmod a1 10)))) ≤ 1048576))) = false := by simpa using c18))
          (try (have c18b2 : ((t133 == 0) == (decide ((wrap64 ((wrap64 (10 * (Int.tmod (Go.bits .and .i64 a0 268435455) 1048577))) + (wrap64 (Int.tmod a1 10)))) ≤ 1048576))) = false := by simpa using c18))
          (try (have c18b3 : ¬ ((t133 == 0) = (decide ((wrap64 ((wrap64 (10 * (Int.tmod (Go.bits .and .i64 a0 268435455) 1048577))) + (wrap64 (Int.tmod a1 10)))) ≤ 1048576))) := by simpa using c18))
          clear c18
          obtain rfl := Option.some.inj H
          go_wp2
          go_ret
          exact ⟨by first | rfl | (simp [errW_none, errW_some] <;> rfl) | (simp [*, errW_none, errW_some] <;> rfl), by repeat (first | (with_reducible first | exact HB.out | apply below_alloc | apply pw_below_drewN | apply below_drew1) | exact HB.out)⟩
        · rw [if_neg c18] at H
          have c18b0 : ((t133 == 0) != (decide ((wrap64 ((wrap64 (10 * (Int.tmod (Go.bits .and .i64 a0 268435455) 1048577))) + (wrap64 (Int.tmod a1 10)))) ≤ 1048576))) = false := by simpa using c18
          (try (have c18b1 : decide ((t133 == 0) = (decide ((wrap64 ((wrap64 (10 * (Int.tmod (Go.bits .and .i64 a0 268435455) 1048577))) + (wrap64 (Int.tmod a1 10)))) ≤ 1048576))) = true := by simpa using c18))
          (try (have c18b2 : ((t133 == 0) == (decide ((wrap64 ((wrap64 (10 * (Int.tmod (Go.bits .and .i64 a0 268435455) 1048577))) + (wrap64 (Int.tmod a1 10)))) ≤ 1048576))) = true := by simpa using c18))
          clear c18
          by_cases c19 : t133 = 0
          · rw [if_pos c19] at H
            have c19b0 : (t133 == 0) = true := beq_iff_eq.mpr c19
            have c19b1 : (t133 != 0) = false := bne_eq_false_iff_eq.mpr c19
            have cq0 : (decide ((wrap64 ((wrap64 (10 * (Int.tmod (Go.bits .and .i64 a0 268435455) 1048577))) + (wrap64 (Int.tmod a1 10)))) ≤ 1048576)) = true := by have cq_ := c18b0; rw [c19b0] at cq_; simpa using cq_
            have cq1 : (1048576 < (wrap64 ((wrap64 (10 * (Int.tmod (Go.bits .and .i64 a0 268435455) 1048577))) + (wrap64 (Int.tmod a1 10))))) = False := eq_false (Int.not_lt.2 (of_decide_eq_true cq0))
            clear c18b0
            clear c19
            by_cases c20 : t132 = (wrap64 ((wrap64 (10 * (Int.tmod (Go.bits .and .i64 a0 268435455) 1048577))) + (wrap64 (Int.tmod a1 10))))
            · rw [if_pos c20] at H
              have c20b0 : (t132 == (wrap64 ((wrap64 (10 * (Int.tmod (Go.bits .and .i64 a0 268435455) 1048577))) + (wrap64 (Int.tmod a1 10))))) = true := beq_iff_eq.mpr c20
              have c20b1 : (t132 != (wrap64 ((wrap64 (10 * (Int.tmod (Go.bits .and .i64 a0 268435455) 1048577))) + (wrap64 (Int.tmod a1 10))))) = false := bne_eq_false_iff_eq.mpr c20
              clear c20
              have H' := Aside0.mk H
              clear H
              go_wp2
              go_meet
              case rel => exact ⟨_, H', ⟨by first | omega | exact Nat.le_refl _⟩, ⟨by repeat (first | (with_reducible first | exact HB.out | apply below_alloc | apply pw_below_drewN | apply below_drew1) | exact HB.out)⟩⟩
            · rw [if_neg c20] at H
              have c20b0 : (t132 == (wrap64 ((wrap64 (10 * (Int.tmod (Go.bits .and .i64 a0 268435455) 1048577))) + (wrap64 (Int.tmod a1 10))))) = false := beq_eq_false_iff_ne.mpr c20
              have c20b1 : (t132 != (wrap64 ((wrap64 (10 * (Int.tmod (Go.bits .and .i64 a0 268435455) 1048577))) + (wrap64 (Int.tmod a1 10))))) = true := bne_iff_ne.mpr c20
              obtain rfl := Option.some.inj H
              go_wp2
              go_ret
              exact ⟨by first | rfl | (simp [errW_none, errW_some] <;> rfl) | (simp [*, errW_none, errW_some] <;> rfl), by repeat (first | (with_reducible first | exact HB.out | apply below_alloc | apply pw_below_drewN | apply below_drew1) | exact HB.out)⟩
          · rw [if_neg c19] at H
            have c19b0 : (t133 == 0) = false := beq_eq_false_iff_ne.mpr c19
            have c19b1 : (t133 != 0) = true := bne_iff_ne.mpr c19
            have cq0 : (decide ((wrap64 ((wrap64 (10 * (Int.tmod (Go.bits .and .i64 a0 268435455) 1048577))) + (wrap64 (Int.tmod a1 10)))) ≤ 1048576)) = false := by have cq_ := c18b0; rw [c19b0] at cq_; simpa using cq_
            have cq1 : (1048576 < (wrap64 ((wrap64 (10 * (Int.tmod (Go.bits .and .i64 a0 268435455) 1048577))) + (wrap64 (Int.tmod a1 10))))) = True := eq_true (Int.not_le.1 (of_decide_eq_false cq0))
            clear c18b0
            by_cases c21 : t133 = 3
            · rw [if_pos c21] at H
              have c21b0 : (t133 == 3) = true := beq_iff_eq.mpr c21
              have c21b1 : (t133 != 3) = false := bne_eq_false_iff_eq.mpr c21
              clear c21
              have H' := Aside0.mk H
              clear H
              go_wp2
              go_meet
              case rel => exact ⟨_, H', ⟨by first | omega | exact Nat.le_refl _⟩, ⟨by repeat (first | (with_reducible first | exact HB.out | apply below_alloc | apply pw_below_drewN | apply below_drew1) | exact HB.out)⟩⟩
            · rw [if_neg c21] at H
              have c21b0 : (t133 == 3) = false := beq_eq_false_iff_ne.mpr c21
              have c21b1 : (t133 != 3) = true := bne_iff_ne.mpr c21
              obtain rfl := Option.some.inj H
              go_wp2
              go_ret
              exact ⟨by first | rfl | (simp [errW_none, errW_some] <;> rfl) | (simp [*, errW_none, errW_some] <;> rfl), by repeat (first | (with_reducible first | exact HB.out | apply below_alloc | apply pw_below_drewN | apply below_drew1) | exact HB.out)⟩
    case rest =>
      clear HC8
      try clear c1
      try clear hcv1
      try clear c2
      try clear p2
      try clear c6
      try clear c6b0
      try clear c6b1
      try clear c6b2
      try clear p6
      try clear c9
      try clear c13
      try clear hcv13
      try clear c15
      try clear c15b0
      try clear c15b1
      try clear c16
      try clear c16b0
      try clear c16b1
      try clear c17
      try clear c17b0
      try clear c17b1
      try clear c18
      try clear c18b0
      try clear c18b1
      try clear c18b2
      try clear c19
      try clear c19b0
      try clear c19b1
      try clear c20
      try clear c20b0
      try clear c20b1
      try clear c21
      try clear c21b0
      try clear c21b1
      obtain ⟨kq, HA, HJ7, HB⟩ := hcut
      cases kq with
      | zero => exact absurd HA.out (by simp [millwrightlaw01_NumDigits.j0])
      | succ kj7 =>
        have H := HA.out
        clear HA
        simp only [millwrightlaw01_NumDigits.j0] at H
        have HC22 := Aside0.mk H
        clear H
        go_upto_region 12 with (fail)
        go_cut [74] (fun v74 wc => ∃ (kq : Nat) (x74_21 : Bool), v74 = .bool x74_21 ∧ Aside0 (millwrightlaw01_NumDigits.j1 kq a2 t127 t128 x74_21 = some r) ∧ Aside0 (kq ≤ kj7) ∧ Aside0 (Below w.heap.size w wc))
        case first =>
          have H := HC22.out
          clear HC22
          by_cases c23 : a2 ≥ 48
          · rw [if_pos c23] at H
            have c23b0 : decide (48 ≤ a2) = true := decide_eq_true c23
            clear c23
            (first | rw [c23b0] | (simp only [i64_w, i32_w]; rw [c23b0]) | skip)
            have H' := Aside0.mk H
            clear H
            go_wp2
            go_meet
            case rel => exact ⟨_, (decide (a2 ≤ 57)), (by first | rfl | (simp; done) | (simp [*]; done)), H', ⟨by have := HJ7.out; first | omega | exact Nat.le_refl _⟩, ⟨by repeat (first | (with_reducible first | exact HB.out | apply below_alloc | apply pw_below_drewN | apply below_drew1) | exact HB.out)⟩⟩
          · rw [if_neg c23] at H
            have c23b0 : decide (48 ≤ a2) = false := decide_eq_false c23
            clear c23
            (first | rw [c23b0] | (simp only [i64_w, i32_w]; rw [c23b0]) | skip)
            have H' := Aside0.mk H
            clear H
            go_wp2
            go_meet
            case rel => exact ⟨_, (false), (by first | rfl | (simp; done) | (simp [*]; done)), H', ⟨by have := HJ7.out; first | omega | exact Nat.le_refl _⟩, ⟨by repeat (first | (with_reducible first | exact HB.out | apply below_alloc | apply pw_below_drewN | apply below_drew1) | exact HB.out)⟩⟩
        case rest =>
          clear HC22
          try clear c1
          try clear hcv1
          try clear c2
          try clear p2
          try clear c6
          try clear c6b0
          try clear c6b1
          try clear c6b2
          try clear p6
          try clear c9
          try clear c13
          try clear hcv13
          try clear c15
          try clear c15b0
          try clear c15b1
          try clear c16
          try clear c16b0
          try clear c16b1
          try clear c17
          try clear c17b0
          try clear c17b1
          try clear c18
          try clear c18b0
          try clear c18b1
          try clear c18b2
          try clear c19
          try clear c19b0
          try clear c19b1
          try clear c20
          try clear c20b0
          try clear c20b1
          try clear c21
          try clear c21b0
          try clear c21b1
          try clear c23
          try clear c23b0
          try clear p2
          try clear p6
          obtain ⟨kq, x74_21, rfl, HA, HJ21, HB⟩ := hcut
          cases kq with
          | zero => exact absurd HA.out (by simp [millwrightlaw01_NumDigits.j1])
          | succ kj21 =>
            have H := HA.out
            clear HA
            simp only [millwrightlaw01_NumDigits.j1] at H
            by_cases c24 : x74_21 = true
            · subst c24
              have H1 : (some t127) = some r := by rw [if_pos rfl] at H; exact H
              clear H
              have H := H1
              clear H1
              obtain rfl := Option.some.inj H
              go_wp2
              go_ret
              exact ⟨by first | rfl | (simp [errW_none, errW_some] <;> rfl) | (simp [*, errW_none, errW_some] <;> rfl), by repeat (first | (with_reducible first | exact HB.out | apply below_alloc | apply pw_below_drewN | apply below_drew1) | exact HB.out)⟩
            · replace c24 := Bool.eq_false_iff.mpr c24
              subst c24
              have H1 : ((some (([a2] : List Int) : List Int)).bind fun y134 => (if t128.size + (strOfNums y134).size ≤ 9223372036854775807 then ((num_Parse.f (t128 ++ (strOfNums y134))).bind fun bt137 => ((some (([a2] : List Int) : List Int)).bind fun y139 => (if (strOfNums y139).size + t128.size ≤ 9223372036854775807 then ((num_Parse.f ((strOfNums y139) ++ t128)).bind fun bt142 => (if t127 = true then (if bt137.1 = 0 then (if bt137.2 = 2 then (if bt142.1 = 0 then (some (bt142.2 == 2)) else (some false)) else (some false)) else (some false)) else (some false))) else (none)))) else (none))) = some r := by rw [if_neg (show ¬ (false = true) by decide)] at H; exact H
              clear H
              have H := H1
              clear H1
              obtain ⟨y134, hy134⟩ : ∃ y_ : List Int, y_ = (([a2] : List Int)) := ⟨_, rfl⟩
              replace H : (if t128.size + (strOfNums y134).size ≤ 9223372036854775807 then ((num_Parse.f (t128 ++ (strOfNums y134))).bind fun bt137 => ((some (([a2] : List Int) : List Int)).bind fun y139 => (if (strOfNums y139).size + t128.size ≤ 9223372036854775807 then ((num_Parse.f ((strOfNums y139) ++ t128)).bind fun bt142 => (if t127 = true then (if bt137.1 = 0 then (if bt137.2 = 2 then (if bt142.1 = 0 then (some (bt142.2 == 2)) else (some false)) else (some false)) else (some false)) else (some false))) else (none)))) else (none)) = some r := by first | (rw [hy134]; with_reducible exact H) | (have H2_ := (Option.bind_some _ _).symm.trans H; rw [hy134]; with_reducible exact H2_) | (have H2_ := (Option.bind_some _ _).symm.trans H; with_reducible exact H2_) | with_reducible exact H | (rw [hy134]; exact H) | exact H
              have Ny134 := Aside0.mk hy134
              clear hy134
              by_cases c25 : t128.size + (strOfNums y134).size ≤ 9223372036854775807
              · rw [if_pos c25] at H
                have c25b0 := eq_true c25
                have c25b1 : decide (t128.size + (strOfNums y134).size ≤ 9223372036854775807) = true := decide_eq_true c25
                try have c25b2 : (9223372036854775807 < t128.size + (strOfNums y134).size) = False := eq_false (Nat.not_lt.2 c25)
                replace H := Option.bind_eq_some_iff.mp H
                obtain ⟨⟨t137, t138⟩, A260, H⟩ := H
                replace H : ((some (([a2] : List Int) : List Int)).bind fun y139 => (if (strOfNums y139).size + t128.size ≤ 9223372036854775807 then ((num_Parse.f ((strOfNums y139) ++ t128)).bind fun bt142 => (if t127 = true then (if t137 = 0 then (if t138 = 2 then (if bt142.1 = 0 then (some (bt142.2 == 2)) else (some false)) else (some false)) else (some false)) else (some false))) else (none))) = some r := H
                have A26 := Aside0.mk A260
                clear A260
                obtain ⟨y139, hy139⟩ : ∃ y_ : List Int, y_ = (([a2] : List Int)) := ⟨_, rfl⟩
                replace H : (if (strOfNums y139).size + t128.size ≤ 9223372036854775807 then ((num_Parse.f ((strOfNums y139) ++ t128)).bind fun bt142 => (if t127 = true then (if t137 = 0 then (if t138 = 2 then (if bt142.1 = 0 then (some (bt142.2 == 2)) else (some false)) else (some false)) else (some false)) else (some false))) else (none)) = some r := by first | (rw [hy139]; with_reducible exact H) | (have H2_ := (Option.bind_some _ _).symm.trans H; rw [hy139]; with_reducible exact H2_) | (have H2_ := (Option.bind_some _ _).symm.trans H; with_reducible exact H2_) | with_reducible exact H | (rw [hy139]; exact H) | exact H
                have Ny139 := Aside0.mk hy139
                clear hy139
                by_cases c27 : (strOfNums y139).size + t128.size ≤ 9223372036854775807
                · rw [if_pos c27] at H
                  have c27b0 := eq_true c27
                  have c27b1 : decide ((strOfNums y139).size + t128.size ≤ 9223372036854775807) = true := decide_eq_true c27
                  try have c27b2 : (9223372036854775807 < (strOfNums y139).size + t128.size) = False := eq_false (Nat.not_lt.2 c27)
                  replace H := Option.bind_eq_some_iff.mp H
                  obtain ⟨⟨t142, t143⟩, A280, H⟩ := H
                  replace H : (if t127 = true then (if t137 = 0 then (if t138 = 2 then (if t142 = 0 then (some (t143 == 2)) else (some false)) else (some false)) else (some false)) else (some false)) = some r := H
                  have A28 := Aside0.mk A280
                  clear A280
                  by_cases c29 : t127 = true
                  · subst c29
                    have H1 : (if t137 = 0 then (if t138 = 2 then (if t142 = 0 then (some (t143 == 2)) else (some false)) else (some false)) else (some false)) = some r := by rw [if_pos rfl] at H; exact H
                    clear H
                    have H := H1
                    clear H1
                    by_cases c30 : t137 = 0
                    · rw [if_pos c30] at H
                      have c30b0 : (t137 == 0) = true := beq_iff_eq.mpr c30
                      have c30b1 : (t137 != 0) = false := bne_eq_false_iff_eq.mpr c30
                      clear c30
                      by_cases c31 : t138 = 2
                      · rw [if_pos c31] at H
                        have c31b0 : (t138 == 2) = true := beq_iff_eq.mpr c31
                        have c31b1 : (t138 != 2) = false := bne_eq_false_iff_eq.mpr c31
                        clear c31
                        by_cases c32 : t142 = 0
                        · rw [if_pos c32] at H
                          have c32b0 : (t142 == 0) = true := beq_iff_eq.mpr c32
                          have c32b1 : (t142 != 0) = false := bne_eq_false_iff_eq.mpr c32
                          clear c32
                          obtain rfl := Option.some.inj H
                          go_wp2_with (first | ((with_reducible refine gate_dst (N := 79) rfl ?_); refine Kd.R_lit (Kd.int .u8) _ 5 ?hg (N := 79) ?hd (xs := ([a2] : List Int)) (inner := [.int .u8 a2]) (ok := fun _ => True) (okp := fun _ => True) ?hr ?hp (fun _ hk => hk) trivial (Below.refl _ _) (Nat.le_refl _) (by simp) ?_; (case hd => rfl); (case hg => rfl); (case hr => first | (go_simp; done) | (go_simp; rfl)); (case hp => exact (Reps.one (show Kd.M (Kd.int .u8) _ _ _ a2 [.int .u8 a2] from rfl) (Reps.none _ _))); intro v135 w33 ho34 hb hg_ hnew_; clear hg_ hnew_; (first | rw [← Ny134.out] at ho34 | (simp only [Int.reduceToNat] at ho34; rw [← Ny134.out] at ho34)); have n0_ := Aside0.mk (Kd.R_lower ho34 (below_size (by repeat (first | (with_reducible first | exact HB.out | apply below_alloc | apply pw_below_drewN | apply below_drew1) | exact HB.out)))); have n1_ := Aside0.mk (below_step (by repeat (first | (with_reducible first | exact HB.out | apply below_alloc | apply pw_below_drewN | apply below_drew1) | exact HB.out)) hb); clear HB; have HO136 := n0_; have HB := n1_; clear n0_ n1_; clear hb ho34; have hcv35 := own_string (P := Tryd.prog) Tryd.underlying35 Tryd.underlying5 Tryd.underlying9 (Kd.own_of_R HO136.out)) | ((with_reducible refine gate_callee (f := 16) rfl ?_); refine goesL_ (some 82) rfl rfl Tryd.func16 (by kernel_rfl) rfl #[.string (t128 ++ (strOfNums y134))] rfl (by (try simp only [List.map_toArray, List.map_cons, List.map_nil]); first | done | rfl | (simp only [List.length_drop, List.length_take]; rfl)) ?_; (with_reducible refine (num_Parse.calls (t128 ++ (strOfNums y134)) t137 t138 _ A26.out).mono ?_); rintro e w36 ⟨rfl, hb⟩; refine ⟨_, rfl, ?_⟩; have n0_ := Aside0.mk (Kd.R_below (by (with_reducible repeat (first | apply Kd.R_alloc | apply Kd.R_drewN | apply Kd.R_drew)); exact HO136.out) hb); have n1_ := Aside0.mk (below_step (by repeat (first | (with_reducible first | exact HB.out | apply below_alloc | apply pw_below_drewN | apply below_drew1) | exact HB.out)) hb); clear HO136; clear HB; have HO136 := n0_; have HB := n1_; clear n0_ n1_; (try clear hb); (try clear hb2); (try clear hk); (try clear hi)) | ((with_reducible refine gate_dst (N := 87) rfl ?_); refine Kd.R_lit (Kd.int .u8) _ 5 ?hg (N := 87) ?hd (xs := ([a2] : List Int)) (inner := [.int .u8 a2]) (ok := fun _ => True) (okp := fun _ => True) ?hr ?hp (fun _ hk => hk) trivial (Below.refl _ _) (Nat.le_refl _) (by simp) ?_; (case hd => rfl); (case hg => rfl); (case hr => first | (go_simp; done) | (go_simp; rfl)); (case hp => exact (Reps.one (show Kd.M (Kd.int .u8) _ _ _ a2 [.int .u8 a2] from rfl) (Reps.none _ _))); intro v140 w37 ho38 hb hg_ hnew_; clear hg_ hnew_; (first | rw [← Ny139.out] at ho38 | (simp only [Int.reduceToNat] at ho38; rw [← Ny139.out] at ho38)); have n0_ := Aside0.mk (Kd.R_elder' (by (with_reducible repeat (first | apply Kd.R_alloc | apply Kd.R_drewN | apply Kd.R_drew)); exact HO136.out) (Kd.R_base ho38) hb); have n1_ := Aside0.mk (Kd.R_lower (Kd.R_new' ho38 (Kd.R_lt (by (with_reducible repeat (first | apply Kd.R_alloc | apply Kd.R_drewN | apply Kd.R_drew)); exact HO136.out))) (below_size (by repeat (first | (with_reducible first | exact HB.out | apply below_alloc | apply pw_below_drewN | apply below_drew1) | exact HB.out)))); have n2_ := Aside0.mk (below_step (by repeat (first | (with_reducible first | exact HB.out | apply below_alloc | apply pw_below_drewN | apply below_drew1) | exact HB.out)) hb); clear HO136; clear HB; have HO136 := n0_; have HO141 := n1_; have HB := n2_; clear n0_ n1_ n2_; clear hb ho38; have hcv39 := own_string (P := Tryd.prog) Tryd.underlying35 Tryd.underlying5 Tryd.underlying9 (Kd.own_of_R HO141.out)) | ((with_reducible refine gate_callee (f := 16) rfl ?_); refine goesL_ (some 91) rfl rfl Tryd.func16 (by kernel_rfl) rfl #[.string ((strOfNums y139) ++ t128)] rfl (by (try simp only [List.map_toArray, List.map_cons, List.map_nil]); first | done | rfl | (simp only [List.length_drop, List.length_take]; rfl)) ?_; (with_reducible refine (num_Parse.calls ((strOfNums y139) ++ t128) t142 t143 _ A28.out).mono ?_); rintro e w40 ⟨rfl, hb⟩; refine ⟨_, rfl, ?_⟩; have n0_ := Aside0.mk (Kd.R_below (by (with_reducible repeat (first | apply Kd.R_alloc | apply Kd.R_drewN | apply Kd.R_drew)); exact HO136.out) hb); have n1_ := Aside0.mk (Kd.R_below (by (with_reducible repeat (first | apply Kd.R_alloc | apply Kd.R_drewN | apply Kd.R_drew)); exact HO141.out) hb); have n2_ := Aside0.mk (below_step (by repeat (first | (with_reducible first | exact HB.out | apply below_alloc | apply pw_below_drewN | apply below_drew1) | exact HB.out)) hb); clear HO136; clear HO141; clear HB; have HO136 := n0_; have HO141 := n1_; have HB := n2_; clear n0_ n1_ n2_; (try clear hb); (try clear hb2); (try clear hk); (try clear hi)))
                          go_ret
                          exact ⟨by first | rfl | (simp [errW_none, errW_some] <;> rfl) | (simp [*, errW_none, errW_some] <;> rfl), by repeat (first | (with_reducible first | exact HB.out | apply below_alloc | apply pw_below_drewN | apply below_drew1) | exact HB.out)⟩
                        · rw [if_neg c32] at H
                          have c32b0 : (t142 == 0) = false := beq_eq_false_iff_ne.mpr c32
                          have c32b1 : (t142 != 0) = true := bne_iff_ne.mpr c32
                          obtain rfl := Option.some.inj H
                          go_wp2_with (first | ((with_reducible refine gate_dst (N := 79) rfl ?_); refine Kd.R_lit (Kd.int .u8) _ 5 ?hg (N := 79) ?hd (xs := ([a2] : List Int)) (inner := [.int .u8 a2]) (ok := fun _ => True) (okp := fun _ => True) ?hr ?hp (fun _ hk => hk) trivial (Below.refl _ _) (Nat.le_refl _) (by simp) ?_; (case hd => rfl); (case hg => rfl); (case hr => first | (go_simp; done) | (go_simp; rfl)); (case hp => exact (Reps.one (show Kd.M (Kd.int .u8) _ _ _ a2 [.int .u8 a2] from rfl) (Reps.none _ _))); intro v135 w41 ho42 hb hg_ hnew_; clear hg_ hnew_; (first | rw [← Ny134.out] at ho42 | (simp only [Int.reduceToNat] at ho42; rw [← Ny134.out] at ho42)); have n0_ := Aside0.mk (Kd.R_lower ho42 (below_size (by repeat (first | (with_reducible first | exact HB.out | apply below_alloc | apply pw_below_drewN | apply below_drew1) | exact HB.out)))); have n1_ := Aside0.mk (below_step (by repeat (first | (with_reducible first | exact HB.out | apply below_alloc | apply pw_below_drewN | apply below_drew1) | exact HB.out)) hb); clear HB; have HO136 := n0_; have HB := n1_; clear n0_ n1_; clear hb ho42; have hcv43 := own_string (P := Tryd.prog) Tryd.underlying35 Tryd.underlying5 Tryd.underlying9 (Kd.own_of_R HO136.out)) | ((with_reducible refine gate_callee (f := 16) rfl ?_); refine goesL_ (some 82) rfl rfl Tryd.func16 (by kernel_rfl) rfl #[.string (t128 ++ (strOfNums y134))] rfl (by (try simp only [List.map_toArray, List.map_cons, List.map_nil]); first | done | rfl | (simp only [List.length_drop, List.length_take]; rfl)) ?_; (with_reducible refine (num_Parse.calls (t128 ++ (strOfNums y134)) t137 t138 _ A26.out).mono ?_); rintro e w44 ⟨rfl, hb⟩; refine ⟨_, rfl, ?_⟩; have n0_ := Aside0.mk (Kd.R_below (by (with_reducible repeat (first | apply Kd.R_alloc | apply Kd.R_drewN | apply Kd.R_drew)); exact HO136.out) hb); have n1_ := Aside0.mk (below_step (by repeat (first | (with_reducible first | exact HB.out | apply below_alloc | apply pw_below_drewN | apply below_drew1) | exact HB.out)) hb); clear HO136; clear HB; have HO136 := n0_; have HB := n1_; clear n0_ n1_; (try clear hb); (try clear hb2); (try clear hk); (try clear hi)) | ((with_reducible refine gate_dst (N := 87) rfl ?_); refine Kd.R_lit (Kd.int .u8) _ 5 ?hg (N := 87) ?hd (xs := ([a2] : List Int)) (inner := [.int .u8 a2]) (ok := fun _ => True) (okp := fun _ => True) ?hr ?hp (fun _ hk => hk) trivial (Below.refl _ _) (Nat.le_refl _) (by simp) ?_; (case hd => rfl); (case hg => rfl); (case hr => first | (go_simp; done) | (go_simp; rfl)); (case hp => exact (Reps.one (show Kd.M (Kd.int .u8) _ _ _ a2 [.int .u8 a2] from rfl) (Reps.none _ _))); intro v140 w45 ho46 hb hg_ hnew_; clear hg_ hnew_; (first | rw [← Ny139.out] at ho46 | (simp only [Int.reduceToNat] at ho46; rw [← Ny139.out] at ho46)); have n0_ := Aside0.mk (Kd.R_elder' (by (with_reducible repeat (first | apply Kd.R_alloc | apply Kd.R_drewN | apply Kd.R_drew)); exact HO136.out) (Kd.R_base ho46) hb); have n1_ := Aside0.mk (Kd.R_lower (Kd.R_new' ho46 (Kd.R_lt (by (with_reducible repeat (first | apply Kd.R_alloc | apply Kd.R_drewN | apply Kd.R_drew)); exact HO136.out))) (below_size (by repeat (first | (with_reducible first | exact HB.out | apply below_alloc | apply pw_below_drewN | apply below_drew1) | exact HB.out)))); have n2_ := Aside0.mk (below_step (by repeat (first | (with_reducible first | exact HB.out | apply below_alloc | apply pw_below_drewN | apply below_drew1) | exact HB.out)) hb); clear HO136; clear HB; have HO136 := n0_; have HO141 := n1_; have HB := n2_; clear n0_ n1_ n2_; clear hb ho46; have hcv47 := own_string (P := Tryd.prog) Tryd.underlying35 Tryd.underlying5 Tryd.underlying9 (Kd.own_of_R HO141.out)) | ((with_reducible refine gate_callee (f := 16) rfl ?_); refine goesL_ (some 91) rfl rfl Tryd.func16 (by kernel_rfl) rfl #[.string ((strOfNums y139) ++ t128)] rfl (by (try simp only [List.map_toArray, List.map_cons, List.map_nil]); first | done | rfl | (simp only [List.length_drop, List.length_take]; rfl)) ?_; (with_reducible refine (num_Parse.calls ((strOfNums y139) ++ t128) t142 t143 _ A28.out).mono ?_); rintro e w48 ⟨rfl, hb⟩; refine ⟨_, rfl, ?_⟩; have n0_ := Aside0.mk (Kd.R_below (by (with_reducible repeat (first | apply Kd.R_alloc | apply Kd.R_drewN | apply Kd.R_drew)); exact HO136.out) hb); have n1_ := Aside0.mk (Kd.R_below (by (with_reducible repeat (first | apply Kd.R_alloc | apply Kd.R_drewN | apply Kd.R_drew)); exact HO141.out) hb); have n2_ := Aside0.mk (below_step (by repeat (first | (with_reducible first | exact HB.out | apply below_alloc | apply pw_below_drewN | apply below_drew1) | exact HB.out)) hb); clear HO136; clear HO141; clear HB; have HO136 := n0_; have HO141 := n1_; have HB := n2_; clear n0_ n1_ n2_; (try clear hb); (try clear hb2); (try clear hk); (try clear hi)))
                          go_ret
                          exact ⟨by first | rfl | (simp [errW_none, errW_some] <;> rfl) | (simp [*, errW_none, errW_some] <;> rfl), by repeat (first | (with_reducible first | exact HB.out | apply below_alloc | apply pw_below_drewN | apply below_drew1) | exact HB.out)⟩
                      · rw [if_neg c31] at H
                        have c31b0 : (t138 == 2) = false := beq_eq_false_iff_ne.mpr c31
                        have c31b1 : (t138 != 2) = true := bne_iff_ne.mpr c31
                        obtain rfl := Option.some.inj H
                        go_wp2_with (first | ((with_reducible refine gate_dst (N := 79) rfl ?_); refine Kd.R_lit (Kd.int .u8) _ 5 ?hg (N := 79) ?hd (xs := ([a2] : List Int)) (inner := [.int .u8 a2]) (ok := fun _ => True) (okp := fun _ => True) ?hr ?hp (fun _ hk => hk) trivial (Below.refl _ _) (Nat.le_refl _) (by simp) ?_; (case hd => rfl); (case hg => rfl); (case hr => first | (go_simp; done) | (go_simp; rfl)); (case hp => exact (Reps.one (show Kd.M (Kd.int .u8) _ _ _ a2 [.int .u8 a2] from rfl) (Reps.none _ _))); intro v135 w49 ho50 hb hg_ hnew_; clear hg_ hnew_; (first | rw [← Ny134.out] at ho50 | (simp only [Int.reduceToNat] at ho50; rw [← Ny134.out] at ho50)); have n0_ := Aside0.mk (Kd.R_lower ho50 (below_size (by repeat (first | (with_reducible first | exact HB.out | apply below_alloc | apply pw_below_drewN | apply below_drew1) | exact HB.out)))); have n1_ := Aside0.mk (below_step (by repeat (first | (with_reducible first | exact HB.out | apply below_alloc | apply pw_below_drewN | apply below_drew1) | exact HB.out)) hb); clear HB; have HO136 := n0_; have HB := n1_; clear n0_ n1_; clear hb ho50; have hcv51 := own_string (P := Tryd.prog) Tryd.underlying35 Tryd.underlying5 Tryd.underlying9 (Kd.own_of_R HO136.out)) | ((with_reducible refine gate_callee (f := 16) rfl ?_); refine goesL_ (some 82) rfl rfl Tryd.func16 (by kernel_rfl) rfl #[.string (t128 ++ (strOfNums y134))] rfl (by (try simp only [List.map_toArray, List.map_cons, List.map_nil]); first | done | rfl | (simp only [List.length_drop, List.length_take]; rfl)) ?_; (with_reducible refine (num_Parse.calls (t128 ++ (strOfNums y134)) t137 t138 _ A26.out).mono ?_); rintro e w52 ⟨rfl, hb⟩; refine ⟨_, rfl, ?_⟩; have n0_ := Aside0.mk (Kd.R_below (by (with_reducible repeat (first | apply Kd.R_alloc | apply Kd.R_drewN | apply Kd.R_drew)); exact HO136.out) hb); have n1_ := Aside0.mk (below_step (by repeat (first | (with_reducible first | exact HB.out | apply below_alloc | apply pw_below_drewN | apply below_drew1) | exact HB.out)) hb); clear HO136; clear HB; have HO136 := n0_; have HB := n1_; clear n0_ n1_; (try clear hb); (try clear hb2); (try clear hk); (try clear hi)) | ((with_reducible refine gate_dst (N := 87) rfl ?_); refine Kd.R_lit (Kd.int .u8) _ 5 ?hg (N := 87) ?hd (xs := ([a2] : List Int)) (inner := [.int .u8 a2]) (ok := fun _ => True) (okp := fun _ => True) ?hr ?hp (fun _ hk => hk) trivial (Below.refl _ _) (Nat.le_refl _) (by simp) ?_; (case hd => rfl); (case hg => rfl); (case hr => first | (go_simp; done) | (go_simp; rfl)); (case hp => exact (Reps.one (show Kd.M (Kd.int .u8) _ _ _ a2 [.int .u8 a2] from rfl) (Reps.none _ _))); intro v140 w53 ho54 hb hg_ hnew_; clear hg_ hnew_; (first | rw [← Ny139.out] at ho54 | (simp only [Int.reduceToNat] at ho54; rw [← Ny139.out] at ho54)); have n0_ := Aside0.mk (Kd.R_elder' (by (with_reducible repeat (first | apply Kd.R_alloc | apply Kd.R_drewN | apply Kd.R_drew)); exact HO136.out) (Kd.R_base ho54) hb); have n1_ := Aside0.mk (Kd.R_lower (Kd.R_new' ho54 (Kd.R_lt (by (with_reducible repeat (first | apply Kd.R_alloc | apply Kd.R_drewN | apply Kd.R_drew)); exact HO136.out))) (below_size (by repeat (first | (with_reducible first | exact HB.out | apply below_alloc | apply pw_below_drewN | apply below_drew1) | exact HB.out)))); have n2_ := Aside0.mk (below_step (by repeat (first | (with_reducible first | exact HB.out | apply below_alloc | apply pw_below_drewN | apply below_drew1) | exact HB.out)) hb); clear HO136; clear HB; have HO136 := n0_; have HO141 := n1_; have HB := n2_; clear n0_ n1_ n2_; clear hb ho54; have hcv55 := own_string (P := Tryd.prog) Tryd.underlying35 Tryd.underlying5 Tryd.underlying9 (Kd.own_of_R HO141.out)) | ((with_reducible refine gate_callee (f := 16) rfl ?_); refine goesL_ (some 91) rfl rfl Tryd.func16 (by kernel_rfl) rfl #[.string ((strOfNums y139) ++ t128)] rfl (by (try simp only [List.map_toArray, List.map_cons, List.map_nil]); first | done | rfl | (simp only [List.length_drop, List.length_take]; rfl)) ?_; (with_reducible refine (num_Parse.calls ((strOfNums y139) ++ t128) t142 t143 _ A28.out).mono ?_); rintro e w56 ⟨rfl, hb⟩; refine ⟨_, rfl, ?_⟩; have n0_ := Aside0.mk (Kd.R_below (by (with_reducible repeat (first | apply Kd.R_alloc | apply Kd.R_drewN | apply Kd.R_drew)); exact HO136.out) hb); have n1_ := Aside0.mk (Kd.R_below (by (with_reducible repeat (first | apply Kd.R_alloc | apply Kd.R_drewN | apply Kd.R_drew)); exact HO141.out) hb); have n2_ := Aside0.mk (below_step (by repeat (first | (with_reducible first | exact HB.out | apply below_alloc | apply pw_below_drewN | apply below_drew1) | exact HB.out)) hb); clear HO136; clear HO141; clear HB; have HO136 := n0_; have HO141 := n1_; have HB := n2_; clear n0_ n1_ n2_; (try clear hb); (try clear hb2); (try clear hk); (try clear hi)))
                        go_ret
                        exact ⟨by first | rfl | (simp [errW_none, errW_some] <;> rfl) | (simp [*, errW_none, errW_some] <;> rfl), by repeat (first | (with_reducible first | exact HB.out | apply below_alloc | apply pw_below_drewN | apply below_drew1) | exact HB.out)⟩
                    · rw [if_neg c30] at H
                      have c30b0 : (t137 == 0) = false := beq_eq_false_iff_ne.mpr c30
                      have c30b1 : (t137 != 0) = true := bne_iff_ne.mpr c30
                      obtain rfl := Option.some.inj H
                      go_wp2_with (first | ((with_reducible refine gate_dst (N := 79) rfl ?_); refine Kd.R_lit (Kd.int .u8) _ 5 ?hg (N := 79) ?hd (xs := ([a2] : List Int)) (inner := [.int .u8 a2]) (ok := fun _ => True) (okp := fun _ => True) ?hr ?hp (fun _ hk => hk) trivial (Below.refl _ _) (Nat.le_refl _) (by simp) ?_; (case hd => rfl); (case hg => rfl); (case hr => first | (go_simp; done) | (go_simp; rfl)); (case hp => exact (Reps.one (show Kd.M (Kd.int .u8) _ _ _ a2 [.int .u8 a2] from rfl) (Reps.none _ _))); intro v135 w57 ho58 hb hg_ hnew_; clear hg_ hnew_; (first | rw [← Ny134.out] at ho58 | (simp only [Int.reduceToNat] at ho58; rw [← Ny134.out] at ho58)); have n0_ := Aside0.mk (Kd.R_lower ho58 (below_size (by repeat (first | (with_reducible first | exact HB.out | apply below_alloc | apply pw_below_drewN | apply below_drew1) | exact HB.out)))); have n1_ := Aside0.mk (below_step (by repeat (first | (with_reducible first | exact HB.out | apply below_alloc | apply pw_below_drewN | apply below_drew1) | exact HB.out)) hb); clear HB; have HO136 := n0_; have HB := n1_; clear n0_ n1_; clear hb ho58; have hcv59 := own_string (P := Tryd.prog) Tryd.underlying35 Tryd.underlying5 Tryd.underlying9 (Kd.own_of_R HO136.out)) | ((with_reducible refine gate_callee (f := 16) rfl ?_); refine goesL_ (some 82) rfl rfl Tryd.func16 (by kernel_rfl) rfl #[.string (t128 ++ (strOfNums y134))] rfl (by (try simp only [List.map_toArray, List.map_cons, List.map_nil]); first | done | rfl | (simp only [List.length_drop, List.length_take]; rfl)) ?_; (with_reducible refine (num_Parse.calls (t128 ++ (strOfNums y134)) t137 t138 _ A26.out).mono ?_); rintro e w60 ⟨rfl, hb⟩; refine ⟨_, rfl, ?_⟩; have n0_ := Aside0.mk (Kd.R_below (by (with_reducible repeat (first | apply Kd.R_alloc | apply Kd.R_drewN | apply Kd.R_drew)); exact HO136.out) hb); have n1_ := Aside0.mk (below_step (by repeat (first | (with_reducible first | exact HB.out | apply below_alloc | apply pw_below_drewN | apply below_drew1) | exact HB.out)) hb); clear HO136; clear HB; have HO136 := n0_; have HB := n1_; clear n0_ n1_; (try clear hb); (try clear hb2); (try clear hk); (try clear hi)) | ((with_reducible refine gate_dst (N := 87) rfl ?_); refine Kd.R_lit (Kd.int .u8) _ 5 ?hg (N := 87) ?hd (xs := ([a2] : List Int)) (inner := [.int .u8 a2]) (ok := fun _ => True) (okp := fun _ => True) ?hr ?hp (fun _ hk => hk) trivial (Below.refl _ _) (Nat.le_refl _) (by simp) ?_; (case hd => rfl); (case hg => rfl); (case hr => first | (go_simp; done) | (go_simp; rfl)); (case hp => exact (Reps.one (show Kd.M (Kd.int .u8) _ _ _ a2 [.int .u8 a2] from rfl) (Reps.none _ _))); intro v140 w61 ho62 hb hg_ hnew_; clear hg_ hnew_; (first | rw [← Ny139.out] at ho62 | (simp only [Int.reduceToNat] at ho62; rw [← Ny139.out] at ho62)); have n0_ := Aside0.mk (Kd.R_elder' (by (with_reducible repeat (first | apply Kd.R_alloc | apply Kd.R_drewN | apply Kd.R_drew)); exact HO136.out) (Kd.R_base ho62) hb); have n1_ := Aside0.mk (Kd.R_lower (Kd.R_new' ho62 (Kd.R_lt (by (with_reducible repeat (first | apply Kd.R_alloc | apply Kd.R_drewN | apply Kd.R_drew)); exact HO136.out))) (below_size (by repeat (first | (with_reducible first | exact HB.out | apply below_alloc | apply pw_below_drewN | apply below_drew1) | exact HB.out)))); have n2_ := Aside0.mk (below_step (by repeat (first | (with_reducible first | exact HB.out | apply below_alloc | apply pw_below_drewN | apply below_drew1) | exact HB.out)) hb); clear HO136; clear HB; have HO136 := n0_; have HO141 := n1_; have HB := n2_; clear n0_ n1_ n2_; clear hb ho62; have hcv63 := own_string (P := Tryd.prog) Tryd.underlying35 Tryd.underlying5 Tryd.underlying9 (Kd.own_of_R HO141.out)) | ((with_reducible refine gate_callee (f := 16) rfl ?_); refine goesL_ (some 91) rfl rfl Tryd.func16 (by kernel_rfl) rfl #[.string ((strOfNums y139) ++ t128)] rfl (by (try simp only [List.map_toArray, List.map_cons, List.map_nil]); first | done | rfl | (simp only [List.length_drop, List.length_take]; rfl)) ?_; (with_reducible refine (num_Parse.calls ((strOfNums y139) ++ t128) t142 t143 _ A28.out).mono ?_); rintro e w64 ⟨rfl, hb⟩; refine ⟨_, rfl, ?_⟩; have n0_ := Aside0.mk (Kd.R_below (by (with_reducible repeat (first | apply Kd.R_alloc | apply Kd.R_drewN | apply Kd.R_drew)); exact HO136.out) hb); have n1_ := Aside0.mk (Kd.R_below (by (with_reducible repeat (first | apply Kd.R_alloc | apply Kd.R_drewN | apply Kd.R_drew)); exact HO141.out) hb); have n2_ := Aside0.mk (below_step (by repeat (first | (with_reducible first | exact HB.out | apply below_alloc | apply pw_below_drewN | apply below_drew1) | exact HB.out)) hb); clear HO136; clear HO141; clear HB; have HO136 := n0_; have HO141 := n1_; have HB := n2_; clear n0_ n1_ n2_; (try clear hb); (try clear hb2); (try clear hk); (try clear hi)))
                      go_ret
                      exact ⟨by first | rfl | (simp [errW_none, errW_some] <;> rfl) | (simp [*, errW_none, errW_some] <;> rfl), by repeat (first | (with_reducible first | exact HB.out | apply below_alloc | apply pw_below_drewN | apply below_drew1) | exact HB.out)⟩
                  · replace c29 := Bool.eq_false_iff.mpr c29
                    subst c29
                    have H1 : (some false) = some r := by rw [if_neg (show ¬ (false = true) by decide)] at H; exact H
                    clear H
                    have H := H1
                    clear H1
                    obtain rfl := Option.some.inj H
                    go_wp2_with (first | ((with_reducible refine gate_dst (N := 79) rfl ?_); refine Kd.R_lit (Kd.int .u8) _ 5 ?hg (N := 79) ?hd (xs := ([a2] : List Int)) (inner := [.int .u8 a2]) (ok := fun _ => True) (okp := fun _ => True) ?hr ?hp (fun _ hk => hk) trivial (Below.refl _ _) (Nat.le_refl _) (by simp) ?_; (case hd => rfl); (case hg => rfl); (case hr => first | (go_simp; done) | (go_simp; rfl)); (case hp => exact (Reps.one (show Kd.M (Kd.int .u8) _ _ _ a2 [.int .u8 a2] from rfl) (Reps.none _ _))); intro v135 w65 ho66 hb hg_ hnew_; clear hg_ hnew_; (first | rw [← Ny134.out] at ho66 | (simp only [Int.reduceToNat] at ho66; rw [← Ny134.out] at ho66)); have n0_ := Aside0.mk (Kd.R_lower ho66 (below_size (by repeat (first | (with_reducible first | exact HB.out | apply below_alloc | apply pw_below_drewN | apply below_drew1) | exact HB.out)))); have n1_ := Aside0.mk (below_step (by repeat (first | (with_reducible first | exact HB.out | apply below_alloc | apply pw_below_drewN | apply below_drew1) | exact HB.out)) hb); clear HB; have HO136 := n0_; have HB := n1_; clear n0_ n1_; clear hb ho66; have hcv67 := own_string (P := Tryd.prog) Tryd.underlying35 Tryd.underlying5 Tryd.underlying9 (Kd.own_of_R HO136.out)) | ((with_reducible refine gate_callee (f := 16) rfl ?_); refine goesL_ (some 82) rfl rfl Tryd.func16 (by kernel_rfl) rfl #[.string (t128 ++ (strOfNums y134))] rfl (by (try simp only [List.map_toArray, List.map_cons, List.map_nil]); first | done | rfl | (simp only [List.length_drop, List.length_take]; rfl)) ?_; (with_reducible refine (num_Parse.calls (t128 ++ (strOfNums y134)) t137 t138 _ A26.out).mono ?_); rintro e w68 ⟨rfl, hb⟩; refine ⟨_, rfl, ?_⟩; have n0_ := Aside0.mk (Kd.R_below (by (with_reducible repeat (first | apply Kd.R_alloc | apply Kd.R_drewN | apply Kd.R_drew)); exact HO136.out) hb); have n1_ := Aside0.mk (below_step (by repeat (first | (with_reducible first | exact HB.out | apply below_alloc | apply pw_below_drewN | apply below_drew1) | exact HB.out)) hb); clear HO136; clear HB; have HO136 := n0_; have HB := n1_; clear n0_ n1_; (try clear hb); (try clear hb2); (try clear hk); (try clear hi)) | ((with_reducible refine gate_dst (N := 87) rfl ?_); refine Kd.R_lit (Kd.int .u8) _ 5 ?hg (N := 87) ?hd (xs := ([a2] : List Int)) (inner := [.int .u8 a2]) (ok := fun _ => True) (okp := fun _ => True) ?hr ?hp (fun _ hk => hk) trivial (Below.refl _ _) (Nat.le_refl _) (by simp) ?_; (case hd => rfl); (case hg => rfl); (case hr => first | (go_simp; done) | (go_simp; rfl)); (case hp => exact (Reps.one (show Kd.M (Kd.int .u8) _ _ _ a2 [.int .u8 a2] from rfl) (Reps.none _ _))); intro v140 w69 ho70 hb hg_ hnew_; clear hg_ hnew_; (first | rw [← Ny139.out] at ho70 | (simp only [Int.reduceToNat] at ho70; rw [← Ny139.out] at ho70)); have n0_ := Aside0.mk (Kd.R_elder' (by (with_reducible repeat (first | apply Kd.R_alloc | apply Kd.R_drewN | apply Kd.R_drew)); exact HO136.out) (Kd.R_base ho70) hb); have n1_ := Aside0.mk (Kd.R_lower (Kd.R_new' ho70 (Kd.R_lt (by (with_reducible repeat (first | apply Kd.R_alloc | apply Kd.R_drewN | apply Kd.R_drew)); exact HO136.out))) (below_size (by repeat (first | (with_reducible first | exact HB.out | apply below_alloc | apply pw_below_drewN | apply below_drew1) | exact HB.out)))); have n2_ := Aside0.mk (below_step (by repeat (first | (with_reducible first | exact HB.out | apply below_alloc | apply pw_below_drewN | apply below_drew1) | exact HB.out)) hb); clear HO136; clear HB; have HO136 := n0_; have HO141 := n1_; have HB := n2_; clear n0_ n1_ n2_; clear hb ho70; have hcv71 := own_string (P := Tryd.prog) Tryd.underlying35 Tryd.underlying5 Tryd.underlying9 (Kd.own_of_R HO141.out)) | ((with_reducible refine gate_callee (f := 16) rfl ?_); refine goesL_ (some 91) rfl rfl Tryd.func16 (by kernel_rfl) rfl #[.string ((strOfNums y139) ++ t128)] rfl (by (try simp only [List.map_toArray, List.map_cons, List.map_nil]); first | done | rfl | (simp only [List.length_drop, List.length_take]; rfl)) ?_; (with_reducible refine (num_Parse.calls ((strOfNums y139) ++ t128) t142 t143 _ A28.out).mono ?_); rintro e w72 ⟨rfl, hb⟩; refine ⟨_, rfl, ?_⟩; have n0_ := Aside0.mk (Kd.R_below (by (with_reducible repeat (first | apply Kd.R_alloc | apply Kd.R_drewN | apply Kd.R_drew)); exact HO136.out) hb); have n1_ := Aside0.mk (Kd.R_below (by (with_reducible repeat (first | apply Kd.R_alloc | apply Kd.R_drewN | apply Kd.R_drew)); exact HO141.out) hb); have n2_ := Aside0.mk (below_step (by repeat (first | (with_reducible first | exact HB.out | apply below_alloc | apply pw_below_drewN | apply below_drew1) | exact HB.out)) hb); clear HO136; clear HO141; clear HB; have HO136 := n0_; have HO141 := n1_; have HB := n2_; clear n0_ n1_ n2_; (try clear hb); (try clear hb2); (try clear hk); (try clear hi)))
                    go_ret
                    exact ⟨by first | rfl | (simp [errW_none, errW_some] <;> rfl) | (simp [*, errW_none, errW_some] <;> rfl), by repeat (first | (with_reducible first | exact HB.out | apply below_alloc | apply pw_below_drewN | apply below_drew1) | exact HB.out)⟩
                · rw [if_neg c27] at H
                  exact absurd H (by simp)
              · rw [if_neg c25] at H
                exact absurd H (by simp)
  · rw [if_neg c6] at H
    exact absurd H (by simp)

/-- THE ONE PURE STATEMENT of millwrightlaw01_NumDigits: yours. -/
def millwrightlaw01_NumDigits.Pure : Prop := ∀ (a0 : Int) (a1 : Int) (a2 : Int), (Lit.int .i64 a0).wf = true → (Lit.int .u8 a1).wf = true → (Lit.int .u8 a2).wf = true → ∃ k, millwrightlaw01_NumDigits.f k a0 a1 a2 = some true
theorem millwrightlaw01_NumDigits.walk (P : millwrightlaw01_NumDigits.Pure) (a0 : Int) (a1 : Int) (a2 : Int) (w : World) (w0 : (Lit.int .i64 a0).wf = true) (w1 : (Lit.int .u8 a1).wf = true) (w2 : (Lit.int .u8 a2).wf = true) (HT : NumA.Tab w) :
    Calls Tryd.prog 9 #[.int .i64 a0, .int .u8 a1, .int .u8 a2] w fun e w' => e = .returned (.bool true) ∧ Below w.heap.size w w' := by
  obtain ⟨k, h⟩ := P a0 a1 a2 w0 w1 w2
  refine (millwrightlaw01_NumDigits.calls k a0 a1 a2 true w h HT).mono ?_
  rintro e w' ⟨rfl, hd⟩
  exact ⟨rfl, hd⟩

end Go.Proofs.YtbjkfafjcflggaaDoor.PNumDigits
