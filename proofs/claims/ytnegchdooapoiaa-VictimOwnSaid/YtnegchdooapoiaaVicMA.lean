/- Lemmas for the walks. No condition. -/
import Derived.Test.YtnegchdooapoiaaPVicx6
namespace Go.Proofs.Ytnegchdooapoiaa.PVic
open Go.RowKit Go.Proofs.YtnegchdooapoiaaW.PrintWords Go.Proofs.YtnegchdooapoiaaW.PrintLast Go.Proofs.YtnegchdooapoiaaW.PrintMore
attribute [local go_sem] max2_int min2_int max_two min_two max_three min_three max_four min_four   -- for this text's walks alone
set_option linter.unusedVariables false
set_option linter.unusedSimpArgs false
set_option maxHeartbeats 8000000 in
set_option maxRecDepth 100000 in
theorem victim_Run_27.calls_A (k : Nat) (ih : ∀ m : Nat, m < k + 1 → ∀ (P0_ : Nat → Prop) (u9000_ : Value) (l0 : List (S27)) (a1 : Int) (a2 : Int) (a3 : Int) (a4 : Bool) (r : List (S27)) (w0 w : World) (hB : Below w0.heap.size w0 w) (ho0 : Kd.R k27 27 w w0.heap.size P0_ u9000_ l0) (h : victim_Run_27.f m l0 a1 a2 a3 a4 = some r),
      Calls Try.prog 27 #[u9000_, .int .i64 a1, .int .i64 a2, .int .i64 a3, .func (.func 18) #[] #[]] w fun e w' => e = .returned (.tuple #[]) ∧ Kd.R k27 27 w' w0.heap.size (fun k_ => (P0_ k_ ∨ w.heap.size ≤ k_)) u9000_ r ∧ Below w0.heap.size w0 w' ∧ Kept w w' (fun k_ => P0_ k_)) (P0_ : Nat → Prop) (u9000_ : Value) (l0 : List (S27)) (a1 : Int) (a2 : Int) (a3 : Int) (a4 : Bool) (r : List (S27)) (w0 w : World) (hB : Below w0.heap.size w0 w) (ho0 : Kd.R k27 27 w w0.heap.size P0_ u9000_ l0) (c6 : (wrap64 (a2 - a1)) = 1) (H : (victim_Run_27.l0 k l0 a1 a2 a3) = some r) :
    Calls Try.prog 27 #[u9000_, .int .i64 a1, .int .i64 a2, .int .i64 a3, .func (.func 18) #[] #[]] w fun e w' => e = .returned (.tuple #[]) ∧ Kd.R k27 27 w' w0.heap.size (fun k_ => (P0_ k_ ∨ w.heap.size ≤ k_)) u9000_ r ∧ Below w0.heap.size w0 w' ∧ Kept w w' (fun k_ => P0_ k_) := by
  have hu27 := Try.underlying27
  have HO0 := Aside0.mk (show Kd.R k27 27 w w0.heap.size (fun k_ => (P0_ k_ ∨ w.heap.size ≤ k_)) u9000_ l0 from Kd.R_mono ho0 (fun k_ hk => (.inl hk)))
  have HK := Aside0.mk (Kept.refl w (fun k_ => P0_ k_))
  have HW0 := Aside0.mk hB.size
  have HB := Aside0.mk hB
  clear hB
  have c6b0 : ((wrap64 (a2 - a1)) == 1) = true := beq_iff_eq.mpr c6
  have c6b1 : ((wrap64 (a2 - a1)) != 1) = false := bne_eq_false_iff_eq.mpr c6
  clear c6
  have H' := Aside0.mk H
  clear H
  go_enter Try.func27, Try.ntmps27
  go_wp2
  go_loopg [10, 11] k (fun kq v10 v11 w' => ∃ (x10_1 : Int) (x11_1 : Int), v10 = .int .i64 x10_1 ∧ v11 = .int .i64 x11_1 ∧ Aside0 (victim_Run_27.l0 kq l0 a1 x10_1 x11_1 = some r) ∧ Aside0 (kq ≤ k) ∧ Aside0 (Kd.R k27 27 w' w0.heap.size (fun k_ => (P0_ k_ ∨ w.heap.size ≤ k_)) u9000_ l0) ∧ Aside0 (Kept w w' (fun k_ => P0_ k_)) ∧ Aside0 (Below w0.heap.size w0 w'))
  case atStart => exact ⟨(a2), (a3), (by first | rfl | (simp; done) | (simp [*]; done)), (by first | rfl | (simp; done) | (simp [*]; done)), H', ⟨Nat.le_refl _⟩, ⟨by (with_reducible repeat (first | apply Kd.R_alloc | apply Kd.R_drewN | apply Kd.R_drew)); exact HO0.out⟩, ⟨by repeat (first | (with_reducible first | exact HK.out | apply Kept.alloc | apply Kept.drewN | apply Kept.drew) | exact HK.out)⟩, ⟨by repeat (first | (with_reducible first | exact HB.out | apply below_alloc | apply pw_below_drewN | apply below_drew1) | exact HB.out)⟩⟩
  case round =>
    clear H'
    try clear c2
    try clear p2
    try clear c6
    try clear c6b0
    try clear c6b1
    try clear p6
    obtain ⟨x10_1, x11_1, rfl, rfl, HA, HK1, HO_0, HK, HB⟩ := hrel
    cases gk with
    | zero => exact absurd HA.out (by simp [victim_Run_27.l0])
    | succ k1 =>
      have H := HA.out
      clear HA
      simp only [victim_Run_27.l0] at H
      by_cases c7 : x10_1 < x11_1
      · rw [if_pos c7] at H
        have c7b0 : decide (x10_1 < x11_1) = true := decide_eq_true c7
        clear c7
        obtain ⟨ji8, hji8⟩ : ∃ j_ : Int, (wrap64 ((IntKind.u64.wrap (wrap64 (x10_1 + x11_1))) / 2)) = j_ := ⟨_, rfl⟩
        replace H : (if 0 ≤ (ji8) then (if (ji8) < (l0.length : Int) then (if 0 ≤ a1 then (if a1 < (l0.length : Int) then ((victim_Run_compare.f k1 ((rd_T27 l0 (ji8)).f0) ((rd_T27 l0 (ji8)).f1) ((rd_T27 l0 (ji8)).f2) ((rd_T27 l0 (ji8)).f3) ((rd_T27 l0 (ji8)).f4) ((rd_T27 l0 a1).f0) ((rd_T27 l0 a1).f1) ((rd_T27 l0 a1).f2) ((rd_T27 l0 a1).f3) ((rd_T27 l0 a1).f4)).bind fun t149 => (if t149 < 0 then (victim_Run_27.l0 k1 l0 a1 (wrap64 ((ji8) + 1)) x11_1) else (victim_Run_27.l0 k1 l0 a1 x10_1 ji8))) else (none)) else (none)) else (none)) else (none)) = some r := by first | (rw [hji8] at H; exact H) | (simp only [hji8] at H ⊢; exact H)
        have hji8w : (IntKind.i64.wrap ((IntKind.u64.wrap (wrap64 (x10_1 + x11_1))) / 2)) = ji8 := (i64_w _).trans hji8
        by_cases c9 : 0 ≤ (ji8)
        · rw [if_pos c9] at H
          have c9b0 : decide (0 ≤ (ji8)) = true := decide_eq_true c9
          clear c9
          by_cases c10 : (ji8) < (l0.length : Int)
          · rw [if_pos c10] at H
            have c10b0 : decide ((ji8) < (l0.length : Int)) = true := decide_eq_true c10
            clear c10
            by_cases c11 : 0 ≤ a1
            · rw [if_pos c11] at H
              have c11b0 : decide (0 ≤ a1) = true := decide_eq_true c11
              clear c11
              by_cases c12 : a1 < (l0.length : Int)
              · rw [if_pos c12] at H
                have c12b0 : decide (a1 < (l0.length : Int)) = true := decide_eq_true c12
                clear c12
                replace H := Option.bind_eq_some_iff.mp H
                obtain ⟨t149, A130, H⟩ := H
                replace H : (if t149 < 0 then (victim_Run_27.l0 k1 l0 a1 (wrap64 ((ji8) + 1)) x11_1) else (victim_Run_27.l0 k1 l0 a1 x10_1 ji8)) = some r := H
                have A13 := Aside0.mk A130
                clear A130
                by_cases c14 : t149 < 0
                · rw [if_pos c14] at H
                  have c14b0 : decide (t149 < 0) = true := decide_eq_true c14
                  clear c14
                  have H' := Aside0.mk H
                  clear H
                  try go_wp2
                  have n0_ := Aside0.mk (Kd.R_drew HO_0.out)
                  have n1_ := Aside0.mk (Kept.drew HK.out)
                  have n2_ := Aside0.mk (below_drew1 HB.out)
                  clear HO_0
                  clear HK
                  clear HB
                  have HO_0 := n0_
                  have HK := n1_
                  have HB := n2_
                  clear n0_ n1_ n2_
                  obtain ⟨Ao16, co16, eo16⟩ := Kd.R_slice HO_0.out
                  (first | subst eo16 | (injection eo16 with f1_ f2_ f3_; have f4_ := f1_.symm; have f5_ := f3_.symm; clear f1_ f2_ f3_; subst f4_; subst f5_))
                  have p147 : 0 ≤ ((ji8) : Int) := of_decide_eq_true (by first | (with_reducible assumption) | assumption)
                  have q147 : (ji8) < (l0.length : Int) := of_decide_eq_true (by first | (with_reducible assumption) | assumption)
                  obtain ⟨ad147, e147, hx147_0, hx147_1, hx147_2, hx147_3, hx147_4⟩ := at_T27 (Kd.R_reads' HO_0.out).2.2 (ji8) p147 q147
                  cases e147
                  replace p147 := eq_true p147
                  replace q147 := eq_true q147
                  have p148 : 0 ≤ (a1 : Int) := of_decide_eq_true (by first | (with_reducible assumption) | assumption)
                  have q148 : a1 < (l0.length : Int) := of_decide_eq_true (by first | (with_reducible assumption) | assumption)
                  obtain ⟨ad148, e148, hx148_0, hx148_1, hx148_2, hx148_3, hx148_4⟩ := at_T27 (Kd.R_reads' HO_0.out).2.2 a1 p148 q148
                  obtain rfl : ad147 = ad148 := (by injection e148)
                  replace p148 := eq_true p148
                  replace q148 := eq_true q148
                  refine start_ (n := 11) (S := fun w' => w'.cell? (ad147.add (((ji8)).toNat * 5)) = some (.int .i64 ((rd_T27 l0 (ji8)).f0)) ∧ w'.cell? ⟨(ad147.add (((ji8)).toNat * 5)).block, (ad147.add (((ji8)).toNat * 5)).off + 1, none⟩ = some (.int .i64 ((rd_T27 l0 (ji8)).f1)) ∧ w'.cell? ⟨(ad147.add (((ji8)).toNat * 5)).block, (ad147.add (((ji8)).toNat * 5)).off + 2, none⟩ = some (.int .i64 ((rd_T27 l0 (ji8)).f2)) ∧ w'.cell? ⟨(ad147.add (((ji8)).toNat * 5)).block, (ad147.add (((ji8)).toNat * 5)).off + 3, none⟩ = some (.int .i64 ((rd_T27 l0 (ji8)).f3)) ∧ w'.cell? ⟨(ad147.add (((ji8)).toNat * 5)).block, (ad147.add (((ji8)).toNat * 5)).off + 4, none⟩ = some (.int .i64 ((rd_T27 l0 (ji8)).f4)) ∧ w'.cell? (ad147.add ((a1).toNat * 5)) = some (.int .i64 ((rd_T27 l0 a1).f0)) ∧ w'.cell? ⟨(ad147.add ((a1).toNat * 5)).block, (ad147.add ((a1).toNat * 5)).off + 1, none⟩ = some (.int .i64 ((rd_T27 l0 a1).f1)) ∧ w'.cell? ⟨(ad147.add ((a1).toNat * 5)).block, (ad147.add ((a1).toNat * 5)).off + 2, none⟩ = some (.int .i64 ((rd_T27 l0 a1).f2)) ∧ w'.cell? ⟨(ad147.add ((a1).toNat * 5)).block, (ad147.add ((a1).toNat * 5)).off + 3, none⟩ = some (.int .i64 ((rd_T27 l0 a1).f3)) ∧ w'.cell? ⟨(ad147.add ((a1).toNat * 5)).block, (ad147.add ((a1).toNat * 5)).off + 4, none⟩ = some (.int .i64 ((rd_T27 l0 a1).f4))) (ds := []) #[false, false, false, false, false, false, false, false, false, false, false] (by kernel_rfl) rfl rfl ⟨hx147_0, hx147_1, hx147_2, hx147_3, hx147_4, hx148_0, hx148_1, hx148_2, hx148_3, hx148_4⟩ (fun hHeld => ?_); refine with_tabW victim_Run_27.tab5 victim_Run_27.bits5 (fun HT_ HW_ => ?_)
                  generalize wr.drew = w15 at HO_0 HK HB hx147_0 hx147_1 hx147_2 hx147_3 hx147_4 hx148_0 hx148_1 hx148_2 hx148_3 hx148_4 hHeld ⊢
                  refine pure_ (i := 0) (N := some 40) (v := ?_) (a' := ?_) #[true, false, false, false, false, false, false, false, false, false, false] rfl rfl (any_of HT_.out (by kernel_rfl)) (fun _ _ _ h => h) (Or.inl ⟨by rfl, ?_⟩) ?_ ?_
                  rotate_left
                  · intro w'
                    go_simp
                    with_reducible rfl
                  rotate_left
                  · simp only [Act.put, List.setIfInBounds_toArray, List.set_cons_zero, List.set_cons_succ, i64_w, i32_w]
                    rfl
                  refine pure_ (i := 1) (N := some 41) (v := ?_) (a' := ?_) #[true, true, false, false, false, false, false, false, false, false, false] rfl rfl (any_of HT_.out (by kernel_rfl)) (fun _ _ _ h => h) (Or.inl ⟨by rfl, ?_⟩) ?_ ?_
                  rotate_left
                  · intro w'
                    go_simp
                    with_reducible rfl
                  rotate_left
                  · simp only [Act.put, List.setIfInBounds_toArray, List.set_cons_zero, List.set_cons_succ, i64_w, i32_w]
                    rfl
                  refine pure_ (i := 2) (N := some 42) (v := ?_) (a' := ?_) #[true, true, true, false, false, false, false, false, false, false, false] rfl rfl (any_of HT_.out (by kernel_rfl)) (fun _ _ _ h => h) (Or.inl ⟨by rfl, ?_⟩) ?_ ?_
                  rotate_left
                  · intro w'
                    go_simp
                    with_reducible rfl
                  rotate_left
                  · simp only [Act.put, List.setIfInBounds_toArray, List.set_cons_zero, List.set_cons_succ, i64_w, i32_w]
                    rfl
                  refine pure_ (i := 3) (N := some 43) (v := ?_) (a' := ?_) #[true, true, true, true, false, false, false, false, false, false, false] rfl rfl (any_of HT_.out (by kernel_rfl)) (fun _ _ _ h => h) (Or.inl ⟨by rfl, ?_⟩) ?_ ?_
                  rotate_left
                  · intro w'
                    go_simp
                    with_reducible rfl
                  rotate_left
                  · simp only [Act.put, List.setIfInBounds_toArray, List.set_cons_zero, List.set_cons_succ, i64_w, i32_w]
                    rfl
                  refine pure_ (i := 5) (N := some 45) (v := ?_) (a' := ?_) #[true, true, true, true, false, true, false, false, false, false, false] rfl rfl (any_of HT_.out (by kernel_rfl)) (fun _ _ _ h => h) (Or.inl ⟨by rfl, ?_⟩) ?_ ?_
                  rotate_left
                  · intro w'
                    go_simp
                    with_reducible rfl
                  rotate_left
                  · simp only [Act.put, List.setIfInBounds_toArray, List.set_cons_zero, List.set_cons_succ, i64_w, i32_w]
                    rfl
                  refine pure_ (i := 6) (N := some 46) (v := ?_) (a' := ?_) #[true, true, true, true, false, true, true, false, false, false, false] rfl rfl (any_of HT_.out (by kernel_rfl)) (fun _ _ _ h => h) (Or.inl ⟨by rfl, ?_⟩) ?_ ?_
                  rotate_left
                  · intro w'
                    go_simp
                    with_reducible rfl
                  rotate_left
                  · simp only [Act.put, List.setIfInBounds_toArray, List.set_cons_zero, List.set_cons_succ, i64_w, i32_w]
                    rfl
                  refine pure_ (i := 7) (N := some 47) (v := ?_) (a' := ?_) #[true, true, true, true, false, true, true, true, false, false, false] rfl rfl (any_of HT_.out (by kernel_rfl)) (fun _ _ _ h => h) (Or.inl ⟨by rfl, ?_⟩) ?_ ?_
                  rotate_left
                  · intro w'
                    go_simp
                    with_reducible rfl
                  rotate_left
                  · simp only [Act.put, List.setIfInBounds_toArray, List.set_cons_zero, List.set_cons_succ, i64_w, i32_w]
                    rfl
                  refine take_ (i := 4) (N := some 44) (v := ?_) (a' := ?_) #[true, true, true, true, true, true, true, true, false, false, false] rfl rfl (take_ofW HT_.out HW_.out (by kernel_rfl)) (fun _ _ _ h => h) (Or.inl ⟨by rfl, ?_⟩) hHeld ?_ ?_
                  rotate_left
                  · rintro w' ⟨s0, s1, s2, s3, s4, s5, s6, s7, s8, s9⟩
                    go_simp
                    with_reducible rfl
                  rotate_left
                  · simp only [Act.put, List.setIfInBounds_toArray, List.set_cons_zero, List.set_cons_succ, i64_w, i32_w]
                    rfl
                  refine take_ (i := 8) (N := some 48) (v := ?_) (a' := ?_) #[true, true, true, true, true, true, true, true, true, false, false] rfl rfl (take_ofW HT_.out HW_.out (by kernel_rfl)) (fun _ _ _ h => h) (Or.inl ⟨by rfl, ?_⟩) hHeld ?_ ?_
                  rotate_left
                  · rintro w' ⟨s0, s1, s2, s3, s4, s5, s6, s7, s8, s9⟩
                    go_simp
                    with_reducible rfl
                  rotate_left
                  · simp only [Act.put, List.setIfInBounds_toArray, List.set_cons_zero, List.set_cons_succ, i64_w, i32_w]
                    rfl
                  refine one_ (i := 9) (N := some 49) #[true, true, true, true, true, true, true, true, true, true, false] rfl rfl (one_of HT_.out (by kernel_rfl)) (by decide) (fun K hK => ?_)
                  refine VicW.goesV_ Try.func18 (by kernel_rfl) rfl #[.agg #[.int .i64 ((rd_T27 l0 (ji8)).f0), .int .i64 ((rd_T27 l0 (ji8)).f1), .int .i64 ((rd_T27 l0 (ji8)).f2), .int .i64 ((rd_T27 l0 (ji8)).f3), .int .i64 ((rd_T27 l0 (ji8)).f4)], .agg #[.int .i64 ((rd_T27 l0 a1).f0), .int .i64 ((rd_T27 l0 a1).f1), .int .i64 ((rd_T27 l0 a1).f2), .int .i64 ((rd_T27 l0 a1).f3), .int .i64 ((rd_T27 l0 a1).f4)]] (by rfl) rfl rfl (by rfl) (by (try simp only [List.map_toArray, List.map_cons, List.map_nil]); first | done | (simp only [hji8]; rfl) | rfl | (simp only [List.length_drop, List.length_take]; rfl)) ?_
                  with_reducible refine (victim_Run_compare.calls k1 ((rd_T27 l0 (ji8)).f0) ((rd_T27 l0 (ji8)).f1) ((rd_T27 l0 (ji8)).f2) ((rd_T27 l0 (ji8)).f3) ((rd_T27 l0 (ji8)).f4) ((rd_T27 l0 a1).f0) ((rd_T27 l0 a1).f1) ((rd_T27 l0 a1).f2) ((rd_T27 l0 a1).f3) ((rd_T27 l0 a1).f4) t149 _ A13.out).mono ?_
                  rintro e w17 ⟨rfl, hb⟩
                  have HS0_ := (hb.cell (World.block_lt_of_cell? _ _ (hHeld.1))).trans (hHeld.1)
                  have HS1_ := (hb.cell (World.block_lt_of_cell? _ _ (hHeld.2.1))).trans (hHeld.2.1)
                  have HS2_ := (hb.cell (World.block_lt_of_cell? _ _ (hHeld.2.2.1))).trans (hHeld.2.2.1)
                  have HS3_ := (hb.cell (World.block_lt_of_cell? _ _ (hHeld.2.2.2.1))).trans (hHeld.2.2.2.1)
                  have HS4_ := (hb.cell (World.block_lt_of_cell? _ _ (hHeld.2.2.2.2.1))).trans (hHeld.2.2.2.2.1)
                  have HS5_ := (hb.cell (World.block_lt_of_cell? _ _ (hHeld.2.2.2.2.2.1))).trans (hHeld.2.2.2.2.2.1)
                  have HS6_ := (hb.cell (World.block_lt_of_cell? _ _ (hHeld.2.2.2.2.2.2.1))).trans (hHeld.2.2.2.2.2.2.1)
                  have HS7_ := (hb.cell (World.block_lt_of_cell? _ _ (hHeld.2.2.2.2.2.2.2.1))).trans (hHeld.2.2.2.2.2.2.2.1)
                  have HS8_ := (hb.cell (World.block_lt_of_cell? _ _ (hHeld.2.2.2.2.2.2.2.2.1))).trans (hHeld.2.2.2.2.2.2.2.2.1)
                  have HS9_ := (hb.cell (World.block_lt_of_cell? _ _ (hHeld.2.2.2.2.2.2.2.2.2))).trans (hHeld.2.2.2.2.2.2.2.2.2)
                  refine ⟨_, rfl, ?_⟩
                  have n0_ := Aside0.mk (Kd.R_below (by (with_reducible repeat (first | apply Kd.R_alloc | apply Kd.R_drewN | apply Kd.R_drew)); exact HO_0.out) hb)
                  have n1_ := Aside0.mk (Kept.below (S := (fun k_ => P0_ k_)) (by repeat (first | (with_reducible first | exact HK.out | apply Kept.alloc | apply Kept.drewN | apply Kept.drew) | exact HK.out)) hb)
                  have n2_ := Aside0.mk (below_step (by repeat (first | (with_reducible first | exact HB.out | apply below_alloc | apply pw_below_drewN | apply below_drew1) | exact HB.out)) hb)
                  clear HO_0
                  clear HK
                  clear HB
                  have HO_0 := n0_
                  have HK := n1_
                  have HB := n2_
                  clear n0_ n1_ n2_
                  (try clear hb)
                  (try clear hb2)
                  (try clear hk)
                  (try clear hi)
                  refine hK.out _ _ ⟨HS0_, HS1_, HS2_, HS3_, HS4_, HS5_, HS6_, HS7_, HS8_, HS9_⟩ (fun hHeld => ?_)
                  clear hK K
                  refine norm_ (a' := ?_) ?_ ?_
                  rotate_left
                  · show Act.put _ (some 49) _ = _
                    simp only [Act.put, List.setIfInBounds_toArray, List.set_cons_zero, List.set_cons_succ, i64_w, i32_w]
                    rfl
                  refine pure_ (i := 10) (N := some 50) (v := ?_) (a' := ?_) #[true, true, true, true, true, true, true, true, true, true, true] rfl rfl (any_of HT_.out (by kernel_rfl)) (fun _ _ _ h => h) (Or.inl ⟨by rfl, ?_⟩) ?_ ?_
                  rotate_left
                  · intro w'
                    go_simp
                    with_reducible rfl
                  rotate_left
                  · simp only [Act.put, List.setIfInBounds_toArray, List.set_cons_zero, List.set_cons_succ, i64_w, i32_w]
                    rfl
                  refine done_ (done_of HT_.out (by kernel_rfl)) ?_
                  try go_wp2
                  go_roundg k1
                  case measure => have := HK1.out; omega
                  case rel => exact ⟨(wrap64 ((ji8) + 1)), (x11_1), (by first | rfl | (simp; done) | (simp only [← hji8] <;> (first | rfl | simp)) | (simp [*]; done)), (by first | rfl | (simp; done) | (simp [*]; done)), H', ⟨by have := HK1.out; omega⟩, ⟨by (with_reducible repeat (first | apply Kd.R_alloc | apply Kd.R_drewN | apply Kd.R_drew)); exact HO_0.out⟩, ⟨by repeat (first | (with_reducible first | exact HK.out | apply Kept.alloc | apply Kept.drewN | apply Kept.drew) | exact HK.out)⟩, ⟨by repeat (first | (with_reducible first | exact HB.out | apply below_alloc | apply pw_below_drewN | apply below_drew1) | exact HB.out)⟩⟩
                · rw [if_neg c14] at H
                  have c14b0 : decide (t149 < 0) = false := decide_eq_false c14
                  clear c14
                  have H' := Aside0.mk H
                  clear H
                  try go_wp2
                  have n0_ := Aside0.mk (Kd.R_drew HO_0.out)
                  have n1_ := Aside0.mk (Kept.drew HK.out)
                  have n2_ := Aside0.mk (below_drew1 HB.out)
                  clear HO_0
                  clear HK
                  clear HB
                  have HO_0 := n0_
                  have HK := n1_
                  have HB := n2_
                  clear n0_ n1_ n2_
                  obtain ⟨Ao19, co19, eo19⟩ := Kd.R_slice HO_0.out
                  (first | subst eo19 | (injection eo19 with f1_ f2_ f3_; have f4_ := f1_.symm; have f5_ := f3_.symm; clear f1_ f2_ f3_; subst f4_; subst f5_))
                  have p147 : 0 ≤ ((ji8) : Int) := of_decide_eq_true (by first | (with_reducible assumption) | assumption)
                  have q147 : (ji8) < (l0.length : Int) := of_decide_eq_true (by first | (with_reducible assumption) | assumption)
                  obtain ⟨ad147, e147, hx147_0, hx147_1, hx147_2, hx147_3, hx147_4⟩ := at_T27 (Kd.R_reads' HO_0.out).2.2 (ji8) p147 q147
                  cases e147
                  replace p147 := eq_true p147
                  replace q147 := eq_true q147
                  have p148 : 0 ≤ (a1 : Int) := of_decide_eq_true (by first | (with_reducible assumption) | assumption)
                  have q148 : a1 < (l0.length : Int) := of_decide_eq_true (by first | (with_reducible assumption) | assumption)
                  obtain ⟨ad148, e148, hx148_0, hx148_1, hx148_2, hx148_3, hx148_4⟩ := at_T27 (Kd.R_reads' HO_0.out).2.2 a1 p148 q148
                  obtain rfl : ad147 = ad148 := (by injection e148)
                  replace p148 := eq_true p148
                  replace q148 := eq_true q148
                  refine start_ (n := 11) (S := fun w' => w'.cell? (ad147.add (((ji8)).toNat * 5)) = some (.int .i64 ((rd_T27 l0 (ji8)).f0)) ∧ w'.cell? ⟨(ad147.add (((ji8)).toNat * 5)).block, (ad147.add (((ji8)).toNat * 5)).off + 1, none⟩ = some (.int .i64 ((rd_T27 l0 (ji8)).f1)) ∧ w'.cell? ⟨(ad147.add (((ji8)).toNat * 5)).block, (ad147.add (((ji8)).toNat * 5)).off + 2, none⟩ = some (.int .i64 ((rd_T27 l0 (ji8)).f2)) ∧ w'.cell? ⟨(ad147.add (((ji8)).toNat * 5)).block, (ad147.add (((ji8)).toNat * 5)).off + 3, none⟩ = some (.int .i64 ((rd_T27 l0 (ji8)).f3)) ∧ w'.cell? ⟨(ad147.add (((ji8)).toNat * 5)).block, (ad147.add (((ji8)).toNat * 5)).off + 4, none⟩ = some (.int .i64 ((rd_T27 l0 (ji8)).f4)) ∧ w'.cell? (ad147.add ((a1).toNat * 5)) = some (.int .i64 ((rd_T27 l0 a1).f0)) ∧ w'.cell? ⟨(ad147.add ((a1).toNat * 5)).block, (ad147.add ((a1).toNat * 5)).off + 1, none⟩ = some (.int .i64 ((rd_T27 l0 a1).f1)) ∧ w'.cell? ⟨(ad147.add ((a1).toNat * 5)).block, (ad147.add ((a1).toNat * 5)).off + 2, none⟩ = some (.int .i64 ((rd_T27 l0 a1).f2)) ∧ w'.cell? ⟨(ad147.add ((a1).toNat * 5)).block, (ad147.add ((a1).toNat * 5)).off + 3, none⟩ = some (.int .i64 ((rd_T27 l0 a1).f3)) ∧ w'.cell? ⟨(ad147.add ((a1).toNat * 5)).block, (ad147.add ((a1).toNat * 5)).off + 4, none⟩ = some (.int .i64 ((rd_T27 l0 a1).f4))) (ds := []) #[false, false, false, false, false, false, false, false, false, false, false] (by kernel_rfl) rfl rfl ⟨hx147_0, hx147_1, hx147_2, hx147_3, hx147_4, hx148_0, hx148_1, hx148_2, hx148_3, hx148_4⟩ (fun hHeld => ?_); refine with_tabW victim_Run_27.tab5 victim_Run_27.bits5 (fun HT_ HW_ => ?_)
                  generalize wr.drew = w18 at HO_0 HK HB hx147_0 hx147_1 hx147_2 hx147_3 hx147_4 hx148_0 hx148_1 hx148_2 hx148_3 hx148_4 hHeld ⊢
                  refine pure_ (i := 0) (N := some 40) (v := ?_) (a' := ?_) #[true, false, false, false, false, false, false, false, false, false, false] rfl rfl (any_of HT_.out (by kernel_rfl)) (fun _ _ _ h => h) (Or.inl ⟨by rfl, ?_⟩) ?_ ?_
                  rotate_left
                  · intro w'
                    go_simp
                    with_reducible rfl
                  rotate_left
                  · simp only [Act.put, List.setIfInBounds_toArray, List.set_cons_zero, List.set_cons_succ, i64_w, i32_w]
                    rfl
                  refine pure_ (i := 1) (N := some 41) (v := ?_) (a' := ?_) #[true, true, false, false, false, false, false, false, false, false, false] rfl rfl (any_of HT_.out (by kernel_rfl)) (fun _ _ _ h => h) (Or.inl ⟨by rfl, ?_⟩) ?_ ?_
                  rotate_left
                  · intro w'
                    go_simp
                    with_reducible rfl
                  rotate_left
                  · simp only [Act.put, List.setIfInBounds_toArray, List.set_cons_zero, List.set_cons_succ, i64_w, i32_w]
                    rfl
                  refine pure_ (i := 2) (N := some 42) (v := ?_) (a' := ?_) #[true, true, true, false, false, false, false, false, false, false, false] rfl rfl (any_of HT_.out (by kernel_rfl)) (fun _ _ _ h => h) (Or.inl ⟨by rfl, ?_⟩) ?_ ?_
                  rotate_left
                  · intro w'
                    go_simp
                    with_reducible rfl
                  rotate_left
                  · simp only [Act.put, List.setIfInBounds_toArray, List.set_cons_zero, List.set_cons_succ, i64_w, i32_w]
                    rfl
                  refine pure_ (i := 3) (N := some 43) (v := ?_) (a' := ?_) #[true, true, true, true, false, false, false, false, false, false, false] rfl rfl (any_of HT_.out (by kernel_rfl)) (fun _ _ _ h => h) (Or.inl ⟨by rfl, ?_⟩) ?_ ?_
                  rotate_left
                  · intro w'
                    go_simp
                    with_reducible rfl
                  rotate_left
                  · simp only [Act.put, List.setIfInBounds_toArray, List.set_cons_zero, List.set_cons_succ, i64_w, i32_w]
                    rfl
                  refine pure_ (i := 5) (N := some 45) (v := ?_) (a' := ?_) #[true, true, true, true, false, true, false, false, false, false, false] rfl rfl (any_of HT_.out (by kernel_rfl)) (fun _ _ _ h => h) (Or.inl ⟨by rfl, ?_⟩) ?_ ?_
                  rotate_left
                  · intro w'
                    go_simp
                    with_reducible rfl
                  rotate_left
                  · simp only [Act.put, List.setIfInBounds_toArray, List.set_cons_zero, List.set_cons_succ, i64_w, i32_w]
                    rfl
                  refine pure_ (i := 6) (N := some 46) (v := ?_) (a' := ?_) #[true, true, true, true, false, true, true, false, false, false, false] rfl rfl (any_of HT_.out (by kernel_rfl)) (fun _ _ _ h => h) (Or.inl ⟨by rfl, ?_⟩) ?_ ?_
                  rotate_left
                  · intro w'
                    go_simp
                    with_reducible rfl
                  rotate_left
                  · simp only [Act.put, List.setIfInBounds_toArray, List.set_cons_zero, List.set_cons_succ, i64_w, i32_w]
                    rfl
                  refine pure_ (i := 7) (N := some 47) (v := ?_) (a' := ?_) #[true, true, true, true, false, true, true, true, false, false, false] rfl rfl (any_of HT_.out (by kernel_rfl)) (fun _ _ _ h => h) (Or.inl ⟨by rfl, ?_⟩) ?_ ?_
                  rotate_left
                  · intro w'
                    go_simp
                    with_reducible rfl
                  rotate_left
                  · simp only [Act.put, List.setIfInBounds_toArray, List.set_cons_zero, List.set_cons_succ, i64_w, i32_w]
                    rfl
                  refine take_ (i := 4) (N := some 44) (v := ?_) (a' := ?_) #[true, true, true, true, true, true, true, true, false, false, false] rfl rfl (take_ofW HT_.out HW_.out (by kernel_rfl)) (fun _ _ _ h => h) (Or.inl ⟨by rfl, ?_⟩) hHeld ?_ ?_
                  rotate_left
                  · rintro w' ⟨s0, s1, s2, s3, s4, s5, s6, s7, s8, s9⟩
                    go_simp
                    with_reducible rfl
                  rotate_left
                  · simp only [Act.put, List.setIfInBounds_toArray, List.set_cons_zero, List.set_cons_succ, i64_w, i32_w]
                    rfl
                  refine take_ (i := 8) (N := some 48) (v := ?_) (a' := ?_) #[true, true, true, true, true, true, true, true, true, false, false] rfl rfl (take_ofW HT_.out HW_.out (by kernel_rfl)) (fun _ _ _ h => h) (Or.inl ⟨by rfl, ?_⟩) hHeld ?_ ?_
                  rotate_left
                  · rintro w' ⟨s0, s1, s2, s3, s4, s5, s6, s7, s8, s9⟩
                    go_simp
                    with_reducible rfl
                  rotate_left
                  · simp only [Act.put, List.setIfInBounds_toArray, List.set_cons_zero, List.set_cons_succ, i64_w, i32_w]
                    rfl
                  refine one_ (i := 9) (N := some 49) #[true, true, true, true, true, true, true, true, true, true, false] rfl rfl (one_of HT_.out (by kernel_rfl)) (by decide) (fun K hK => ?_)
                  refine VicW.goesV_ Try.func18 (by kernel_rfl) rfl #[.agg #[.int .i64 ((rd_T27 l0 (ji8)).f0), .int .i64 ((rd_T27 l0 (ji8)).f1), .int .i64 ((rd_T27 l0 (ji8)).f2), .int .i64 ((rd_T27 l0 (ji8)).f3), .int .i64 ((rd_T27 l0 (ji8)).f4)], .agg #[.int .i64 ((rd_T27 l0 a1).f0), .int .i64 ((rd_T27 l0 a1).f1), .int .i64 ((rd_T27 l0 a1).f2), .int .i64 ((rd_T27 l0 a1).f3), .int .i64 ((rd_T27 l0 a1).f4)]] (by rfl) rfl rfl (by rfl) (by (try simp only [List.map_toArray, List.map_cons, List.map_nil]); first | done | (simp only [hji8]; rfl) | rfl | (simp only [List.length_drop, List.length_take]; rfl)) ?_
                  with_reducible refine (victim_Run_compare.calls k1 ((rd_T27 l0 (ji8)).f0) ((rd_T27 l0 (ji8)).f1) ((rd_T27 l0 (ji8)).f2) ((rd_T27 l0 (ji8)).f3) ((rd_T27 l0 (ji8)).f4) ((rd_T27 l0 a1).f0) ((rd_T27 l0 a1).f1) ((rd_T27 l0 a1).f2) ((rd_T27 l0 a1).f3) ((rd_T27 l0 a1).f4) t149 _ A13.out).mono ?_
                  rintro e w20 ⟨rfl, hb⟩
                  have HS0_ := (hb.cell (World.block_lt_of_cell? _ _ (hHeld.1))).trans (hHeld.1)
                  have HS1_ := (hb.cell (World.block_lt_of_cell? _ _ (hHeld.2.1))).trans (hHeld.2.1)
                  have HS2_ := (hb.cell (World.block_lt_of_cell? _ _ (hHeld.2.2.1))).trans (hHeld.2.2.1)
                  have HS3_ := (hb.cell (World.block_lt_of_cell? _ _ (hHeld.2.2.2.1))).trans (hHeld.2.2.2.1)
                  have HS4_ := (hb.cell (World.block_lt_of_cell? _ _ (hHeld.2.2.2.2.1))).trans (hHeld.2.2.2.2.1)
                  have HS5_ := (hb.cell (World.block_lt_of_cell? _ _ (hHeld.2.2.2.2.2.1))).trans (hHeld.2.2.2.2.2.1)
                  have HS6_ := (hb.cell (World.block_lt_of_cell? _ _ (hHeld.2.2.2.2.2.2.1))).trans (hHeld.2.2.2.2.2.2.1)
                  have HS7_ := (hb.cell (World.block_lt_of_cell? _ _ (hHeld.2.2.2.2.2.2.2.1))).trans (hHeld.2.2.2.2.2.2.2.1)
                  have HS8_ := (hb.cell (World.block_lt_of_cell? _ _ (hHeld.2.2.2.2.2.2.2.2.1))).trans (hHeld.2.2.2.2.2.2.2.2.1)
                  have HS9_ := (hb.cell (World.block_lt_of_cell? _ _ (hHeld.2.2.2.2.2.2.2.2.2))).trans (hHeld.2.2.2.2.2.2.2.2.2)
                  refine ⟨_, rfl, ?_⟩
                  have n0_ := Aside0.mk (Kd.R_below (by (with_reducible repeat (first | apply Kd.R_alloc | apply Kd.R_drewN | apply Kd.R_drew)); exact HO_0.out) hb)
                  have n1_ := Aside0.mk (Kept.below (S := (fun k_ => P0_ k_)) (by repeat (first | (with_reducible first | exact HK.out | apply Kept.alloc | apply Kept.drewN | apply Kept.drew) | exact HK.out)) hb)
                  have n2_ := Aside0.mk (below_step (by repeat (first | (with_reducible first | exact HB.out | apply below_alloc | apply pw_below_drewN | apply below_drew1) | exact HB.out)) hb)
                  clear HO_0
                  clear HK
                  clear HB
                  have HO_0 := n0_
                  have HK := n1_
                  have HB := n2_
                  clear n0_ n1_ n2_
                  (try clear hb)
                  (try clear hb2)
                  (try clear hk)
                  (try clear hi)
                  refine hK.out _ _ ⟨HS0_, HS1_, HS2_, HS3_, HS4_, HS5_, HS6_, HS7_, HS8_, HS9_⟩ (fun hHeld => ?_)
                  clear hK K
                  refine norm_ (a' := ?_) ?_ ?_
                  rotate_left
                  · show Act.put _ (some 49) _ = _
                    simp only [Act.put, List.setIfInBounds_toArray, List.set_cons_zero, List.set_cons_succ, i64_w, i32_w]
                    rfl
                  refine pure_ (i := 10) (N := some 50) (v := ?_) (a' := ?_) #[true, true, true, true, true, true, true, true, true, true, true] rfl rfl (any_of HT_.out (by kernel_rfl)) (fun _ _ _ h => h) (Or.inl ⟨by rfl, ?_⟩) ?_ ?_
                  rotate_left
                  · intro w'
                    go_simp
                    with_reducible rfl
                  rotate_left
                  · simp only [Act.put, List.setIfInBounds_toArray, List.set_cons_zero, List.set_cons_succ, i64_w, i32_w]
                    rfl
                  refine done_ (done_of HT_.out (by kernel_rfl)) ?_
                  try go_wp2
                  go_roundg k1
                  case measure => have := HK1.out; omega
                  case rel => exact ⟨(x10_1), (ji8), (by first | rfl | (simp; done) | (simp [*]; done)), (by first | rfl | (simp; done) | (simp only [← hji8] <;> (first | rfl | simp)) | (simp [*]; done)), H', ⟨by have := HK1.out; omega⟩, ⟨by (with_reducible repeat (first | apply Kd.R_alloc | apply Kd.R_drewN | apply Kd.R_drew)); exact HO_0.out⟩, ⟨by repeat (first | (with_reducible first | exact HK.out | apply Kept.alloc | apply Kept.drewN | apply Kept.drew) | exact HK.out)⟩, ⟨by repeat (first | (with_reducible first | exact HB.out | apply below_alloc | apply pw_below_drewN | apply below_drew1) | exact HB.out)⟩⟩
              · rw [if_neg c12] at H
                exact absurd H (by simp)
            · rw [if_neg c11] at H
              exact absurd H (by simp)
          · rw [if_neg c10] at H
            exact absurd H (by simp)
        · rw [if_neg c9] at H
          exact absurd H (by simp)
      · rw [if_neg c7] at H
        have c7b0 : decide (x10_1 < x11_1) = false := decide_eq_false c7
        clear c7
        have H' := Aside0.mk H
        clear H
        go_wp2
        go_loopg [13] k1 (fun kq v13 w' => ∃ (x0_2 : List (S27)) (x13_2 : Int), v13 = .int .i64 x13_2 ∧ Aside0 (victim_Run_27.l1 kq x0_2 x10_1 x13_2 = some r) ∧ Aside0 (kq ≤ k1) ∧ Aside0 (Kd.R k27 27 w' w0.heap.size (fun k_ => (P0_ k_ ∨ w.heap.size ≤ k_)) u9000_ x0_2) ∧ Aside0 (Kept w w' (fun k_ => P0_ k_)) ∧ Aside0 (Below w0.heap.size w0 w'))
        case atStart => exact ⟨(l0), (a1), (by first | rfl | (simp; done) | (simp [*]; done)), H', ⟨Nat.le_refl _⟩, ⟨by (with_reducible repeat (first | apply Kd.R_alloc | apply Kd.R_drewN | apply Kd.R_drew)); exact HO_0.out⟩, ⟨by repeat (first | (with_reducible first | exact HK.out | apply Kept.alloc | apply Kept.drewN | apply Kept.drew) | exact HK.out)⟩, ⟨by repeat (first | (with_reducible first | exact HB.out | apply below_alloc | apply pw_below_drewN | apply below_drew1) | exact HB.out)⟩⟩
        case round =>
          clear H'
          try clear c1
          try clear p1
          try clear q1
          try clear hx1
          try clear c2
          try clear p2
          try clear c6
          try clear c6b0
          try clear c6b1
          try clear p6
          try clear c7
          try clear c7b0
          try clear c9
          try clear c9b0
          try clear c10
          try clear c10b0
          try clear c11
          try clear c11b0
          try clear c12
          try clear c12b0
          try clear c14
          try clear c14b0
          try clear p14
          try clear q14
          try clear hx14
          try clear c18
          try clear hx147_0
          try clear hx147_1
          try clear hx147_2
          try clear hx147_3
          try clear hx147_4
          try clear hx148_0
          try clear hx148_1
          try clear hx148_2
          try clear hx148_3
          try clear hx148_4
          try clear p147
          try clear p148
          try clear p2
          try clear p6
          try clear q147
          try clear q148
          obtain ⟨x0_2, x13_2, rfl, HA, HK2, HO_0, HK, HB⟩ := hrel
          cases gk with
          | zero => exact absurd HA.out (by simp [victim_Run_27.l1])
          | succ k2 =>
            have H := HA.out
            clear HA
            simp only [victim_Run_27.l1] at H
            by_cases c21 : x13_2 < (wrap64 (x10_1 - 1))
            · rw [if_pos c21] at H
              have c21b0 : decide (x13_2 < (wrap64 (x10_1 - 1))) = true := decide_eq_true c21
              clear c21
              obtain ⟨ji22, hji22⟩ : ∃ j_ : Int, (wrap64 (x13_2 + 1)) = j_ := ⟨_, rfl⟩
              replace H : (if 0 ≤ (ji22) then (if (ji22) < (x0_2.length : Int) then (if 0 ≤ x13_2 then (if x13_2 < (x0_2.length : Int) then (victim_Run_27.l1 k2 ((x0_2.set (x13_2 : Int).toNat (⟨(rd_T27 x0_2 (ji22)).f0, (rd_T27 x0_2 (ji22)).f1, (rd_T27 x0_2 (ji22)).f2, (rd_T27 x0_2 (ji22)).f3, (rd_T27 x0_2 (ji22)).f4⟩ : S27)).set ((ji22) : Int).toNat (⟨(rd_T27 x0_2 x13_2).f0, (rd_T27 x0_2 x13_2).f1, (rd_T27 x0_2 x13_2).f2, (rd_T27 x0_2 x13_2).f3, (rd_T27 x0_2 x13_2).f4⟩ : S27)) x10_1 ji22) else (none)) else (none)) else (none)) else (none)) = some r := by first | (rw [hji22] at H; exact H) | (simp only [hji22] at H ⊢; exact H)
              have hji22w : (IntKind.i64.wrap (x13_2 + 1)) = ji22 := (i64_w _).trans hji22
              by_cases c23 : 0 ≤ (ji22)
              · rw [if_pos c23] at H
                have c23b0 : decide (0 ≤ (ji22)) = true := decide_eq_true c23
                clear c23
                by_cases c24 : (ji22) < (x0_2.length : Int)
                · rw [if_pos c24] at H
                  have c24b0 : decide ((ji22) < (x0_2.length : Int)) = true := decide_eq_true c24
                  clear c24
                  by_cases c25 : 0 ≤ x13_2
                  · rw [if_pos c25] at H
                    have c25b0 : decide (0 ≤ x13_2) = true := decide_eq_true c25
                    clear c25
                    by_cases c26 : x13_2 < (x0_2.length : Int)
                    · rw [if_pos c26] at H
                      have c26b0 : decide (x13_2 < (x0_2.length : Int)) = true := decide_eq_true c26
                      clear c26
                      obtain ⟨y152, hy152⟩ : ∃ y_ : List (S27), y_ = (x0_2.set (x13_2 : Int).toNat (⟨(rd_T27 x0_2 (ji22)).f0, (rd_T27 x0_2 (ji22)).f1, (rd_T27 x0_2 (ji22)).f2, (rd_T27 x0_2 (ji22)).f3, (rd_T27 x0_2 (ji22)).f4⟩ : S27)) := ⟨_, rfl⟩
                      replace H : (victim_Run_27.l1 k2 (y152.set ((ji22) : Int).toNat (⟨(rd_T27 x0_2 x13_2).f0, (rd_T27 x0_2 x13_2).f1, (rd_T27 x0_2 x13_2).f2, (rd_T27 x0_2 x13_2).f3, (rd_T27 x0_2 x13_2).f4⟩ : S27)) x10_1 ji22) = some r := by first | (rw [hy152]; with_reducible exact H) | (have H2_ := (Option.bind_some _ _).symm.trans H; rw [hy152]; with_reducible exact H2_) | (have H2_ := (Option.bind_some _ _).symm.trans H; with_reducible exact H2_) | with_reducible exact H | (rw [hy152]; exact H) | exact H
                      have Ny152 := Aside0.mk hy152
                      clear hy152
                      obtain ⟨y153, hy153⟩ : ∃ y_ : List (S27), y_ = (y152.set ((ji22) : Int).toNat (⟨(rd_T27 x0_2 x13_2).f0, (rd_T27 x0_2 x13_2).f1, (rd_T27 x0_2 x13_2).f2, (rd_T27 x0_2 x13_2).f3, (rd_T27 x0_2 x13_2).f4⟩ : S27)) := ⟨_, rfl⟩
                      replace H : (victim_Run_27.l1 k2 y153 x10_1 ji22) = some r := by first | (rw [hy153]; with_reducible exact H) | (have H2_ := (Option.bind_some _ _).symm.trans H; rw [hy153]; with_reducible exact H2_) | (have H2_ := (Option.bind_some _ _).symm.trans H; with_reducible exact H2_) | with_reducible exact H | (rw [hy153]; exact H) | exact H
                      have Ny153 := Aside0.mk hy153
                      clear hy153
                      have H' := Aside0.mk H
                      clear H
                      try go_wp2
                      have n0_ := Aside0.mk (Kd.R_drew HO_0.out)
                      have n1_ := Aside0.mk (Kept.drew HK.out)
                      have n2_ := Aside0.mk (below_drew1 HB.out)
                      clear HO_0
                      clear HK
                      clear HB
                      have HO_0 := n0_
                      have HK := n1_
                      have HB := n2_
                      clear n0_ n1_ n2_
                      obtain ⟨Ao30, co30, eo30⟩ := Kd.R_slice HO_0.out
                      (first | subst eo30 | (injection eo30 with f1_ f2_ f3_; have f4_ := f1_.symm; have f5_ := f3_.symm; clear f1_ f2_ f3_; subst f4_; subst f5_))
                      have p150 : 0 ≤ ((ji22) : Int) := of_decide_eq_true (by first | (with_reducible assumption) | assumption)
                      have q150 : (ji22) < (x0_2.length : Int) := of_decide_eq_true (by first | (with_reducible assumption) | assumption)
                      obtain ⟨ad150, e150, hx150_0, hx150_1, hx150_2, hx150_3, hx150_4⟩ := at_T27 (Kd.R_reads' HO_0.out).2.2 (ji22) p150 q150
                      cases e150
                      replace p150 := eq_true p150
                      replace q150 := eq_true q150
                      have p151 : 0 ≤ (x13_2 : Int) := of_decide_eq_true (by first | (with_reducible assumption) | assumption)
                      have q151 : x13_2 < (x0_2.length : Int) := of_decide_eq_true (by first | (with_reducible assumption) | assumption)
                      obtain ⟨ad151, e151, hx151_0, hx151_1, hx151_2, hx151_3, hx151_4⟩ := at_T27 (Kd.R_reads' HO_0.out).2.2 x13_2 p151 q151
                      obtain rfl : ad150 = ad151 := (by injection e151)
                      replace p151 := eq_true p151
                      replace q151 := eq_true q151
                      have p27 : 0 ≤ (x13_2 : Int) := of_decide_eq_true (by first | (with_reducible assumption) | assumption)
                      have q27 : (x13_2 : Int) < ((x0_2.length : Int) : Int) := of_decide_eq_true (by first | (with_reducible assumption) | assumption)
                      obtain ⟨go27, co27, eo27, gb27, gl27, cl27, HG27⟩ := Kd.R_form HO_0.out (by omega)
                      (first | cases eo27 | (injection eo27 with ea_ en_ ec_; (first | subst ea_ | (injection ea_ with ea_; subst ea_)); subst ec_; clear en_))
                      have GB27 := Aside0.mk gb27
                      have GG27 := Aside0.mk HG27
                      clear gb27 gl27 HG27
                      have HMgo27 := Aside0.mk (show (P0_ go27 ∨ w.heap.size ≤ go27) from (HO_0.out.1 _ rfl))
                      (first | simp only [add_plain] at hx150_0 | skip)
                      (first | simp only [add_plain] at hx150_1 | skip)
                      (first | simp only [add_plain] at hx150_2 | skip)
                      (first | simp only [add_plain] at hx150_3 | skip)
                      (first | simp only [add_plain] at hx150_4 | skip)
                      (first | simp only [add_plain] at hx151_0 | skip)
                      (first | simp only [add_plain] at hx151_1 | skip)
                      (first | simp only [add_plain] at hx151_2 | skip)
                      (first | simp only [add_plain] at hx151_3 | skip)
                      (first | simp only [add_plain] at hx151_4 | skip)
                      obtain ⟨ce27, hcl27, hM27, hcc27, hfr27⟩ := Kd.R_elem HO_0.out z27 (x13_2 : Int) p27 q27
                      obtain rfl := k27_openM hM27
                      have hx27_0 : World.cell? _ ⟨go27, (x13_2 : Int).toNat * 5, none⟩ = some (.int .i64 ((rd_T27 x0_2 x13_2).f0)) := hcc27 0 _ rfl
                      have hx27_1 : World.cell? _ ⟨go27, (x13_2 : Int).toNat * 5 + 1, none⟩ = some (.int .i64 ((rd_T27 x0_2 x13_2).f1)) := hcc27 1 _ rfl
                      have hx27_2 : World.cell? _ ⟨go27, (x13_2 : Int).toNat * 5 + 2, none⟩ = some (.int .i64 ((rd_T27 x0_2 x13_2).f2)) := hcc27 2 _ rfl
                      have hx27_3 : World.cell? _ ⟨go27, (x13_2 : Int).toNat * 5 + 3, none⟩ = some (.int .i64 ((rd_T27 x0_2 x13_2).f3)) := hcc27 3 _ rfl
                      have hx27_4 : World.cell? _ ⟨go27, (x13_2 : Int).toNat * 5 + 4, none⟩ = some (.int .i64 ((rd_T27 x0_2 x13_2).f4)) := hcc27 4 _ rfl
                      have hf27_0 : World.frozen? _ ⟨go27, (x13_2 : Int).toNat * 5, none⟩ = false := hfr27 0
                      have hf27_1 : World.frozen? _ ⟨go27, (x13_2 : Int).toNat * 5 + 1, none⟩ = false := hfr27 1
                      have hf27_2 : World.frozen? _ ⟨go27, (x13_2 : Int).toNat * 5 + 2, none⟩ = false := hfr27 2
                      have hf27_3 : World.frozen? _ ⟨go27, (x13_2 : Int).toNat * 5 + 3, none⟩ = false := hfr27 3
                      have hf27_4 : World.frozen? _ ⟨go27, (x13_2 : Int).toNat * 5 + 4, none⟩ = false := hfr27 4
                      clear hcl27 hcc27 hfr27 hM27
                      replace p27 := eq_true p27
                      replace q27 := eq_true q27
                      obtain ⟨ce31, hcl31, hM31, hcc31, hfr31⟩ := Kd.R_elem HO_0.out z27 (x13_2 : Int) (of_decide_eq_true (by first | (with_reducible assumption) | assumption)) (by have h_ : (x13_2 : Int) < ((x0_2.length : Int) : Int) := of_decide_eq_true (by first | (with_reducible assumption) | assumption); first | exact h_ | (have e_ := (Kd.R_reads' HO_0.out).1; omega) | simpa using h_)
                      obtain rfl := k27_openM hM31
                      have HP31 := (Kd.R_seg HO_0.out (x13_2 : Int) (of_decide_eq_true (by first | (with_reducible assumption) | assumption)) (by have h_ : (x13_2 : Int) < ((x0_2.length : Int) : Int) := of_decide_eq_true (by first | (with_reducible assumption) | assumption); first | exact h_ | (have e_ := (Kd.R_reads' HO_0.out).1; omega) | simpa using h_) (seg := [.int .i64 ((rd_T27 x0_2 (ji22)).f0), .int .i64 ((rd_T27 x0_2 (ji22)).f1), .int .i64 ((rd_T27 x0_2 (ji22)).f2), .int .i64 ((rd_T27 x0_2 (ji22)).f3), .int .i64 ((rd_T27 x0_2 (ji22)).f4)]) (j := 0) hcl31 hcc31 (show 5 ≤ 5 from by decide) (x' := (⟨(rd_T27 x0_2 (ji22)).f0, (rd_T27 x0_2 (ji22)).f1, (rd_T27 x0_2 (ji22)).f2, (rd_T27 x0_2 (ji22)).f3, (rd_T27 x0_2 (ji22)).f4⟩ : S27)) (k27_mkM _ _ _ (⟨(rd_T27 x0_2 (ji22)).f0, (rd_T27 x0_2 (ji22)).f1, (rd_T27 x0_2 (ji22)).f2, (rd_T27 x0_2 (ji22)).f3, (rd_T27 x0_2 (ji22)).f4⟩ : S27) ) (fun _ hk => hk)).1
                      rw [← Ny152.out] at HP31
                      have HQ31 := Aside0.mk HP31
                      clear hcl31 hcc31 hfr31 hM31 HP31
                      refine start_ (n := 18) (S := fun w' => w'.cell? ⟨go27, ((ji22)).toNat * 5, none⟩ = some (.int .i64 ((rd_T27 x0_2 (ji22)).f0)) ∧ w'.cell? ⟨go27, ((ji22)).toNat * 5 + 1, none⟩ = some (.int .i64 ((rd_T27 x0_2 (ji22)).f1)) ∧ w'.cell? ⟨go27, ((ji22)).toNat * 5 + 2, none⟩ = some (.int .i64 ((rd_T27 x0_2 (ji22)).f2)) ∧ w'.cell? ⟨go27, ((ji22)).toNat * 5 + 3, none⟩ = some (.int .i64 ((rd_T27 x0_2 (ji22)).f3)) ∧ w'.cell? ⟨go27, ((ji22)).toNat * 5 + 4, none⟩ = some (.int .i64 ((rd_T27 x0_2 (ji22)).f4)) ∧ w'.cell? ⟨go27, ((x13_2).toNat * 5), none⟩ = some (.int .i64 ((rd_T27 x0_2 x13_2).f0)) ∧ w'.cell? ⟨go27, ((x13_2).toNat * 5) + 1, none⟩ = some (.int .i64 ((rd_T27 x0_2 x13_2).f1)) ∧ w'.cell? ⟨go27, ((x13_2).toNat * 5) + 2, none⟩ = some (.int .i64 ((rd_T27 x0_2 x13_2).f2)) ∧ w'.cell? ⟨go27, ((x13_2).toNat * 5) + 3, none⟩ = some (.int .i64 ((rd_T27 x0_2 x13_2).f3)) ∧ w'.cell? ⟨go27, ((x13_2).toNat * 5) + 4, none⟩ = some (.int .i64 ((rd_T27 x0_2 x13_2).f4))) (ds := [15, 17]) #[false, false, false, false, false, false, false, false, false, false, false, false, false, false, false, false, false, false] (by kernel_rfl) rfl rfl ⟨hx150_0, hx150_1, hx150_2, hx150_3, hx150_4, hx151_0, hx151_1, hx151_2, hx151_3, hx151_4⟩ (fun hHeld => ?_); refine with_tabW victim_Run_27.tab11 victim_Run_27.bits11 (fun HT_ HW_ => ?_)
                      generalize wr.drew = w29 at HO_0 HK HB GG27 HQ31 hf27_0 hf27_1 hf27_2 hf27_3 hf27_4 hx150_0 hx150_1 hx150_2 hx150_3 hx150_4 hx151_0 hx151_1 hx151_2 hx151_3 hx151_4 hx27_0 hx27_1 hx27_2 hx27_3 hx27_4 hHeld ⊢
                      refine pure_ (i := 0) (N := some 61) (v := ?_) (a' := ?_) #[true, false, false, false, false, false, false, false, false, false, false, false, false, false, false, false, false, false] rfl rfl (any_of HT_.out (by kernel_rfl)) (fun _ _ _ h => h) (Or.inl ⟨by rfl, ?_⟩) ?_ ?_
                      rotate_left
                      · intro w'
                        go_simp
                        with_reducible rfl
                      rotate_left
                      · simp only [Act.put, List.setIfInBounds_toArray, List.set_cons_zero, List.set_cons_succ, i64_w, i32_w]
                        rfl
                      refine pure_ (i := 1) (N := some 62) (v := ?_) (a' := ?_) #[true, true, false, false, false, false, false, false, false, false, false, false, false, false, false, false, false, false] rfl rfl (any_of HT_.out (by kernel_rfl)) (fun _ _ _ h => h) (Or.inl ⟨by rfl, ?_⟩) ?_ ?_
                      rotate_left
                      · intro w'
                        go_simp
                        with_reducible rfl
                      rotate_left
                      · simp only [Act.put, List.setIfInBounds_toArray, List.set_cons_zero, List.set_cons_succ, i64_w, i32_w]
                        rfl
                      refine pure_ (i := 2) (N := some 63) (v := ?_) (a' := ?_) #[true, true, true, false, false, false, false, false, false, false, false, false, false, false, false, false, false, false] rfl rfl (any_of HT_.out (by kernel_rfl)) (fun _ _ _ h => h) (Or.inl ⟨by rfl, ?_⟩) ?_ ?_
                      rotate_left
                      · intro w'
                        go_simp
                        with_reducible rfl
                      rotate_left
                      · simp only [Act.put, List.setIfInBounds_toArray, List.set_cons_zero, List.set_cons_succ, i64_w, i32_w]
                        rfl
                      refine pure_ (i := 3) (N := some 64) (v := ?_) (a' := ?_) #[true, true, true, true, false, false, false, false, false, false, false, false, false, false, false, false, false, false] rfl rfl (any_of HT_.out (by kernel_rfl)) (fun _ _ _ h => h) (Or.inl ⟨by rfl, ?_⟩) ?_ ?_
                      rotate_left
                      · intro w'
                        go_simp
                        with_reducible rfl
                      rotate_left
                      · simp only [Act.put, List.setIfInBounds_toArray, List.set_cons_zero, List.set_cons_succ, i64_w, i32_w]
                        rfl
                      refine pure_ (i := 4) (N := some 65) (v := ?_) (a' := ?_) #[true, true, true, true, true, false, false, false, false, false, false, false, false, false, false, false, false, false] rfl rfl (any_of HT_.out (by kernel_rfl)) (fun _ _ _ h => h) (Or.inl ⟨by rfl, ?_⟩) ?_ ?_
                      rotate_left
                      · intro w'
                        go_simp
                        with_reducible rfl
                      rotate_left
                      · simp only [Act.put, List.setIfInBounds_toArray, List.set_cons_zero, List.set_cons_succ, i64_w, i32_w]
                        rfl
                      refine pure_ (i := 5) (N := some 66) (v := ?_) (a' := ?_) #[true, true, true, true, true, true, false, false, false, false, false, false, false, false, false, false, false, false] rfl rfl (any_of HT_.out (by kernel_rfl)) (fun _ _ _ h => h) (Or.inl ⟨by rfl, ?_⟩) ?_ ?_
                      rotate_left
                      · intro w'
                        go_simp
                        with_reducible rfl
                      rotate_left
                      · simp only [Act.put, List.setIfInBounds_toArray, List.set_cons_zero, List.set_cons_succ, i64_w, i32_w]
                        rfl
                      refine pure_ (i := 6) (N := some 67) (v := ?_) (a' := ?_) #[true, true, true, true, true, true, true, false, false, false, false, false, false, false, false, false, false, false] rfl rfl (any_of HT_.out (by kernel_rfl)) (fun _ _ _ h => h) (Or.inl ⟨by rfl, ?_⟩) ?_ ?_
                      rotate_left
                      · intro w'
                        go_simp
                        with_reducible rfl
                      rotate_left
                      · simp only [Act.put, List.setIfInBounds_toArray, List.set_cons_zero, List.set_cons_succ, i64_w, i32_w]
                        rfl
                      refine pure_ (i := 7) (N := some 68) (v := ?_) (a' := ?_) #[true, true, true, true, true, true, true, true, false, false, false, false, false, false, false, false, false, false] rfl rfl (any_of HT_.out (by kernel_rfl)) (fun _ _ _ h => h) (Or.inl ⟨by rfl, ?_⟩) ?_ ?_
                      rotate_left
                      · intro w'
                        go_simp
                        with_reducible rfl
                      rotate_left
                      · simp only [Act.put, List.setIfInBounds_toArray, List.set_cons_zero, List.set_cons_succ, i64_w, i32_w]
                        rfl
                      refine pure_ (i := 8) (N := some 69) (v := ?_) (a' := ?_) #[true, true, true, true, true, true, true, true, true, false, false, false, false, false, false, false, false, false] rfl rfl (any_of HT_.out (by kernel_rfl)) (fun _ _ _ h => h) (Or.inl ⟨by rfl, ?_⟩) ?_ ?_
                      rotate_left
                      · intro w'
                        go_simp
                        with_reducible rfl
                      rotate_left
                      · simp only [Act.put, List.setIfInBounds_toArray, List.set_cons_zero, List.set_cons_succ, i64_w, i32_w]
                        rfl
                      refine pure_ (i := 10) (N := some 71) (v := ?_) (a' := ?_) #[true, true, true, true, true, true, true, true, true, false, true, false, false, false, false, false, false, false] rfl rfl (any_of HT_.out (by kernel_rfl)) (fun _ _ _ h => h) (Or.inl ⟨by rfl, ?_⟩) ?_ ?_
                      rotate_left
                      · intro w'
                        go_simp
                        with_reducible rfl
                      rotate_left
                      · simp only [Act.put, List.setIfInBounds_toArray, List.set_cons_zero, List.set_cons_succ, i64_w, i32_w]
                        rfl
                      refine pure_ (i := 11) (N := some 72) (v := ?_) (a' := ?_) #[true, true, true, true, true, true, true, true, true, false, true, true, false, false, false, false, false, false] rfl rfl (any_of HT_.out (by kernel_rfl)) (fun _ _ _ h => h) (Or.inl ⟨by rfl, ?_⟩) ?_ ?_
                      rotate_left
                      · intro w'
                        go_simp
                        with_reducible rfl
                      rotate_left
                      · simp only [Act.put, List.setIfInBounds_toArray, List.set_cons_zero, List.set_cons_succ, i64_w, i32_w]
                        rfl
                      refine pure_ (i := 12) (N := some 73) (v := ?_) (a' := ?_) #[true, true, true, true, true, true, true, true, true, false, true, true, true, false, false, false, false, false] rfl rfl (any_of HT_.out (by kernel_rfl)) (fun _ _ _ h => h) (Or.inl ⟨by rfl, ?_⟩) ?_ ?_
                      rotate_left
                      · intro w'
                        go_simp
                        with_reducible rfl
                      rotate_left
                      · simp only [Act.put, List.setIfInBounds_toArray, List.set_cons_zero, List.set_cons_succ, i64_w, i32_w]
                        rfl
                      refine take_ (i := 9) (N := some 70) (v := ?_) (a' := ?_) #[true, true, true, true, true, true, true, true, true, true, true, true, true, false, false, false, false, false] rfl rfl (take_ofW HT_.out HW_.out (by kernel_rfl)) (fun _ _ _ h => h) (Or.inl ⟨by rfl, ?_⟩) hHeld ?_ ?_
                      rotate_left
                      · rintro w' ⟨s0, s1, s2, s3, s4, s5, s6, s7, s8, s9⟩
                        go_simp
                        with_reducible rfl
                      rotate_left
                      · simp only [Act.put, List.setIfInBounds_toArray, List.set_cons_zero, List.set_cons_succ, i64_w, i32_w]
                        rfl
                      refine take_ (i := 13) (N := some 74) (v := ?_) (a' := ?_) #[true, true, true, true, true, true, true, true, true, true, true, true, true, true, false, false, false, false] rfl rfl (take_ofW HT_.out HW_.out (by kernel_rfl)) (fun _ _ _ h => h) (Or.inl ⟨by rfl, ?_⟩) hHeld ?_ ?_
                      rotate_left
                      · rintro w' ⟨s0, s1, s2, s3, s4, s5, s6, s7, s8, s9⟩
                        go_simp
                        with_reducible rfl
                      rotate_left
                      · simp only [Act.put, List.setIfInBounds_toArray, List.set_cons_zero, List.set_cons_succ, i64_w, i32_w]
                        rfl
                      refine pure_ (i := 14) (N := some 75) (v := ?_) (a' := ?_) #[true, true, true, true, true, true, true, true, true, true, true, true, true, true, true, false, false, false] rfl rfl (any_of HT_.out (by kernel_rfl)) (fun _ _ _ h => h) (Or.inl ⟨by rfl, ?_⟩) ?_ ?_
                      rotate_left
                      · intro w'
                        go_simp
                        with_reducible rfl
                      rotate_left
                      · simp only [Act.put, List.setIfInBounds_toArray, List.set_cons_zero, List.set_cons_succ, i64_w, i32_w]
                        rfl
                      refine last_ (i := 15) (N := none) #[true, true, true, true, true, true, true, true, true, true, true, true, true, true, true, true, false, false] rfl rfl (one_of HT_.out (by kernel_rfl)) (by decide) (fun K hK => ?_)
                      refine skip_ (w1 := ?_) (by rfl) rfl ?_ ?_
                      rotate_left
                      · go_simp
                        rfl
                      refine hK.out _ _ ?_
                      clear hK K
                      obtain ⟨w29s, hw29s, HQ31n⟩ := VicW.opqR (((((w29.setCell ⟨go27, (x13_2 : Int).toNat * 5, none⟩ (.int .i64 ((rd_T27 x0_2 (ji22)).f0))).setCell ⟨go27, (x13_2 : Int).toNat * 5 + 1, none⟩ (.int .i64 ((rd_T27 x0_2 (ji22)).f1))).setCell ⟨go27, (x13_2 : Int).toNat * 5 + 2, none⟩ (.int .i64 ((rd_T27 x0_2 (ji22)).f2))).setCell ⟨go27, (x13_2 : Int).toNat * 5 + 3, none⟩ (.int .i64 ((rd_T27 x0_2 (ji22)).f3))).setCell ⟨go27, (x13_2 : Int).toNat * 5 + 4, none⟩ (.int .i64 ((rd_T27 x0_2 (ji22)).f4))) HQ31 rfl
                      have n0_ := HQ31n
                      have n1_ : Aside0 (Kept w w29s _) := ⟨by rw [hw29s]; exact VicW.kept5 HK.out HMgo27.out _ _ _ _ _ _⟩
                      have n2_ := VicW.below5 HB.out GB27.out ((x13_2 : Int).toNat * 5) (.int .i64 ((rd_T27 x0_2 (ji22)).f0)) (.int .i64 ((rd_T27 x0_2 (ji22)).f1)) (.int .i64 ((rd_T27 x0_2 (ji22)).f2)) (.int .i64 ((rd_T27 x0_2 (ji22)).f3)) (.int .i64 ((rd_T27 x0_2 (ji22)).f4)) hw29s
                      rw [← hw29s]
                      clear HK HB HQ31 HQ31n hw29s
                      have HQ31 := n0_
                      have HK := n1_
                      have HB := n2_
                      clear n0_ n1_ n2_
                      have p28 : 0 ≤ ((ji22) : Int) := of_decide_eq_true (by first | (with_reducible assumption) | assumption)
                      have q28 : ((ji22) : Int) < ((x0_2.length : Int) : Int) := of_decide_eq_true (by first | (with_reducible assumption) | assumption)
                      obtain ⟨ce28, hcl28, hM28, hcc28, hfr28⟩ := Kd.R_elem HQ31.out z27 ((ji22) : Int) p28 q28
                      obtain rfl := k27_openM hM28
                      have hx28_0 : World.cell? _ ⟨go27, ((ji22) : Int).toNat * 5, none⟩ = some (.int .i64 ((rd_T27 y152 (ji22)).f0)) := hcc28 0 _ rfl
                      have hx28_1 : World.cell? _ ⟨go27, ((ji22) : Int).toNat * 5 + 1, none⟩ = some (.int .i64 ((rd_T27 y152 (ji22)).f1)) := hcc28 1 _ rfl
                      have hx28_2 : World.cell? _ ⟨go27, ((ji22) : Int).toNat * 5 + 2, none⟩ = some (.int .i64 ((rd_T27 y152 (ji22)).f2)) := hcc28 2 _ rfl
                      have hx28_3 : World.cell? _ ⟨go27, ((ji22) : Int).toNat * 5 + 3, none⟩ = some (.int .i64 ((rd_T27 y152 (ji22)).f3)) := hcc28 3 _ rfl
                      have hx28_4 : World.cell? _ ⟨go27, ((ji22) : Int).toNat * 5 + 4, none⟩ = some (.int .i64 ((rd_T27 y152 (ji22)).f4)) := hcc28 4 _ rfl
                      have hf28_0 : World.frozen? _ ⟨go27, ((ji22) : Int).toNat * 5, none⟩ = false := hfr28 0
                      have hf28_1 : World.frozen? _ ⟨go27, ((ji22) : Int).toNat * 5 + 1, none⟩ = false := hfr28 1
                      have hf28_2 : World.frozen? _ ⟨go27, ((ji22) : Int).toNat * 5 + 2, none⟩ = false := hfr28 2
                      have hf28_3 : World.frozen? _ ⟨go27, ((ji22) : Int).toNat * 5 + 3, none⟩ = false := hfr28 3
                      have hf28_4 : World.frozen? _ ⟨go27, ((ji22) : Int).toNat * 5 + 4, none⟩ = false := hfr28 4
                      clear hcl28 hcc28 hfr28 hM28
                      replace p28 := eq_true p28
                      replace q28 := eq_true q28
                      obtain ⟨ce32, hcl32, hM32, hcc32, hfr32⟩ := Kd.R_elem HQ31.out z27 ((ji22) : Int) (of_decide_eq_true (by first | (with_reducible assumption) | assumption)) (by have h_ : ((ji22) : Int) < ((x0_2.length : Int) : Int) := of_decide_eq_true (by first | (with_reducible assumption) | assumption); first | exact h_ | (have e_ := (Kd.R_reads' HO_0.out).1; omega) | simpa using h_)
                      obtain rfl := k27_openM hM32
                      have HP32 := (Kd.R_seg HQ31.out ((ji22) : Int) (of_decide_eq_true (by first | (with_reducible assumption) | assumption)) (by have h_ : ((ji22) : Int) < ((x0_2.length : Int) : Int) := of_decide_eq_true (by first | (with_reducible assumption) | assumption); first | exact h_ | (have e_ := (Kd.R_reads' HO_0.out).1; omega) | simpa using h_) (seg := [.int .i64 ((rd_T27 x0_2 x13_2).f0), .int .i64 ((rd_T27 x0_2 x13_2).f1), .int .i64 ((rd_T27 x0_2 x13_2).f2), .int .i64 ((rd_T27 x0_2 x13_2).f3), .int .i64 ((rd_T27 x0_2 x13_2).f4)]) (j := 0) hcl32 hcc32 (show 5 ≤ 5 from by decide) (x' := (⟨(rd_T27 x0_2 x13_2).f0, (rd_T27 x0_2 x13_2).f1, (rd_T27 x0_2 x13_2).f2, (rd_T27 x0_2 x13_2).f3, (rd_T27 x0_2 x13_2).f4⟩ : S27)) (k27_mkM _ _ _ (⟨(rd_T27 x0_2 x13_2).f0, (rd_T27 x0_2 x13_2).f1, (rd_T27 x0_2 x13_2).f2, (rd_T27 x0_2 x13_2).f3, (rd_T27 x0_2 x13_2).f4⟩ : S27) ) (fun _ hk => hk)).1
                      rw [← Ny153.out] at HP32
                      have HQ32 := Aside0.mk HP32
                      clear hcl32 hcc32 hfr32 hM32 HP32
                      refine pure_ (i := 16) (N := some 76) (v := ?_) (a' := ?_) #[true, true, true, true, true, true, true, true, true, true, true, true, true, true, true, true, true, false] rfl rfl (any_of HT_.out (by kernel_rfl)) (fun _ _ _ h => h) (Or.inl ⟨by rfl, ?_⟩) ?_ ?_
                      rotate_left
                      · intro w'
                        go_simp
                        with_reducible rfl
                      rotate_left
                      · simp only [Act.put, List.setIfInBounds_toArray, List.set_cons_zero, List.set_cons_succ, i64_w, i32_w]
                        rfl
                      refine last_ (i := 17) (N := none) #[true, true, true, true, true, true, true, true, true, true, true, true, true, true, true, true, true, true] rfl rfl (one_of HT_.out (by kernel_rfl)) (by decide) (fun K hK => ?_)
                      refine skip_ (w1 := ?_) (by rfl) rfl ?_ ?_
                      rotate_left
                      · go_simp
                        rfl
                      refine hK.out _ _ ?_
                      clear hK K
                      refine done_ (done_of HT_.out (by kernel_rfl)) ?_
                      try go_wp2
                      go_roundg k2
                      case measure => have := HK1.out; have := HK2.out; omega
                      case rel => exact ⟨(y153), (ji22), (by first | rfl | (simp; done) | (simp only [← hji22] <;> (first | rfl | simp)) | (simp [*]; done)), H', ⟨by have := HK1.out; have := HK2.out; omega⟩, ⟨by (with_reducible repeat (first | apply Kd.R_alloc | apply Kd.R_drewN | apply Kd.R_drew)); exact HQ32.out⟩, ⟨by repeat (first | (with_reducible first | exact HK.out | apply Kept.alloc | apply Kept.drewN | apply Kept.drew | refine Kept.setCell ?_ HMgo27.out _ | refine Kept.setCell ?_ HMgo27.out _ | refine Kept.setCell ?_ HMgo27.out _ | refine Kept.setCell ?_ HMgo27.out _ | refine Kept.setCell ?_ HMgo27.out _ | refine Kept.setCell ?_ HMgo27.out _ | refine Kept.setCell ?_ HMgo27.out _ | refine Kept.setCell ?_ HMgo27.out _ | refine Kept.setCell ?_ HMgo27.out _ | refine Kept.setCell ?_ HMgo27.out _) | exact HK.out)⟩, ⟨by repeat (first | (with_reducible first | exact HB.out | apply below_alloc | apply pw_below_drewN | apply below_drew1 | refine below_set ?_ GB27.out | refine below_set ?_ GB27.out | refine below_set ?_ GB27.out | refine below_set ?_ GB27.out | refine below_set ?_ GB27.out | refine below_set ?_ GB27.out | refine below_set ?_ GB27.out | refine below_set ?_ GB27.out | refine below_set ?_ GB27.out | refine below_set ?_ GB27.out) | exact HB.out)⟩⟩
                    · rw [if_neg c26] at H
                      exact absurd H (by simp)
                  · rw [if_neg c25] at H
                    exact absurd H (by simp)
                · rw [if_neg c24] at H
                  exact absurd H (by simp)
              · rw [if_neg c23] at H
                exact absurd H (by simp)
            · rw [if_neg c21] at H
              have c21b0 : decide (x13_2 < (wrap64 (x10_1 - 1))) = false := decide_eq_false c21
              clear c21
              obtain rfl := Option.some.inj H
              go_wp2
              first | go_end0 | ((try simp only [Exit.inBlock, Exit.then]); refine bodyPost_ret (results_none rfl _ _ _) rfl ?_)
              exact ⟨by first | rfl | (simp [errW_none, errW_some] <;> rfl) | (simp [*, errW_none, errW_some] <;> rfl), by (with_reducible repeat (first | apply Kd.R_alloc | apply Kd.R_drewN | apply Kd.R_drew)); exact HO_0.out, by repeat (first | (with_reducible first | exact HB.out | apply below_alloc | apply pw_below_drewN | apply below_drew1) | exact HB.out), by repeat (first | (with_reducible first | exact HK.out | apply Kept.alloc | apply Kept.drewN | apply Kept.drew) | exact HK.out)⟩
end Go.Proofs.Ytnegchdooapoiaa.PVic
