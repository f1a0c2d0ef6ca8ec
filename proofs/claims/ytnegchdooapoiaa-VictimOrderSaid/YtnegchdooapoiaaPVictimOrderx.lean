-- Printed for this claim by a program of this project's own, over the kit's printer; some functions are told by hand.
import Derived.Test.YtnegchdooapoiaaPVicx0
import Derived.Test.YtnegchdooapoiaaPVicx1
import Derived.Test.YtnegchdooapoiaaVicC
import Derived.Test.YtnegchdooapoiaaPVicx8
namespace Go.Proofs.Ytnegchdooapoiaa.PVic
open Go.RowKit Go.Proofs.YtnegchdooapoiaaW.PrintWords Go.Proofs.YtnegchdooapoiaaW.PrintLast Go.Proofs.YtnegchdooapoiaaW.PrintMore
attribute [local go_sem] max2_int min2_int max_two min_two max_three min_three max_four min_four   -- for this text's walks alone
set_option linter.unusedVariables false
set_option linter.unusedSimpArgs false

/-! ### millwrightlaw12_VictimOrder: function 5 -/
def millwrightlaw12_VictimOrder.l0 : Nat → List (S27) → Int → Int → Int → Int → Int → Bool → List (S27) → Int → Option (Bool)
  | 0, _, _, _, _, _, _, _, _, _ => none
  | k + 1, x0, x1, x2, x3, x4, x5, x13, x14, x15 => if x15 < (x0.length : Int) then (if 0 ≤ x15 then ((some (x0.set (x15 : Int).toNat (⟨Int.tmod (wrap64 (7 * x15)) 31, (rd_T27 x0 x15).f1, (rd_T27 x0 x15).f2, (rd_T27 x0 x15).f3, (rd_T27 x0 x15).f4⟩ : S27) : List (S27))).bind fun y241 => (if 0 ≤ (wrap64 ((wrap64 ((x0.length : Int) - 1)) - x15)) then (if (wrap64 ((wrap64 ((x0.length : Int) - 1)) - x15)) < (x14.length : Int) then (millwrightlaw12_VictimOrder.l0 k y241 x1 x2 x3 x4 x5 x13 (x14.set ((wrap64 ((wrap64 ((x0.length : Int) - 1)) - x15)) : Int).toNat (⟨(rd_T27 y241 x15).f0, (rd_T27 y241 x15).f1, (rd_T27 y241 x15).f2, (rd_T27 y241 x15).f3, (rd_T27 y241 x15).f4⟩ : S27)) (wrap64 (x15 + 1))) else (none)) else (none))) else (none)) else ((victim_Choose.f k x0 x1 x2 x3 x4 x5).bind fun bt244 => ((victim_Choose.f k x14 x1 x2 x3 x4 x5).bind fun bt248 => (if x13 = true then ((millwrightlaw12_same.f k bt244.1 bt248.1).bind fun t252 => (if t252 = true then (some (bt244.2 == bt248.2)) else (some false))) else (some false))))
def millwrightlaw12_VictimOrder.f (k : Nat) (l0 : List (S27)) (a1 : Int) (a2 : Int) (a3 : Int) (a4 : Int) (a5 : Int) : Option (Bool) := (millwrightlaw12_shown.f k).bind fun t234 => ((millwrightlaw12_few.f l0).bind fun t235 => (if 0 ≤ (t235.length : Int) then (if ((t235.length : Int) : Int).toNat ≤ 7036874417766 then (millwrightlaw12_VictimOrder.l0 k t235 a1 a2 a3 a4 a5 t234 (List.replicate ((t235.length : Int) : Int).toNat z27) 0) else (none)) else (none)))
theorem millwrightlaw12_VictimOrder.mono_l : ∀ k, (∀ y0 y1 y2 y3 y4 y5 y6 y7 y8, LeO (millwrightlaw12_VictimOrder.l0 k y0 y1 y2 y3 y4 y5 y6 y7 y8) (millwrightlaw12_VictimOrder.l0 (k + 1) y0 y1 y2 y3 y4 y5 y6 y7 y8))
  | 0 => fun _ _ _ _ _ _ _ _ _ r h => by simp [millwrightlaw12_VictimOrder.l0] at h
  | k + 1 => by
    have ih0 := millwrightlaw12_VictimOrder.mono_l k
    · intro y0 y1 y2 y3 y4 y5 y6 y7 y8
      unfold millwrightlaw12_VictimOrder.l0
      repeat' first
      | (with_reducible exact ih0 _ _ _ _ _ _ _ _ _)
      | (with_reducible exact millwrightlaw12_same.mono _ _ _)
      | (with_reducible exact millwrightlaw12_shown.mono _)
      | (with_reducible exact victim_Choose.mono _ _ _ _ _ _ _)
      | (with_reducible exact LeO.refl _)
      | (with_reducible exact LeO.none _)
      | (with_reducible refine LeO.ite ?_ ?_)
      | (with_reducible refine LeO.bind ?_ (fun _ => ?_))
      | exact ih0 _ _ _ _ _ _ _ _ _
      | exact millwrightlaw12_same.mono _ _ _
      | exact millwrightlaw12_shown.mono _
      | exact victim_Choose.mono _ _ _ _ _ _ _
      | exact LeO.none _
      | refine LeO.ite ?_ ?_
      | refine LeO.bind ?_ (fun _ => ?_)
theorem millwrightlaw12_VictimOrder.mono : ∀ a0 a1 a2 a3 a4 a5 k, LeO (millwrightlaw12_VictimOrder.f k a0 a1 a2 a3 a4 a5) (millwrightlaw12_VictimOrder.f (k + 1) a0 a1 a2 a3 a4 a5) := by
  intro a0 a1 a2 a3 a4 a5 k
  have ih0 := millwrightlaw12_VictimOrder.mono_l k
  unfold millwrightlaw12_VictimOrder.f
  repeat' first
      | (with_reducible exact ih0 _ _ _ _ _ _ _ _ _)
      | (with_reducible exact millwrightlaw12_same.mono _ _ _)
      | (with_reducible exact millwrightlaw12_shown.mono _)
      | (with_reducible exact victim_Choose.mono _ _ _ _ _ _ _)
      | (with_reducible exact LeO.refl _)
      | (with_reducible exact LeO.none _)
      | (with_reducible refine LeO.ite ?_ ?_)
      | (with_reducible refine LeO.bind ?_ (fun _ => ?_))
      | exact ih0 _ _ _ _ _ _ _ _ _
      | exact millwrightlaw12_same.mono _ _ _
      | exact millwrightlaw12_shown.mono _
      | exact victim_Choose.mono _ _ _ _ _ _ _
      | exact LeO.none _
      | refine LeO.ite ?_ ?_
      | refine LeO.bind ?_ (fun _ => ?_)
set_option maxHeartbeats 8000000 in
set_option maxRecDepth 100000 in
theorem millwrightlaw12_VictimOrder.calls (k : Nat) (A0 : Option Addr) (c0 : Nat) (l0 : List (S27)) (a1 : Int) (a2 : Int) (a3 : Int) (a4 : Int) (a5 : Int) (r : Bool) (w : World) (hr0 : Kd.C k27 w A0 l0.length l0) (hc0 : l0.length ≤ c0) (h : millwrightlaw12_VictimOrder.f k l0 a1 a2 a3 a4 a5 = some r) :
    Calls Try.prog 5 #[.slice A0 l0.length c0, .int .i64 a1, .int .i64 a2, .int .i64 a3, .int .i64 a4, .int .i64 a5] w fun e w' => e = .returned (.bool r) ∧ Below w.heap.size w w' := by
  have hu27 := Try.underlying27
  have HR0 := Aside0.mk hr0
  have HC0 := Aside0.mk hc0
  clear hr0 hc0
  have HB := Aside0.mk (Below.refl w.heap.size w)
  have H : ((millwrightlaw12_shown.f k).bind fun t234 => ((millwrightlaw12_few.f l0).bind fun t235 => (if 0 ≤ (t235.length : Int) then (if ((t235.length : Int) : Int).toNat ≤ 7036874417766 then (millwrightlaw12_VictimOrder.l0 k t235 a1 a2 a3 a4 a5 t234 (List.replicate ((t235.length : Int) : Int).toNat z27) 0) else (none)) else (none)))) = some r := h
  clear h
  replace H := Option.bind_eq_some_iff.mp H
  obtain ⟨t234, A70, H⟩ := H
  replace H : ((millwrightlaw12_few.f l0).bind fun t235 => (if 0 ≤ (t235.length : Int) then (if ((t235.length : Int) : Int).toNat ≤ 7036874417766 then (millwrightlaw12_VictimOrder.l0 k t235 a1 a2 a3 a4 a5 t234 (List.replicate ((t235.length : Int) : Int).toNat z27) 0) else (none)) else (none))) = some r := H
  have A7 := Aside0.mk A70
  clear A70
  replace H := Option.bind_eq_some_iff.mp H
  obtain ⟨t235, A80, H⟩ := H
  replace H : (if 0 ≤ (t235.length : Int) then (if ((t235.length : Int) : Int).toNat ≤ 7036874417766 then (millwrightlaw12_VictimOrder.l0 k t235 a1 a2 a3 a4 a5 t234 (List.replicate ((t235.length : Int) : Int).toNat z27) 0) else (none)) else (none)) = some r := H
  have A8 := Aside0.mk A80
  clear A80
  by_cases c9 : 0 ≤ (t235.length : Int)
  · rw [if_pos c9] at H
    have c9b0 := eq_true c9
    have c9b1 : decide (0 ≤ (t235.length : Int)) = true := decide_eq_true c9
    clear c9
    by_cases c10 : ((t235.length : Int) : Int).toNat ≤ 7036874417766
    · rw [if_pos c10] at H
      have c10b0 := eq_true c10
      have c10b1 : decide (((t235.length : Int) : Int).toNat ≤ 7036874417766) = true := decide_eq_true c10
      clear c10
      obtain ⟨y238, hy238⟩ : ∃ y_ : List (S27), y_ = (List.replicate ((t235.length : Int) : Int).toNat z27) := ⟨_, rfl⟩
      replace H : (millwrightlaw12_VictimOrder.l0 k t235 a1 a2 a3 a4 a5 t234 y238 0) = some r := by first | (rw [hy238]; with_reducible exact H) | (have H2_ := (Option.bind_some _ _).symm.trans H; rw [hy238]; with_reducible exact H2_) | (have H2_ := (Option.bind_some _ _).symm.trans H; with_reducible exact H2_) | with_reducible exact H | (rw [hy238]; exact H) | exact H
      have Ny238 := Aside0.mk hy238
      clear hy238
      have H' := Aside0.mk H
      clear H
      go_enter Try.func5, Try.ntmps5
      go_wp2_with (first | ((with_reducible refine gate_callee (f := 8) rfl ?_); refine goesL_ (some 20) rfl rfl Try.func8 (by kernel_rfl) rfl #[] rfl (by (try simp only [List.map_toArray, List.map_cons, List.map_nil]); first | done | rfl | (simp only [List.length_drop, List.length_take]; rfl)) ?_; (with_reducible refine (millwrightlaw12_shown.calls k  t234 _ A7.out).mono ?_); rintro e w11 ⟨rfl, hb⟩; refine ⟨_, rfl, ?_⟩; have n0_ := Aside0.mk (below_step (by repeat (first | (with_reducible first | exact HB.out | apply below_alloc | apply pw_below_drewN | apply below_drew1) | exact HB.out)) hb); clear HB; have HB := n0_; clear n0_; (try clear hb); (try clear hb2); (try clear hk); (try clear hi)) | ((with_reducible refine gate_callee (f := 9) rfl ?_); refine goesL_ (some 22) rfl rfl Try.func9 (by kernel_rfl) rfl #[.slice A0 l0.length c0] rfl (by (try simp only [List.map_toArray, List.map_cons, List.map_nil]); first | done | rfl | (simp only [List.length_drop, List.length_take]; rfl)) ?_; (with_reducible refine (millwrightlaw12_few.calls _ _ l0 t235 _ ?side1 ?side2 A8.out).mono ?_); (case side1 => repeat (first | exact (Kd.C_below HR0.out HB.out) | (with_reducible refine Kd.C_alloc ?_ _) | (with_reducible refine Kd.C_drewN ?_ _) | (with_reducible refine Kd.C_drew ?_))); (case side2 => exact HC0.out); rintro e w12 ⟨v236, rfl, ho0, hb⟩; refine ⟨_, rfl, ?_⟩; have n0_ := Aside0.mk (Kd.R_lower ho0 (below_size (by repeat (first | (with_reducible first | exact HB.out | apply below_alloc | apply pw_below_drewN | apply below_drew1) | exact HB.out)))); have n1_ := Aside0.mk (below_step (by repeat (first | (with_reducible first | exact HB.out | apply below_alloc | apply pw_below_drewN | apply below_drew1) | exact HB.out)) hb); clear HB; have HO237 := n0_; have HB := n1_; clear n0_ n1_; (try clear hb); (try clear hb2); (try clear hk); (try clear hi); (try clear ho0); obtain ⟨Ao13, co13, eo13⟩ := Kd.R_slice HO237.out; subst eo13) | ((with_reducible refine gate_dst (N := 25) rfl ?_); refine Kd.R_make k27 _ 27 rfl (N := 25) rfl 22 _ _ rfl (t235.length : Int) rfl rfl Try.underlying22 (.agg #[(.int .i64 0), (.int .i64 0), (.int .i64 0), (.int .i64 0), (.int .i64 0)]) 40 info27 rfl (by decide) (by omega) z27 (ok := fun _ => True) (okp := fun _ => True) (k27_mkM _ _ _ z27 ) (fun _ hk => hk) trivial (of_decide_eq_true (by first | (with_reducible assumption) | assumption)) (Nat.le_trans (Nat.mul_le_mul_right _ (of_decide_eq_true (by first | (with_reducible assumption) | assumption) : (t235.length : Int).toNat ≤ 7036874417766)) (by omega)) (Below.refl _ _) (Nat.le_refl _) ?_; intro v239 w14 ho15 hb hg_ hnew_; clear hg_ hnew_; (first | rw [← Ny238.out] at ho15 | (simp only [Int.reduceToNat] at ho15; rw [← Ny238.out] at ho15)); have n0_ := Aside0.mk (Kd.R_elder' (by (with_reducible repeat (first | apply Kd.R_alloc | apply Kd.R_drewN | apply Kd.R_drew)); exact HO237.out) (Kd.R_base ho15) hb); have n1_ := Aside0.mk (Kd.R_lower (Kd.R_new' ho15 (Kd.R_lt (by (with_reducible repeat (first | apply Kd.R_alloc | apply Kd.R_drewN | apply Kd.R_drew)); exact HO237.out))) (below_size (by repeat (first | (with_reducible first | exact HB.out | apply below_alloc | apply pw_below_drewN | apply below_drew1) | exact HB.out)))); have n2_ := Aside0.mk (below_step (by repeat (first | (with_reducible first | exact HB.out | apply below_alloc | apply pw_below_drewN | apply below_drew1) | exact HB.out)) hb); clear HO237; clear HB; have HO237 := n0_; have HO240 := n1_; have HB := n2_; clear n0_ n1_ n2_; clear hb ho15))
      go_loopg [15] k (fun kq v15 w' => ∃ (x0_1 : List (S27)) (x14_1 : List (S27)) (x15_1 : Int), v15 = .int .i64 x15_1 ∧ Aside0 (millwrightlaw12_VictimOrder.l0 kq x0_1 a1 a2 a3 a4 a5 t234 x14_1 x15_1 = some r) ∧ Aside0 (kq ≤ k) ∧ Aside0 (Kd.R k27 27 w' w.heap.size (fun k_ => some k_ ≠ (v239 : Value).ownBlock) (.slice Ao13 t235.length co13) x0_1) ∧ Aside0 (Kd.R k27 27 w' w.heap.size (fun k_ => some k_ ≠ ((.slice Ao13 t235.length co13) : Value).ownBlock) v239 x14_1) ∧ Aside0 (Below w.heap.size w w'))
      case atStart => exact ⟨(t235), (y238), (0), (by first | rfl | (simp; done) | (simp [*]; done)), H', ⟨Nat.le_refl _⟩, ⟨by (with_reducible repeat (first | apply Kd.R_alloc | apply Kd.R_drewN | apply Kd.R_drew)); exact Kd.R_mono HO237.out (fun _ hk => hk.2)⟩, ⟨by (with_reducible repeat (first | apply Kd.R_alloc | apply Kd.R_drewN | apply Kd.R_drew)); exact Kd.R_mono HO240.out (fun _ hk => hk.2)⟩, ⟨by repeat (first | (with_reducible first | exact HB.out | apply below_alloc | apply pw_below_drewN | apply below_drew1) | exact HB.out)⟩⟩
      case round =>
        clear H'
        try clear c1
        try clear p2
        try clear c5
        try clear c8
        try clear c9
        try clear c9b0
        try clear c9b1
        try clear c10
        try clear c10b0
        try clear c10b1
        obtain ⟨x0_1, x14_1, x15_1, rfl, HA, HK1, HO_0, HO_14, HB⟩ := hrel
        have hl0_1 := (Kd.R_reads' HO_0.out).1
        rw [hl0_1] at HO_0
        (try simp only [hl0_1])
        (try simp only [hl0_1] at HO_14)
        cases gk with
        | zero => exact absurd HA.out (by simp [millwrightlaw12_VictimOrder.l0])
        | succ k1 =>
          have H := HA.out
          clear HA
          simp only [millwrightlaw12_VictimOrder.l0] at H
          by_cases c16 : x15_1 < (x0_1.length : Int)
          · rw [if_pos c16] at H
            have c16b0 : decide (x15_1 < (x0_1.length : Int)) = true := decide_eq_true c16
            clear c16
            by_cases c17 : 0 ≤ x15_1
            · rw [if_pos c17] at H
              have c17b0 : decide (0 ≤ x15_1) = true := decide_eq_true c17
              clear c17
              obtain ⟨y241, hy241⟩ : ∃ y_ : List (S27), y_ = (x0_1.set (x15_1 : Int).toNat (⟨Int.tmod (wrap64 (7 * x15_1)) 31, (rd_T27 x0_1 x15_1).f1, (rd_T27 x0_1 x15_1).f2, (rd_T27 x0_1 x15_1).f3, (rd_T27 x0_1 x15_1).f4⟩ : S27)) := ⟨_, rfl⟩
              replace H : (if 0 ≤ (wrap64 ((wrap64 ((x0_1.length : Int) - 1)) - x15_1)) then (if (wrap64 ((wrap64 ((x0_1.length : Int) - 1)) - x15_1)) < (x14_1.length : Int) then (millwrightlaw12_VictimOrder.l0 k1 y241 a1 a2 a3 a4 a5 t234 (x14_1.set ((wrap64 ((wrap64 ((x0_1.length : Int) - 1)) - x15_1)) : Int).toNat (⟨(rd_T27 y241 x15_1).f0, (rd_T27 y241 x15_1).f1, (rd_T27 y241 x15_1).f2, (rd_T27 y241 x15_1).f3, (rd_T27 y241 x15_1).f4⟩ : S27)) (wrap64 (x15_1 + 1))) else (none)) else (none)) = some r := by first | (rw [hy241]; with_reducible exact H) | (have H2_ := (Option.bind_some _ _).symm.trans H; rw [hy241]; with_reducible exact H2_) | (have H2_ := (Option.bind_some _ _).symm.trans H; with_reducible exact H2_) | with_reducible exact H | (rw [hy241]; exact H) | exact H
              have Ny241 := Aside0.mk hy241
              clear hy241
              obtain ⟨ji19, hji19⟩ : ∃ j_ : Int, (wrap64 ((wrap64 ((x0_1.length : Int) - 1)) - x15_1)) = j_ := ⟨_, rfl⟩
              replace H : (if 0 ≤ (ji19) then (if (ji19) < (x14_1.length : Int) then (millwrightlaw12_VictimOrder.l0 k1 y241 a1 a2 a3 a4 a5 t234 (x14_1.set ((ji19) : Int).toNat (⟨(rd_T27 y241 x15_1).f0, (rd_T27 y241 x15_1).f1, (rd_T27 y241 x15_1).f2, (rd_T27 y241 x15_1).f3, (rd_T27 y241 x15_1).f4⟩ : S27)) (wrap64 (x15_1 + 1))) else (none)) else (none)) = some r := by first | (rw [hji19] at H; exact H) | (simp only [hji19] at H ⊢; exact H)
              have hji19w : (IntKind.i64.wrap ((wrap64 ((x0_1.length : Int) - 1)) - x15_1)) = ji19 := (i64_w _).trans hji19
              by_cases c20 : 0 ≤ (ji19)
              · rw [if_pos c20] at H
                have c20b0 : decide (0 ≤ (ji19)) = true := decide_eq_true c20
                clear c20
                by_cases c21 : (ji19) < (x14_1.length : Int)
                · rw [if_pos c21] at H
                  have c21b0 : decide ((ji19) < (x14_1.length : Int)) = true := decide_eq_true c21
                  clear c21
                  obtain ⟨y243, hy243⟩ : ∃ y_ : List (S27), y_ = (x14_1.set ((ji19) : Int).toNat (⟨(rd_T27 y241 x15_1).f0, (rd_T27 y241 x15_1).f1, (rd_T27 y241 x15_1).f2, (rd_T27 y241 x15_1).f3, (rd_T27 y241 x15_1).f4⟩ : S27)) := ⟨_, rfl⟩
                  replace H : (millwrightlaw12_VictimOrder.l0 k1 y241 a1 a2 a3 a4 a5 t234 y243 (wrap64 (x15_1 + 1))) = some r := by first | (rw [hy243]; with_reducible exact H) | (have H2_ := (Option.bind_some _ _).symm.trans H; rw [hy243]; with_reducible exact H2_) | (have H2_ := (Option.bind_some _ _).symm.trans H; with_reducible exact H2_) | with_reducible exact H | (rw [hy243]; exact H) | exact H
                  have Ny243 := Aside0.mk hy243
                  clear hy243
                  have H' := Aside0.mk H
                  clear H
                  have p18 : 0 ≤ (x15_1 : Int) := of_decide_eq_true (by first | (with_reducible assumption) | assumption)
                  have q18 : (x15_1 : Int) < ((x0_1.length : Int) : Int) := of_decide_eq_true (by first | (with_reducible assumption) | assumption)
                  obtain ⟨go18, co18, eo18, gb18, gl18, cl18, HG18⟩ := Kd.R_form HO_0.out (by omega)
                  (first | cases eo18 | (injection eo18 with ea_ en_ ec_; (first | subst ea_ | (injection ea_ with ea_; subst ea_)); subst ec_; clear en_))
                  have GB18 := Aside0.mk gb18
                  have GG18 := Aside0.mk HG18
                  clear gb18 gl18 HG18
                  obtain ⟨ce18, hcl18, hM18, hcc18, hfr18⟩ := Kd.R_elem HO_0.out z27 (x15_1 : Int) p18 q18
                  obtain rfl := k27_openM hM18
                  have hx18_0 : wr.cell? ⟨go18, (x15_1 : Int).toNat * 5, none⟩ = some (.int .i64 ((rd_T27 x0_1 x15_1).f0)) := hcc18 0 _ rfl
                  have hx18_1 : wr.cell? ⟨go18, (x15_1 : Int).toNat * 5 + 1, none⟩ = some (.int .i64 ((rd_T27 x0_1 x15_1).f1)) := hcc18 1 _ rfl
                  have hx18_2 : wr.cell? ⟨go18, (x15_1 : Int).toNat * 5 + 2, none⟩ = some (.int .i64 ((rd_T27 x0_1 x15_1).f2)) := hcc18 2 _ rfl
                  have hx18_3 : wr.cell? ⟨go18, (x15_1 : Int).toNat * 5 + 3, none⟩ = some (.int .i64 ((rd_T27 x0_1 x15_1).f3)) := hcc18 3 _ rfl
                  have hx18_4 : wr.cell? ⟨go18, (x15_1 : Int).toNat * 5 + 4, none⟩ = some (.int .i64 ((rd_T27 x0_1 x15_1).f4)) := hcc18 4 _ rfl
                  have hf18_0 : wr.frozen? ⟨go18, (x15_1 : Int).toNat * 5, none⟩ = false := hfr18 0
                  have hf18_1 : wr.frozen? ⟨go18, (x15_1 : Int).toNat * 5 + 1, none⟩ = false := hfr18 1
                  have hf18_2 : wr.frozen? ⟨go18, (x15_1 : Int).toNat * 5 + 2, none⟩ = false := hfr18 2
                  have hf18_3 : wr.frozen? ⟨go18, (x15_1 : Int).toNat * 5 + 3, none⟩ = false := hfr18 3
                  have hf18_4 : wr.frozen? ⟨go18, (x15_1 : Int).toNat * 5 + 4, none⟩ = false := hfr18 4
                  clear hcl18 hcc18 hfr18 hM18
                  replace p18 := eq_true p18
                  replace q18 := eq_true q18
                  have HX23 := Aside0.mk (show Kd.R k27 27 wr w.heap.size (fun k_ => some k_ ≠ (v239 : Value).ownBlock) (.slice (some ⟨go18, 0, none⟩) x0_1.length co13) x0_1 from (by (with_reducible repeat (first | apply Kd.R_alloc | apply Kd.R_drewN | apply Kd.R_drew)); exact HO_0.out))
                  obtain ⟨ce23, hcl23, hM23, hcc23, hfr23⟩ := Kd.R_elem HX23.out z27 (x15_1 : Int) (of_decide_eq_true (by first | (with_reducible assumption) | assumption)) (by have h_ : (x15_1 : Int) < ((x0_1.length : Int) : Int) := of_decide_eq_true (by first | (with_reducible assumption) | assumption); first | exact h_ | (have e_ := (Kd.R_reads' HO_0.out).1; omega) | simpa using h_)
                  obtain rfl := k27_openM hM23
                  have HP23 := Kd.R_seg HX23.out (x15_1 : Int) (of_decide_eq_true (by first | (with_reducible assumption) | assumption)) (by have h_ : (x15_1 : Int) < ((x0_1.length : Int) : Int) := of_decide_eq_true (by first | (with_reducible assumption) | assumption); first | exact h_ | (have e_ := (Kd.R_reads' HO_0.out).1; omega) | simpa using h_) (seg := [.int .i64 (Int.tmod (wrap64 (7 * x15_1)) 31)]) (j := 0) hcl23 hcc23 (show 1 ≤ 5 from by decide) (x' := (⟨Int.tmod (wrap64 (7 * x15_1)) 31, (rd_T27 x0_1 x15_1).f1, (rd_T27 x0_1 x15_1).f2, (rd_T27 x0_1 x15_1).f3, (rd_T27 x0_1 x15_1).f4⟩ : S27)) (k27_mkM _ _ _ (⟨Int.tmod (wrap64 (7 * x15_1)) 31, (rd_T27 x0_1 x15_1).f1, (rd_T27 x0_1 x15_1).f2, (rd_T27 x0_1 x15_1).f3, (rd_T27 x0_1 x15_1).f4⟩ : S27) ) (fun _ hk => hk)
                  have hx23_0 := hcc23 0 _ rfl
                  (try simp only [show (k27).sz = 5 from rfl, Nat.mul_one, Nat.add_zero] at hx23_0)
                  have hf23_0 := hfr23 0
                  (try simp only [show (k27).sz = 5 from rfl, Nat.mul_one, Nat.add_zero] at hf23_0)
                  clear hcl23 hcc23 hfr23 hM23
                  go_wp2_with (first | ((with_reducible refine gate_store (t := 3) (p := 38) rfl ?_); refine store_event (t := 3) (p := 38) (v := ?vo_w24) (w1 := (wr.setCell ⟨go18, (x15_1 : Int).toNat * 5, none⟩ (.int .i64 (Int.tmod (wrap64 (7 * x15_1)) 31)))) ?hg ?ho ?hn ?hr ?_; (case ho => rfl); (case hg => rfl); (case hn => rfl); (case hr => first | (go_simp; done) | (go_simp; rfl)); intro w24 hw; have hg : wr.grownBy w24 (some go18) := (by rw [hw]; exact HP23.2); have hp_ : Kd.R k27 27 w24 w.heap.size (fun k_ => some k_ ≠ (v239 : Value).ownBlock) (.slice (some ⟨go18, 0, none⟩) x0_1.length co13) y241 := (by rw [hw, Ny241.out]; exact HP23.1); clear HP23; have n0_ := Aside0.mk (hp_); have n1_ := Aside0.mk (Kd.R_after (v := (.slice (some ⟨go18, 0, none⟩) x0_1.length co13)) (v1 := (.slice (some ⟨go18, 0, none⟩) x0_1.length co13)) (ok := (fun _ => True)) (by (with_reducible repeat (first | apply Kd.R_alloc | apply Kd.R_drewN | apply Kd.R_drew)); exact Kd.R_mono HO_14.out (fun _ hk => ⟨trivial, hk⟩)) hg (.inl rfl)); have n2_ := Aside0.mk ((by rw [hw]; exact below_set (HB.out) GB18.out : Below w.heap.size w w24)); clear HO_0; clear HO_14; clear HB; have HO_0 := n0_; have HO_14 := n1_; have HB := n2_; clear n0_ n1_ n2_; clear hg hw hp_; have p242 : 0 ≤ (x15_1 : Int) := of_decide_eq_true (by first | (with_reducible assumption) | assumption); have q242 : x15_1 < (y241.length : Int) := (by have h_ : (x15_1 : Int) < ((x0_1.length : Int) : Int) := of_decide_eq_true (by first | (with_reducible assumption) | assumption); first | (have e_ := (Kd.R_reads' HO_0.out).1; omega) | simpa only [Ny241.out, List.length_set] using h_); have ql242 : ((x15_1 : Int) < ((x0_1.length : Int) : Int)) = True := eq_true (of_decide_eq_true (by first | (with_reducible assumption) | assumption)); obtain ⟨ad242, e242, hx242_0, hx242_1, hx242_2, hx242_3, hx242_4⟩ := at_T27 (Kd.R_reads' HO_0.out).2.2 x15_1 p242 q242; obtain rfl : (⟨go18, 0, none⟩ : Addr) = ad242 := (by injection e242); (first | simp only [add_plain] at hx242_0 | simp only [add_at] at hx242_0 | simp only [Addr.add, Nat.zero_add] at hx242_0 | skip); (first | simp only [add_plain] at hx242_1 | simp only [add_at] at hx242_1 | simp only [Addr.add, Nat.zero_add] at hx242_1 | skip); (first | simp only [add_plain] at hx242_2 | simp only [add_at] at hx242_2 | simp only [Addr.add, Nat.zero_add] at hx242_2 | skip); (first | simp only [add_plain] at hx242_3 | simp only [add_at] at hx242_3 | simp only [Addr.add, Nat.zero_add] at hx242_3 | skip); (first | simp only [add_plain] at hx242_4 | simp only [add_at] at hx242_4 | simp only [Addr.add, Nat.zero_add] at hx242_4 | skip); replace p242 := eq_true p242; replace q242 := eq_true q242; have p22 : 0 ≤ ((ji19) : Int) := of_decide_eq_true (by first | (with_reducible assumption) | assumption); have q22 : ((ji19) : Int) < ((x14_1.length : Int) : Int) := of_decide_eq_true (by first | (with_reducible assumption) | assumption); obtain ⟨go22, co22, eo22, gb22, gl22, cl22, HG22⟩ := Kd.R_form HO_14.out (by omega); (first | cases eo22 | (injection eo22 with ea_ en_ ec_; (first | subst ea_ | (injection ea_ with ea_; subst ea_)); subst ec_; clear en_)); have GB22 := Aside0.mk gb22; have GG22 := Aside0.mk HG22; clear gb22 gl22 HG22; obtain ⟨ce22, hcl22, hM22, hcc22, hfr22⟩ := Kd.R_elem HO_14.out z27 ((ji19) : Int) p22 q22; obtain rfl := k27_openM hM22; have hx22_0 : w24.cell? ⟨go22, ((ji19) : Int).toNat * 5, none⟩ = some (.int .i64 ((rd_T27 x14_1 (ji19)).f0)) := hcc22 0 _ rfl; have hx22_1 : w24.cell? ⟨go22, ((ji19) : Int).toNat * 5 + 1, none⟩ = some (.int .i64 ((rd_T27 x14_1 (ji19)).f1)) := hcc22 1 _ rfl; have hx22_2 : w24.cell? ⟨go22, ((ji19) : Int).toNat * 5 + 2, none⟩ = some (.int .i64 ((rd_T27 x14_1 (ji19)).f2)) := hcc22 2 _ rfl; have hx22_3 : w24.cell? ⟨go22, ((ji19) : Int).toNat * 5 + 3, none⟩ = some (.int .i64 ((rd_T27 x14_1 (ji19)).f3)) := hcc22 3 _ rfl; have hx22_4 : w24.cell? ⟨go22, ((ji19) : Int).toNat * 5 + 4, none⟩ = some (.int .i64 ((rd_T27 x14_1 (ji19)).f4)) := hcc22 4 _ rfl; have hf22_0 : w24.frozen? ⟨go22, ((ji19) : Int).toNat * 5, none⟩ = false := hfr22 0; have hf22_1 : w24.frozen? ⟨go22, ((ji19) : Int).toNat * 5 + 1, none⟩ = false := hfr22 1; have hf22_2 : w24.frozen? ⟨go22, ((ji19) : Int).toNat * 5 + 2, none⟩ = false := hfr22 2; have hf22_3 : w24.frozen? ⟨go22, ((ji19) : Int).toNat * 5 + 3, none⟩ = false := hfr22 3; have hf22_4 : w24.frozen? ⟨go22, ((ji19) : Int).toNat * 5 + 4, none⟩ = false := hfr22 4; clear hcl22 hcc22 hfr22 hM22; replace p22 := eq_true p22; replace q22 := eq_true q22; have n_ := Aside0.mk (Kd.R_mono (ok' := (fun k_ => some k_ ≠ (.slice (some ⟨go18, 0, none⟩) x0_1.length co13 : Value).ownBlock)) HO_14.out (fun k_ hk => hk.2)); clear HO_14; have HO_14 := n_; clear n_; have HX25 := Aside0.mk (show Kd.R k27 27 w24 w.heap.size (fun k_ => some k_ ≠ (.slice (some ⟨go18, 0, none⟩) x0_1.length co13 : Value).ownBlock) (.slice (some ⟨go22, 0, none⟩) x14_1.length co22) x14_1 from (by (with_reducible repeat (first | apply Kd.R_alloc | apply Kd.R_drewN | apply Kd.R_drew)); exact HO_14.out)); obtain ⟨ce25, hcl25, hM25, hcc25, hfr25⟩ := Kd.R_elem HX25.out z27 ((ji19) : Int) (of_decide_eq_true (by first | (with_reducible assumption) | assumption)) (by have h_ : ((ji19) : Int) < ((x14_1.length : Int) : Int) := of_decide_eq_true (by first | (with_reducible assumption) | assumption); first | exact h_ | (have e_ := (Kd.R_reads' HO_14.out).1; omega) | simpa using h_); obtain rfl := k27_openM hM25; have HP25 := Kd.R_seg HX25.out ((ji19) : Int) (of_decide_eq_true (by first | (with_reducible assumption) | assumption)) (by have h_ : ((ji19) : Int) < ((x14_1.length : Int) : Int) := of_decide_eq_true (by first | (with_reducible assumption) | assumption); first | exact h_ | (have e_ := (Kd.R_reads' HO_14.out).1; omega) | simpa using h_) (seg := [.int .i64 ((rd_T27 y241 x15_1).f0), .int .i64 ((rd_T27 y241 x15_1).f1), .int .i64 ((rd_T27 y241 x15_1).f2), .int .i64 ((rd_T27 y241 x15_1).f3), .int .i64 ((rd_T27 y241 x15_1).f4)]) (j := 0) hcl25 hcc25 (show 5 ≤ 5 from by decide) (x' := (⟨(rd_T27 y241 x15_1).f0, (rd_T27 y241 x15_1).f1, (rd_T27 y241 x15_1).f2, (rd_T27 y241 x15_1).f3, (rd_T27 y241 x15_1).f4⟩ : S27)) (k27_mkM _ _ _ (⟨(rd_T27 y241 x15_1).f0, (rd_T27 y241 x15_1).f1, (rd_T27 y241 x15_1).f2, (rd_T27 y241 x15_1).f3, (rd_T27 y241 x15_1).f4⟩ : S27) ) (fun _ hk => hk); have hx25_0 := hcc25 0 _ rfl; (try simp only [show (k27).sz = 5 from rfl, Nat.mul_one, Nat.add_zero] at hx25_0); have hf25_0 := hfr25 0; (try simp only [show (k27).sz = 5 from rfl, Nat.mul_one, Nat.add_zero] at hf25_0); have hx25_1 := hcc25 1 _ rfl; (try simp only [show (k27).sz = 5 from rfl, Nat.mul_one, Nat.add_zero] at hx25_1); have hf25_1 := hfr25 1; (try simp only [show (k27).sz = 5 from rfl, Nat.mul_one, Nat.add_zero] at hf25_1); have hx25_2 := hcc25 2 _ rfl; (try simp only [show (k27).sz = 5 from rfl, Nat.mul_one, Nat.add_zero] at hx25_2); have hf25_2 := hfr25 2; (try simp only [show (k27).sz = 5 from rfl, Nat.mul_one, Nat.add_zero] at hf25_2); have hx25_3 := hcc25 3 _ rfl; (try simp only [show (k27).sz = 5 from rfl, Nat.mul_one, Nat.add_zero] at hx25_3); have hf25_3 := hfr25 3; (try simp only [show (k27).sz = 5 from rfl, Nat.mul_one, Nat.add_zero] at hf25_3); have hx25_4 := hcc25 4 _ rfl; (try simp only [show (k27).sz = 5 from rfl, Nat.mul_one, Nat.add_zero] at hx25_4); have hf25_4 := hfr25 4; (try simp only [show (k27).sz = 5 from rfl, Nat.mul_one, Nat.add_zero] at hf25_4); clear hcl25 hcc25 hfr25 hM25) | ((with_reducible refine gate_store (t := 27) (p := 49) rfl ?_); refine store_event (t := 27) (p := 49) (v := ?vo_w26) (w1 := (((((w24.setCell ⟨go22, ((ji19) : Int).toNat * 5, none⟩ (.int .i64 ((rd_T27 y241 x15_1).f0))).setCell ⟨go22, ((ji19) : Int).toNat * 5 + 1, none⟩ (.int .i64 ((rd_T27 y241 x15_1).f1))).setCell ⟨go22, ((ji19) : Int).toNat * 5 + 2, none⟩ (.int .i64 ((rd_T27 y241 x15_1).f2))).setCell ⟨go22, ((ji19) : Int).toNat * 5 + 3, none⟩ (.int .i64 ((rd_T27 y241 x15_1).f3))).setCell ⟨go22, ((ji19) : Int).toNat * 5 + 4, none⟩ (.int .i64 ((rd_T27 y241 x15_1).f4)))) ?hg ?ho ?hn ?hr ?_; (case ho => rfl); (case hg => rfl); (case hn => rfl); (case hr => first | (go_simp; done) | (go_simp; rfl)); intro w26 hw; have hg : w24.grownBy w26 (some go22) := (by rw [hw]; exact HP25.2); have hp_ : Kd.R k27 27 w26 w.heap.size (fun k_ => some k_ ≠ (.slice (some ⟨go18, 0, none⟩) x0_1.length co13 : Value).ownBlock) (.slice (some ⟨go22, 0, none⟩) x14_1.length co22) y243 := (by rw [hw, Ny243.out]; exact HP25.1); clear HP25; have n0_ := Aside0.mk (Kd.R_after (v := (.slice (some ⟨go22, 0, none⟩) x14_1.length co22)) (v1 := (.slice (some ⟨go22, 0, none⟩) x14_1.length co22)) (ok := (fun _ => True)) (by (with_reducible repeat (first | apply Kd.R_alloc | apply Kd.R_drewN | apply Kd.R_drew)); exact Kd.R_mono HO_0.out (fun _ hk => ⟨trivial, hk⟩)) hg (.inl rfl)); have n1_ := Aside0.mk (hp_); have n2_ := Aside0.mk ((by rw [hw]; exact below_set (below_set (below_set (below_set (below_set (HB.out) GB22.out) GB22.out) GB22.out) GB22.out) GB22.out : Below w.heap.size w w26)); clear HO_0; clear HO_14; clear HB; have HO_0 := n0_; have HO_14 := n1_; have HB := n2_; clear n0_ n1_ n2_; clear hg hw hp_))
                  (try simp only [← hl0_1])
                  go_roundg k1
                  case measure => have := HK1.out; omega
                  case rel => exact ⟨(y241), (y243), (wrap64 (x15_1 + 1)), (by first | rfl | (simp; done) | (simp [*]; done)), H', ⟨by have := HK1.out; omega⟩, ⟨by (try simp only [hl0_1]); (with_reducible repeat (first | apply Kd.R_alloc | apply Kd.R_drewN | apply Kd.R_drew)); exact Kd.R_mono HO_0.out (fun _ hk => hk.2)⟩, ⟨by (try simp only [hl0_1]); (with_reducible repeat (first | apply Kd.R_alloc | apply Kd.R_drewN | apply Kd.R_drew)); exact HO_14.out⟩, ⟨by repeat (first | (with_reducible first | exact HB.out | apply below_alloc | apply pw_below_drewN | apply below_drew1) | exact HB.out)⟩⟩
                · rw [if_neg c21] at H
                  exact absurd H (by simp)
              · rw [if_neg c20] at H
                exact absurd H (by simp)
            · rw [if_neg c17] at H
              exact absurd H (by simp)
          · rw [if_neg c16] at H
            have c16b0 : decide (x15_1 < (x0_1.length : Int)) = false := decide_eq_false c16
            clear c16
            replace H := Option.bind_eq_some_iff.mp H
            obtain ⟨⟨t244, t245⟩, A270, H⟩ := H
            replace H : ((victim_Choose.f k1 x14_1 a1 a2 a3 a4 a5).bind fun bt248 => (if t234 = true then ((millwrightlaw12_same.f k1 t244 bt248.1).bind fun t252 => (if t252 = true then (some (t245 == bt248.2)) else (some false))) else (some false))) = some r := H
            have A27 := Aside0.mk A270
            clear A270
            replace H := Option.bind_eq_some_iff.mp H
            obtain ⟨⟨t248, t249⟩, A280, H⟩ := H
            replace H : (if t234 = true then ((millwrightlaw12_same.f k1 t244 t248).bind fun t252 => (if t252 = true then (some (t245 == t249)) else (some false))) else (some false)) = some r := H
            have A28 := Aside0.mk A280
            clear A280
            by_cases c29 : t234 = true
            · subst c29
              have H1 : ((millwrightlaw12_same.f k1 t244 t248).bind fun t252 => (if t252 = true then (some (t245 == t249)) else (some false))) = some r := by rw [if_pos rfl] at H; exact H
              clear H
              have H := H1
              clear H1
              replace H := Option.bind_eq_some_iff.mp H
              obtain ⟨t252, A300, H⟩ := H
              replace H : (if t252 = true then (some (t245 == t249)) else (some false)) = some r := H
              have A30 := Aside0.mk A300
              clear A300
              by_cases c31 : t252 = true
              · subst c31
                have H1 : (some (t245 == t249)) = some r := by rw [if_pos rfl] at H; exact H
                clear H
                have H := H1
                clear H1
                obtain rfl := Option.some.inj H
                go_wp2_with (first | ((with_reducible refine gate_callee (f := 10) rfl ?_); refine goesL_ (some 57) rfl rfl Try.func10 (by kernel_rfl) rfl #[.slice Ao13 x0_1.length co13, .int .i64 a1, .int .i64 a2, .int .i64 a3, .int .i64 a4, .int .i64 a5] rfl (by (try simp only [List.map_toArray, List.map_cons, List.map_nil]); first | done | rfl | (simp only [List.length_drop, List.length_take]; rfl)) ?_; (with_reducible refine (victim_Choose.calls k1 _ _ x0_1 a1 a2 a3 a4 a5 t244 t245 _ ?side1 ?side2 A27.out).mono ?_); (case side1 => repeat (first | exact (Kd.R_reads' HO_0.out).2.2 | (with_reducible refine Kd.C_alloc ?_ _) | (with_reducible refine Kd.C_drewN ?_ _) | (with_reducible refine Kd.C_drew ?_))); (case side2 => exact (Kd.R_reads' HO_0.out).2.1); rintro e w32 ⟨v246, rfl, ho0, hb⟩; refine ⟨_, rfl, ?_⟩; have n0_ := Aside0.mk (Kd.R_below (by (with_reducible repeat (first | apply Kd.R_alloc | apply Kd.R_drewN | apply Kd.R_drew)); exact HO_0.out) hb); have n1_ := Aside0.mk (Kd.R_below (by (with_reducible repeat (first | apply Kd.R_alloc | apply Kd.R_drewN | apply Kd.R_drew)); exact HO_14.out) hb); have n2_ := Aside0.mk (Kd.R_lower ho0 (below_size (by repeat (first | (with_reducible first | exact HB.out | apply below_alloc | apply pw_below_drewN | apply below_drew1) | exact HB.out)))); have n3_ := Aside0.mk (below_step (by repeat (first | (with_reducible first | exact HB.out | apply below_alloc | apply pw_below_drewN | apply below_drew1) | exact HB.out)) hb); clear HO_0; clear HO_14; clear HB; have HO_0 := n0_; have HO_14 := n1_; have HO247 := n2_; have HB := n3_; clear n0_ n1_ n2_ n3_; (try clear hb); (try clear hb2); (try clear hk); (try clear hi); (try clear ho0); obtain ⟨Ao33, co33, eo33⟩ := Kd.R_slice HO_14.out; subst eo33) | ((with_reducible refine gate_callee (f := 10) rfl ?_); refine goesL_ (some 67) rfl rfl Try.func10 (by kernel_rfl) rfl #[.slice Ao33 x14_1.length co33, .int .i64 a1, .int .i64 a2, .int .i64 a3, .int .i64 a4, .int .i64 a5] rfl (by (try simp only [List.map_toArray, List.map_cons, List.map_nil]); first | done | rfl | (simp only [List.length_drop, List.length_take]; rfl)) ?_; (with_reducible refine (victim_Choose.calls k1 _ _ x14_1 a1 a2 a3 a4 a5 t248 t249 _ ?side1 ?side2 A28.out).mono ?_); (case side1 => repeat (first | exact (Kd.R_reads' HO_14.out).2.2 | (with_reducible refine Kd.C_alloc ?_ _) | (with_reducible refine Kd.C_drewN ?_ _) | (with_reducible refine Kd.C_drew ?_))); (case side2 => exact (Kd.R_reads' HO_14.out).2.1); rintro e w34 ⟨v250, rfl, ho0, hb⟩; refine ⟨_, rfl, ?_⟩; have n0_ := Aside0.mk (Kd.R_below (by (with_reducible repeat (first | apply Kd.R_alloc | apply Kd.R_drewN | apply Kd.R_drew)); exact HO_0.out) hb); have n1_ := Aside0.mk (Kd.R_below (by (with_reducible repeat (first | apply Kd.R_alloc | apply Kd.R_drewN | apply Kd.R_drew)); exact HO_14.out) hb); have n2_ := Aside0.mk (Kd.R_elder' (by (with_reducible repeat (first | apply Kd.R_alloc | apply Kd.R_drewN | apply Kd.R_drew)); exact HO247.out) (Kd.R_base ho0) hb); have n3_ := Aside0.mk (Kd.R_lower (Kd.R_new' ho0 (Kd.R_lt (by (with_reducible repeat (first | apply Kd.R_alloc | apply Kd.R_drewN | apply Kd.R_drew)); exact HO247.out))) (below_size (by repeat (first | (with_reducible first | exact HB.out | apply below_alloc | apply pw_below_drewN | apply below_drew1) | exact HB.out)))); have n4_ := Aside0.mk (below_step (by repeat (first | (with_reducible first | exact HB.out | apply below_alloc | apply pw_below_drewN | apply below_drew1) | exact HB.out)) hb); clear HO_0; clear HO_14; clear HO247; clear HB; have HO_0 := n0_; have HO_14 := n1_; have HO247 := n2_; have HO251 := n3_; have HB := n4_; clear n0_ n1_ n2_ n3_ n4_; (try clear hb); (try clear hb2); (try clear hk); (try clear hi); (try clear ho0); obtain ⟨Ao35, co35, eo35⟩ := Kd.R_slice HO247.out; subst eo35; obtain ⟨Ao36, co36, eo36⟩ := Kd.R_slice HO251.out; subst eo36) | (go_at_call 12; (with_reducible refine (millwrightlaw12_same.calls k1 _ _ t244 _ _ t248 true _ ?side1 ?side2 ?side3 ?side4 A30.out).mono ?_); (case side1 => repeat (first | exact (Kd.R_reads' HO247.out).2.2 | (with_reducible refine Kd.C_alloc ?_ _) | (with_reducible refine Kd.C_drewN ?_ _) | (with_reducible refine Kd.C_drew ?_))); (case side2 => exact (Kd.R_reads' HO247.out).2.1); (case side3 => repeat (first | exact (Kd.R_reads' HO251.out).2.2 | (with_reducible refine Kd.C_alloc ?_ _) | (with_reducible refine Kd.C_drewN ?_ _) | (with_reducible refine Kd.C_drew ?_))); (case side4 => exact (Kd.R_reads' HO251.out).2.1); rintro e w' ⟨rfl, ⟨nd, rfl⟩⟩))
                go_ret
                exact ⟨by first | rfl | (simp [errW_none, errW_some] <;> rfl) | (simp [*, errW_none, errW_some] <;> rfl), by repeat (first | (with_reducible first | exact HB.out | apply below_alloc | apply pw_below_drewN | apply below_drew1) | exact HB.out)⟩
              · replace c31 := Bool.eq_false_iff.mpr c31
                subst c31
                have H1 : (some false) = some r := by rw [if_neg (show ¬ (false = true) by decide)] at H; exact H
                clear H
                have H := H1
                clear H1
                obtain rfl := Option.some.inj H
                go_wp2_with (first | ((with_reducible refine gate_callee (f := 10) rfl ?_); refine goesL_ (some 57) rfl rfl Try.func10 (by kernel_rfl) rfl #[.slice Ao13 x0_1.length co13, .int .i64 a1, .int .i64 a2, .int .i64 a3, .int .i64 a4, .int .i64 a5] rfl (by (try simp only [List.map_toArray, List.map_cons, List.map_nil]); first | done | rfl | (simp only [List.length_drop, List.length_take]; rfl)) ?_; (with_reducible refine (victim_Choose.calls k1 _ _ x0_1 a1 a2 a3 a4 a5 t244 t245 _ ?side1 ?side2 A27.out).mono ?_); (case side1 => repeat (first | exact (Kd.R_reads' HO_0.out).2.2 | (with_reducible refine Kd.C_alloc ?_ _) | (with_reducible refine Kd.C_drewN ?_ _) | (with_reducible refine Kd.C_drew ?_))); (case side2 => exact (Kd.R_reads' HO_0.out).2.1); rintro e w37 ⟨v246, rfl, ho0, hb⟩; refine ⟨_, rfl, ?_⟩; have n0_ := Aside0.mk (Kd.R_below (by (with_reducible repeat (first | apply Kd.R_alloc | apply Kd.R_drewN | apply Kd.R_drew)); exact HO_0.out) hb); have n1_ := Aside0.mk (Kd.R_below (by (with_reducible repeat (first | apply Kd.R_alloc | apply Kd.R_drewN | apply Kd.R_drew)); exact HO_14.out) hb); have n2_ := Aside0.mk (Kd.R_lower ho0 (below_size (by repeat (first | (with_reducible first | exact HB.out | apply below_alloc | apply pw_below_drewN | apply below_drew1) | exact HB.out)))); have n3_ := Aside0.mk (below_step (by repeat (first | (with_reducible first | exact HB.out | apply below_alloc | apply pw_below_drewN | apply below_drew1) | exact HB.out)) hb); clear HO_0; clear HO_14; clear HB; have HO_0 := n0_; have HO_14 := n1_; have HO247 := n2_; have HB := n3_; clear n0_ n1_ n2_ n3_; (try clear hb); (try clear hb2); (try clear hk); (try clear hi); (try clear ho0); obtain ⟨Ao38, co38, eo38⟩ := Kd.R_slice HO_14.out; subst eo38) | ((with_reducible refine gate_callee (f := 10) rfl ?_); refine goesL_ (some 67) rfl rfl Try.func10 (by kernel_rfl) rfl #[.slice Ao38 x14_1.length co38, .int .i64 a1, .int .i64 a2, .int .i64 a3, .int .i64 a4, .int .i64 a5] rfl (by (try simp only [List.map_toArray, List.map_cons, List.map_nil]); first | done | rfl | (simp only [List.length_drop, List.length_take]; rfl)) ?_; (with_reducible refine (victim_Choose.calls k1 _ _ x14_1 a1 a2 a3 a4 a5 t248 t249 _ ?side1 ?side2 A28.out).mono ?_); (case side1 => repeat (first | exact (Kd.R_reads' HO_14.out).2.2 | (with_reducible refine Kd.C_alloc ?_ _) | (with_reducible refine Kd.C_drewN ?_ _) | (with_reducible refine Kd.C_drew ?_))); (case side2 => exact (Kd.R_reads' HO_14.out).2.1); rintro e w39 ⟨v250, rfl, ho0, hb⟩; refine ⟨_, rfl, ?_⟩; have n0_ := Aside0.mk (Kd.R_below (by (with_reducible repeat (first | apply Kd.R_alloc | apply Kd.R_drewN | apply Kd.R_drew)); exact HO_0.out) hb); have n1_ := Aside0.mk (Kd.R_below (by (with_reducible repeat (first | apply Kd.R_alloc | apply Kd.R_drewN | apply Kd.R_drew)); exact HO_14.out) hb); have n2_ := Aside0.mk (Kd.R_elder' (by (with_reducible repeat (first | apply Kd.R_alloc | apply Kd.R_drewN | apply Kd.R_drew)); exact HO247.out) (Kd.R_base ho0) hb); have n3_ := Aside0.mk (Kd.R_lower (Kd.R_new' ho0 (Kd.R_lt (by (with_reducible repeat (first | apply Kd.R_alloc | apply Kd.R_drewN | apply Kd.R_drew)); exact HO247.out))) (below_size (by repeat (first | (with_reducible first | exact HB.out | apply below_alloc | apply pw_below_drewN | apply below_drew1) | exact HB.out)))); have n4_ := Aside0.mk (below_step (by repeat (first | (with_reducible first | exact HB.out | apply below_alloc | apply pw_below_drewN | apply below_drew1) | exact HB.out)) hb); clear HO_0; clear HO_14; clear HO247; clear HB; have HO_0 := n0_; have HO_14 := n1_; have HO247 := n2_; have HO251 := n3_; have HB := n4_; clear n0_ n1_ n2_ n3_ n4_; (try clear hb); (try clear hb2); (try clear hk); (try clear hi); (try clear ho0); obtain ⟨Ao40, co40, eo40⟩ := Kd.R_slice HO247.out; subst eo40; obtain ⟨Ao41, co41, eo41⟩ := Kd.R_slice HO251.out; subst eo41) | (go_at_call 12; (with_reducible refine (millwrightlaw12_same.calls k1 _ _ t244 _ _ t248 false _ ?side1 ?side2 ?side3 ?side4 A30.out).mono ?_); (case side1 => repeat (first | exact (Kd.R_reads' HO247.out).2.2 | (with_reducible refine Kd.C_alloc ?_ _) | (with_reducible refine Kd.C_drewN ?_ _) | (with_reducible refine Kd.C_drew ?_))); (case side2 => exact (Kd.R_reads' HO247.out).2.1); (case side3 => repeat (first | exact (Kd.R_reads' HO251.out).2.2 | (with_reducible refine Kd.C_alloc ?_ _) | (with_reducible refine Kd.C_drewN ?_ _) | (with_reducible refine Kd.C_drew ?_))); (case side4 => exact (Kd.R_reads' HO251.out).2.1); rintro e w' ⟨rfl, ⟨nd, rfl⟩⟩))
                go_ret
                exact ⟨by first | rfl | (simp [errW_none, errW_some] <;> rfl) | (simp [*, errW_none, errW_some] <;> rfl), by repeat (first | (with_reducible first | exact HB.out | apply below_alloc | apply pw_below_drewN | apply below_drew1) | exact HB.out)⟩
            · replace c29 := Bool.eq_false_iff.mpr c29
              subst c29
              have H1 : (some false) = some r := by rw [if_neg (show ¬ (false = true) by decide)] at H; exact H
              clear H
              have H := H1
              clear H1
              obtain rfl := Option.some.inj H
              go_wp2_with (first | ((with_reducible refine gate_callee (f := 10) rfl ?_); refine goesL_ (some 57) rfl rfl Try.func10 (by kernel_rfl) rfl #[.slice Ao13 x0_1.length co13, .int .i64 a1, .int .i64 a2, .int .i64 a3, .int .i64 a4, .int .i64 a5] rfl (by (try simp only [List.map_toArray, List.map_cons, List.map_nil]); first | done | rfl | (simp only [List.length_drop, List.length_take]; rfl)) ?_; (with_reducible refine (victim_Choose.calls k1 _ _ x0_1 a1 a2 a3 a4 a5 t244 t245 _ ?side1 ?side2 A27.out).mono ?_); (case side1 => repeat (first | exact (Kd.R_reads' HO_0.out).2.2 | (with_reducible refine Kd.C_alloc ?_ _) | (with_reducible refine Kd.C_drewN ?_ _) | (with_reducible refine Kd.C_drew ?_))); (case side2 => exact (Kd.R_reads' HO_0.out).2.1); rintro e w42 ⟨v246, rfl, ho0, hb⟩; refine ⟨_, rfl, ?_⟩; have n0_ := Aside0.mk (Kd.R_below (by (with_reducible repeat (first | apply Kd.R_alloc | apply Kd.R_drewN | apply Kd.R_drew)); exact HO_0.out) hb); have n1_ := Aside0.mk (Kd.R_below (by (with_reducible repeat (first | apply Kd.R_alloc | apply Kd.R_drewN | apply Kd.R_drew)); exact HO_14.out) hb); have n2_ := Aside0.mk (Kd.R_lower ho0 (below_size (by repeat (first | (with_reducible first | exact HB.out | apply below_alloc | apply pw_below_drewN | apply below_drew1) | exact HB.out)))); have n3_ := Aside0.mk (below_step (by repeat (first | (with_reducible first | exact HB.out | apply below_alloc | apply pw_below_drewN | apply below_drew1) | exact HB.out)) hb); clear HO_0; clear HO_14; clear HB; have HO_0 := n0_; have HO_14 := n1_; have HO247 := n2_; have HB := n3_; clear n0_ n1_ n2_ n3_; (try clear hb); (try clear hb2); (try clear hk); (try clear hi); (try clear ho0); obtain ⟨Ao43, co43, eo43⟩ := Kd.R_slice HO_14.out; subst eo43) | ((with_reducible refine gate_callee (f := 10) rfl ?_); refine goesL_ (some 67) rfl rfl Try.func10 (by kernel_rfl) rfl #[.slice Ao43 x14_1.length co43, .int .i64 a1, .int .i64 a2, .int .i64 a3, .int .i64 a4, .int .i64 a5] rfl (by (try simp only [List.map_toArray, List.map_cons, List.map_nil]); first | done | rfl | (simp only [List.length_drop, List.length_take]; rfl)) ?_; (with_reducible refine (victim_Choose.calls k1 _ _ x14_1 a1 a2 a3 a4 a5 t248 t249 _ ?side1 ?side2 A28.out).mono ?_); (case side1 => repeat (first | exact (Kd.R_reads' HO_14.out).2.2 | (with_reducible refine Kd.C_alloc ?_ _) | (with_reducible refine Kd.C_drewN ?_ _) | (with_reducible refine Kd.C_drew ?_))); (case side2 => exact (Kd.R_reads' HO_14.out).2.1); rintro e w44 ⟨v250, rfl, ho0, hb⟩; refine ⟨_, rfl, ?_⟩; have n0_ := Aside0.mk (Kd.R_below (by (with_reducible repeat (first | apply Kd.R_alloc | apply Kd.R_drewN | apply Kd.R_drew)); exact HO_0.out) hb); have n1_ := Aside0.mk (Kd.R_below (by (with_reducible repeat (first | apply Kd.R_alloc | apply Kd.R_drewN | apply Kd.R_drew)); exact HO_14.out) hb); have n2_ := Aside0.mk (Kd.R_elder' (by (with_reducible repeat (first | apply Kd.R_alloc | apply Kd.R_drewN | apply Kd.R_drew)); exact HO247.out) (Kd.R_base ho0) hb); have n3_ := Aside0.mk (Kd.R_lower (Kd.R_new' ho0 (Kd.R_lt (by (with_reducible repeat (first | apply Kd.R_alloc | apply Kd.R_drewN | apply Kd.R_drew)); exact HO247.out))) (below_size (by repeat (first | (with_reducible first | exact HB.out | apply below_alloc | apply pw_below_drewN | apply below_drew1) | exact HB.out)))); have n4_ := Aside0.mk (below_step (by repeat (first | (with_reducible first | exact HB.out | apply below_alloc | apply pw_below_drewN | apply below_drew1) | exact HB.out)) hb); clear HO_0; clear HO_14; clear HO247; clear HB; have HO_0 := n0_; have HO_14 := n1_; have HO247 := n2_; have HO251 := n3_; have HB := n4_; clear n0_ n1_ n2_ n3_ n4_; (try clear hb); (try clear hb2); (try clear hk); (try clear hi); (try clear ho0)))
              go_ret
              exact ⟨by first | rfl | (simp [errW_none, errW_some] <;> rfl) | (simp [*, errW_none, errW_some] <;> rfl), by repeat (first | (with_reducible first | exact HB.out | apply below_alloc | apply pw_below_drewN | apply below_drew1) | exact HB.out)⟩
    · rw [if_neg c10] at H
      exact absurd H (by simp)
  · rw [if_neg c9] at H
    exact absurd H (by simp)

end Go.Proofs.Ytnegchdooapoiaa.PVic
