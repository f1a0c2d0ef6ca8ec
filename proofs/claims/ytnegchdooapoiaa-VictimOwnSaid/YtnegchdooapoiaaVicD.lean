/- Lemmas for the walks. No condition. -/
import Derived.Test.YtnegchdooapoiaaPVicx2
import Derived.Test.YtnegchdooapoiaaVicK
import Derived.Test.YtnegchdooapoiaaPVicx0
namespace Go.Proofs.Ytnegchdooapoiaa.PVic
open Go.RowKit Go.Proofs.YtnegchdooapoiaaW.PrintWords Go.Proofs.YtnegchdooapoiaaW.PrintLast Go.Proofs.YtnegchdooapoiaaW.PrintMore
attribute [local go_sem] max2_int min2_int max_two min_two max_three min_three max_four min_four   -- for this text's walks alone
set_option linter.unusedVariables false
set_option linter.unusedSimpArgs false
def victim_Run_14.l0 : Nat → List (S27) → Nd → Int → Int → Option ((List (S27)))
  | 0, _, _, _, _ => none
  | k + 1, x0, x1, x5, x6 => if x6 < (x0.length : Int) then (if 0 ≤ x6 then ((victim_need_spares.f x1 ((rd_T27 x0 x6).f0) ((rd_T27 x0 x6).f1) ((rd_T27 x0 x6).f2) ((rd_T27 x0 x6).f3) ((rd_T27 x0 x6).f4)).bind fun t106 => (if t106 = true then (victim_Run_14.l0 k x0 x1 x5 (wrap64 (x6 + 1))) else (if 0 ≤ x5 then (if x5 < (x0.length : Int) then (victim_Run_14.l0 k (x0.set (x5 : Int).toNat (⟨(rd_T27 x0 x6).f0, (rd_T27 x0 x6).f1, (rd_T27 x0 x6).f2, (rd_T27 x0 x6).f3, (rd_T27 x0 x6).f4⟩ : S27)) x1 (wrap64 (x5 + 1)) (wrap64 (x6 + 1))) else (none)) else (none)))) else (none)) else (if 0 ≤ x5 then (if x5 ≤ (x0.length : Int) then (some (x0.take (x5 : Int).toNat)) else (none)) else (none))
def victim_Run_14.f (k : Nat) (l0 : List (S27)) (a1 : Nd) : Option ((List (S27))) := (victim_Run_22.f k l0 a1).bind fun t103 => (if t103 = (-1) then (some l0) else (victim_Run_14.l0 k l0 a1 t103 (wrap64 (t103 + 1))))
theorem victim_Run_14.mono_l : ∀ k, (∀ y0 y1 y2 y3, LeO (victim_Run_14.l0 k y0 y1 y2 y3) (victim_Run_14.l0 (k + 1) y0 y1 y2 y3))
  | 0 => fun _ _ _ _ r h => by simp [victim_Run_14.l0] at h
  | k + 1 => by
    have ih0 := victim_Run_14.mono_l k
    · intro y0 y1 y2 y3
      unfold victim_Run_14.l0
      repeat' first
      | (with_reducible exact ih0 _ _ _ _)
      | (with_reducible exact victim_Run_22.mono _ _ _)
      | (with_reducible exact LeO.refl _)
      | (with_reducible exact LeO.none _)
      | (with_reducible refine LeO.ite ?_ ?_)
      | (with_reducible refine LeO.bind ?_ (fun _ => ?_))
      | exact ih0 _ _ _ _
      | exact victim_Run_22.mono _ _ _
      | exact LeO.none _
      | refine LeO.ite ?_ ?_
      | refine LeO.bind ?_ (fun _ => ?_)
theorem victim_Run_14.mono : ∀ a0 a1 k, LeO (victim_Run_14.f k a0 a1) (victim_Run_14.f (k + 1) a0 a1) := by
  intro a0 a1 k
  have ih0 := victim_Run_14.mono_l k
  unfold victim_Run_14.f
  repeat' first
      | (with_reducible exact ih0 _ _ _ _)
      | (with_reducible exact victim_Run_22.mono _ _ _)
      | (with_reducible exact LeO.refl _)
      | (with_reducible exact LeO.none _)
      | (with_reducible refine LeO.ite ?_ ?_)
      | (with_reducible refine LeO.bind ?_ (fun _ => ?_))
      | exact ih0 _ _ _ _
      | exact victim_Run_22.mono _ _ _
      | exact LeO.none _
      | refine LeO.ite ?_ ?_
      | refine LeO.bind ?_ (fun _ => ?_)
theorem zero27 : ∀ w : World, (zeroValue 27).run Try.prog w = .ok (.agg #[.int .i64 0, .int .i64 0, .int .i64 0, .int .i64 0, .int .i64 0]) w := fun w => by go_simp
theorem one27 : ∀ q ∈ (Value.agg #[.int .i64 0, .int .i64 0, .int .i64 0, .int .i64 0, .int .i64 0]).cells.toList, q.oneCell' = true := fun q hq => by
  have h : q = .int .i64 0 := by simpa [Value.cells] using hq
  subst h
  rfl
set_option maxHeartbeats 8000000 in
set_option maxRecDepth 100000 in
theorem victim_Run_14.calls (k : Nat) (P0_ : Nat → Prop) (u9000_ : Value) (l0 : List (S27)) (a1 : Nd) (r : List (S27)) (w0 w : World) (hB : Below w0.heap.size w0 w) (ho0 : Kd.R k27 27 w w0.heap.size P0_ u9000_ l0) (h : victim_Run_14.f k l0 a1 = some r) :
    Calls Try.prog 14 #[u9000_, .func (.func 16) #[.agg #[.int .i64 a1.p, .int .i64 a1.m, .int .i64 a1.q]] #[]] w fun e w' => ∃ v0_ : Value, e = .returned (v0_) ∧ Kd.R k27 27 w' w0.heap.size (fun k_ => (P0_ k_ ∨ w.heap.size ≤ k_)) v0_ r ∧ Below w0.heap.size w0 w' ∧ Kept w w' (fun k_ => P0_ k_) := by
  have hu27 := Try.underlying27
  have HO0 := Aside0.mk (show Kd.R k27 27 w w0.heap.size (fun k_ => (P0_ k_ ∨ w.heap.size ≤ k_)) u9000_ l0 from Kd.R_mono ho0 (fun k_ hk => (.inl hk)))
  have HK := Aside0.mk (Kept.refl w (fun k_ => P0_ k_))
  have HW0 := Aside0.mk hB.size
  have HB := Aside0.mk hB
  clear hB
  have H : ((victim_Run_22.f k l0 a1).bind fun t103 => (if t103 = (-1) then (some l0) else (victim_Run_14.l0 k l0 a1 t103 (wrap64 (t103 + 1))))) = some r := h
  clear h
  replace H := Option.bind_eq_some_iff.mp H
  obtain ⟨t103, A30, H⟩ := H
  replace H : (if t103 = (-1) then (some l0) else (victim_Run_14.l0 k l0 a1 t103 (wrap64 (t103 + 1)))) = some r := H
  have A3 := Aside0.mk A30
  clear A30
  by_cases c4 : t103 = (-1)
  · rw [if_pos c4] at H
    have c4b0 : (t103 == (-1)) = true := beq_iff_eq.mpr c4
    have c4b1 : (t103 != (-1)) = false := bne_eq_false_iff_eq.mpr c4
    clear c4
    obtain rfl := Option.some.inj H
    obtain ⟨Ao5, co5, eo5⟩ := Kd.R_slice HO0.out
    subst eo5
    go_enter Try.func14, Try.ntmps14
    go_wp2_with (first | ((with_reducible refine gate_callee (f := 22) rfl ?_); refine goesL_ (some 10) rfl rfl Try.func22 (by kernel_rfl) rfl #[.slice Ao5 l0.length co5, .func (.func 16) #[.agg #[.int .i64 a1.p, .int .i64 a1.m, .int .i64 a1.q]] #[]] rfl (by (try simp only [List.map_toArray, List.map_cons, List.map_nil]); first | done | rfl | (simp only [List.length_drop, List.length_take]; rfl)) ?_; (with_reducible refine (victim_Run_22.calls k _ _ l0 a1 t103 _ ?side1 ?side2 A3.out).mono ?_); (case side1 => repeat (first | exact (Kd.R_reads' HO0.out).2.2 | (with_reducible refine Kd.C_alloc ?_ _) | (with_reducible refine Kd.C_drewN ?_ _) | (with_reducible refine Kd.C_drew ?_))); (case side2 => exact (Kd.R_reads' HO0.out).2.1); rintro e w6 ⟨rfl, hb⟩; refine ⟨_, rfl, ?_⟩; have n0_ := Aside0.mk (Kd.R_below (by (with_reducible repeat (first | apply Kd.R_alloc | apply Kd.R_drewN | apply Kd.R_drew)); exact HO0.out) hb); have n1_ := Aside0.mk (Kept.below (S := (fun k_ => P0_ k_)) (by repeat (first | (with_reducible first | exact HK.out | apply Kept.alloc | apply Kept.drewN | apply Kept.drew) | exact HK.out)) hb); have n2_ := Aside0.mk (below_step (by repeat (first | (with_reducible first | exact HB.out | apply below_alloc | apply pw_below_drewN | apply below_drew1) | exact HB.out)) hb); clear HO0; clear HK; clear HB; have HO0 := n0_; have HK := n1_; have HB := n2_; clear n0_ n1_ n2_; (try clear hb); (try clear hb2); (try clear hk); (try clear hi)))
    go_ret
    exact ⟨_, by first | rfl | (simp [errW_none, errW_some] <;> rfl) | (simp [*, errW_none, errW_some] <;> rfl), by (with_reducible repeat (first | apply Kd.R_alloc | apply Kd.R_drewN | apply Kd.R_drew)); exact HO0.out, by repeat (first | (with_reducible first | exact HB.out | apply below_alloc | apply pw_below_drewN | apply below_drew1) | exact HB.out), by repeat (first | (with_reducible first | exact HK.out | apply Kept.alloc | apply Kept.drewN | apply Kept.drew) | exact HK.out)⟩
  · rw [if_neg c4] at H
    have c4b0 : (t103 == (-1)) = false := beq_eq_false_iff_ne.mpr c4
    have c4b1 : (t103 != (-1)) = true := bne_iff_ne.mpr c4
    have H' := Aside0.mk H
    clear H
    obtain ⟨Ao7, co7, eo7⟩ := Kd.R_slice HO0.out
    subst eo7
    go_enter Try.func14, Try.ntmps14
    go_wp2_with (first | ((with_reducible refine gate_callee (f := 22) rfl ?_); refine goesL_ (some 10) rfl rfl Try.func22 (by kernel_rfl) rfl #[.slice Ao7 l0.length co7, .func (.func 16) #[.agg #[.int .i64 a1.p, .int .i64 a1.m, .int .i64 a1.q]] #[]] rfl (by (try simp only [List.map_toArray, List.map_cons, List.map_nil]); first | done | rfl | (simp only [List.length_drop, List.length_take]; rfl)) ?_; (with_reducible refine (victim_Run_22.calls k _ _ l0 a1 t103 _ ?side1 ?side2 A3.out).mono ?_); (case side1 => repeat (first | exact (Kd.R_reads' HO0.out).2.2 | (with_reducible refine Kd.C_alloc ?_ _) | (with_reducible refine Kd.C_drewN ?_ _) | (with_reducible refine Kd.C_drew ?_))); (case side2 => exact (Kd.R_reads' HO0.out).2.1); rintro e w8 ⟨rfl, hb⟩; refine ⟨_, rfl, ?_⟩; have n0_ := Aside0.mk (Kd.R_below (by (with_reducible repeat (first | apply Kd.R_alloc | apply Kd.R_drewN | apply Kd.R_drew)); exact HO0.out) hb); have n1_ := Aside0.mk (Kept.below (S := (fun k_ => P0_ k_)) (by repeat (first | (with_reducible first | exact HK.out | apply Kept.alloc | apply Kept.drewN | apply Kept.drew) | exact HK.out)) hb); have n2_ := Aside0.mk (below_step (by repeat (first | (with_reducible first | exact HB.out | apply below_alloc | apply pw_below_drewN | apply below_drew1) | exact HB.out)) hb); clear HO0; clear HK; clear HB; have HO0 := n0_; have HK := n1_; have HB := n2_; clear n0_ n1_ n2_; (try clear hb); (try clear hb2); (try clear hk); (try clear hi)))
    go_loopg [5, 6] k (fun kq v5 v6 w' => ∃ (x0_1 : List (S27)) (x5_1 : Int) (x6_1 : Int), v5 = .int .i64 x5_1 ∧ v6 = .int .i64 x6_1 ∧ Aside0 (victim_Run_14.l0 kq x0_1 a1 x5_1 x6_1 = some r) ∧ Aside0 (kq ≤ k) ∧ Aside0 (Kd.R k27 27 w' w0.heap.size (fun k_ => (P0_ k_ ∨ w.heap.size ≤ k_)) (.slice Ao7 l0.length co7) x0_1) ∧ Aside0 (Kept w w' (fun k_ => P0_ k_)) ∧ Aside0 (Below w0.heap.size w0 w'))
    case atStart => exact ⟨(l0), (t103), (wrap64 (t103 + 1)), (by first | rfl | (simp; done) | (simp [*]; done)), (by first | rfl | (simp; done) | (simp [*]; done)), H', ⟨Nat.le_refl _⟩, ⟨by (with_reducible repeat (first | apply Kd.R_alloc | apply Kd.R_drewN | apply Kd.R_drew)); exact HO0.out⟩, ⟨by repeat (first | (with_reducible first | exact HK.out | apply Kept.alloc | apply Kept.drewN | apply Kept.drew) | exact HK.out)⟩, ⟨by repeat (first | (with_reducible first | exact HB.out | apply below_alloc | apply pw_below_drewN | apply below_drew1) | exact HB.out)⟩⟩
    case round =>
      clear H'
      try clear c1
      try clear c2
      try clear p2
      try clear c4
      try clear c4b0
      try clear c4b1
      try clear p6
      obtain ⟨x0_1, x5_1, x6_1, rfl, rfl, HA, HK1, HO_0, HK, HB⟩ := hrel
      have hl0_1 := (Kd.R_reads' HO_0.out).1
      rw [hl0_1] at HO_0
      (try simp only [hl0_1])
      cases gk with
      | zero => exact absurd HA.out (by simp [victim_Run_14.l0])
      | succ k1 =>
        have H := HA.out
        clear HA
        simp only [victim_Run_14.l0] at H
        by_cases c9 : x6_1 < (x0_1.length : Int)
        · rw [if_pos c9] at H
          have c9b0 : decide (x6_1 < (x0_1.length : Int)) = true := decide_eq_true c9
          clear c9
          by_cases c10 : 0 ≤ x6_1
          · rw [if_pos c10] at H
            have c10b0 : decide (0 ≤ x6_1) = true := decide_eq_true c10
            clear c10
            replace H := Option.bind_eq_some_iff.mp H
            obtain ⟨t106, A110, H⟩ := H
            replace H : (if t106 = true then (victim_Run_14.l0 k1 x0_1 a1 x5_1 (wrap64 (x6_1 + 1))) else (if 0 ≤ x5_1 then (if x5_1 < (x0_1.length : Int) then (victim_Run_14.l0 k1 (x0_1.set (x5_1 : Int).toNat (⟨(rd_T27 x0_1 x6_1).f0, (rd_T27 x0_1 x6_1).f1, (rd_T27 x0_1 x6_1).f2, (rd_T27 x0_1 x6_1).f3, (rd_T27 x0_1 x6_1).f4⟩ : S27)) a1 (wrap64 (x5_1 + 1)) (wrap64 (x6_1 + 1))) else (none)) else (none))) = some r := H
            have A11 := Aside0.mk A110
            clear A110
            by_cases c12 : t106 = true
            · subst c12
              have H1 : (victim_Run_14.l0 k1 x0_1 a1 x5_1 (wrap64 (x6_1 + 1))) = some r := by rw [if_pos rfl] at H; exact H
              clear H
              have H := H1
              clear H1
              have H' := Aside0.mk H
              clear H
              have p104 : 0 ≤ (x6_1 : Int) := of_decide_eq_true (by first | (with_reducible assumption) | assumption)
              have q104 : x6_1 < (x0_1.length : Int) := of_decide_eq_true (by first | (with_reducible assumption) | assumption)
              obtain ⟨ad104, e104, hx104_0, hx104_1, hx104_2, hx104_3, hx104_4⟩ := at_T27 (Kd.R_reads' HO_0.out).2.2 x6_1 p104 q104
              cases e104
              replace p104 := eq_true p104
              replace q104 := eq_true q104
              go_wp2_with (first | ((with_reducible refine gate_dst (N := 7) rfl ?_); refine box_event ?hg (N := 7) ?hd (cs := #[.int .i64 0, .int .i64 0, .int .i64 0, .int .i64 0, .int .i64 0]) (t := 27) ?hr ?_; (case hd => rfl); (case hg => rfl); (case hr => first | (go_simp; done) | (go_simp; rfl)); intro gb105 hg w13 hbox hb; have n0_ := Aside0.mk (Kd.R_below (Kd.R_elderB (by (with_reducible repeat (first | apply Kd.R_alloc | apply Kd.R_drewN | apply Kd.R_drew)); exact HO_0.out) gb105 (Nat.le_of_eq hg.symm)) hb); have n1_ := Aside0.mk (Kept.below (S := (fun k_ => P0_ k_)) (by repeat (first | (with_reducible first | exact HK.out | apply Kept.alloc | apply Kept.drewN | apply Kept.drew) | exact HK.out)) hb); have n2_ := Aside0.mk (below_step (by repeat (first | (with_reducible first | exact HB.out | apply below_alloc | apply pw_below_drewN | apply below_drew1) | exact HB.out)) hb); have n3_ := Aside0.mk (hbox); have n4_ := Aside0.mk ((by rw [hg]; exact (by first | exact HK.out.1 | exact (show Kept w _ (fun k_ => P0_ k_) from by repeat (first | (with_reducible first | exact HK.out | apply Kept.alloc | apply Kept.drewN | apply Kept.drew) | exact HK.out)).1) : w.heap.size ≤ gb105)); have n5_ := Aside0.mk ((by rw [hg]; exact (below_size (by repeat (first | (with_reducible first | exact HB.out | apply below_alloc | apply pw_below_drewN | apply below_drew1) | exact HB.out))) : w0.heap.size ≤ gb105)); clear HO_0; clear HK; clear HB; have HO_0 := n0_; have HK := n1_; have HB := n2_; have BK105 := n3_; have GW105 := n4_; have GE105 := n5_; clear n0_ n1_ n2_ n3_ n4_ n5_; clear hb hbox hg; have hcz14_0 : w13.cell? ⟨gb105, 0, none⟩ = some (.int .i64 0) := (blk_cell BK105.out 0).trans rfl; have hcz14_1 : w13.cell? ⟨gb105, 1, none⟩ = some (.int .i64 0) := (blk_cell BK105.out 1).trans rfl; have hcz14_2 : w13.cell? ⟨gb105, 2, none⟩ = some (.int .i64 0) := (blk_cell BK105.out 2).trans rfl; have hcz14_3 : w13.cell? ⟨gb105, 3, none⟩ = some (.int .i64 0) := (blk_cell BK105.out 3).trans rfl; have hcz14_4 : w13.cell? ⟨gb105, 4, none⟩ = some (.int .i64 0) := (blk_cell BK105.out 4).trans rfl; have hfz14_0 := blk_frozen BK105.out 0; have hfz14_1 := blk_frozen BK105.out 1; have hfz14_2 := blk_frozen BK105.out 2; have hfz14_3 := blk_frozen BK105.out 3; have hfz14_4 := blk_frozen BK105.out 4))
              (with_reducible refine (victim_need_spares.calls a1 ((rd_T27 x0_1 x6_1).f0) ((rd_T27 x0_1 x6_1).f1) ((rd_T27 x0_1 x6_1).f2) ((rd_T27 x0_1 x6_1).f3) ((rd_T27 x0_1 x6_1).f4) true _ A11.out).mono ?_); rintro e w15 ⟨rfl, hb⟩; have n0_ := Aside0.mk (Kd.R_below (by (with_reducible repeat (first | apply Kd.R_alloc | apply Kd.R_drewN | apply Kd.R_drew)); exact (Kd.R_mono (Kd.R_far (p := ⟨gb105, 4, none⟩) (Kd.R_far (p := ⟨gb105, 3, none⟩) (Kd.R_far (p := ⟨gb105, 2, none⟩) (Kd.R_far (p := ⟨gb105, 1, none⟩) (Kd.R_far (p := ⟨gb105, 0, none⟩) (Kd.R_mono HO_0.out (fun k_ hk => (⟨hk, hk.2⟩ : _ ∧ k_ ≠ gb105))) (fun _ hk => hk.2) (.int .i64 ((rd_T27 x0_1 x6_1).f0))) (fun _ hk => hk.2) (.int .i64 ((rd_T27 x0_1 x6_1).f1))) (fun _ hk => hk.2) (.int .i64 ((rd_T27 x0_1 x6_1).f2))) (fun _ hk => hk.2) (.int .i64 ((rd_T27 x0_1 x6_1).f3))) (fun _ hk => hk.2) (.int .i64 ((rd_T27 x0_1 x6_1).f4))) (fun _ h_ => h_.1))) hb); have n1_ := Aside0.mk (blk_below (g := gb105) (o := .cells #[.int .i64 ((rd_T27 x0_1 x6_1).f0), .int .i64 ((rd_T27 x0_1 x6_1).f1), .int .i64 ((rd_T27 x0_1 x6_1).f2), .int .i64 ((rd_T27 x0_1 x6_1).f3), .int .i64 ((rd_T27 x0_1 x6_1).f4)] 27 (0, 0)) (by (with_reducible repeat (first | refine blk_drewN ?_ _ | refine blk_drew ?_ | refine blk_alloc ?_ _)); refine blk_put (cs := #[.int .i64 ((rd_T27 x0_1 x6_1).f0), .int .i64 ((rd_T27 x0_1 x6_1).f1), .int .i64 ((rd_T27 x0_1 x6_1).f2), .int .i64 ((rd_T27 x0_1 x6_1).f3), .int .i64 0]) ?_ 4 _ rfl; (with_reducible repeat (first | refine blk_drewN ?_ _ | refine blk_drew ?_ | refine blk_alloc ?_ _)); refine blk_put (cs := #[.int .i64 ((rd_T27 x0_1 x6_1).f0), .int .i64 ((rd_T27 x0_1 x6_1).f1), .int .i64 ((rd_T27 x0_1 x6_1).f2), .int .i64 0, .int .i64 0]) ?_ 3 _ rfl; (with_reducible repeat (first | refine blk_drewN ?_ _ | refine blk_drew ?_ | refine blk_alloc ?_ _)); refine blk_put (cs := #[.int .i64 ((rd_T27 x0_1 x6_1).f0), .int .i64 ((rd_T27 x0_1 x6_1).f1), .int .i64 0, .int .i64 0, .int .i64 0]) ?_ 2 _ rfl; (with_reducible repeat (first | refine blk_drewN ?_ _ | refine blk_drew ?_ | refine blk_alloc ?_ _)); refine blk_put (cs := #[.int .i64 ((rd_T27 x0_1 x6_1).f0), .int .i64 0, .int .i64 0, .int .i64 0, .int .i64 0]) ?_ 1 _ rfl; (with_reducible repeat (first | refine blk_drewN ?_ _ | refine blk_drew ?_ | refine blk_alloc ?_ _)); refine blk_put (cs := #[.int .i64 0, .int .i64 0, .int .i64 0, .int .i64 0, .int .i64 0]) ?_ 0 _ rfl; (with_reducible repeat (first | refine blk_drewN ?_ _ | refine blk_drew ?_ | refine blk_alloc ?_ _)); exact BK105.out) hb); have n2_ := Aside0.mk (Kept.below (S := (fun k_ => P0_ k_)) (by repeat (first | (with_reducible first | exact HK.out | apply Kept.alloc | apply Kept.drewN | apply Kept.drew | refine Kept.setCell ?_ (.inr GW105.out) _) | exact HK.out)) hb); have n3_ := Aside0.mk (below_step (by repeat (first | (with_reducible first | exact HB.out | apply below_alloc | apply pw_below_drewN | apply below_drew1 | refine below_set ?_ GE105.out) | exact HB.out)) hb); clear HO_0; clear BK105; clear HK; clear HB; have HO_0 := n0_; have BK105 := n1_; have HK := n2_; have HB := n3_; clear n0_ n1_ n2_ n3_; (try clear hb); (try clear hb2); (try clear hk); (try clear hi)
              go_wp2
              (try simp only [← hl0_1])
              go_roundg k1
              case measure => have := HK1.out; omega
              case rel => exact ⟨(x0_1), (x5_1), (wrap64 (x6_1 + 1)), (by first | rfl | (simp; done) | (simp [*]; done)), (by first | rfl | (simp; done) | (simp [*]; done)), H', ⟨by have := HK1.out; omega⟩, ⟨by (try simp only [hl0_1]); (with_reducible repeat (first | apply Kd.R_alloc | apply Kd.R_drewN | apply Kd.R_drew)); exact Kd.R_mono HO_0.out (fun _ hk => hk.1)⟩, ⟨by repeat (first | (with_reducible first | exact HK.out | apply Kept.alloc | apply Kept.drewN | apply Kept.drew | refine Kept.setCell ?_ (.inr GW105.out) _) | exact HK.out)⟩, ⟨by repeat (first | (with_reducible first | exact HB.out | apply below_alloc | apply pw_below_drewN | apply below_drew1 | refine below_set ?_ GE105.out) | exact HB.out)⟩⟩
            · replace c12 := Bool.eq_false_iff.mpr c12
              subst c12
              have H1 : (if 0 ≤ x5_1 then (if x5_1 < (x0_1.length : Int) then (victim_Run_14.l0 k1 (x0_1.set (x5_1 : Int).toNat (⟨(rd_T27 x0_1 x6_1).f0, (rd_T27 x0_1 x6_1).f1, (rd_T27 x0_1 x6_1).f2, (rd_T27 x0_1 x6_1).f3, (rd_T27 x0_1 x6_1).f4⟩ : S27)) a1 (wrap64 (x5_1 + 1)) (wrap64 (x6_1 + 1))) else (none)) else (none)) = some r := by rw [if_neg (show ¬ (false = true) by decide)] at H; exact H
              clear H
              have H := H1
              clear H1
              by_cases c16 : 0 ≤ x5_1
              · rw [if_pos c16] at H
                have c16b0 : decide (0 ≤ x5_1) = true := decide_eq_true c16
                clear c16
                by_cases c17 : x5_1 < (x0_1.length : Int)
                · rw [if_pos c17] at H
                  have c17b0 : decide (x5_1 < (x0_1.length : Int)) = true := decide_eq_true c17
                  clear c17
                  obtain ⟨y107, hy107⟩ : ∃ y_ : List (S27), y_ = (x0_1.set (x5_1 : Int).toNat (⟨(rd_T27 x0_1 x6_1).f0, (rd_T27 x0_1 x6_1).f1, (rd_T27 x0_1 x6_1).f2, (rd_T27 x0_1 x6_1).f3, (rd_T27 x0_1 x6_1).f4⟩ : S27)) := ⟨_, rfl⟩
                  replace H : (victim_Run_14.l0 k1 y107 a1 (wrap64 (x5_1 + 1)) (wrap64 (x6_1 + 1))) = some r := by first | (rw [hy107]; with_reducible exact H) | (have H2_ := (Option.bind_some _ _).symm.trans H; rw [hy107]; with_reducible exact H2_) | (have H2_ := (Option.bind_some _ _).symm.trans H; with_reducible exact H2_) | with_reducible exact H | (rw [hy107]; exact H) | exact H
                  have Ny107 := Aside0.mk hy107
                  clear hy107
                  have H' := Aside0.mk H
                  clear H
                  have p104 : 0 ≤ (x6_1 : Int) := of_decide_eq_true (by first | (with_reducible assumption) | assumption)
                  have q104 : x6_1 < (x0_1.length : Int) := of_decide_eq_true (by first | (with_reducible assumption) | assumption)
                  obtain ⟨ad104, e104, hx104_0, hx104_1, hx104_2, hx104_3, hx104_4⟩ := at_T27 (Kd.R_reads' HO_0.out).2.2 x6_1 p104 q104
                  cases e104
                  replace p104 := eq_true p104
                  replace q104 := eq_true q104
                  go_wp2_with (first | ((with_reducible refine gate_dst (N := 7) rfl ?_); refine box_event ?hg (N := 7) ?hd (cs := #[.int .i64 0, .int .i64 0, .int .i64 0, .int .i64 0, .int .i64 0]) (t := 27) ?hr ?_; (case hd => rfl); (case hg => rfl); (case hr => first | (go_simp; done) | (go_simp; rfl)); intro gb105 hg w19 hbox hb; have n0_ := Aside0.mk (Kd.R_below (Kd.R_elderB (by (with_reducible repeat (first | apply Kd.R_alloc | apply Kd.R_drewN | apply Kd.R_drew)); exact HO_0.out) gb105 (Nat.le_of_eq hg.symm)) hb); have n1_ := Aside0.mk (Kept.below (S := (fun k_ => P0_ k_)) (by repeat (first | (with_reducible first | exact HK.out | apply Kept.alloc | apply Kept.drewN | apply Kept.drew) | exact HK.out)) hb); have n2_ := Aside0.mk (below_step (by repeat (first | (with_reducible first | exact HB.out | apply below_alloc | apply pw_below_drewN | apply below_drew1) | exact HB.out)) hb); have n3_ := Aside0.mk (hbox); have n4_ := Aside0.mk ((by rw [hg]; exact (by first | exact HK.out.1 | exact (show Kept w _ (fun k_ => P0_ k_) from by repeat (first | (with_reducible first | exact HK.out | apply Kept.alloc | apply Kept.drewN | apply Kept.drew) | exact HK.out)).1) : w.heap.size ≤ gb105)); have n5_ := Aside0.mk ((by rw [hg]; exact (below_size (by repeat (first | (with_reducible first | exact HB.out | apply below_alloc | apply pw_below_drewN | apply below_drew1) | exact HB.out))) : w0.heap.size ≤ gb105)); clear HO_0; clear HK; clear HB; have HO_0 := n0_; have HK := n1_; have HB := n2_; have BK105 := n3_; have GW105 := n4_; have GE105 := n5_; clear n0_ n1_ n2_ n3_ n4_ n5_; clear hb hbox hg; have hcz20_0 : w19.cell? ⟨gb105, 0, none⟩ = some (.int .i64 0) := (blk_cell BK105.out 0).trans rfl; have hcz20_1 : w19.cell? ⟨gb105, 1, none⟩ = some (.int .i64 0) := (blk_cell BK105.out 1).trans rfl; have hcz20_2 : w19.cell? ⟨gb105, 2, none⟩ = some (.int .i64 0) := (blk_cell BK105.out 2).trans rfl; have hcz20_3 : w19.cell? ⟨gb105, 3, none⟩ = some (.int .i64 0) := (blk_cell BK105.out 3).trans rfl; have hcz20_4 : w19.cell? ⟨gb105, 4, none⟩ = some (.int .i64 0) := (blk_cell BK105.out 4).trans rfl; have hfz20_0 := blk_frozen BK105.out 0; have hfz20_1 := blk_frozen BK105.out 1; have hfz20_2 := blk_frozen BK105.out 2; have hfz20_3 := blk_frozen BK105.out 3; have hfz20_4 := blk_frozen BK105.out 4))
                  (with_reducible refine (victim_need_spares.calls a1 ((rd_T27 x0_1 x6_1).f0) ((rd_T27 x0_1 x6_1).f1) ((rd_T27 x0_1 x6_1).f2) ((rd_T27 x0_1 x6_1).f3) ((rd_T27 x0_1 x6_1).f4) false _ A11.out).mono ?_); rintro e w21 ⟨rfl, hb⟩; have n0_ := Aside0.mk (Kd.R_below (by (with_reducible repeat (first | apply Kd.R_alloc | apply Kd.R_drewN | apply Kd.R_drew)); exact (Kd.R_mono (Kd.R_far (p := ⟨gb105, 4, none⟩) (Kd.R_far (p := ⟨gb105, 3, none⟩) (Kd.R_far (p := ⟨gb105, 2, none⟩) (Kd.R_far (p := ⟨gb105, 1, none⟩) (Kd.R_far (p := ⟨gb105, 0, none⟩) (Kd.R_mono HO_0.out (fun k_ hk => (⟨hk, hk.2⟩ : _ ∧ k_ ≠ gb105))) (fun _ hk => hk.2) (.int .i64 ((rd_T27 x0_1 x6_1).f0))) (fun _ hk => hk.2) (.int .i64 ((rd_T27 x0_1 x6_1).f1))) (fun _ hk => hk.2) (.int .i64 ((rd_T27 x0_1 x6_1).f2))) (fun _ hk => hk.2) (.int .i64 ((rd_T27 x0_1 x6_1).f3))) (fun _ hk => hk.2) (.int .i64 ((rd_T27 x0_1 x6_1).f4))) (fun _ h_ => h_.1))) hb); have n1_ := Aside0.mk (blk_below (g := gb105) (o := .cells #[.int .i64 ((rd_T27 x0_1 x6_1).f0), .int .i64 ((rd_T27 x0_1 x6_1).f1), .int .i64 ((rd_T27 x0_1 x6_1).f2), .int .i64 ((rd_T27 x0_1 x6_1).f3), .int .i64 ((rd_T27 x0_1 x6_1).f4)] 27 (0, 0)) (by (with_reducible repeat (first | refine blk_drewN ?_ _ | refine blk_drew ?_ | refine blk_alloc ?_ _)); refine blk_put (cs := #[.int .i64 ((rd_T27 x0_1 x6_1).f0), .int .i64 ((rd_T27 x0_1 x6_1).f1), .int .i64 ((rd_T27 x0_1 x6_1).f2), .int .i64 ((rd_T27 x0_1 x6_1).f3), .int .i64 0]) ?_ 4 _ rfl; (with_reducible repeat (first | refine blk_drewN ?_ _ | refine blk_drew ?_ | refine blk_alloc ?_ _)); refine blk_put (cs := #[.int .i64 ((rd_T27 x0_1 x6_1).f0), .int .i64 ((rd_T27 x0_1 x6_1).f1), .int .i64 ((rd_T27 x0_1 x6_1).f2), .int .i64 0, .int .i64 0]) ?_ 3 _ rfl; (with_reducible repeat (first | refine blk_drewN ?_ _ | refine blk_drew ?_ | refine blk_alloc ?_ _)); refine blk_put (cs := #[.int .i64 ((rd_T27 x0_1 x6_1).f0), .int .i64 ((rd_T27 x0_1 x6_1).f1), .int .i64 0, .int .i64 0, .int .i64 0]) ?_ 2 _ rfl; (with_reducible repeat (first | refine blk_drewN ?_ _ | refine blk_drew ?_ | refine blk_alloc ?_ _)); refine blk_put (cs := #[.int .i64 ((rd_T27 x0_1 x6_1).f0), .int .i64 0, .int .i64 0, .int .i64 0, .int .i64 0]) ?_ 1 _ rfl; (with_reducible repeat (first | refine blk_drewN ?_ _ | refine blk_drew ?_ | refine blk_alloc ?_ _)); refine blk_put (cs := #[.int .i64 0, .int .i64 0, .int .i64 0, .int .i64 0, .int .i64 0]) ?_ 0 _ rfl; (with_reducible repeat (first | refine blk_drewN ?_ _ | refine blk_drew ?_ | refine blk_alloc ?_ _)); exact BK105.out) hb); have n2_ := Aside0.mk (Kept.below (S := (fun k_ => P0_ k_)) (by repeat (first | (with_reducible first | exact HK.out | apply Kept.alloc | apply Kept.drewN | apply Kept.drew | refine Kept.setCell ?_ (.inr GW105.out) _) | exact HK.out)) hb); have n3_ := Aside0.mk (below_step (by repeat (first | (with_reducible first | exact HB.out | apply below_alloc | apply pw_below_drewN | apply below_drew1 | refine below_set ?_ GE105.out) | exact HB.out)) hb); clear HO_0; clear BK105; clear HK; clear HB; have HO_0 := n0_; have BK105 := n1_; have HK := n2_; have HB := n3_; clear n0_ n1_ n2_ n3_; (try clear hb); (try clear hb2); (try clear hk); (try clear hi); have hcz22_0 : w21.cell? ⟨gb105, 0, none⟩ = some (.int .i64 ((rd_T27 x0_1 x6_1).f0)) := (blk_cell BK105.out 0).trans rfl; have hcz22_1 : w21.cell? ⟨gb105, 1, none⟩ = some (.int .i64 ((rd_T27 x0_1 x6_1).f1)) := (blk_cell BK105.out 1).trans rfl; have hcz22_2 : w21.cell? ⟨gb105, 2, none⟩ = some (.int .i64 ((rd_T27 x0_1 x6_1).f2)) := (blk_cell BK105.out 2).trans rfl; have hcz22_3 : w21.cell? ⟨gb105, 3, none⟩ = some (.int .i64 ((rd_T27 x0_1 x6_1).f3)) := (blk_cell BK105.out 3).trans rfl; have hcz22_4 : w21.cell? ⟨gb105, 4, none⟩ = some (.int .i64 ((rd_T27 x0_1 x6_1).f4)) := (blk_cell BK105.out 4).trans rfl; have hfz22_0 := blk_frozen BK105.out 0; have hfz22_1 := blk_frozen BK105.out 1; have hfz22_2 := blk_frozen BK105.out 2; have hfz22_3 := blk_frozen BK105.out 3; have hfz22_4 := blk_frozen BK105.out 4; have p18 : 0 ≤ (x5_1 : Int) := of_decide_eq_true (by first | (with_reducible assumption) | assumption); have q18 : (x5_1 : Int) < ((x0_1.length : Int) : Int) := of_decide_eq_true (by first | (with_reducible assumption) | assumption); obtain ⟨go18, co18, eo18, gb18, gl18, cl18, HG18⟩ := Kd.R_form HO_0.out (by omega); (first | cases eo18 | (injection eo18 with ea_ en_ ec_; (first | subst ea_ | (injection ea_ with ea_; subst ea_)); subst ec_; clear en_)); have GB18 := Aside0.mk gb18; have GG18 := Aside0.mk HG18; clear gb18 gl18 HG18; have HMgo18 := Aside0.mk (show (P0_ go18 ∨ w.heap.size ≤ go18) from (HO_0.out.1 _ rfl).1); (first | simp only [add_plain] at hx104_0 | skip); (first | simp only [add_plain] at hx104_1 | skip); (first | simp only [add_plain] at hx104_2 | skip); (first | simp only [add_plain] at hx104_3 | skip); (first | simp only [add_plain] at hx104_4 | skip); obtain ⟨ce18, hcl18, hM18, hcc18, hfr18⟩ := Kd.R_elem HO_0.out z27 (x5_1 : Int) p18 q18; obtain rfl := k27_openM hM18; have hx18_0 : w21.cell? ⟨go18, (x5_1 : Int).toNat * 5, none⟩ = some (.int .i64 ((rd_T27 x0_1 x5_1).f0)) := hcc18 0 _ rfl; have hx18_1 : w21.cell? ⟨go18, (x5_1 : Int).toNat * 5 + 1, none⟩ = some (.int .i64 ((rd_T27 x0_1 x5_1).f1)) := hcc18 1 _ rfl; have hx18_2 : w21.cell? ⟨go18, (x5_1 : Int).toNat * 5 + 2, none⟩ = some (.int .i64 ((rd_T27 x0_1 x5_1).f2)) := hcc18 2 _ rfl; have hx18_3 : w21.cell? ⟨go18, (x5_1 : Int).toNat * 5 + 3, none⟩ = some (.int .i64 ((rd_T27 x0_1 x5_1).f3)) := hcc18 3 _ rfl; have hx18_4 : w21.cell? ⟨go18, (x5_1 : Int).toNat * 5 + 4, none⟩ = some (.int .i64 ((rd_T27 x0_1 x5_1).f4)) := hcc18 4 _ rfl; have hf18_0 : w21.frozen? ⟨go18, (x5_1 : Int).toNat * 5, none⟩ = false := hfr18 0; have hf18_1 : w21.frozen? ⟨go18, (x5_1 : Int).toNat * 5 + 1, none⟩ = false := hfr18 1; have hf18_2 : w21.frozen? ⟨go18, (x5_1 : Int).toNat * 5 + 2, none⟩ = false := hfr18 2; have hf18_3 : w21.frozen? ⟨go18, (x5_1 : Int).toNat * 5 + 3, none⟩ = false := hfr18 3; have hf18_4 : w21.frozen? ⟨go18, (x5_1 : Int).toNat * 5 + 4, none⟩ = false := hfr18 4; clear hcl18 hcc18 hfr18 hM18; replace p18 := eq_true p18; replace q18 := eq_true q18; have HX23 := Aside0.mk (show Kd.R k27 27 w21 w0.heap.size (fun k_ => (P0_ k_ ∨ w.heap.size ≤ k_) ∧ k_ ≠ gb105) (.slice (some ⟨go18, 0, none⟩) x0_1.length co7) x0_1 from (by (with_reducible repeat (first | apply Kd.R_alloc | apply Kd.R_drewN | apply Kd.R_drew)); exact HO_0.out)); obtain ⟨ce23, hcl23, hM23, hcc23, hfr23⟩ := Kd.R_elem HX23.out z27 (x5_1 : Int) (of_decide_eq_true (by first | (with_reducible assumption) | assumption)) (by have h_ : (x5_1 : Int) < ((x0_1.length : Int) : Int) := of_decide_eq_true (by first | (with_reducible assumption) | assumption); first | exact h_ | (have e_ := (Kd.R_reads' HO_0.out).1; omega) | simpa using h_); obtain rfl := k27_openM hM23; have HP23 := Kd.R_seg HX23.out (x5_1 : Int) (of_decide_eq_true (by first | (with_reducible assumption) | assumption)) (by have h_ : (x5_1 : Int) < ((x0_1.length : Int) : Int) := of_decide_eq_true (by first | (with_reducible assumption) | assumption); first | exact h_ | (have e_ := (Kd.R_reads' HO_0.out).1; omega) | simpa using h_) (seg := [.int .i64 ((rd_T27 x0_1 x6_1).f0), .int .i64 ((rd_T27 x0_1 x6_1).f1), .int .i64 ((rd_T27 x0_1 x6_1).f2), .int .i64 ((rd_T27 x0_1 x6_1).f3), .int .i64 ((rd_T27 x0_1 x6_1).f4)]) (j := 0) hcl23 hcc23 (show 5 ≤ 5 from by decide) (x' := (⟨(rd_T27 x0_1 x6_1).f0, (rd_T27 x0_1 x6_1).f1, (rd_T27 x0_1 x6_1).f2, (rd_T27 x0_1 x6_1).f3, (rd_T27 x0_1 x6_1).f4⟩ : S27)) (k27_mkM _ _ _ (⟨(rd_T27 x0_1 x6_1).f0, (rd_T27 x0_1 x6_1).f1, (rd_T27 x0_1 x6_1).f2, (rd_T27 x0_1 x6_1).f3, (rd_T27 x0_1 x6_1).f4⟩ : S27) ) (fun _ hk => hk); have hx23_0 := hcc23 0 _ rfl; (try simp only [show (k27).sz = 5 from rfl, Nat.mul_one, Nat.add_zero] at hx23_0); have hf23_0 := hfr23 0; (try simp only [show (k27).sz = 5 from rfl, Nat.mul_one, Nat.add_zero] at hf23_0); have hx23_1 := hcc23 1 _ rfl; (try simp only [show (k27).sz = 5 from rfl, Nat.mul_one, Nat.add_zero] at hx23_1); have hf23_1 := hfr23 1; (try simp only [show (k27).sz = 5 from rfl, Nat.mul_one, Nat.add_zero] at hf23_1); have hx23_2 := hcc23 2 _ rfl; (try simp only [show (k27).sz = 5 from rfl, Nat.mul_one, Nat.add_zero] at hx23_2); have hf23_2 := hfr23 2; (try simp only [show (k27).sz = 5 from rfl, Nat.mul_one, Nat.add_zero] at hf23_2); have hx23_3 := hcc23 3 _ rfl; (try simp only [show (k27).sz = 5 from rfl, Nat.mul_one, Nat.add_zero] at hx23_3); have hf23_3 := hfr23 3; (try simp only [show (k27).sz = 5 from rfl, Nat.mul_one, Nat.add_zero] at hf23_3); have hx23_4 := hcc23 4 _ rfl; (try simp only [show (k27).sz = 5 from rfl, Nat.mul_one, Nat.add_zero] at hx23_4); have hf23_4 := hfr23 4; (try simp only [show (k27).sz = 5 from rfl, Nat.mul_one, Nat.add_zero] at hf23_4); clear hcl23 hcc23 hfr23 hM23
                  go_wp2_with (first | ((with_reducible refine gate_store (t := 27) (p := 33) rfl ?_); refine store_event (t := 27) (p := 33) (v := ?vo_w24) (w1 := (((((w21.setCell ⟨go18, (x5_1 : Int).toNat * 5, none⟩ (.int .i64 ((rd_T27 x0_1 x6_1).f0))).setCell ⟨go18, (x5_1 : Int).toNat * 5 + 1, none⟩ (.int .i64 ((rd_T27 x0_1 x6_1).f1))).setCell ⟨go18, (x5_1 : Int).toNat * 5 + 2, none⟩ (.int .i64 ((rd_T27 x0_1 x6_1).f2))).setCell ⟨go18, (x5_1 : Int).toNat * 5 + 3, none⟩ (.int .i64 ((rd_T27 x0_1 x6_1).f3))).setCell ⟨go18, (x5_1 : Int).toNat * 5 + 4, none⟩ (.int .i64 ((rd_T27 x0_1 x6_1).f4)))) ?hg ?ho ?hn ?hr ?_; (case ho => rfl); (case hg => rfl); (case hn => rfl); (case hr => first | (go_simp; done) | (go_simp; rfl)); intro w24 hw; have hg : w21.grownBy w24 (some go18) := (by rw [hw]; exact HP23.2); have hp_ : Kd.R k27 27 w24 w0.heap.size (fun k_ => (P0_ k_ ∨ w.heap.size ≤ k_) ∧ k_ ≠ gb105) (.slice (some ⟨go18, 0, none⟩) x0_1.length co7) y107 := (by rw [hw, Ny107.out]; exact HP23.1); clear HP23; have n0_ := Aside0.mk (hp_); have n1_ := Aside0.mk (blk_grown (g := gb105) (o := .cells #[.int .i64 ((rd_T27 x0_1 x6_1).f0), .int .i64 ((rd_T27 x0_1 x6_1).f1), .int .i64 ((rd_T27 x0_1 x6_1).f2), .int .i64 ((rd_T27 x0_1 x6_1).f3), .int .i64 ((rd_T27 x0_1 x6_1).f4)] 27 (0, 0)) (by (with_reducible repeat (first | refine blk_drewN ?_ _ | refine blk_drew ?_ | refine blk_alloc ?_ _)); exact BK105.out) hg (Kd.R_away HO_0.out (fun _ hk => hk.2))); have n2_ := Aside0.mk ((by rw [hw]; exact below_set (below_set (below_set (below_set (below_set (HB.out) GB18.out) GB18.out) GB18.out) GB18.out) GB18.out : Below w0.heap.size w0 w24)); have n3_ := Aside0.mk (Kept.of_grown (S := (fun k_ => P0_ k_)) hg (by repeat (first | (with_reducible first | exact HK.out | apply Kept.alloc | apply Kept.drewN | apply Kept.drew | refine Kept.setCell ?_ (.inr GW105.out) _) | exact HK.out)) (fun k_ e_ => (HO_0.out.1 k_ e_).1)); clear HO_0; clear BK105; clear HB; clear HK; have HO_0 := n0_; have BK105 := n1_; have HB := n2_; have HK := n3_; clear n0_ n1_ n2_ n3_; clear hg hw hp_))
                  (try simp only [← hl0_1])
                  go_roundg k1
                  case measure => have := HK1.out; omega
                  case rel => exact ⟨(y107), (wrap64 (x5_1 + 1)), (wrap64 (x6_1 + 1)), (by first | rfl | (simp; done) | (simp [*]; done)), (by first | rfl | (simp; done) | (simp [*]; done)), H', ⟨by have := HK1.out; omega⟩, ⟨by (try simp only [hl0_1]); (with_reducible repeat (first | apply Kd.R_alloc | apply Kd.R_drewN | apply Kd.R_drew)); exact Kd.R_mono HO_0.out (fun _ hk => hk.1)⟩, ⟨by repeat (first | (with_reducible first | exact HK.out | apply Kept.alloc | apply Kept.drewN | apply Kept.drew | refine Kept.setCell ?_ (.inr GW105.out) _) | exact HK.out)⟩, ⟨by repeat (first | (with_reducible first | exact HB.out | apply below_alloc | apply pw_below_drewN | apply below_drew1 | refine below_set ?_ GE105.out) | exact HB.out)⟩⟩
                · rw [if_neg c17] at H
                  exact absurd H (by simp)
              · rw [if_neg c16] at H
                exact absurd H (by simp)
          · rw [if_neg c10] at H
            exact absurd H (by simp)
        · rw [if_neg c9] at H
          have c9b0 : decide (x6_1 < (x0_1.length : Int)) = false := decide_eq_false c9
          clear c9
          by_cases c25 : 0 ≤ x5_1
          · rw [if_pos c25] at H
            have c25b0 := eq_true c25
            have c25b1 : decide (0 ≤ x5_1) = true := decide_eq_true c25
            clear c25
            by_cases c26 : x5_1 ≤ (x0_1.length : Int)
            · rw [if_pos c26] at H
              have c26b0 := eq_true c26
              have c26b1 : decide (x5_1 ≤ (x0_1.length : Int)) = true := decide_eq_true c26
              clear c26
              obtain ⟨y108, hy108⟩ : ∃ y_ : List (S27), y_ = (x0_1.drop (x5_1 : Int).toNat) := ⟨_, rfl⟩
              replace H : (some (x0_1.take (x5_1 : Int).toNat)) = some r := by first | (rw [hy108]; with_reducible exact H) | (have H2_ := (Option.bind_some _ _).symm.trans H; rw [hy108]; with_reducible exact H2_) | (have H2_ := (Option.bind_some _ _).symm.trans H; with_reducible exact H2_) | with_reducible exact H | (rw [hy108]; exact H) | exact H
              have Ny108 := Aside0.mk hy108
              clear hy108
              have c27b0 := eq_true (of_decide_eq_true (by first | (with_reducible assumption) | assumption) : x5_1 ≤ (x0_1.length : Int))
              obtain ⟨y112, hy112⟩ : ∃ y_ : List (S27), y_ = (x0_1.take (x5_1 : Int).toNat) := ⟨_, rfl⟩
              replace H : (some y112) = some r := by first | (rw [hy112]; with_reducible exact H) | (have H2_ := (Option.bind_some _ _).symm.trans H; rw [hy112]; with_reducible exact H2_) | (have H2_ := (Option.bind_some _ _).symm.trans H; with_reducible exact H2_) | with_reducible exact H | (rw [hy112]; exact H) | exact H
              have Ny112 := Aside0.mk hy112
              clear hy112
              obtain rfl := Option.some.inj H
              have q28 : (x5_1 : Int) ≤ ((x0_1.length : Int) : Int) := of_decide_eq_true (by first | (with_reducible assumption) | assumption)
              obtain ⟨i028, hi028, _, hsz28, _⟩ := info_parts info27
              have hroom28 : x0_1.length ≤ co7 := (Kd.R_reads' HO_0.out).2.1
              have hC28 : Kd.C k27 _ Ao7 x0_1.length x0_1 := (Kd.R_reads' HO_0.out).2.2
              have q028 : (0 : Int) ≤ (x5_1 : Int) := of_decide_eq_true (by first | (with_reducible assumption) | assumption)
              have hcut28 := cut_from (P := Try.prog) 22 27 .i64 Try.underlying22 hi028 5 hsz28 Ao7 x0_1.length co7 x5_1 q028 q28
              have hr28 := Kd.C_drop (m := (x5_1 : Int).toNat) (c := co7) hC28 (by omega) hroom28
              obtain ⟨A28, hA28⟩ : ∃ A1, A1 = (if co7 = (x5_1 : Int).toNat then Ao7 else (Ao7 : Option Addr).map (·.add ((x5_1 : Int).toNat * 5))) := ⟨_, rfl⟩
              obtain ⟨c28, hc28⟩ : ∃ c1, c1 = co7 - (x5_1 : Int).toNat := ⟨_, rfl⟩
              have hy28 : y108.length = x0_1.length - (x5_1 : Int).toNat := (by rw [Ny108.out, List.length_drop] <;> omega)
              rw [show (x0_1).drop (x5_1 : Int).toNat = y108 from Ny108.out.symm] at hr28
              replace hr28 : Kd.C k27 _ A28 y108.length y108 := (by rw [hA28]; exact hr28)
              rw [← hy28, ← hA28, ← hc28] at hcut28
              have HR111 := Aside0.mk hr28
              have HC111 := Aside0.mk (show y108.length ≤ c28 from by rw [hy28, hc28]; exact Nat.sub_le_sub_right hroom28 _)
              clear hr28 hC28 hroom28 hi028 hsz28 hc28
              have KY28 := Aside0.mk hy28
              have KA28 := Aside0.mk hA28
              clear hy28 hA28
              have KL28 := Aside0.mk (show (x5_1 : Int).toNat ≤ x0_1.length from by omega)
              replace q28 := eq_true q28
              have q29 : (x5_1 : Int) ≤ ((x0_1.length : Int) : Int) := of_decide_eq_true (by first | (with_reducible assumption) | assumption)
              obtain ⟨i029, hi029, _, hsz29, _⟩ := info_parts info27
              have hcut29 := cut_to (P := Try.prog) 22 27 .i64 Try.underlying22 hi029 Ao7 x0_1.length co7 x5_1 (of_decide_eq_true (by first | (with_reducible assumption) | assumption)) q29 (Kd.R_reads' HO_0.out).2.1
              obtain ⟨W2_, hcl_, hr29, hB_, hK_⟩ := VicK.clear_tail (P := Try.prog) (t := 22) (e := 27) (v := .agg #[.int .i64 0, .int .i64 0, .int .i64 0, .int .i64 0, .int .i64 0]) Try.underlying22 zero27 one27 (sz := 5) rfl rfl HB.out HO_0.out KL28.out KY28.out (c' := c28) KA28.out
              have n1_ := Aside0.mk (hK_ w (fun k_ => P0_ k_) HK.out (fun i hi => HO_0.out.1 i hi))
              have n2_ := Aside0.mk hB_
              clear HK HB hB_ hK_
              have HK := n1_
              have HB := n2_
              clear n1_ n2_
              have hy29 : y112.length = (x5_1 : Int).toNat := (by rw [Ny112.out, List.length_take]; omega)
              rw [← Ny112.out] at hr29
              rw [← hy29] at hr29 hcut29
              clear hy29 hi029 hsz29 HO_0
              have HO114 := Aside0.mk hr29
              clear hr29
              replace q29 := eq_true q29
              go_wp2
              go_ret
              exact ⟨_, by first | rfl | (simp [errW_none, errW_some] <;> rfl) | (simp [*, errW_none, errW_some] <;> rfl), by (with_reducible repeat (first | apply Kd.R_alloc | apply Kd.R_drewN | apply Kd.R_drew)); exact HO114.out, by repeat (first | (with_reducible first | exact HB.out | apply below_alloc | apply pw_below_drewN | apply below_drew1) | exact HB.out), by repeat (first | (with_reducible first | exact HK.out | apply Kept.alloc | apply Kept.drewN | apply Kept.drew) | exact HK.out)⟩
            · rw [if_neg c26] at H
              exact absurd H (by simp)
          · rw [if_neg c25] at H
            exact absurd H (by simp)
def victim_Run_15.f (l0 : List (S27)) : Option ((List (S27))) := (some (([] : List (S27)) : List (S27))).bind fun y115 => (if y115.length + l0.length < 3518437208883 then (some (y115 ++ l0)) else (none))
set_option maxHeartbeats 8000000 in
set_option maxRecDepth 100000 in
theorem victim_Run_15.calls (A0 : Option Addr) (c0 : Nat) (l0 : List (S27)) (r : List (S27)) (w : World) (hr0 : Kd.C k27 w A0 l0.length l0) (hc0 : l0.length ≤ c0) (h : victim_Run_15.f l0 = some r) :
    Calls Try.prog 15 #[.slice A0 l0.length c0] w fun e w' => ∃ v0_ : Value, e = .returned (v0_) ∧ Kd.R k27 27 w' w.heap.size (fun _ => True) v0_ r ∧ Below w.heap.size w w' := by
  have HR0 := Aside0.mk hr0
  have HC0 := Aside0.mk hc0
  clear hr0 hc0
  have HB := Aside0.mk (Below.refl w.heap.size w)
  have H : ((some (([] : List (S27)) : List (S27))).bind fun y115 => (if y115.length + l0.length < 3518437208883 then (some (y115 ++ l0)) else (none))) = some r := h
  clear h
  obtain ⟨y115, hy115⟩ : ∃ y_ : List (S27), y_ = (([] : List (S27))) := ⟨_, rfl⟩
  replace H : (if y115.length + l0.length < 3518437208883 then (some (y115 ++ l0)) else (none)) = some r := by first | (rw [hy115]; with_reducible exact H) | (have H2_ := (Option.bind_some _ _).symm.trans H; rw [hy115]; with_reducible exact H2_) | (have H2_ := (Option.bind_some _ _).symm.trans H; with_reducible exact H2_) | with_reducible exact H | (rw [hy115]; exact H) | exact H
  have Ny115 := Aside0.mk hy115
  clear hy115
  by_cases c2 : y115.length + l0.length < 3518437208883
  · rw [if_pos c2] at H
    have LMc2 := Aside0.mk c2
    clear c2
    obtain ⟨y118, hy118⟩ : ∃ y_ : List (S27), y_ = (y115 ++ l0) := ⟨_, rfl⟩
    replace H : (some y118) = some r := by first | (rw [hy118]; with_reducible exact H) | (have H2_ := (Option.bind_some _ _).symm.trans H; rw [hy118]; with_reducible exact H2_) | (have H2_ := (Option.bind_some _ _).symm.trans H; with_reducible exact H2_) | with_reducible exact H | (rw [hy118]; exact H) | exact H
    have Ny118 := Aside0.mk hy118
    clear hy118
    obtain rfl := Option.some.inj H
    cases A0 with
    | none =>
      have h0_ : l0 = [] := by
        cases l0 with
        | nil => rfl
        | cons x xs =>
          obtain ⟨ad, e, _⟩ := HR0.out.2.2 (by simp)
          cases e
      have H0_ := Aside0.mk h0_
      clear h0_
      have heq_ : ∀ (w : World) (n : Nat), (binOp .eql 22 (.slice none n c0) (.slice none 0 0)).run Try.prog w = .ok (.bool true) w := fun w n => Lib.run_eql_slice_nil w 22 27 none n c0 0 0 Try.underlying22
      go_enter Try.func15, Try.ntmps15
      go_wp2
      go_ret
      exact ⟨_, rfl, by rw [Ny118.out, Ny115.out, H0_.out]; exact Kd.R_nil _ _ _ _ _, by repeat (first | (with_reducible first | exact HB.out | apply below_alloc | apply pw_below_drewN | apply below_drew1) | exact HB.out)⟩
    | some ad =>
      have heq_ : ∀ (w : World) (n : Nat), (binOp .eql 22 (.slice (some ad) n c0) (.slice none 0 0)).run Try.prog w = .ok (.bool false) w := fun w n => Lib.run_eql_slice_nil w 22 27 (some ad) n c0 0 0 Try.underlying22
      go_enter Try.func15, Try.ntmps15
      go_wp2_with (first | ((with_reducible refine gate_dst (N := 5) rfl ?_); refine Kd.R_lit k27 _ 27 ?hg (N := 5) ?hd (xs := ([] : List (S27))) (inner := []) (ok := fun _ => True) (okp := fun _ => True) ?hr ?hp (fun _ hk => hk) trivial (Below.refl _ _) (Nat.le_refl _) (by simp) ?_; (case hd => rfl); (case hg => rfl); (case hr => first | (go_simp; done) | (go_simp; rfl)); (case hp => exact (Reps.none _ _)); intro v116 w3 ho4 hb hg_ hnew_; clear hg_ hnew_; (first | rw [← Ny115.out] at ho4 | (simp only [Int.reduceToNat] at ho4; rw [← Ny115.out] at ho4)); have n0_ := Aside0.mk (Kd.R_lower ho4 (below_size (by repeat (first | (with_reducible first | exact HB.out | apply below_alloc | apply pw_below_drewN | apply below_drew1) | exact HB.out)))); have n1_ := Aside0.mk (below_step (by repeat (first | (with_reducible first | exact HB.out | apply below_alloc | apply pw_below_drewN | apply below_drew1) | exact HB.out)) hb); clear HB; have HO117 := n0_; have HB := n1_; clear n0_ n1_; clear hb ho4) | ((with_reducible refine gate_builtin (b := .append) (xs := #[.tmp 5, .tmp 6]) rfl ?_); at_builtin; refine Kd.R_append_rows k27 (w0 := w) w.heap.size rfl (.tmp 5) (.tmp 6) 22 27 (.agg #[(.int .i64 0), (.int .i64 0), (.int .i64 0), (.int .i64 0), (.int .i64 0)]) 40 rfl Try.underlying22 info27 rfl (by decide) (by omega) v116 y115 l0 _ _ _ (fun _ => True) (fun _ => False) rfl rfl ?aO ?aR (fun _ _ h => h) (fun _ h => h.elim) ?aF ?aB ?aS ?aL ?_; (case aR => repeat (first | exact (Kd.C_below HR0.out HB.out) | (with_reducible refine Kd.C_alloc ?_ _) | (with_reducible refine Kd.C_drewN ?_ _) | (with_reducible refine Kd.C_drew ?_))); (case aB => exact (by repeat (first | (with_reducible first | exact HB.out | apply below_alloc | apply pw_below_drewN | apply below_drew1) | exact HB.out))); (case aF => exact (fun _ _ => trivial)); (case aO => exact (by (with_reducible repeat (first | apply Kd.R_alloc | apply Kd.R_drewN | apply Kd.R_drew)); exact HO117.out)); (case aS => exact (below_size (by repeat (first | (with_reducible first | exact HB.out | apply below_alloc | apply pw_below_drewN | apply below_drew1) | exact HB.out)))); (case aL => have := LMc2.out; omega); intro v119 w5 ho hb hg hat; rw [← Ny118.out] at ho; have n0_ := Aside0.mk (hb); have n1_ := Aside0.mk (ho); clear HB; clear HO117; have HB := n0_; have HO120 := n1_; clear n0_ n1_; clear ho hb hg hat))
      go_ret
      exact ⟨_, by first | rfl | (simp [errW_none, errW_some] <;> rfl) | (simp [*, errW_none, errW_some] <;> rfl), by (with_reducible repeat (first | apply Kd.R_alloc | apply Kd.R_drewN | apply Kd.R_drew)); exact HO120.out, by repeat (first | (with_reducible first | exact HB.out | apply below_alloc | apply pw_below_drewN | apply below_drew1) | exact HB.out)⟩
  · rw [if_neg c2] at H
    exact absurd H (by simp)
end Go.Proofs.Ytnegchdooapoiaa.PVic
