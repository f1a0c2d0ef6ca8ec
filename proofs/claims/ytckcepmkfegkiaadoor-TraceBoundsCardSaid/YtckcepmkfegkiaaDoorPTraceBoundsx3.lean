-- Printed for this claim by a program of this project's own, over the kit's printer; some functions are told by hand.
import Derived.Test.YtckcepmkfegkiaaDoorPTraceBoundsx2
namespace Go.Proofs.YtckcepmkfegkiaaDoor.PTraceBounds
open Go.RowKit Go.Proofs.YtckcepmkfegkiaaDoorW.PrintWords Go.Proofs.YtckcepmkfegkiaaDoorW.PrintLast Go.Proofs.YtckcepmkfegkiaaDoorW.PrintMore
attribute [local go_sem] max2_int min2_int max_two min_two max_three min_three max_four min_four   -- for this text's walks alone
set_option linter.unusedVariables false
set_option linter.unusedSimpArgs false

theorem set5' {w0 w : World} {g : Nat} {t : TypeId} {a0 a1 a2 a3 a4 : Value} (v0 v1 v2 v3 v4 : Value) (h : w.heap[g]? = some (.cells #[a0, a1, a2, a3, a4] t (0, 0))) (hB : Below w0.heap.size w0 w) (hg : w0.heap.size ≤ g) :
  ∃ W, W = (((((w.setCell ⟨g, 0, none⟩ v0).setCell ⟨g, 1, none⟩ v1).setCell ⟨g, 2, none⟩ v2).setCell ⟨g, 3, none⟩ v3).setCell ⟨g, 4, none⟩ v4) ∧ W.heap[g]? = some (.cells #[v0, v1, v2, v3, v4] t (0, 0)) ∧ Below w0.heap.size w0 W :=
 ⟨_, rfl, (blk_put (blk_put (blk_put (blk_put (blk_put h 0 v0 (cs' := #[v0, a1, a2, a3, a4]) rfl) 1 v1 (cs' := #[v0, v1, a2, a3, a4]) rfl) 2 v2 (cs' := #[v0, v1, v2, a3, a4]) rfl) 3 v3 (cs' := #[v0, v1, v2, v3, a4]) rfl) 4 v4 (cs' := #[v0, v1, v2, v3, v4]) rfl), (below_set (below_set (below_set (below_set (below_set hB hg) hg) hg) hg) hg)⟩
set_option maxHeartbeats 40000000 in
set_option maxRecDepth 100000 in
theorem millwrightlaw19_TraceBounds.calls (k : Nat) (a0_0 : Int) (a0_1 : Int) (a0_2 : Int) (a0_3 : Int) (a0_4 : Int) (a0_5 : Int) (a0_6 : Int) (a0_7 : Int) (a0_8 : Int) (a0_9 : Int) (A1 : Option Addr) (c1 : Nat) (l1 : List (S50)) (A2 : Option Addr) (c2 : Nat) (l2 : List (S42)) (r : Bool) (w : World) (hr1 : Kd.C k50 w A1 l1.length l1) (hc1 : l1.length ≤ c1) (hr2 : Kd.C k42 w A2 l2.length l2) (hc2 : l2.length ≤ c2) (h : millwrightlaw19_TraceBounds.f k a0_0 a0_1 a0_2 a0_3 a0_4 a0_5 a0_6 a0_7 a0_8 a0_9 l1 l2 = some r) (HT : TrL.Laid w) :
  Calls Tryd.prog 6 #[.agg #[.int .i64 a0_0, .int .i64 a0_1, .int .i64 a0_2, .int .i64 a0_3, .int .i64 a0_4, .int .i64 a0_5, .int .i64 a0_6, .int .i64 a0_7, .int .i64 a0_8, .int .i64 a0_9], .slice A1 l1.length c1, .slice A2 l2.length c2] w fun e w' => e = .returned (.bool r) ∧ Below w.heap.size w w' := by
 have hu23 := Tryd.underlying23
 have hu42 := Tryd.underlying42
 have HR1 := Aside0.mk hr1
 have HC1 := Aside0.mk hc1
 clear hr1 hc1
 have HR2 := Aside0.mk hr2
 have HC2 := Aside0.mk hc2
 clear hr2 hc2
 have HB := Aside0.mk (Below.refl w.heap.size w)
 have H : ((millwrightlaw19_shown.f).bind fun t105 => (if 0 ≤ (mn (l1.length : Int) 70) then (if (mn (l1.length : Int) 70) ≤ (l1.length : Int) then ((some (l1.take ((mn (l1.length : Int) 70) : Int).toNat : List (S50))).bind fun y106 => (if 0 ≤ (mn (l2.length : Int) 120) then (if (mn (l2.length : Int) 120) ≤ (l2.length : Int) then ((some (l2.take ((mn (l2.length : Int) 120) : Int).toNat : List (S42))).bind fun y110 => ((trace_Audit.f a0_0 a0_1 a0_2 a0_3 a0_4 a0_5 a0_6 a0_7 a0_8 a0_9 y106 y110).bind fun bt114 => (if bt114.2 = 0 then (millwrightlaw19_TraceBounds.j0 k y106 y110 t105 (y110.length : Int) a0_0 a0_1 a0_2 a0_3 a0_4 a0_5 a0_6 a0_7 a0_8 a0_9) else (millwrightlaw19_TraceBounds.j0 k y106 y110 t105 bt114.1 a0_0 a0_1 a0_2 a0_3 a0_4 a0_5 a0_6 a0_7 a0_8 a0_9)))) else (none)) else (none))) else (none)) else (none))) = some r := h
 clear h
 replace H := Option.bind_eq_some_iff.mp H
 obtain ⟨t105, A40, H⟩ := H
 replace H : (if 0 ≤ (mn (l1.length : Int) 70) then (if (mn (l1.length : Int) 70) ≤ (l1.length : Int) then ((some (l1.take ((mn (l1.length : Int) 70) : Int).toNat : List (S50))).bind fun y106 => (if 0 ≤ (mn (l2.length : Int) 120) then (if (mn (l2.length : Int) 120) ≤ (l2.length : Int) then ((some (l2.take ((mn (l2.length : Int) 120) : Int).toNat : List (S42))).bind fun y110 => ((trace_Audit.f a0_0 a0_1 a0_2 a0_3 a0_4 a0_5 a0_6 a0_7 a0_8 a0_9 y106 y110).bind fun bt114 => (if bt114.2 = 0 then (millwrightlaw19_TraceBounds.j0 k y106 y110 t105 (y110.length : Int) a0_0 a0_1 a0_2 a0_3 a0_4 a0_5 a0_6 a0_7 a0_8 a0_9) else (millwrightlaw19_TraceBounds.j0 k y106 y110 t105 bt114.1 a0_0 a0_1 a0_2 a0_3 a0_4 a0_5 a0_6 a0_7 a0_8 a0_9)))) else (none)) else (none))) else (none)) else (none)) = some r := H
 have A4 := Aside0.mk A40
 clear A40
 obtain ⟨ji5, hji5⟩ : ∃ j_ : Int, (mn (l1.length : Int) 70) = j_ := ⟨_, rfl⟩
 replace H : (if 0 ≤ (ji5) then (if (ji5) ≤ (l1.length : Int) then ((some (l1.take ((ji5) : Int).toNat : List (S50))).bind fun y106 => (if 0 ≤ (mn (l2.length : Int) 120) then (if (mn (l2.length : Int) 120) ≤ (l2.length : Int) then ((some (l2.take ((mn (l2.length : Int) 120) : Int).toNat : List (S42))).bind fun y110 => ((trace_Audit.f a0_0 a0_1 a0_2 a0_3 a0_4 a0_5 a0_6 a0_7 a0_8 a0_9 y106 y110).bind fun bt114 => (if bt114.2 = 0 then (millwrightlaw19_TraceBounds.j0 k y106 y110 t105 (y110.length : Int) a0_0 a0_1 a0_2 a0_3 a0_4 a0_5 a0_6 a0_7 a0_8 a0_9) else (millwrightlaw19_TraceBounds.j0 k y106 y110 t105 bt114.1 a0_0 a0_1 a0_2 a0_3 a0_4 a0_5 a0_6 a0_7 a0_8 a0_9)))) else (none)) else (none))) else (none)) else (none)) = some r := by first | (rw [hji5] at H; exact H) | (simp only [hji5] at H ⊢; exact H)
 (try rw [hji5] at A4)
 (try (have hji5h : ji5 ≤ 70 := by (rw [← hji5]; unfold mn; (repeat' split) <;> omega)))
 (try (have hji5g : ji5 ≤ 64 := by omega))
 (try (have hji5l : 0 ≤ ji5 := by (rw [← hji5]; unfold mn; (repeat' split) <;> omega)))
 (try (have hji5m : 0 ≤ ji5 := by omega))
 have hji5_ : (if 70 < (l1.length : Int) then 70 else (l1.length : Int)) = ji5 := hji5
 by_cases c6 : 0 ≤ (ji5)
 ·
  rw [if_pos c6] at H
  have c6b0 := eq_true c6
  have c6b1 : decide (0 ≤ (ji5)) = true := decide_eq_true c6
  clear c6
  by_cases c7 : (ji5) ≤ (l1.length : Int)
  ·
   rw [if_pos c7] at H
   have c7b0 := eq_true c7
   have c7b1 : decide ((ji5) ≤ (l1.length : Int)) = true := decide_eq_true c7
   clear c7
   obtain ⟨y106, hy106⟩ : ∃ y_ : List (S50), y_ = (l1.take ((ji5) : Int).toNat) := ⟨_, rfl⟩
   replace H : (if 0 ≤ (mn (l2.length : Int) 120) then (if (mn (l2.length : Int) 120) ≤ (l2.length : Int) then ((some (l2.take ((mn (l2.length : Int) 120) : Int).toNat : List (S42))).bind fun y110 => ((trace_Audit.f a0_0 a0_1 a0_2 a0_3 a0_4 a0_5 a0_6 a0_7 a0_8 a0_9 y106 y110).bind fun bt114 => (if bt114.2 = 0 then (millwrightlaw19_TraceBounds.j0 k y106 y110 t105 (y110.length : Int) a0_0 a0_1 a0_2 a0_3 a0_4 a0_5 a0_6 a0_7 a0_8 a0_9) else (millwrightlaw19_TraceBounds.j0 k y106 y110 t105 bt114.1 a0_0 a0_1 a0_2 a0_3 a0_4 a0_5 a0_6 a0_7 a0_8 a0_9)))) else (none)) else (none)) = some r := by first | (rw [hy106]; with_reducible exact H) | (have H2_ := (Option.bind_some _ _).symm.trans H; rw [hy106]; with_reducible exact H2_) | (have H2_ := (Option.bind_some _ _).symm.trans H; with_reducible exact H2_) | with_reducible exact H | (rw [hy106]; exact H) | exact H
   have Ny106 := Aside0.mk hy106
   clear hy106
   obtain ⟨ji8, hji8⟩ : ∃ j_ : Int, (mn (l2.length : Int) 120) = j_ := ⟨_, rfl⟩
   replace H : (if 0 ≤ (ji8) then (if (ji8) ≤ (l2.length : Int) then ((some (l2.take ((ji8) : Int).toNat : List (S42))).bind fun y110 => ((trace_Audit.f a0_0 a0_1 a0_2 a0_3 a0_4 a0_5 a0_6 a0_7 a0_8 a0_9 y106 y110).bind fun bt114 => (if bt114.2 = 0 then (millwrightlaw19_TraceBounds.j0 k y106 y110 t105 (y110.length : Int) a0_0 a0_1 a0_2 a0_3 a0_4 a0_5 a0_6 a0_7 a0_8 a0_9) else (millwrightlaw19_TraceBounds.j0 k y106 y110 t105 bt114.1 a0_0 a0_1 a0_2 a0_3 a0_4 a0_5 a0_6 a0_7 a0_8 a0_9)))) else (none)) else (none)) = some r := by first | (rw [hji8] at H; exact H) | (simp only [hji8] at H ⊢; exact H)
   (try rw [hji8] at A4)
   (try (have hji8h : ji8 ≤ 120 := by (rw [← hji8]; unfold mn; (repeat' split) <;> omega)))
   (try (have hji8g : ji8 ≤ 64 := by omega))
   (try (have hji8l : 0 ≤ ji8 := by (rw [← hji8]; unfold mn; (repeat' split) <;> omega)))
   (try (have hji8m : 0 ≤ ji8 := by omega))
   have hji8_ : (if 120 < (l2.length : Int) then 120 else (l2.length : Int)) = ji8 := hji8
   by_cases c9 : 0 ≤ (ji8)
   ·
    rw [if_pos c9] at H
    have c9b0 := eq_true c9
    have c9b1 : decide (0 ≤ (ji8)) = true := decide_eq_true c9
    clear c9
    by_cases c10 : (ji8) ≤ (l2.length : Int)
    ·
     rw [if_pos c10] at H
     have c10b0 := eq_true c10
     have c10b1 : decide ((ji8) ≤ (l2.length : Int)) = true := decide_eq_true c10
     clear c10
     obtain ⟨y110, hy110⟩ : ∃ y_ : List (S42), y_ = (l2.take ((ji8) : Int).toNat) := ⟨_, rfl⟩
     replace H : ((trace_Audit.f a0_0 a0_1 a0_2 a0_3 a0_4 a0_5 a0_6 a0_7 a0_8 a0_9 y106 y110).bind fun bt114 => (if bt114.2 = 0 then (millwrightlaw19_TraceBounds.j0 k y106 y110 t105 (y110.length : Int) a0_0 a0_1 a0_2 a0_3 a0_4 a0_5 a0_6 a0_7 a0_8 a0_9) else (millwrightlaw19_TraceBounds.j0 k y106 y110 t105 bt114.1 a0_0 a0_1 a0_2 a0_3 a0_4 a0_5 a0_6 a0_7 a0_8 a0_9))) = some r := by first | (rw [hy110]; with_reducible exact H) | (have H2_ := (Option.bind_some _ _).symm.trans H; rw [hy110]; with_reducible exact H2_) | (have H2_ := (Option.bind_some _ _).symm.trans H; with_reducible exact H2_) | with_reducible exact H | (rw [hy110]; exact H) | exact H
     have Ny110 := Aside0.mk hy110
     clear hy110
     replace H := Option.bind_eq_some_iff.mp H
     obtain ⟨⟨t114, t115⟩, A110, H⟩ := H
     replace H : (if t115 = 0 then (millwrightlaw19_TraceBounds.j0 k y106 y110 t105 (y110.length : Int) a0_0 a0_1 a0_2 a0_3 a0_4 a0_5 a0_6 a0_7 a0_8 a0_9) else (millwrightlaw19_TraceBounds.j0 k y106 y110 t105 t114 a0_0 a0_1 a0_2 a0_3 a0_4 a0_5 a0_6 a0_7 a0_8 a0_9)) = some r := H
     have A11 := Aside0.mk A110
     clear A110
     have HC12 := Aside0.mk H
     clear H
     go_enter Tryd.func6, Tryd.ntmps6
     go_upto_if 41 with (first | ((with_reducible refine gate_dst (N := 3) rfl ?_); (try (refine gate_guard (by rfl) ?_; dsimp only)); refine box_event ?hg (N := 3) ?hd (cs := #[.int .i64 a0_0, .int .i64 a0_1, .int .i64 a0_2, .int .i64 a0_3, .int .i64 a0_4, .int .i64 a0_5, .int .i64 a0_6, .int .i64 a0_7, .int .i64 a0_8, .int .i64 a0_9]) (t := 23) ?hr ?_; (case hd => rfl); (case hg => rfl); (case hr => first | (go_simp; done) | (go_simp; rfl)); intro gb104 hg w13 hbox hb; have n0_ := Aside0.mk (below_step (by repeat (first | (with_reducible first | exact HB.out | apply below_alloc | apply pw_below_drewN | apply below_drew1) | exact HB.out)) hb); have n1_ := Aside0.mk (hbox); have n2_ := Aside0.mk ((by rw [hg]; exact (below_size (by repeat (first | (with_reducible first | exact HB.out | apply below_alloc | apply pw_below_drewN | apply below_drew1) | exact HB.out))) : w.heap.size ≤ gb104)); have n3_ := Aside0.mk ((by rw [hg]; exact (below_size (by repeat (first | (with_reducible first | exact HB.out | apply below_alloc | apply pw_below_drewN | apply below_drew1) | exact HB.out))) : w.heap.size ≤ gb104)); clear HB; have HB := n0_; have BK104 := n1_; have GW104 := n2_; have GE104 := n3_; clear n0_ n1_ n2_ n3_; clear hb hbox hg) | (go_at_call 14; (with_reducible refine (millwrightlaw19_shown.calls  t105 _ A4.out (TrL.Laid.below HT (by repeat (first | (with_reducible first | exact HB.out | apply below_alloc | apply pw_below_drewN | apply below_drew1) | exact HB.out)))).mono ?_); rintro e w14 ⟨rfl, hb⟩; have n0_ := Aside0.mk (blk_below (g := gb104) (o := .cells #[.int .i64 a0_0, .int .i64 a0_1, .int .i64 a0_2, .int .i64 a0_3, .int .i64 a0_4, .int .i64 a0_5, .int .i64 a0_6, .int .i64 a0_7, .int .i64 a0_8, .int .i64 a0_9] 23 (0, 0)) (by (with_reducible repeat (first | refine blk_drewN ?_ _ | refine blk_drew ?_ | refine blk_alloc ?_ _)); exact BK104.out) hb); have n1_ := Aside0.mk (below_step (by repeat (first | (with_reducible first | exact HB.out | apply below_alloc | apply pw_below_drewN | apply below_drew1 | refine below_set ?_ GE104.out) | exact HB.out)) hb); clear BK104; clear HB; have BK104 := n0_; have HB := n1_; clear n0_ n1_; (try clear hb); (try clear hb2); (try clear hk); (try clear hi); have q15 : ((ji5) : Int) ≤ ((l1.length : Int) : Int) := of_decide_eq_true (by first | (with_reducible assumption) | assumption); obtain ⟨i015, hi015, _, hsz15, _⟩ := info_parts info50; have hroom15 : l1.length ≤ c1 := HC1.out; have hC15 : Kd.C k50 _ A1 l1.length l1 := HR1.out; have hcut15 := cut_to (P := Tryd.prog) 24 50 .i64 Tryd.underlying24 hi015 A1 l1.length c1 (ji5) (of_decide_eq_true (by first | (with_reducible assumption) | assumption)) q15 hroom15; have hr15 := Kd.C_take (m := ((ji5) : Int).toNat) hC15 (by omega); have hy15 : y106.length = ((ji5) : Int).toNat := (by rw [Ny106.out, List.length_take]; omega); rw [← Ny106.out] at hr15; rw [← hy15] at hcut15; have HR109 := Aside0.mk hr15; have HC109 := Aside0.mk (show y106.length ≤ c1 from by omega); clear hr15 hC15 hroom15 hi015 hsz15; have KY15 := Aside0.mk hy15; clear hy15; replace q15 := eq_true q15; have q16 : ((ji8) : Int) ≤ ((l2.length : Int) : Int) := of_decide_eq_true (by first | (with_reducible assumption) | assumption); obtain ⟨i016, hi016, _, hsz16, _⟩ := info_parts info42; have hroom16 : l2.length ≤ c2 := HC2.out; have hC16 : Kd.C k42 _ A2 l2.length l2 := HR2.out; have hcut16 := cut_to (P := Tryd.prog) 25 42 .i64 Tryd.underlying25 hi016 A2 l2.length c2 (ji8) (of_decide_eq_true (by first | (with_reducible assumption) | assumption)) q16 hroom16; have hr16 := Kd.C_take (m := ((ji8) : Int).toNat) hC16 (by omega); have hy16 : y110.length = ((ji8) : Int).toNat := (by rw [Ny110.out, List.length_take]; omega); rw [← Ny110.out] at hr16; rw [← hy16] at hcut16; have HR113 := Aside0.mk hr16; have HC113 := Aside0.mk (show y110.length ≤ c2 from by omega); clear hr16 hC16 hroom16 hi016 hsz16; have KY16 := Aside0.mk hy16; clear hy16; replace q16 := eq_true q16; have hcz17_0 : w14.cell? ⟨gb104, 0, none⟩ = some (.int .i64 a0_0) := (blk_cell BK104.out 0).trans rfl; have hcz17_1 : w14.cell? ⟨gb104, 1, none⟩ = some (.int .i64 a0_1) := (blk_cell BK104.out 1).trans rfl; have hcz17_2 : w14.cell? ⟨gb104, 2, none⟩ = some (.int .i64 a0_2) := (blk_cell BK104.out 2).trans rfl; have hcz17_3 : w14.cell? ⟨gb104, 3, none⟩ = some (.int .i64 a0_3) := (blk_cell BK104.out 3).trans rfl; have hcz17_4 : w14.cell? ⟨gb104, 4, none⟩ = some (.int .i64 a0_4) := (blk_cell BK104.out 4).trans rfl; have hcz17_5 : w14.cell? ⟨gb104, 5, none⟩ = some (.int .i64 a0_5) := (blk_cell BK104.out 5).trans rfl; have hcz17_6 : w14.cell? ⟨gb104, 6, none⟩ = some (.int .i64 a0_6) := (blk_cell BK104.out 6).trans rfl; have hcz17_7 : w14.cell? ⟨gb104, 7, none⟩ = some (.int .i64 a0_7) := (blk_cell BK104.out 7).trans rfl; have hcz17_8 : w14.cell? ⟨gb104, 8, none⟩ = some (.int .i64 a0_8) := (blk_cell BK104.out 8).trans rfl; have hcz17_9 : w14.cell? ⟨gb104, 9, none⟩ = some (.int .i64 a0_9) := (blk_cell BK104.out 9).trans rfl; have hfz17_0 := blk_frozen BK104.out 0; have hfz17_1 := blk_frozen BK104.out 1; have hfz17_2 := blk_frozen BK104.out 2; have hfz17_3 := blk_frozen BK104.out 3; have hfz17_4 := blk_frozen BK104.out 4; have hfz17_5 := blk_frozen BK104.out 5; have hfz17_6 := blk_frozen BK104.out 6; have hfz17_7 := blk_frozen BK104.out 7; have hfz17_8 := blk_frozen BK104.out 8; have hfz17_9 := blk_frozen BK104.out 9) | (go_at_call 15; (with_reducible refine (trace_Audit.calls a0_0 a0_1 a0_2 a0_3 a0_4 a0_5 a0_6 a0_7 a0_8 a0_9 _ _ y106 _ _ y110 t114 t115 _ ?side1 ?side2 ?side3 ?side4 A11.out (TrL.Laid.below HT (by repeat (first | (with_reducible first | exact HB.out | apply below_alloc | apply pw_below_drewN | apply below_drew1) | exact HB.out)))).mono ?_); (case side1 => repeat (first | exact (Kd.C_below HR109.out HB.out) | (with_reducible refine Kd.C_alloc ?_ _) | (with_reducible refine Kd.C_drewN ?_ _) | (with_reducible refine Kd.C_drew ?_))); (case side2 => exact HC109.out); (case side3 => repeat (first | exact (Kd.C_below HR113.out HB.out) | (with_reducible refine Kd.C_alloc ?_ _) | (with_reducible refine Kd.C_drewN ?_ _) | (with_reducible refine Kd.C_drew ?_))); (case side4 => exact HC113.out); rintro e w18 ⟨rfl, hb⟩; have n0_ := Aside0.mk (blk_below (g := gb104) (o := .cells #[.int .i64 a0_0, .int .i64 a0_1, .int .i64 a0_2, .int .i64 a0_3, .int .i64 a0_4, .int .i64 a0_5, .int .i64 a0_6, .int .i64 a0_7, .int .i64 a0_8, .int .i64 a0_9] 23 (0, 0)) (by (with_reducible repeat (first | refine blk_drewN ?_ _ | refine blk_drew ?_ | refine blk_alloc ?_ _)); exact BK104.out) hb); have n1_ := Aside0.mk (below_step (by repeat (first | (with_reducible first | exact HB.out | apply below_alloc | apply pw_below_drewN | apply below_drew1 | refine below_set ?_ GE104.out) | exact HB.out)) hb); clear BK104; clear HB; have BK104 := n0_; have HB := n1_; clear n0_ n1_; (try clear hb); (try clear hb2); (try clear hk); (try clear hi)))
     repeat (go_quiet (fail); try go_wp2)
     (try simp only [Act.put, List.setIfInBounds_toArray, List.set_cons_zero, List.set_cons_succ])
     go_cut [8] (fun v8 wc => ∃ (kq : Nat) (x8_11 : Int), v8 = .int .i64 x8_11 ∧ Aside0 (millwrightlaw19_TraceBounds.j0 kq y106 y110 t105 x8_11 a0_0 a0_1 a0_2 a0_3 a0_4 a0_5 a0_6 a0_7 a0_8 a0_9 = some r) ∧ Aside0 (kq ≤ k) ∧ Aside0 (wc.heap[gb104]? = some (.cells #[.int .i64 a0_0, .int .i64 a0_1, .int .i64 a0_2, .int .i64 a0_3, .int .i64 a0_4, .int .i64 a0_5, .int .i64 a0_6, .int .i64 a0_7, .int .i64 a0_8, .int .i64 a0_9] 23 (0, 0))) ∧ Aside0 (Below w.heap.size w wc))
     case first => as_aux_lemma =>
      have H := HC12.out
      clear HC12
      by_cases c19 : t115 = 0
      ·
       rw [if_pos c19] at H
       have c19b0 : (t115 == 0) = true := beq_iff_eq.mpr c19
       have c19b1 : (t115 != 0) = false := bne_eq_false_iff_eq.mpr c19
       clear c19
       (first | rw [c19b0] | (simp only [i64_w, i32_w]; rw [c19b0]) | skip)
       have H' := Aside0.mk H
       clear H
       go_wp2
       repeat (go_quiet (fail); try go_wp2)
       go_meet
       case rel => exact ⟨_, ((y110.length : Int)), (by first | rfl | (simp; done) | (simp [*]; done)), H', ⟨by first | omega | exact Nat.le_refl _⟩, ⟨by (with_reducible repeat (first | refine blk_drewN ?_ _ | refine blk_drew ?_ | refine blk_alloc ?_ _)); exact BK104.out⟩, ⟨by repeat (first | (with_reducible first | exact HB.out | apply below_alloc | apply pw_below_drewN | apply below_drew1 | refine below_set ?_ GE104.out) | exact HB.out)⟩⟩
      ·
       rw [if_neg c19] at H
       have c19b0 : (t115 == 0) = false := beq_eq_false_iff_ne.mpr c19
       have c19b1 : (t115 != 0) = true := bne_iff_ne.mpr c19
       (first | rw [c19b0] | (simp only [i64_w, i32_w]; rw [c19b0]) | skip)
       have H' := Aside0.mk H
       clear H
       go_wp2
       repeat (go_quiet (fail); try go_wp2)
       go_meet
       case rel => exact ⟨_, (t114), (by first | rfl | (simp; done) | (simp [*]; done)), H', ⟨by first | omega | exact Nat.le_refl _⟩, ⟨by (with_reducible repeat (first | refine blk_drewN ?_ _ | refine blk_drew ?_ | refine blk_alloc ?_ _)); exact BK104.out⟩, ⟨by repeat (first | (with_reducible first | exact HB.out | apply below_alloc | apply pw_below_drewN | apply below_drew1 | refine below_set ?_ GE104.out) | exact HB.out)⟩⟩
     case rest => as_aux_lemma =>
      clear HC12
      (try clear c1); (try clear q1); (try clear c2); (try clear p2); (try clear c6); (try clear c6b0); (try clear c6b1); (try clear c7); (try clear c7b0); (try clear c7b1); (try clear c9); (try clear c9b0); (try clear c9b1); (try clear c10); (try clear c10b0); (try clear c10b1); (try clear q15); (try clear q16); (try clear c19); (try clear c19b0); (try clear c19b1); (try clear hcz17_0); (try clear hcz17_1); (try clear hcz17_2); (try clear hcz17_3); (try clear hcz17_4); (try clear hcz17_5); (try clear hcz17_6); (try clear hcz17_7); (try clear hcz17_8); (try clear hcz17_9); (try clear hfz17_0); (try clear hfz17_1); (try clear hfz17_2); (try clear hfz17_3); (try clear hfz17_4); (try clear hfz17_5); (try clear hfz17_6); (try clear hfz17_7); (try clear hfz17_8); (try clear hfz17_9); (try clear q15); (try clear q16)
      obtain ⟨kq, x8_11, rfl, HA, HJ11, BK104, HB⟩ := hcut
      cases kq with
      | zero => exact absurd HA.out (by simp [millwrightlaw19_TraceBounds.j0])
      | succ kj11 =>
       have H := HA.out
       clear HA
       simp only [millwrightlaw19_TraceBounds.j0] at H
       have HC20 := Aside0.mk H
       clear H
       go_upto_region 7 with (fail)
       repeat (go_quiet (fail); go_upto_region 7 with (fail))
       go_cut [51] (fun v51 wc => ∃ (kq : Nat) (x51_19 : Bool), v51 = .bool x51_19 ∧ Aside0 (millwrightlaw19_TraceBounds.j1 kq y106 y110 t105 x8_11 x51_19 a0_0 a0_1 a0_2 a0_3 a0_4 a0_5 a0_6 a0_7 a0_8 a0_9 = some r) ∧ Aside0 (kq ≤ kj11) ∧ Aside0 (wc.heap[gb104]? = some (.cells #[.int .i64 a0_0, .int .i64 a0_1, .int .i64 a0_2, .int .i64 a0_3, .int .i64 a0_4, .int .i64 a0_5, .int .i64 a0_6, .int .i64 a0_7, .int .i64 a0_8, .int .i64 a0_9] 23 (0, 0))) ∧ Aside0 (Below w.heap.size w wc))
       case first => as_aux_lemma =>
        have H := HC20.out
        clear HC20
        by_cases c21 : x8_11 < 0
        ·
         rw [if_pos c21] at H
         have c21b0 : decide (x8_11 < 0) = true := decide_eq_true c21
         clear c21
         (first | rw [c21b0] | (simp only [i64_w, i32_w]; rw [c21b0]) | skip)
         have H' := Aside0.mk H
         clear H
         go_wp2
         repeat (go_quiet (fail); try go_wp2)
         go_meet
         case rel => exact ⟨_, (true), (by first | rfl | (simp; done) | (simp [*]; done)), H', ⟨by have := HJ11.out; first | omega | exact Nat.le_refl _⟩, ⟨by (with_reducible repeat (first | refine blk_drewN ?_ _ | refine blk_drew ?_ | refine blk_alloc ?_ _)); exact BK104.out⟩, ⟨by repeat (first | (with_reducible first | exact HB.out | apply below_alloc | apply pw_below_drewN | apply below_drew1 | refine below_set ?_ GE104.out) | exact HB.out)⟩⟩
        ·
         rw [if_neg c21] at H
         have c21b0 : decide (x8_11 < 0) = false := decide_eq_false c21
         clear c21
         (first | rw [c21b0] | (simp only [i64_w, i32_w]; rw [c21b0]) | skip)
         have H' := Aside0.mk H
         clear H
         go_wp2
         repeat (go_quiet (fail); try go_wp2)
         go_meet
         case rel => exact ⟨_, (decide (x8_11 > (y110.length : Int))), (by first | rfl | (simp; done) | (simp [*]; done)), H', ⟨by have := HJ11.out; first | omega | exact Nat.le_refl _⟩, ⟨by (with_reducible repeat (first | refine blk_drewN ?_ _ | refine blk_drew ?_ | refine blk_alloc ?_ _)); exact BK104.out⟩, ⟨by repeat (first | (with_reducible first | exact HB.out | apply below_alloc | apply pw_below_drewN | apply below_drew1 | refine below_set ?_ GE104.out) | exact HB.out)⟩⟩
       case rest => as_aux_lemma =>
        clear HC20
        (try clear c1); (try clear q1); (try clear c2); (try clear p2); (try clear c6); (try clear c6b0); (try clear c6b1); (try clear c7); (try clear c7b0); (try clear c7b1); (try clear c9); (try clear c9b0); (try clear c9b1); (try clear c10); (try clear c10b0); (try clear c10b1); (try clear q15); (try clear q16); (try clear c19); (try clear c19b0); (try clear c19b1); (try clear c21); (try clear c21b0); (try clear hcz17_0); (try clear hcz17_1); (try clear hcz17_2); (try clear hcz17_3); (try clear hcz17_4); (try clear hcz17_5); (try clear hcz17_6); (try clear hcz17_7); (try clear hcz17_8); (try clear hcz17_9); (try clear hfz17_0); (try clear hfz17_1); (try clear hfz17_2); (try clear hfz17_3); (try clear hfz17_4); (try clear hfz17_5); (try clear hfz17_6); (try clear hfz17_7); (try clear hfz17_8); (try clear hfz17_9); (try clear p2); (try clear q1); (try clear q15); (try clear q16)
        obtain ⟨kq, x51_19, rfl, HA, HJ19, BK104, HB⟩ := hcut
        cases kq with
        | zero => exact absurd HA.out (by simp [millwrightlaw19_TraceBounds.j1])
        | succ kj19 =>
         have H := HA.out
         clear HA
         simp only [millwrightlaw19_TraceBounds.j1] at H
         by_cases c22 : x51_19 = true
         ·
          subst c22
          have H1 : (some false) = some r := by rw [if_pos rfl] at H; exact H
          clear H
          have H := H1
          clear H1
          obtain rfl := Option.some.inj H
          go_wp2
          repeat (go_quiet (fail); try go_wp2)
          go_ret
          exact ⟨by first | rfl | (simp [errW_none, errW_some] <;> rfl) | (simp only [← hji5, ← hji8]; first | rfl | (simp [errW_none, errW_some] <;> rfl)) | (simp [*, errW_none, errW_some] <;> rfl), by repeat (first | (with_reducible first | exact HB.out | apply below_alloc | apply pw_below_drewN | apply below_drew1 | refine below_set ?_ GE104.out) | exact HB.out)⟩
         ·
          replace c22 := Bool.eq_false_iff.mpr c22
          subst c22
          have H1 : (if 0 ≤ (y106.length : Int) then (if ((y106.length : Int) : Int).toNat ≤ 35184372088832 then (if ((y106.length : Int) : Int).toNat ≤ 281474976710656 then (millwrightlaw19_TraceBounds.l0 kj19 y106 y110 t105 x8_11 (List.replicate ((y106.length : Int) : Int).toNat 0) (List.replicate ((y106.length : Int) : Int).toNat 0) (List.replicate ((y106.length : Int) : Int).toNat 0) (List.replicate ((y106.length : Int) : Int).toNat false) 0 a0_0 a0_1 a0_2 a0_3 a0_4 a0_5 a0_6 a0_7 a0_8 a0_9) else (none)) else (none)) else (none)) = some r := by rw [if_neg (show ¬ (false = true) by decide)] at H; exact H
          clear H
          have H := H1
          clear H1
          by_cases c23 : 0 ≤ (y106.length : Int)
          ·
           rw [if_pos c23] at H
           have c23b0 := eq_true c23
           have c23b1 : decide (0 ≤ (y106.length : Int)) = true := decide_eq_true c23
           clear c23
           by_cases c24 : ((y106.length : Int) : Int).toNat ≤ 35184372088832
           ·
            rw [if_pos c24] at H
            have c24b0 := eq_true c24
            have c24b1 : decide (((y106.length : Int) : Int).toNat ≤ 35184372088832) = true := decide_eq_true c24
            clear c24
            obtain ⟨y116, hy116⟩ : ∃ y_ : List Int, y_ = (List.replicate ((y106.length : Int) : Int).toNat 0) := ⟨_, rfl⟩
            replace H : (if ((y106.length : Int) : Int).toNat ≤ 281474976710656 then (millwrightlaw19_TraceBounds.l0 kj19 y106 y110 t105 x8_11 y116 (List.replicate ((y106.length : Int) : Int).toNat 0) (List.replicate ((y106.length : Int) : Int).toNat 0) (List.replicate ((y106.length : Int) : Int).toNat false) 0 a0_0 a0_1 a0_2 a0_3 a0_4 a0_5 a0_6 a0_7 a0_8 a0_9) else (none)) = some r := by first | (rw [hy116]; with_reducible exact H) | (have H2_ := (Option.bind_some _ _).symm.trans H; rw [hy116]; with_reducible exact H2_) | (have H2_ := (Option.bind_some _ _).symm.trans H; with_reducible exact H2_) | with_reducible exact H | (rw [hy116]; exact H) | exact H
            have Ny116 := Aside0.mk hy116
            clear hy116
            obtain ⟨y119, hy119⟩ : ∃ y_ : List Int, y_ = (List.replicate ((y106.length : Int) : Int).toNat 0) := ⟨_, rfl⟩
            replace H : (if ((y106.length : Int) : Int).toNat ≤ 281474976710656 then (millwrightlaw19_TraceBounds.l0 kj19 y106 y110 t105 x8_11 y116 y119 (List.replicate ((y106.length : Int) : Int).toNat 0) (List.replicate ((y106.length : Int) : Int).toNat false) 0 a0_0 a0_1 a0_2 a0_3 a0_4 a0_5 a0_6 a0_7 a0_8 a0_9) else (none)) = some r := by first | (rw [hy119]; with_reducible exact H) | (have H2_ := (Option.bind_some _ _).symm.trans H; rw [hy119]; with_reducible exact H2_) | (have H2_ := (Option.bind_some _ _).symm.trans H; with_reducible exact H2_) | with_reducible exact H | (rw [hy119]; exact H) | exact H
            have Ny119 := Aside0.mk hy119
            clear hy119
            obtain ⟨y122, hy122⟩ : ∃ y_ : List Int, y_ = (List.replicate ((y106.length : Int) : Int).toNat 0) := ⟨_, rfl⟩
            replace H : (if ((y106.length : Int) : Int).toNat ≤ 281474976710656 then (millwrightlaw19_TraceBounds.l0 kj19 y106 y110 t105 x8_11 y116 y119 y122 (List.replicate ((y106.length : Int) : Int).toNat false) 0 a0_0 a0_1 a0_2 a0_3 a0_4 a0_5 a0_6 a0_7 a0_8 a0_9) else (none)) = some r := by first | (rw [hy122]; with_reducible exact H) | (have H2_ := (Option.bind_some _ _).symm.trans H; rw [hy122]; with_reducible exact H2_) | (have H2_ := (Option.bind_some _ _).symm.trans H; with_reducible exact H2_) | with_reducible exact H | (rw [hy122]; exact H) | exact H
            have Ny122 := Aside0.mk hy122
            clear hy122
            by_cases c25 : ((y106.length : Int) : Int).toNat ≤ 281474976710656
            ·
             rw [if_pos c25] at H
             have c25b0 := eq_true c25
             have c25b1 : decide (((y106.length : Int) : Int).toNat ≤ 281474976710656) = true := decide_eq_true c25
             clear c25
             obtain ⟨y125, hy125⟩ : ∃ y_ : List Bool, y_ = (List.replicate ((y106.length : Int) : Int).toNat false) := ⟨_, rfl⟩
             replace H : (millwrightlaw19_TraceBounds.l0 kj19 y106 y110 t105 x8_11 y116 y119 y122 y125 0 a0_0 a0_1 a0_2 a0_3 a0_4 a0_5 a0_6 a0_7 a0_8 a0_9) = some r := by first | (rw [hy125]; with_reducible exact H) | (have H2_ := (Option.bind_some _ _).symm.trans H; rw [hy125]; with_reducible exact H2_) | (have H2_ := (Option.bind_some _ _).symm.trans H; with_reducible exact H2_) | with_reducible exact H | (rw [hy125]; exact H) | exact H
             have Ny125 := Aside0.mk hy125
             clear hy125
             have H' := Aside0.mk H
             clear H
             go_wp2_with (first | ((with_reducible refine gate_dst (N := 54) rfl ?_); (try (refine gate_guard (by rfl) ?_; dsimp only)); refine Kd.R_make (Kd.int .i64) _ 3 rfl (N := 54) rfl 45 _ _ rfl (y106.length : Int) rfl rfl Tryd.underlying45 (.int .i64 0) 8 info3 rfl (by decide) (by omega) 0 (ok := fun _ => True) (okp := fun _ => True) rfl (fun _ hk => hk) trivial (of_decide_eq_true (by first | (with_reducible assumption) | assumption)) (Nat.le_trans (Nat.mul_le_mul_right _ (of_decide_eq_true (by first | (with_reducible assumption) | assumption) : (y106.length : Int).toNat ≤ 35184372088832)) (by omega)) (Below.refl _ _) (Nat.le_refl _) ?_; intro v117 w26 ho27 hb hg_ hnew_; clear hg_ hnew_; (first | rw [← Ny116.out] at ho27 | (simp only [Int.reduceToNat] at ho27; rw [← Ny116.out] at ho27)); have n0_ := Aside0.mk (Kd.R_lower ho27 (below_size (by repeat (first | (with_reducible first | exact HB.out | apply below_alloc | apply pw_below_drewN | apply below_drew1 | refine below_set ?_ GE104.out) | exact HB.out)))); have n1_ := Aside0.mk (blk_below (g := gb104) (o := .cells #[.int .i64 a0_0, .int .i64 a0_1, .int .i64 a0_2, .int .i64 a0_3, .int .i64 a0_4, .int .i64 a0_5, .int .i64 a0_6, .int .i64 a0_7, .int .i64 a0_8, .int .i64 a0_9] 23 (0, 0)) (by (with_reducible repeat (first | refine blk_drewN ?_ _ | refine blk_drew ?_ | refine blk_alloc ?_ _)); exact BK104.out) hb); have n2_ := Aside0.mk (below_step (by repeat (first | (with_reducible first | exact HB.out | apply below_alloc | apply pw_below_drewN | apply below_drew1 | refine below_set ?_ GE104.out) | exact HB.out)) hb); clear BK104; clear HB; have HO118 := n0_; have BK104 := n1_; have HB := n2_; clear n0_ n1_ n2_; clear hb ho27) | ((with_reducible refine gate_dst (N := 57) rfl ?_); (try (refine gate_guard (by rfl) ?_; dsimp only)); refine Kd.R_make (Kd.int .i64) _ 3 rfl (N := 57) rfl 45 _ _ rfl (y106.length : Int) rfl rfl Tryd.underlying45 (.int .i64 0) 8 info3 rfl (by decide) (by omega) 0 (ok := fun _ => True) (okp := fun _ => True) rfl (fun _ hk => hk) trivial (of_decide_eq_true (by first | (with_reducible assumption) | assumption)) (Nat.le_trans (Nat.mul_le_mul_right _ (of_decide_eq_true (by first | (with_reducible assumption) | assumption) : (y106.length : Int).toNat ≤ 35184372088832)) (by omega)) (Below.refl _ _) (Nat.le_refl _) ?_; intro v120 w28 ho29 hb hg_ hnew_; clear hg_ hnew_; (first | rw [← Ny119.out] at ho29 | (simp only [Int.reduceToNat] at ho29; rw [← Ny119.out] at ho29)); have n0_ := Aside0.mk (Kd.R_elder' (by (with_reducible repeat (first | apply Kd.R_alloc | apply Kd.R_drewN | apply Kd.R_drew)); exact HO118.out) (Kd.R_base ho29) hb); have n1_ := Aside0.mk (Kd.R_lower (Kd.R_new' ho29 (Kd.R_lt (by (with_reducible repeat (first | apply Kd.R_alloc | apply Kd.R_drewN | apply Kd.R_drew)); exact HO118.out))) (below_size (by repeat (first | (with_reducible first | exact HB.out | apply below_alloc | apply pw_below_drewN | apply below_drew1 | refine below_set ?_ GE104.out) | exact HB.out)))); have n2_ := Aside0.mk (blk_below (g := gb104) (o := .cells #[.int .i64 a0_0, .int .i64 a0_1, .int .i64 a0_2, .int .i64 a0_3, .int .i64 a0_4, .int .i64 a0_5, .int .i64 a0_6, .int .i64 a0_7, .int .i64 a0_8, .int .i64 a0_9] 23 (0, 0)) (by (with_reducible repeat (first | refine blk_drewN ?_ _ | refine blk_drew ?_ | refine blk_alloc ?_ _)); exact BK104.out) hb); have n3_ := Aside0.mk (below_step (by repeat (first | (with_reducible first | exact HB.out | apply below_alloc | apply pw_below_drewN | apply below_drew1 | refine below_set ?_ GE104.out) | exact HB.out)) hb); clear HO118; clear BK104; clear HB; have HO118 := n0_; have HO121 := n1_; have BK104 := n2_; have HB := n3_; clear n0_ n1_ n2_ n3_; clear hb ho29) | ((with_reducible refine gate_dst (N := 60) rfl ?_); (try (refine gate_guard (by rfl) ?_; dsimp only)); refine Kd.R_make (Kd.int .i64) _ 3 rfl (N := 60) rfl 45 _ _ rfl (y106.length : Int) rfl rfl Tryd.underlying45 (.int .i64 0) 8 info3 rfl (by decide) (by omega) 0 (ok := fun _ => True) (okp := fun _ => True) rfl (fun _ hk => hk) trivial (of_decide_eq_true (by first | (with_reducible assumption) | assumption)) (Nat.le_trans (Nat.mul_le_mul_right _ (of_decide_eq_true (by first | (with_reducible assumption) | assumption) : (y106.length : Int).toNat ≤ 35184372088832)) (by omega)) (Below.refl _ _) (Nat.le_refl _) ?_; intro v123 w30 ho31 hb hg_ hnew_; clear hg_ hnew_; (first | rw [← Ny122.out] at ho31 | (simp only [Int.reduceToNat] at ho31; rw [← Ny122.out] at ho31)); have n0_ := Aside0.mk (Kd.R_elder' (by (with_reducible repeat (first | apply Kd.R_alloc | apply Kd.R_drewN | apply Kd.R_drew)); exact HO118.out) (Kd.R_base ho31) hb); have n1_ := Aside0.mk (Kd.R_elder' (by (with_reducible repeat (first | apply Kd.R_alloc | apply Kd.R_drewN | apply Kd.R_drew)); exact HO121.out) (Kd.R_base ho31) hb); have n2_ := Aside0.mk (Kd.R_lower (Kd.R_new' (Kd.R_new' ho31 (Kd.R_lt (by (with_reducible repeat (first | apply Kd.R_alloc | apply Kd.R_drewN | apply Kd.R_drew)); exact HO118.out))) (Kd.R_lt (by (with_reducible repeat (first | apply Kd.R_alloc | apply Kd.R_drewN | apply Kd.R_drew)); exact HO121.out))) (below_size (by repeat (first | (with_reducible first | exact HB.out | apply below_alloc | apply pw_below_drewN | apply below_drew1 | refine below_set ?_ GE104.out) | exact HB.out)))); have n3_ := Aside0.mk (blk_below (g := gb104) (o := .cells #[.int .i64 a0_0, .int .i64 a0_1, .int .i64 a0_2, .int .i64 a0_3, .int .i64 a0_4, .int .i64 a0_5, .int .i64 a0_6, .int .i64 a0_7, .int .i64 a0_8, .int .i64 a0_9] 23 (0, 0)) (by (with_reducible repeat (first | refine blk_drewN ?_ _ | refine blk_drew ?_ | refine blk_alloc ?_ _)); exact BK104.out) hb); have n4_ := Aside0.mk (below_step (by repeat (first | (with_reducible first | exact HB.out | apply below_alloc | apply pw_below_drewN | apply below_drew1 | refine below_set ?_ GE104.out) | exact HB.out)) hb); clear HO118; clear HO121; clear BK104; clear HB; have HO118 := n0_; have HO121 := n1_; have HO124 := n2_; have BK104 := n3_; have HB := n4_; clear n0_ n1_ n2_ n3_ n4_; clear hb ho31) | ((with_reducible refine gate_dst (N := 63) rfl ?_); (try (refine gate_guard (by rfl) ?_; dsimp only)); refine Kd.R_make Kd.bool _ 4 rfl (N := 63) rfl 46 _ _ rfl (y106.length : Int) rfl rfl Tryd.underlying46 (.bool false) 1 info4 rfl (by decide) (by omega) false (ok := fun _ => True) (okp := fun _ => True) rfl (fun _ hk => hk) trivial (of_decide_eq_true (by first | (with_reducible assumption) | assumption)) (Nat.le_trans (Nat.mul_le_mul_right _ (of_decide_eq_true (by first | (with_reducible assumption) | assumption) : (y106.length : Int).toNat ≤ 281474976710656)) (by omega)) (Below.refl _ _) (Nat.le_refl _) ?_; intro v126 w32 ho33 hb hg_ hnew_; clear hg_ hnew_; (first | rw [← Ny125.out] at ho33 | (simp only [Int.reduceToNat] at ho33; rw [← Ny125.out] at ho33)); have n0_ := Aside0.mk (Kd.R_below (by (with_reducible repeat (first | apply Kd.R_alloc | apply Kd.R_drewN | apply Kd.R_drew)); exact HO118.out) hb); have n1_ := Aside0.mk (Kd.R_below (by (with_reducible repeat (first | apply Kd.R_alloc | apply Kd.R_drewN | apply Kd.R_drew)); exact HO121.out) hb); have n2_ := Aside0.mk (Kd.R_below (by (with_reducible repeat (first | apply Kd.R_alloc | apply Kd.R_drewN | apply Kd.R_drew)); exact HO124.out) hb); have n3_ := Aside0.mk (Kd.R_lower ho33 (below_size (by repeat (first | (with_reducible first | exact HB.out | apply below_alloc | apply pw_below_drewN | apply below_drew1 | refine below_set ?_ GE104.out) | exact HB.out)))); have n4_ := Aside0.mk (blk_below (g := gb104) (o := .cells #[.int .i64 a0_0, .int .i64 a0_1, .int .i64 a0_2, .int .i64 a0_3, .int .i64 a0_4, .int .i64 a0_5, .int .i64 a0_6, .int .i64 a0_7, .int .i64 a0_8, .int .i64 a0_9] 23 (0, 0)) (by (with_reducible repeat (first | refine blk_drewN ?_ _ | refine blk_drew ?_ | refine blk_alloc ?_ _)); exact BK104.out) hb); have n5_ := Aside0.mk (below_step (by repeat (first | (with_reducible first | exact HB.out | apply below_alloc | apply pw_below_drewN | apply below_drew1 | refine below_set ?_ GE104.out) | exact HB.out)) hb); clear HO118; clear HO121; clear HO124; clear BK104; clear HB; have HO118 := n0_; have HO121 := n1_; have HO124 := n2_; have HO127 := n3_; have BK104 := n4_; have HB := n5_; clear n0_ n1_ n2_ n3_ n4_ n5_; clear hb ho33))
             repeat (go_quiet (fail); try go_wp2)
             go_loopg [14] kj19 (fun kq v14 w' => ∃ (x10_3 : List Int) (x14_3 : Int), v14 = .int .i64 x14_3 ∧ Aside0 (millwrightlaw19_TraceBounds.l0 kq y106 y110 t105 x8_11 x10_3 y119 y122 y125 x14_3 a0_0 a0_1 a0_2 a0_3 a0_4 a0_5 a0_6 a0_7 a0_8 a0_9 = some r) ∧ Aside0 (kq ≤ kj19) ∧ Aside0 (Kd.R (Kd.int .i64) 3 w' w.heap.size (fun k_ => some k_ ≠ (v120 : Value).ownBlock ∧ some k_ ≠ (v123 : Value).ownBlock) v117 x10_3) ∧ Aside0 (Kd.R (Kd.int .i64) 3 w' w.heap.size (fun k_ => some k_ ≠ (v117 : Value).ownBlock ∧ some k_ ≠ (v123 : Value).ownBlock) v120 y119) ∧ Aside0 (Kd.R (Kd.int .i64) 3 w' w.heap.size (fun k_ => some k_ ≠ (v117 : Value).ownBlock ∧ some k_ ≠ (v120 : Value).ownBlock) v123 y122) ∧ Aside0 (Kd.R Kd.bool 4 w' w.heap.size (fun _ => True) v126 y125) ∧ Aside0 (w'.heap[gb104]? = some (.cells #[.int .i64 a0_0, .int .i64 a0_1, .int .i64 a0_2, .int .i64 a0_3, .int .i64 a0_4, .int .i64 a0_5, .int .i64 a0_6, .int .i64 a0_7, .int .i64 a0_8, .int .i64 a0_9] 23 (0, 0))) ∧ Aside0 (Below w.heap.size w w'))
             case atStart => exact ⟨(y116), (0), (by first | rfl | (simp; done) | (simp [*]; done)), H', ⟨Nat.le_refl _⟩, ⟨by (with_reducible repeat (first | apply Kd.R_alloc | apply Kd.R_drewN | apply Kd.R_drew)); exact Kd.R_mono HO118.out (fun _ hk => ⟨hk.1.2, hk.2⟩)⟩, ⟨by (with_reducible repeat (first | apply Kd.R_alloc | apply Kd.R_drewN | apply Kd.R_drew)); exact Kd.R_mono HO121.out (fun _ hk => ⟨hk.1.2, hk.2⟩)⟩, ⟨by (with_reducible repeat (first | apply Kd.R_alloc | apply Kd.R_drewN | apply Kd.R_drew)); exact Kd.R_mono HO124.out (fun _ hk => ⟨hk.1.2, hk.2⟩)⟩, ⟨by (with_reducible repeat (first | apply Kd.R_alloc | apply Kd.R_drewN | apply Kd.R_drew)); exact HO127.out⟩, ⟨by (with_reducible repeat (first | refine blk_drewN ?_ _ | refine blk_drew ?_ | refine blk_alloc ?_ _)); exact BK104.out⟩, ⟨by repeat (first | (with_reducible first | exact HB.out | apply below_alloc | apply pw_below_drewN | apply below_drew1 | refine below_set ?_ GE104.out) | exact HB.out)⟩⟩
             case round => as_aux_lemma =>
              clear H'
              (try clear c1); (try clear q1); (try clear c2); (try clear p2); (try clear c6); (try clear c6b0); (try clear c6b1); (try clear c7); (try clear c7b0); (try clear c7b1); (try clear c9); (try clear c9b0); (try clear c9b1); (try clear c10); (try clear c10b0); (try clear c10b1); (try clear q15); (try clear q16); (try clear c19); (try clear c19b0); (try clear c19b1); (try clear c21); (try clear c21b0); (try clear c22); (try clear c23); (try clear c23b0); (try clear c23b1); (try clear c24); (try clear c24b0); (try clear c24b1); (try clear c25); (try clear c25b0); (try clear c25b1); (try clear hcz17_0); (try clear hcz17_1); (try clear hcz17_2); (try clear hcz17_3); (try clear hcz17_4); (try clear hcz17_5); (try clear hcz17_6); (try clear hcz17_7); (try clear hcz17_8); (try clear hcz17_9); (try clear hfz17_0); (try clear hfz17_1); (try clear hfz17_2); (try clear hfz17_3); (try clear hfz17_4); (try clear hfz17_5); (try clear hfz17_6); (try clear hfz17_7); (try clear hfz17_8); (try clear hfz17_9); (try clear p2); (try clear q1); (try clear q15); (try clear q16)
              obtain ⟨x10_3, x14_3, rfl, HA, HK3, HO_10, HO_11, HO_12, HO_13, BK104, HB⟩ := hrel
              cases gk with
              | zero => exact absurd HA.out (by simp [millwrightlaw19_TraceBounds.l0])
              | succ k3 =>
               have H := HA.out
               clear HA
               simp only [millwrightlaw19_TraceBounds.l0] at H
               by_cases c34 : x14_3 < (y106.length : Int)
               ·
                rw [if_pos c34] at H
                have c34b0 : decide (x14_3 < (y106.length : Int)) = true := decide_eq_true c34
                clear c34
                by_cases c35 : 0 ≤ x14_3
                ·
                 rw [if_pos c35] at H
                 have c35b0 : decide (0 ≤ x14_3) = true := decide_eq_true c35
                 clear c35
                 by_cases c36 : x14_3 < (x10_3.length : Int)
                 ·
                  rw [if_pos c36] at H
                  have c36b0 : decide (x14_3 < (x10_3.length : Int)) = true := decide_eq_true c36
                  clear c36
                  obtain ⟨y128, hy128⟩ : ∃ y_ : List Int, y_ = (x10_3.set (x14_3 : Int).toNat (-1)) := ⟨_, rfl⟩
                  replace H : (millwrightlaw19_TraceBounds.l0 k3 y106 y110 t105 x8_11 y128 y119 y122 y125 (wrap64 (x14_3 + 1)) a0_0 a0_1 a0_2 a0_3 a0_4 a0_5 a0_6 a0_7 a0_8 a0_9) = some r := by first | (rw [hy128]; with_reducible exact H) | (have H2_ := (Option.bind_some _ _).symm.trans H; rw [hy128]; with_reducible exact H2_) | (have H2_ := (Option.bind_some _ _).symm.trans H; with_reducible exact H2_) | with_reducible exact H | (rw [hy128]; exact H) | exact H
                  have Ny128 := Aside0.mk hy128
                  clear hy128
                  have H' := Aside0.mk H
                  clear H
                  have p37 : 0 ≤ (x14_3 : Int) := of_decide_eq_true (by first | (with_reducible assumption) | assumption)
                  have q37 : (x14_3 : Int) < ((x10_3.length : Int) : Int) := of_decide_eq_true (by first | (with_reducible assumption) | assumption)
                  obtain ⟨go37, co37, eo37, gb37, gl37, cl37, HG37⟩ := Kd.R_form HO_10.out (by omega)
                  (first | cases eo37 | (injection eo37 with ea_ en_ ec_; (first | subst ea_ | (injection ea_ with ea_; subst ea_)); subst ec_; clear en_))
                  have GB37 := Aside0.mk gb37
                  have GG37 := Aside0.mk HG37
                  clear gb37 gl37 HG37
                  obtain ⟨hx37_0, hf37_0⟩ := Kd.R_celln 0 HO_10.out (x14_3 : Int) p37 q37
                  replace p37 := eq_true p37
                  replace q37 := eq_true q37
                  have HP38 := Kd.R_putg HO_10.out (x14_3 : Int) (-1)
                  go_wp2_with (first | ((with_reducible refine gate_store (t := 3) (p := 72) rfl ?_); (try (rw [drewN_self wr]; generalize hq_ : World.drewN wr _ = wr; have n0_ := Aside0.mk (Kd.R_at hq_ HO_10.out); have n1_ := Aside0.mk (Kd.R_at hq_ HO_11.out); have n2_ := Aside0.mk (Kd.R_at hq_ HO_12.out); have n3_ := Aside0.mk (Kd.R_at hq_ HO_13.out); have n4_ := Aside0.mk (blk_at hq_ BK104.out); have n5_ := Aside0.mk (below_at hq_ HB.out); clear hq_ HO_10 HO_11 HO_12 HO_13 BK104 HB; have HO_10 := n0_; have HO_11 := n1_; have HO_12 := n2_; have HO_13 := n3_; have BK104 := n4_; have HB := n5_; clear n0_ n1_ n2_ n3_ n4_ n5_; (try (have HP38 := Kd.R_putg HO_10.out (x14_3 : Int) (-1))))); refine store_event (t := 3) (p := 72) (v := ?vo_w39) (w1 := (wr.setCell ⟨go37, (x14_3 : Int).toNat, none⟩ (.int .i64 (-1)))) ?hg ?ho ?hn ?hr ?_; (case ho => rfl); (case hg => rfl); (case hn => rfl); (case hr => first | (go_simp; done) | (go_simp; rfl)); intro w39 hw; have hg : wr.grownBy w39 (some go37) := (by rw [hw]; exact HP38.2); have hp_ : Kd.R (Kd.int .i64) 3 w39 w.heap.size (fun k_ => some k_ ≠ (v120 : Value).ownBlock ∧ some k_ ≠ (v123 : Value).ownBlock) (.slice (some ⟨go37, 0, none⟩) x10_3.length co37) y128 := (by rw [hw, Ny128.out]; exact HP38.1); clear HP38; have n0_ := Aside0.mk (hp_); have n1_ := Aside0.mk (Kd.R_after (v := (.slice (some ⟨go37, 0, none⟩) x10_3.length co37)) (v1 := (.slice (some ⟨go37, 0, none⟩) x10_3.length co37)) (ok := (fun k_ => some k_ ≠ (v123 : Value).ownBlock)) (by (with_reducible repeat (first | apply Kd.R_alloc | apply Kd.R_drewN | apply Kd.R_drew)); exact Kd.R_mono HO_11.out (fun _ hk => ⟨hk.2, hk.1⟩)) hg (.inl rfl)); have n2_ := Aside0.mk (Kd.R_after (v := (.slice (some ⟨go37, 0, none⟩) x10_3.length co37)) (v1 := (.slice (some ⟨go37, 0, none⟩) x10_3.length co37)) (ok := (fun k_ => some k_ ≠ (v120 : Value).ownBlock)) (by (with_reducible repeat (first | apply Kd.R_alloc | apply Kd.R_drewN | apply Kd.R_drew)); exact Kd.R_mono HO_12.out (fun _ hk => ⟨hk.2, hk.1⟩)) hg (.inl rfl)); have n3_ := Aside0.mk (Kd.R_over' (v := (.slice (some ⟨go37, 0, none⟩) x10_3.length co37)) (by (with_reducible repeat (first | apply Kd.R_alloc | apply Kd.R_drewN | apply Kd.R_drew)); exact HO_13.out) (Kd.R_typed HO_10.out) (by decide) hg); have n4_ := Aside0.mk (blk_grown (g := gb104) (o := .cells #[.int .i64 a0_0, .int .i64 a0_1, .int .i64 a0_2, .int .i64 a0_3, .int .i64 a0_4, .int .i64 a0_5, .int .i64 a0_6, .int .i64 a0_7, .int .i64 a0_8, .int .i64 a0_9] 23 (0, 0)) (by (with_reducible repeat (first | refine blk_drewN ?_ _ | refine blk_drew ?_ | refine blk_alloc ?_ _)); exact BK104.out) hg (Kd.R_ne HO_10.out BK104.out (by decide))); have n5_ := Aside0.mk ((by rw [hw]; exact below_set (HB.out) GB37.out : Below w.heap.size w w39)); clear HO_10; clear HO_11; clear HO_12; clear HO_13; clear BK104; clear HB; have HO_10 := n0_; have HO_11 := n1_; have HO_12 := n2_; have HO_13 := n3_; have BK104 := n4_; have HB := n5_; clear n0_ n1_ n2_ n3_ n4_ n5_; clear hg hw hp_))
                  repeat (go_quiet (fail); try go_wp2)
                  go_roundg k3
                  case measure => have := HJ11.out; have := HJ19.out; have := HK3.out; omega
                  case rel => exact ⟨(y128), (wrap64 (x14_3 + 1)), (by first | rfl | (simp; done) | (simp [*]; done)), H', ⟨by have := HJ11.out; have := HJ19.out; have := HK3.out; omega⟩, ⟨by (with_reducible repeat (first | apply Kd.R_alloc | apply Kd.R_drewN | apply Kd.R_drew)); exact HO_10.out⟩, ⟨by (with_reducible repeat (first | apply Kd.R_alloc | apply Kd.R_drewN | apply Kd.R_drew)); exact Kd.R_mono HO_11.out (fun _ hk => ⟨hk.2, hk.1⟩)⟩, ⟨by (with_reducible repeat (first | apply Kd.R_alloc | apply Kd.R_drewN | apply Kd.R_drew)); exact Kd.R_mono HO_12.out (fun _ hk => ⟨hk.2, hk.1⟩)⟩, ⟨by (with_reducible repeat (first | apply Kd.R_alloc | apply Kd.R_drewN | apply Kd.R_drew)); exact HO_13.out⟩, ⟨by (with_reducible repeat (first | refine blk_drewN ?_ _ | refine blk_drew ?_ | refine blk_alloc ?_ _)); exact BK104.out⟩, ⟨by repeat (first | (with_reducible first | exact HB.out | apply below_alloc | apply pw_below_drewN | apply below_drew1 | refine below_set ?_ GE104.out) | exact HB.out)⟩⟩
                 ·
                  rw [if_neg c36] at H
                  exact absurd H (by simp)
                ·
                 rw [if_neg c35] at H
                 exact absurd H (by simp)
               ·
                rw [if_neg c34] at H
                have c34b0 : decide (x14_3 < (y106.length : Int)) = false := decide_eq_false c34
                clear c34
                have H' := Aside0.mk H
                clear H
                go_wp2
                repeat (go_quiet (fail); try go_wp2)
                go_loopg [15] k3 (fun kq v15 w' => ∃ (x10_4 : List Int) (x11_4 : List Int) (x12_4 : List Int) (x13_4 : List Bool) (x15_4 : Int), v15 = .int .i64 x15_4 ∧ Aside0 (millwrightlaw19_TraceBounds.l1 kq y106 y110 t105 x8_11 x10_4 x11_4 x12_4 x13_4 x15_4 a0_0 a0_1 a0_2 a0_3 a0_4 a0_5 a0_6 a0_7 a0_8 a0_9 = some r) ∧ Aside0 (kq ≤ k3) ∧ Aside0 (Kd.R (Kd.int .i64) 3 w' w.heap.size (fun k_ => some k_ ≠ (v120 : Value).ownBlock ∧ some k_ ≠ (v123 : Value).ownBlock) v117 x10_4) ∧ Aside0 (Kd.R (Kd.int .i64) 3 w' w.heap.size (fun k_ => some k_ ≠ (v117 : Value).ownBlock ∧ some k_ ≠ (v123 : Value).ownBlock) v120 x11_4) ∧ Aside0 (Kd.R (Kd.int .i64) 3 w' w.heap.size (fun k_ => some k_ ≠ (v117 : Value).ownBlock ∧ some k_ ≠ (v120 : Value).ownBlock) v123 x12_4) ∧ Aside0 (Kd.R Kd.bool 4 w' w.heap.size (fun _ => True) v126 x13_4) ∧ Aside0 (w'.heap[gb104]? = some (.cells #[.int .i64 a0_0, .int .i64 a0_1, .int .i64 a0_2, .int .i64 a0_3, .int .i64 a0_4, .int .i64 a0_5, .int .i64 a0_6, .int .i64 a0_7, .int .i64 a0_8, .int .i64 a0_9] 23 (0, 0))) ∧ Aside0 (Below w.heap.size w w'))
                case atStart => exact ⟨(x10_3), (y119), (y122), (y125), (0), (by first | rfl | (simp; done) | (simp [*]; done)), H', ⟨Nat.le_refl _⟩, ⟨by (with_reducible repeat (first | apply Kd.R_alloc | apply Kd.R_drewN | apply Kd.R_drew)); exact HO_10.out⟩, ⟨by (with_reducible repeat (first | apply Kd.R_alloc | apply Kd.R_drewN | apply Kd.R_drew)); exact HO_11.out⟩, ⟨by (with_reducible repeat (first | apply Kd.R_alloc | apply Kd.R_drewN | apply Kd.R_drew)); exact HO_12.out⟩, ⟨by (with_reducible repeat (first | apply Kd.R_alloc | apply Kd.R_drewN | apply Kd.R_drew)); exact HO_13.out⟩, ⟨by (with_reducible repeat (first | refine blk_drewN ?_ _ | refine blk_drew ?_ | refine blk_alloc ?_ _)); exact BK104.out⟩, ⟨by repeat (first | (with_reducible first | exact HB.out | apply below_alloc | apply pw_below_drewN | apply below_drew1 | refine below_set ?_ GE104.out) | exact HB.out)⟩⟩
                case round => as_aux_lemma =>
                 clear H'
                 (try clear c1); (try clear q1); (try clear c2); (try clear p2); (try clear c3); (try clear p3); (try clear q3); (try clear hx3); (try clear hf3); (try clear c6); (try clear c6b0); (try clear c6b1); (try clear p6); (try clear c7); (try clear c7b0); (try clear c7b1); (try clear c9); (try clear c9b0); (try clear c9b1); (try clear c10); (try clear c10b0); (try clear c10b1); (try clear q15); (try clear q16); (try clear c19); (try clear c19b0); (try clear c19b1); (try clear c21); (try clear c21b0); (try clear c22); (try clear c23); (try clear c23b0); (try clear c23b1); (try clear c24); (try clear c24b0); (try clear c24b1); (try clear c25); (try clear c25b0); (try clear c25b1); (try clear c34); (try clear c34b0); (try clear c35); (try clear c35b0); (try clear c36); (try clear c36b0); (try clear p37); (try clear q37); (try clear hx37); (try clear hf37); (try clear hcz17_0); (try clear hcz17_1); (try clear hcz17_2); (try clear hcz17_3); (try clear hcz17_4); (try clear hcz17_5); (try clear hcz17_6); (try clear hcz17_7); (try clear hcz17_8); (try clear hcz17_9); (try clear hfz17_0); (try clear hfz17_1); (try clear hfz17_2); (try clear hfz17_3); (try clear hfz17_4); (try clear hfz17_5); (try clear hfz17_6); (try clear hfz17_7); (try clear hfz17_8); (try clear hfz17_9); (try clear hx37_0); (try clear p2); (try clear p37); (try clear q1); (try clear q15); (try clear q16); (try clear q37)
                 obtain ⟨x10_4, x11_4, x12_4, x13_4, x15_4, rfl, HA, HK4, HO_10, HO_11, HO_12, HO_13, BK104, HB⟩ := hrel
                 cases gk with
                 | zero => exact absurd HA.out (by simp [millwrightlaw19_TraceBounds.l1])
                 | succ k4 =>
                  have H := HA.out
                  clear HA
                  simp only [millwrightlaw19_TraceBounds.l1] at H
                  by_cases c40 : x15_4 < x8_11
                  ·
                   rw [if_pos c40] at H
                   have c40b0 : decide (x15_4 < x8_11) = true := decide_eq_true c40
                   clear c40
                   by_cases c41 : 0 ≤ x15_4
                   ·
                    rw [if_pos c41] at H
                    have c41b0 : decide (0 ≤ x15_4) = true := decide_eq_true c41
                    clear c41
                    by_cases c42 : x15_4 < (y110.length : Int)
                    ·
                     rw [if_pos c42] at H
                     have c42b0 : decide (x15_4 < (y110.length : Int)) = true := decide_eq_true c42
                     clear c42
                     have HC43 := Aside0.mk H
                     clear H
                     have p129 : 0 ≤ (x15_4 : Int) := of_decide_eq_true (by first | (with_reducible assumption) | assumption)
                     have q129 : x15_4 < (y110.length : Int) := of_decide_eq_true (by first | (with_reducible assumption) | assumption)
                     obtain ⟨ad129, e129, hx129_0, hx129_1, hx129_2, hx129_3, hx129_4⟩ := at_T42 HR113.out x15_4 p129 q129
                     cases e129
                     replace hx129_0 := (HB.out.cell (World.block_lt_of_cell? w _ hx129_0)).trans hx129_0
                     replace hx129_1 := (HB.out.cell (World.block_lt_of_cell? w _ hx129_1)).trans hx129_1
                     replace hx129_2 := (HB.out.cell (World.block_lt_of_cell? w _ hx129_2)).trans hx129_2
                     replace hx129_3 := (HB.out.cell (World.block_lt_of_cell? w _ hx129_3)).trans hx129_3
                     replace hx129_4 := (HB.out.cell (World.block_lt_of_cell? w _ hx129_4)).trans hx129_4
                     replace p129 := eq_true p129
                     replace q129 := eq_true q129
                     go_upto_region 21 with (first | ((with_reducible refine gate_dst (N := 16) rfl ?_); (try (refine gate_guard (by rfl) ?_; dsimp only)); refine box_event ?hg (N := 16) ?hd (cs := #[.int .i64 0, .int .i64 0, .int .i64 0, .int .i64 0, .int .i64 0]) (t := 42) ?hr ?_; (case hd => rfl); (case hg => rfl); (case hr => first | (go_simp; done) | (go_simp; rfl)); intro gb130 hg w44 hbox hb; have n0_ := Aside0.mk (Kd.R_below (by (with_reducible repeat (first | apply Kd.R_alloc | apply Kd.R_drewN | apply Kd.R_drew)); exact HO_10.out) hb); have n1_ := Aside0.mk (Kd.R_below (by (with_reducible repeat (first | apply Kd.R_alloc | apply Kd.R_drewN | apply Kd.R_drew)); exact HO_11.out) hb); have n2_ := Aside0.mk (Kd.R_below (by (with_reducible repeat (first | apply Kd.R_alloc | apply Kd.R_drewN | apply Kd.R_drew)); exact HO_12.out) hb); have n3_ := Aside0.mk (Kd.R_below (by (with_reducible repeat (first | apply Kd.R_alloc | apply Kd.R_drewN | apply Kd.R_drew)); exact HO_13.out) hb); have n4_ := Aside0.mk (blk_below (g := gb104) (o := .cells #[.int .i64 a0_0, .int .i64 a0_1, .int .i64 a0_2, .int .i64 a0_3, .int .i64 a0_4, .int .i64 a0_5, .int .i64 a0_6, .int .i64 a0_7, .int .i64 a0_8, .int .i64 a0_9] 23 (0, 0)) (by (with_reducible repeat (first | refine blk_drewN ?_ _ | refine blk_drew ?_ | refine blk_alloc ?_ _)); exact BK104.out) hb); have n5_ := Aside0.mk (below_step (by repeat (first | (with_reducible first | exact HB.out | apply below_alloc | apply pw_below_drewN | apply below_drew1 | refine below_set ?_ GE104.out) | exact HB.out)) hb); have n6_ := Aside0.mk (hbox); have n7_ := Aside0.mk ((by rw [hg]; exact (below_size (by repeat (first | (with_reducible first | exact HB.out | apply below_alloc | apply pw_below_drewN | apply below_drew1 | refine below_set ?_ GE104.out) | exact HB.out))) : w.heap.size ≤ gb130)); have n8_ := Aside0.mk ((by rw [hg]; exact (below_size (by repeat (first | (with_reducible first | exact HB.out | apply below_alloc | apply pw_below_drewN | apply below_drew1 | refine below_set ?_ GE104.out) | exact HB.out))) : w.heap.size ≤ gb130)); have n9_ := Aside0.mk ((by rw [hg]; exact Nat.ne_of_lt (blk_lt (g := gb104) (o := .cells #[.int .i64 a0_0, .int .i64 a0_1, .int .i64 a0_2, .int .i64 a0_3, .int .i64 a0_4, .int .i64 a0_5, .int .i64 a0_6, .int .i64 a0_7, .int .i64 a0_8, .int .i64 a0_9] 23 (0, 0)) (by (with_reducible repeat (first | refine blk_drewN ?_ _ | refine blk_drew ?_ | refine blk_alloc ?_ _)); exact BK104.out)) : gb104 ≠ gb130)); have n10_ := Aside0.mk ((by rw [hg]; exact Nat.ne_of_gt (blk_lt (g := gb104) (o := .cells #[.int .i64 a0_0, .int .i64 a0_1, .int .i64 a0_2, .int .i64 a0_3, .int .i64 a0_4, .int .i64 a0_5, .int .i64 a0_6, .int .i64 a0_7, .int .i64 a0_8, .int .i64 a0_9] 23 (0, 0)) (by (with_reducible repeat (first | refine blk_drewN ?_ _ | refine blk_drew ?_ | refine blk_alloc ?_ _)); exact BK104.out)) : gb130 ≠ gb104)); clear HO_10; clear HO_11; clear HO_12; clear HO_13; clear BK104; clear HB; have HO_10 := n0_; have HO_11 := n1_; have HO_12 := n2_; have HO_13 := n3_; have BK104 := n4_; have HB := n5_; have BK130 := n6_; have GW130 := n7_; have GE130 := n8_; have NB104_130 := n9_; have NB130_104 := n10_; clear n0_ n1_ n2_ n3_ n4_ n5_ n6_ n7_ n8_ n9_ n10_; clear hb hbox hg; have hnb45 := NB130_104.out; have hnc45 := NB104_130.out; have hcz46_0 : w44.cell? ⟨gb130, 0, none⟩ = some (.int .i64 0) := (blk_cell BK130.out 0).trans rfl; have hcz46_1 : w44.cell? ⟨gb130, 1, none⟩ = some (.int .i64 0) := (blk_cell BK130.out 1).trans rfl; have hcz46_2 : w44.cell? ⟨gb130, 2, none⟩ = some (.int .i64 0) := (blk_cell BK130.out 2).trans rfl; have hcz46_3 : w44.cell? ⟨gb130, 3, none⟩ = some (.int .i64 0) := (blk_cell BK130.out 3).trans rfl; have hcz46_4 : w44.cell? ⟨gb130, 4, none⟩ = some (.int .i64 0) := (blk_cell BK130.out 4).trans rfl; have hfz46_0 := blk_frozen BK130.out 0; have hfz46_1 := blk_frozen BK130.out 1; have hfz46_2 := blk_frozen BK130.out 2; have hfz46_3 := blk_frozen BK130.out 3; have hfz46_4 := blk_frozen BK130.out 4))
                     repeat (go_quiet (fail); try go_wp2)
                     (try simp only [Act.put, List.setIfInBounds_toArray, List.set_cons_zero, List.set_cons_succ])
                     obtain ⟨w45, hw45, hX, hB⟩ := set5' (.int .i64 ((rd_T42 y110 x15_4).f0)) (.int .i64 ((rd_T42 y110 x15_4).f1)) (.int .i64 ((rd_T42 y110 x15_4).f2)) (.int .i64 ((rd_T42 y110 x15_4).f3)) (.int .i64 ((rd_T42 y110 x15_4).f4)) BK130.out HB.out GE130.out
                     rw [← hw45]
                     have n0_ : Aside0 (Kd.R (Kd.int .i64) 3 w45 w.heap.size (fun k_ => some k_ ≠ (v120 : Value).ownBlock ∧ some k_ ≠ (v123 : Value).ownBlock) v117 x10_4) := ⟨by rw [hw45]; exact Kd.R_mono (Kd.R_far (p := ⟨gb130, 4, none⟩) (Kd.R_far (p := ⟨gb130, 3, none⟩) (Kd.R_far (p := ⟨gb130, 2, none⟩) (Kd.R_far (p := ⟨gb130, 1, none⟩) (Kd.R_far (p := ⟨gb130, 0, none⟩) (Kd.R_types HO_10.out BK130.out (by decide)) (fun _ hk => hk.2) (.int .i64 ((rd_T42 y110 x15_4).f0))) (fun _ hk => hk.2) (.int .i64 ((rd_T42 y110 x15_4).f1))) (fun _ hk => hk.2) (.int .i64 ((rd_T42 y110 x15_4).f2))) (fun _ hk => hk.2) (.int .i64 ((rd_T42 y110 x15_4).f3))) (fun _ hk => hk.2) (.int .i64 ((rd_T42 y110 x15_4).f4))) (fun _ hk => ⟨hk.1.1, hk.1.2⟩)⟩
                     have n1_ : Aside0 (Kd.R (Kd.int .i64) 3 w45 w.heap.size (fun k_ => some k_ ≠ (v117 : Value).ownBlock ∧ some k_ ≠ (v123 : Value).ownBlock) v120 x11_4) := ⟨by rw [hw45]; exact Kd.R_mono (Kd.R_far (p := ⟨gb130, 4, none⟩) (Kd.R_far (p := ⟨gb130, 3, none⟩) (Kd.R_far (p := ⟨gb130, 2, none⟩) (Kd.R_far (p := ⟨gb130, 1, none⟩) (Kd.R_far (p := ⟨gb130, 0, none⟩) (Kd.R_types HO_11.out BK130.out (by decide)) (fun _ hk => hk.2) (.int .i64 ((rd_T42 y110 x15_4).f0))) (fun _ hk => hk.2) (.int .i64 ((rd_T42 y110 x15_4).f1))) (fun _ hk => hk.2) (.int .i64 ((rd_T42 y110 x15_4).f2))) (fun _ hk => hk.2) (.int .i64 ((rd_T42 y110 x15_4).f3))) (fun _ hk => hk.2) (.int .i64 ((rd_T42 y110 x15_4).f4))) (fun _ hk => ⟨hk.1.1, hk.1.2⟩)⟩
                     have n2_ : Aside0 (Kd.R (Kd.int .i64) 3 w45 w.heap.size (fun k_ => some k_ ≠ (v117 : Value).ownBlock ∧ some k_ ≠ (v120 : Value).ownBlock) v123 x12_4) := ⟨by rw [hw45]; exact Kd.R_mono (Kd.R_far (p := ⟨gb130, 4, none⟩) (Kd.R_far (p := ⟨gb130, 3, none⟩) (Kd.R_far (p := ⟨gb130, 2, none⟩) (Kd.R_far (p := ⟨gb130, 1, none⟩) (Kd.R_far (p := ⟨gb130, 0, none⟩) (Kd.R_types HO_12.out BK130.out (by decide)) (fun _ hk => hk.2) (.int .i64 ((rd_T42 y110 x15_4).f0))) (fun _ hk => hk.2) (.int .i64 ((rd_T42 y110 x15_4).f1))) (fun _ hk => hk.2) (.int .i64 ((rd_T42 y110 x15_4).f2))) (fun _ hk => hk.2) (.int .i64 ((rd_T42 y110 x15_4).f3))) (fun _ hk => hk.2) (.int .i64 ((rd_T42 y110 x15_4).f4))) (fun _ hk => ⟨hk.1.1, hk.1.2⟩)⟩
                     have n3_ : Aside0 (Kd.R Kd.bool 4 w45 w.heap.size (fun _ => True) v126 x13_4) := ⟨by rw [hw45]; exact Kd.R_mono (Kd.R_far (p := ⟨gb130, 4, none⟩) (Kd.R_far (p := ⟨gb130, 3, none⟩) (Kd.R_far (p := ⟨gb130, 2, none⟩) (Kd.R_far (p := ⟨gb130, 1, none⟩) (Kd.R_far (p := ⟨gb130, 0, none⟩) (Kd.R_types HO_13.out BK130.out (by decide)) (fun _ hk => hk.2) (.int .i64 ((rd_T42 y110 x15_4).f0))) (fun _ hk => hk.2) (.int .i64 ((rd_T42 y110 x15_4).f1))) (fun _ hk => hk.2) (.int .i64 ((rd_T42 y110 x15_4).f2))) (fun _ hk => hk.2) (.int .i64 ((rd_T42 y110 x15_4).f3))) (fun _ hk => hk.2) (.int .i64 ((rd_T42 y110 x15_4).f4))) (fun _ hk => trivial)⟩
                     have n4_ : Aside0 (w45.heap[gb104]? = some (.cells #[.int .i64 a0_0, .int .i64 a0_1, .int .i64 a0_2, .int .i64 a0_3, .int .i64 a0_4, .int .i64 a0_5, .int .i64 a0_6, .int .i64 a0_7, .int .i64 a0_8, .int .i64 a0_9] 23 (0, 0))) := ⟨by rw [hw45]; exact blk_far (blk_far (blk_far (blk_far (blk_far BK104.out NB104_130.out _) NB104_130.out _) NB104_130.out _) NB104_130.out _) NB104_130.out _⟩
                     clear HO_10 HO_11 HO_12 HO_13 BK104 BK130 HB hcz46_0 hfz46_0 hcz46_1 hfz46_1 hcz46_2 hfz46_2 hcz46_3 hfz46_3 hcz46_4 hfz46_4
                     have HO_10 := n0_
                     have HO_11 := n1_
                     have HO_12 := n2_
                     have HO_13 := n3_
                     have BK104 := n4_
                     have BK130 := Aside0.mk hX
                     have HB := Aside0.mk hB
                     clear n0_ n1_ n2_ n3_ n4_ hX hB hw45
                     go_cut [125] (fun v125 wc => ∃ (kq : Nat) (x125_42 : Bool), v125 = .bool x125_42 ∧ Aside0 (millwrightlaw19_TraceBounds.j4 kq y106 y110 t105 x8_11 x10_4 x11_4 x12_4 x13_4 x15_4 x125_42 a0_0 a0_1 a0_2 a0_3 a0_4 a0_5 a0_6 a0_7 a0_8 a0_9 ((rd_T42 y110 x15_4).f0) ((rd_T42 y110 x15_4).f1) ((rd_T42 y110 x15_4).f2) ((rd_T42 y110 x15_4).f3) ((rd_T42 y110 x15_4).f4) = some r) ∧ Aside0 (kq ≤ k4) ∧ Aside0 (Kd.R (Kd.int .i64) 3 wc w.heap.size (fun k_ => some k_ ≠ (v120 : Value).ownBlock ∧ some k_ ≠ (v123 : Value).ownBlock) v117 x10_4) ∧ Aside0 (Kd.R (Kd.int .i64) 3 wc w.heap.size (fun k_ => some k_ ≠ (v117 : Value).ownBlock ∧ some k_ ≠ (v123 : Value).ownBlock) v120 x11_4) ∧ Aside0 (Kd.R (Kd.int .i64) 3 wc w.heap.size (fun k_ => some k_ ≠ (v117 : Value).ownBlock ∧ some k_ ≠ (v120 : Value).ownBlock) v123 x12_4) ∧ Aside0 (Kd.R Kd.bool 4 wc w.heap.size (fun _ => True) v126 x13_4) ∧ Aside0 (wc.heap[gb104]? = some (.cells #[.int .i64 a0_0, .int .i64 a0_1, .int .i64 a0_2, .int .i64 a0_3, .int .i64 a0_4, .int .i64 a0_5, .int .i64 a0_6, .int .i64 a0_7, .int .i64 a0_8, .int .i64 a0_9] 23 (0, 0))) ∧ Aside0 (wc.heap[gb130]? = some (.cells #[.int .i64 ((rd_T42 y110 x15_4).f0), .int .i64 ((rd_T42 y110 x15_4).f1), .int .i64 ((rd_T42 y110 x15_4).f2), .int .i64 ((rd_T42 y110 x15_4).f3), .int .i64 ((rd_T42 y110 x15_4).f4)] 42 (0, 0))) ∧ Aside0 (Below w.heap.size w wc))
                     case first => as_aux_lemma =>
                      have H := HC43.out
                      clear HC43
                      by_cases c47 : ((rd_T42 y110 x15_4).f1) < 0
                      ·
                       rw [if_pos c47] at H
                       have c47b0 : decide (((rd_T42 y110 x15_4).f1) < 0) = true := decide_eq_true c47
                       clear c47
                       (first | rw [c47b0] | (simp only [i64_w, i32_w]; rw [c47b0]) | skip)
                       have H' := Aside0.mk H
                       clear H
                       have hnb48 := NB130_104.out
                       have hnc48 := NB104_130.out
                       have hcz49_0 : w45.cell? ⟨gb130, 0, none⟩ = some (.int .i64 ((rd_T42 y110 x15_4).f0)) := (blk_cell BK130.out 0).trans rfl
                       have hcz49_1 : w45.cell? ⟨gb130, 1, none⟩ = some (.int .i64 ((rd_T42 y110 x15_4).f1)) := (blk_cell BK130.out 1).trans rfl
                       have hcz49_2 : w45.cell? ⟨gb130, 2, none⟩ = some (.int .i64 ((rd_T42 y110 x15_4).f2)) := (blk_cell BK130.out 2).trans rfl
                       have hcz49_3 : w45.cell? ⟨gb130, 3, none⟩ = some (.int .i64 ((rd_T42 y110 x15_4).f3)) := (blk_cell BK130.out 3).trans rfl
                       have hcz49_4 : w45.cell? ⟨gb130, 4, none⟩ = some (.int .i64 ((rd_T42 y110 x15_4).f4)) := (blk_cell BK130.out 4).trans rfl
                       have hfz49_0 := blk_frozen BK130.out 0
                       have hfz49_1 := blk_frozen BK130.out 1
                       have hfz49_2 := blk_frozen BK130.out 2
                       have hfz49_3 := blk_frozen BK130.out 3
                       have hfz49_4 := blk_frozen BK130.out 4
                       go_wp2
                       repeat (go_quiet (fail); try go_wp2)
                       go_meet
                       case rel => exact ⟨_, (true), (by first | rfl | (simp; done) | (simp [*]; done)), H', ⟨by have := HJ11.out; have := HJ19.out; have := HK3.out; have := HK4.out; first | omega | exact Nat.le_refl _⟩, ⟨by (with_reducible repeat (first | apply Kd.R_alloc | apply Kd.R_drewN | apply Kd.R_drew)); exact HO_10.out⟩, ⟨by (with_reducible repeat (first | apply Kd.R_alloc | apply Kd.R_drewN | apply Kd.R_drew)); exact HO_11.out⟩, ⟨by (with_reducible repeat (first | apply Kd.R_alloc | apply Kd.R_drewN | apply Kd.R_drew)); exact HO_12.out⟩, ⟨by (with_reducible repeat (first | apply Kd.R_alloc | apply Kd.R_drewN | apply Kd.R_drew)); exact HO_13.out⟩, ⟨by (with_reducible repeat (first | refine blk_drewN ?_ _ | refine blk_drew ?_ | refine blk_alloc ?_ _)); exact BK104.out⟩, ⟨by (with_reducible repeat (first | refine blk_drewN ?_ _ | refine blk_drew ?_ | refine blk_alloc ?_ _)); exact BK130.out⟩, ⟨by repeat (first | (with_reducible first | exact HB.out | apply below_alloc | apply pw_below_drewN | apply below_drew1 | refine below_set ?_ GE104.out | refine below_set ?_ GE130.out) | exact HB.out)⟩⟩
                      ·
                       rw [if_neg c47] at H
                       have c47b0 : decide (((rd_T42 y110 x15_4).f1) < 0) = false := decide_eq_false c47
                       clear c47
                       (first | rw [c47b0] | (simp only [i64_w, i32_w]; rw [c47b0]) | skip)
                       by_cases c50 : ((rd_T42 y110 x15_4).f1) ≥ (y106.length : Int)
                       ·
                        rw [if_pos c50] at H
                        have c50b0 : decide ((y106.length : Int) ≤ ((rd_T42 y110 x15_4).f1)) = true := decide_eq_true c50
                        clear c50
                        have H' := Aside0.mk H
                        clear H
                        have hnb51 := NB130_104.out
                        have hnc51 := NB104_130.out
                        have hcz52_0 : w45.cell? ⟨gb130, 0, none⟩ = some (.int .i64 ((rd_T42 y110 x15_4).f0)) := (blk_cell BK130.out 0).trans rfl
                        have hcz52_1 : w45.cell? ⟨gb130, 1, none⟩ = some (.int .i64 ((rd_T42 y110 x15_4).f1)) := (blk_cell BK130.out 1).trans rfl
                        have hcz52_2 : w45.cell? ⟨gb130, 2, none⟩ = some (.int .i64 ((rd_T42 y110 x15_4).f2)) := (blk_cell BK130.out 2).trans rfl
                        have hcz52_3 : w45.cell? ⟨gb130, 3, none⟩ = some (.int .i64 ((rd_T42 y110 x15_4).f3)) := (blk_cell BK130.out 3).trans rfl
                        have hcz52_4 : w45.cell? ⟨gb130, 4, none⟩ = some (.int .i64 ((rd_T42 y110 x15_4).f4)) := (blk_cell BK130.out 4).trans rfl
                        have hfz52_0 := blk_frozen BK130.out 0
                        have hfz52_1 := blk_frozen BK130.out 1
                        have hfz52_2 := blk_frozen BK130.out 2
                        have hfz52_3 := blk_frozen BK130.out 3
                        have hfz52_4 := blk_frozen BK130.out 4
                        go_wp2
                        repeat (go_quiet (fail); try go_wp2)
                        go_meet
                        case rel => exact ⟨_, (true), (by first | rfl | (simp; done) | (simp [*]; done)), H', ⟨by have := HJ11.out; have := HJ19.out; have := HK3.out; have := HK4.out; first | omega | exact Nat.le_refl _⟩, ⟨by (with_reducible repeat (first | apply Kd.R_alloc | apply Kd.R_drewN | apply Kd.R_drew)); exact HO_10.out⟩, ⟨by (with_reducible repeat (first | apply Kd.R_alloc | apply Kd.R_drewN | apply Kd.R_drew)); exact HO_11.out⟩, ⟨by (with_reducible repeat (first | apply Kd.R_alloc | apply Kd.R_drewN | apply Kd.R_drew)); exact HO_12.out⟩, ⟨by (with_reducible repeat (first | apply Kd.R_alloc | apply Kd.R_drewN | apply Kd.R_drew)); exact HO_13.out⟩, ⟨by (with_reducible repeat (first | refine blk_drewN ?_ _ | refine blk_drew ?_ | refine blk_alloc ?_ _)); exact BK104.out⟩, ⟨by (with_reducible repeat (first | refine blk_drewN ?_ _ | refine blk_drew ?_ | refine blk_alloc ?_ _)); exact BK130.out⟩, ⟨by repeat (first | (with_reducible first | exact HB.out | apply below_alloc | apply pw_below_drewN | apply below_drew1 | refine below_set ?_ GE104.out | refine below_set ?_ GE130.out) | exact HB.out)⟩⟩
                       ·
                        rw [if_neg c50] at H
                        have c50b0 : decide ((y106.length : Int) ≤ ((rd_T42 y110 x15_4).f1)) = false := decide_eq_false c50
                        clear c50
                        by_cases c53 : 0 ≤ ((rd_T42 y110 x15_4).f1)
                        ·
                         rw [if_pos c53] at H
                         have c53b0 : decide (0 ≤ ((rd_T42 y110 x15_4).f1)) = true := decide_eq_true c53
                         clear c53
                         by_cases c54 : ((rd_T42 y110 x15_4).f1) < (x10_4.length : Int)
                         ·
                          rw [if_pos c54] at H
                          have c54b0 : decide (((rd_T42 y110 x15_4).f1) < (x10_4.length : Int)) = true := decide_eq_true c54
                          clear c54
                          by_cases c55 : ((((rd_T42 y110 x15_4).f0) == 1) != (decide ((rd x10_4 ((rd_T42 y110 x15_4).f1)) < 0))) = true
                          ·
                           rw [if_pos c55] at H
                           have c55b0 : ((((rd_T42 y110 x15_4).f0) == 1) != (decide ((rd x10_4 ((rd_T42 y110 x15_4).f1)) < 0))) = true := c55
                           (try (have c55b1 : decide ((((rd_T42 y110 x15_4).f0) == 1) = (decide ((rd x10_4 ((rd_T42 y110 x15_4).f1)) < 0))) = false := by simpa using c55))
                           (try (have c55b2 : ((((rd_T42 y110 x15_4).f0) == 1) == (decide ((rd x10_4 ((rd_T42 y110 x15_4).f1)) < 0))) = false := by simpa using c55))
                           (try (have c55b3 : ¬ ((((rd_T42 y110 x15_4).f0) == 1) = (decide ((rd x10_4 ((rd_T42 y110 x15_4).f1)) < 0))) := by simpa using c55))
                           clear c55
                           have H' := Aside0.mk H
                           clear H
                           have hnb56 := NB130_104.out
                           have hnc56 := NB104_130.out
                           have hcz57_0 : w45.cell? ⟨gb130, 0, none⟩ = some (.int .i64 ((rd_T42 y110 x15_4).f0)) := (blk_cell BK130.out 0).trans rfl
                           have hcz57_1 : w45.cell? ⟨gb130, 1, none⟩ = some (.int .i64 ((rd_T42 y110 x15_4).f1)) := (blk_cell BK130.out 1).trans rfl
                           have hcz57_2 : w45.cell? ⟨gb130, 2, none⟩ = some (.int .i64 ((rd_T42 y110 x15_4).f2)) := (blk_cell BK130.out 2).trans rfl
                           have hcz57_3 : w45.cell? ⟨gb130, 3, none⟩ = some (.int .i64 ((rd_T42 y110 x15_4).f3)) := (blk_cell BK130.out 3).trans rfl
                           have hcz57_4 : w45.cell? ⟨gb130, 4, none⟩ = some (.int .i64 ((rd_T42 y110 x15_4).f4)) := (blk_cell BK130.out 4).trans rfl
                           have hfz57_0 := blk_frozen BK130.out 0
                           have hfz57_1 := blk_frozen BK130.out 1
                           have hfz57_2 := blk_frozen BK130.out 2
                           have hfz57_3 := blk_frozen BK130.out 3
                           have hfz57_4 := blk_frozen BK130.out 4
                           obtain ⟨Ao58, co58, eo58⟩ := Kd.R_slice HO_10.out
                           subst eo58
                           have p131 : 0 ≤ (((rd_T42 y110 x15_4).f1) : Int) := of_decide_eq_true (by first | (with_reducible assumption) | assumption)
                           have q131 : ((rd_T42 y110 x15_4).f1) < (x10_4.length : Int) := of_decide_eq_true (by first | (with_reducible assumption) | assumption)
                           obtain ⟨ad131, e131, hx131_0⟩ := Kd.at_int (Kd.R_reads' HO_10.out).2.2 ((rd_T42 y110 x15_4).f1) p131 q131
                           cases e131
                           replace p131 := eq_true p131
                           replace q131 := eq_true q131
                           go_wp2
                           repeat (go_quiet (fail); try go_wp2)
                           go_meet
                           case rel => exact ⟨_, (true), (by first | rfl | (simp; done) | (simp [*]; done)), H', ⟨by have := HJ11.out; have := HJ19.out; have := HK3.out; have := HK4.out; first | omega | exact Nat.le_refl _⟩, ⟨by (with_reducible repeat (first | apply Kd.R_alloc | apply Kd.R_drewN | apply Kd.R_drew)); exact HO_10.out⟩, ⟨by (with_reducible repeat (first | apply Kd.R_alloc | apply Kd.R_drewN | apply Kd.R_drew)); exact HO_11.out⟩, ⟨by (with_reducible repeat (first | apply Kd.R_alloc | apply Kd.R_drewN | apply Kd.R_drew)); exact HO_12.out⟩, ⟨by (with_reducible repeat (first | apply Kd.R_alloc | apply Kd.R_drewN | apply Kd.R_drew)); exact HO_13.out⟩, ⟨by (with_reducible repeat (first | refine blk_drewN ?_ _ | refine blk_drew ?_ | refine blk_alloc ?_ _)); exact BK104.out⟩, ⟨by (with_reducible repeat (first | refine blk_drewN ?_ _ | refine blk_drew ?_ | refine blk_alloc ?_ _)); exact BK130.out⟩, ⟨by repeat (first | (with_reducible first | exact HB.out | apply below_alloc | apply pw_below_drewN | apply below_drew1 | refine below_set ?_ GE104.out | refine below_set ?_ GE130.out) | exact HB.out)⟩⟩
                          ·
                           rw [if_neg c55] at H
                           have c55b0 : ((((rd_T42 y110 x15_4).f0) == 1) != (decide ((rd x10_4 ((rd_T42 y110 x15_4).f1)) < 0))) = false := by simpa using c55
                           (try (have c55b1 : decide ((((rd_T42 y110 x15_4).f0) == 1) = (decide ((rd x10_4 ((rd_T42 y110 x15_4).f1)) < 0))) = true := by simpa using c55))
                           (try (have c55b2 : ((((rd_T42 y110 x15_4).f0) == 1) == (decide ((rd x10_4 ((rd_T42 y110 x15_4).f1)) < 0))) = true := by simpa using c55))
                           clear c55
                           by_cases c59 : ((rd_T42 y110 x15_4).f1) < (x13_4.length : Int)
                           ·
                            rw [if_pos c59] at H
                            have c59b0 : decide (((rd_T42 y110 x15_4).f1) < (x13_4.length : Int)) = true := decide_eq_true c59
                            clear c59
                            obtain ⟨bq60, hbq60⟩ : ∃ b_ : Bool, b_ = (rdOf false x13_4 ((rd_T42 y110 x15_4).f1)) := ⟨_, rfl⟩
                            replace H : (if bq60 = true then (millwrightlaw19_TraceBounds.j4 k4 y106 y110 t105 x8_11 x10_4 x11_4 x12_4 x13_4 x15_4 true a0_0 a0_1 a0_2 a0_3 a0_4 a0_5 a0_6 a0_7 a0_8 a0_9 ((rd_T42 y110 x15_4).f0) ((rd_T42 y110 x15_4).f1) ((rd_T42 y110 x15_4).f2) ((rd_T42 y110 x15_4).f3) ((rd_T42 y110 x15_4).f4)) else (if x15_4 > 0 then (if 0 ≤ (wrap64 (x15_4 - 1)) then (if (wrap64 (x15_4 - 1)) < (y110.length : Int) then (millwrightlaw19_TraceBounds.j4 k4 y106 y110 t105 x8_11 x10_4 x11_4 x12_4 x13_4 x15_4 (decide (((rd_T42 y110 (wrap64 (x15_4 - 1))).f4) > ((rd_T42 y110 x15_4).f4))) a0_0 a0_1 a0_2 a0_3 a0_4 a0_5 a0_6 a0_7 a0_8 a0_9 ((rd_T42 y110 x15_4).f0) ((rd_T42 y110 x15_4).f1) ((rd_T42 y110 x15_4).f2) ((rd_T42 y110 x15_4).f3) ((rd_T42 y110 x15_4).f4)) else (none)) else (none)) else (millwrightlaw19_TraceBounds.j4 k4 y106 y110 t105 x8_11 x10_4 x11_4 x12_4 x13_4 x15_4 false a0_0 a0_1 a0_2 a0_3 a0_4 a0_5 a0_6 a0_7 a0_8 a0_9 ((rd_T42 y110 x15_4).f0) ((rd_T42 y110 x15_4).f1) ((rd_T42 y110 x15_4).f2) ((rd_T42 y110 x15_4).f3) ((rd_T42 y110 x15_4).f4)))) = some r := by rw [← hbq60] at H; exact H
                            have Nbq60 := Aside0.mk hbq60
                            clear hbq60
                            by_cases c61 : bq60 = true
                            ·
                             subst c61
                             have H1 : (millwrightlaw19_TraceBounds.j4 k4 y106 y110 t105 x8_11 x10_4 x11_4 x12_4 x13_4 x15_4 true a0_0 a0_1 a0_2 a0_3 a0_4 a0_5 a0_6 a0_7 a0_8 a0_9 ((rd_T42 y110 x15_4).f0) ((rd_T42 y110 x15_4).f1) ((rd_T42 y110 x15_4).f2) ((rd_T42 y110 x15_4).f3) ((rd_T42 y110 x15_4).f4)) = some r := by rw [if_pos rfl] at H; exact H
                             clear H
                             have H := H1
                             clear H1
                             have H' := Aside0.mk H
                             clear H
                             have hnb62 := NB130_104.out
                             have hnc62 := NB104_130.out
                             have hcz63_0 : w45.cell? ⟨gb130, 0, none⟩ = some (.int .i64 ((rd_T42 y110 x15_4).f0)) := (blk_cell BK130.out 0).trans rfl
                             have hcz63_1 : w45.cell? ⟨gb130, 1, none⟩ = some (.int .i64 ((rd_T42 y110 x15_4).f1)) := (blk_cell BK130.out 1).trans rfl
                             have hcz63_2 : w45.cell? ⟨gb130, 2, none⟩ = some (.int .i64 ((rd_T42 y110 x15_4).f2)) := (blk_cell BK130.out 2).trans rfl
                             have hcz63_3 : w45.cell? ⟨gb130, 3, none⟩ = some (.int .i64 ((rd_T42 y110 x15_4).f3)) := (blk_cell BK130.out 3).trans rfl
                             have hcz63_4 : w45.cell? ⟨gb130, 4, none⟩ = some (.int .i64 ((rd_T42 y110 x15_4).f4)) := (blk_cell BK130.out 4).trans rfl
                             have hfz63_0 := blk_frozen BK130.out 0
                             have hfz63_1 := blk_frozen BK130.out 1
                             have hfz63_2 := blk_frozen BK130.out 2
                             have hfz63_3 := blk_frozen BK130.out 3
                             have hfz63_4 := blk_frozen BK130.out 4
                             obtain ⟨Ao64, co64, eo64⟩ := Kd.R_slice HO_10.out
                             subst eo64
                             have p131 : 0 ≤ (((rd_T42 y110 x15_4).f1) : Int) := of_decide_eq_true (by first | (with_reducible assumption) | assumption)
                             have q131 : ((rd_T42 y110 x15_4).f1) < (x10_4.length : Int) := of_decide_eq_true (by first | (with_reducible assumption) | assumption)
                             obtain ⟨ad131, e131, hx131_0⟩ := Kd.at_int (Kd.R_reads' HO_10.out).2.2 ((rd_T42 y110 x15_4).f1) p131 q131
                             cases e131
                             replace p131 := eq_true p131
                             replace q131 := eq_true q131
                             obtain ⟨Ao65, co65, eo65⟩ := Kd.R_slice HO_13.out
                             subst eo65
                             have p132 : 0 ≤ (((rd_T42 y110 x15_4).f1) : Int) := of_decide_eq_true (by first | (with_reducible assumption) | assumption)
                             have q132 : ((rd_T42 y110 x15_4).f1) < (x13_4.length : Int) := of_decide_eq_true (by first | (with_reducible assumption) | assumption)
                             obtain ⟨ad132, e132, hx132_0⟩ := Kd.at_bool (Kd.R_reads' HO_13.out).2.2 ((rd_T42 y110 x15_4).f1) p132 q132
                             (try rw [← Nbq60.out] at hx132_0)
                             cases e132
                             replace p132 := eq_true p132
                             replace q132 := eq_true q132
                             go_wp2
                             repeat (go_quiet (fail); try go_wp2)
                             go_meet
                             case rel => exact ⟨_, (true), (by first | rfl | (simp; done) | (simp [*]; done)), H', ⟨by have := HJ11.out; have := HJ19.out; have := HK3.out; have := HK4.out; first | omega | exact Nat.le_refl _⟩, ⟨by (with_reducible repeat (first | apply Kd.R_alloc | apply Kd.R_drewN | apply Kd.R_drew)); exact HO_10.out⟩, ⟨by (with_reducible repeat (first | apply Kd.R_alloc | apply Kd.R_drewN | apply Kd.R_drew)); exact HO_11.out⟩, ⟨by (with_reducible repeat (first | apply Kd.R_alloc | apply Kd.R_drewN | apply Kd.R_drew)); exact HO_12.out⟩, ⟨by (with_reducible repeat (first | apply Kd.R_alloc | apply Kd.R_drewN | apply Kd.R_drew)); exact HO_13.out⟩, ⟨by (with_reducible repeat (first | refine blk_drewN ?_ _ | refine blk_drew ?_ | refine blk_alloc ?_ _)); exact BK104.out⟩, ⟨by (with_reducible repeat (first | refine blk_drewN ?_ _ | refine blk_drew ?_ | refine blk_alloc ?_ _)); exact BK130.out⟩, ⟨by repeat (first | (with_reducible first | exact HB.out | apply below_alloc | apply pw_below_drewN | apply below_drew1 | refine below_set ?_ GE104.out | refine below_set ?_ GE130.out) | exact HB.out)⟩⟩
                            ·
                             replace c61 := Bool.eq_false_iff.mpr c61
                             subst c61
                             have H1 : (if x15_4 > 0 then (if 0 ≤ (wrap64 (x15_4 - 1)) then (if (wrap64 (x15_4 - 1)) < (y110.length : Int) then (millwrightlaw19_TraceBounds.j4 k4 y106 y110 t105 x8_11 x10_4 x11_4 x12_4 x13_4 x15_4 (decide (((rd_T42 y110 (wrap64 (x15_4 - 1))).f4) > ((rd_T42 y110 x15_4).f4))) a0_0 a0_1 a0_2 a0_3 a0_4 a0_5 a0_6 a0_7 a0_8 a0_9 ((rd_T42 y110 x15_4).f0) ((rd_T42 y110 x15_4).f1) ((rd_T42 y110 x15_4).f2) ((rd_T42 y110 x15_4).f3) ((rd_T42 y110 x15_4).f4)) else (none)) else (none)) else (millwrightlaw19_TraceBounds.j4 k4 y106 y110 t105 x8_11 x10_4 x11_4 x12_4 x13_4 x15_4 false a0_0 a0_1 a0_2 a0_3 a0_4 a0_5 a0_6 a0_7 a0_8 a0_9 ((rd_T42 y110 x15_4).f0) ((rd_T42 y110 x15_4).f1) ((rd_T42 y110 x15_4).f2) ((rd_T42 y110 x15_4).f3) ((rd_T42 y110 x15_4).f4))) = some r := by rw [if_neg (show ¬ (false = true) by decide)] at H; exact H
                             clear H
                             have H := H1
                             clear H1
                             by_cases c66 : x15_4 > 0
                             ·
                              rw [if_pos c66] at H
                              have c66b0 : decide (0 < x15_4) = true := decide_eq_true c66
                              clear c66
                              obtain ⟨ji67, hji67⟩ : ∃ j_ : Int, (wrap64 (x15_4 - 1)) = j_ := ⟨_, rfl⟩
                              replace H : (if 0 ≤ (ji67) then (if (ji67) < (y110.length : Int) then (millwrightlaw19_TraceBounds.j4 k4 y106 y110 t105 x8_11 x10_4 x11_4 x12_4 x13_4 x15_4 (decide (((rd_T42 y110 (ji67)).f4) > ((rd_T42 y110 x15_4).f4))) a0_0 a0_1 a0_2 a0_3 a0_4 a0_5 a0_6 a0_7 a0_8 a0_9 ((rd_T42 y110 x15_4).f0) ((rd_T42 y110 x15_4).f1) ((rd_T42 y110 x15_4).f2) ((rd_T42 y110 x15_4).f3) ((rd_T42 y110 x15_4).f4)) else (none)) else (none)) = some r := by first | (rw [hji67] at H; exact H) | (simp only [hji67] at H ⊢; exact H)
                              have hji67w : (IntKind.i64.wrap (x15_4 - 1)) = ji67 := (i64_w _).trans hji67
                              by_cases c68 : 0 ≤ (ji67)
                              ·
                               rw [if_pos c68] at H
                               have c68b0 : decide (0 ≤ (ji67)) = true := decide_eq_true c68
                               clear c68
                               by_cases c69 : (ji67) < (y110.length : Int)
                               ·
                                rw [if_pos c69] at H
                                have c69b0 : decide ((ji67) < (y110.length : Int)) = true := decide_eq_true c69
                                clear c69
                                have H' := Aside0.mk H
                                clear H
                                have hnb70 := NB130_104.out
                                have hnc70 := NB104_130.out
                                have hcz71_0 : w45.cell? ⟨gb130, 0, none⟩ = some (.int .i64 ((rd_T42 y110 x15_4).f0)) := (blk_cell BK130.out 0).trans rfl
                                have hcz71_1 : w45.cell? ⟨gb130, 1, none⟩ = some (.int .i64 ((rd_T42 y110 x15_4).f1)) := (blk_cell BK130.out 1).trans rfl
                                have hcz71_2 : w45.cell? ⟨gb130, 2, none⟩ = some (.int .i64 ((rd_T42 y110 x15_4).f2)) := (blk_cell BK130.out 2).trans rfl
                                have hcz71_3 : w45.cell? ⟨gb130, 3, none⟩ = some (.int .i64 ((rd_T42 y110 x15_4).f3)) := (blk_cell BK130.out 3).trans rfl
                                have hcz71_4 : w45.cell? ⟨gb130, 4, none⟩ = some (.int .i64 ((rd_T42 y110 x15_4).f4)) := (blk_cell BK130.out 4).trans rfl
                                have hfz71_0 := blk_frozen BK130.out 0
                                have hfz71_1 := blk_frozen BK130.out 1
                                have hfz71_2 := blk_frozen BK130.out 2
                                have hfz71_3 := blk_frozen BK130.out 3
                                have hfz71_4 := blk_frozen BK130.out 4
                                obtain ⟨Ao72, co72, eo72⟩ := Kd.R_slice HO_10.out
                                subst eo72
                                have p131 : 0 ≤ (((rd_T42 y110 x15_4).f1) : Int) := of_decide_eq_true (by first | (with_reducible assumption) | assumption)
                                have q131 : ((rd_T42 y110 x15_4).f1) < (x10_4.length : Int) := of_decide_eq_true (by first | (with_reducible assumption) | assumption)
                                obtain ⟨ad131, e131, hx131_0⟩ := Kd.at_int (Kd.R_reads' HO_10.out).2.2 ((rd_T42 y110 x15_4).f1) p131 q131
                                cases e131
                                replace p131 := eq_true p131
                                replace q131 := eq_true q131
                                obtain ⟨Ao73, co73, eo73⟩ := Kd.R_slice HO_13.out
                                subst eo73
                                have p132 : 0 ≤ (((rd_T42 y110 x15_4).f1) : Int) := of_decide_eq_true (by first | (with_reducible assumption) | assumption)
                                have q132 : ((rd_T42 y110 x15_4).f1) < (x13_4.length : Int) := of_decide_eq_true (by first | (with_reducible assumption) | assumption)
                                obtain ⟨ad132, e132, hx132_0⟩ := Kd.at_bool (Kd.R_reads' HO_13.out).2.2 ((rd_T42 y110 x15_4).f1) p132 q132
                                (try rw [← Nbq60.out] at hx132_0)
                                cases e132
                                replace p132 := eq_true p132
                                replace q132 := eq_true q132
                                have p133 : 0 ≤ ((ji67) : Int) := of_decide_eq_true (by first | (with_reducible assumption) | assumption)
                                have q133 : (ji67) < (y110.length : Int) := of_decide_eq_true (by first | (with_reducible assumption) | assumption)
                                obtain ⟨ad133, e133, hx133_0, hx133_1, hx133_2, hx133_3, hx133_4⟩ := at_T42 HR113.out (ji67) p133 q133
                                obtain rfl : ad129 = ad133 := (by injection e133)
                                replace hx133_0 := (HB.out.cell (World.block_lt_of_cell? w _ hx133_0)).trans hx133_0
                                replace hx133_1 := (HB.out.cell (World.block_lt_of_cell? w _ hx133_1)).trans hx133_1
                                replace hx133_2 := (HB.out.cell (World.block_lt_of_cell? w _ hx133_2)).trans hx133_2
                                replace hx133_3 := (HB.out.cell (World.block_lt_of_cell? w _ hx133_3)).trans hx133_3
                                replace hx133_4 := (HB.out.cell (World.block_lt_of_cell? w _ hx133_4)).trans hx133_4
                                replace p133 := eq_true p133
                                replace q133 := eq_true q133
                                go_wp2
                                repeat (go_quiet (fail); try go_wp2)
                                go_meet
                                case rel => exact ⟨_, (decide (((rd_T42 y110 (ji67)).f4) > ((rd_T42 y110 x15_4).f4))), (by first | rfl | (simp; done) | (simp only [← hji67] <;> (first | rfl | simp)) | (simp [*]; done)), H', ⟨by have := HJ11.out; have := HJ19.out; have := HK3.out; have := HK4.out; first | omega | exact Nat.le_refl _⟩, ⟨by (with_reducible repeat (first | apply Kd.R_alloc | apply Kd.R_drewN | apply Kd.R_drew)); exact HO_10.out⟩, ⟨by (with_reducible repeat (first | apply Kd.R_alloc | apply Kd.R_drewN | apply Kd.R_drew)); exact HO_11.out⟩, ⟨by (with_reducible repeat (first | apply Kd.R_alloc | apply Kd.R_drewN | apply Kd.R_drew)); exact HO_12.out⟩, ⟨by (with_reducible repeat (first | apply Kd.R_alloc | apply Kd.R_drewN | apply Kd.R_drew)); exact HO_13.out⟩, ⟨by (with_reducible repeat (first | refine blk_drewN ?_ _ | refine blk_drew ?_ | refine blk_alloc ?_ _)); exact BK104.out⟩, ⟨by (with_reducible repeat (first | refine blk_drewN ?_ _ | refine blk_drew ?_ | refine blk_alloc ?_ _)); exact BK130.out⟩, ⟨by repeat (first | (with_reducible first | exact HB.out | apply below_alloc | apply pw_below_drewN | apply below_drew1 | refine below_set ?_ GE104.out | refine below_set ?_ GE130.out) | exact HB.out)⟩⟩
                               ·
                                rw [if_neg c69] at H
                                exact absurd H (by simp)
                              ·
                               rw [if_neg c68] at H
                               exact absurd H (by simp)
                             ·
                              rw [if_neg c66] at H
                              have c66b0 : decide (0 < x15_4) = false := decide_eq_false c66
                              clear c66
                              have H' := Aside0.mk H
                              clear H
                              have hnb74 := NB130_104.out
                              have hnc74 := NB104_130.out
                              have hcz75_0 : w45.cell? ⟨gb130, 0, none⟩ = some (.int .i64 ((rd_T42 y110 x15_4).f0)) := (blk_cell BK130.out 0).trans rfl
                              have hcz75_1 : w45.cell? ⟨gb130, 1, none⟩ = some (.int .i64 ((rd_T42 y110 x15_4).f1)) := (blk_cell BK130.out 1).trans rfl
                              have hcz75_2 : w45.cell? ⟨gb130, 2, none⟩ = some (.int .i64 ((rd_T42 y110 x15_4).f2)) := (blk_cell BK130.out 2).trans rfl
                              have hcz75_3 : w45.cell? ⟨gb130, 3, none⟩ = some (.int .i64 ((rd_T42 y110 x15_4).f3)) := (blk_cell BK130.out 3).trans rfl
                              have hcz75_4 : w45.cell? ⟨gb130, 4, none⟩ = some (.int .i64 ((rd_T42 y110 x15_4).f4)) := (blk_cell BK130.out 4).trans rfl
                              have hfz75_0 := blk_frozen BK130.out 0
                              have hfz75_1 := blk_frozen BK130.out 1
                              have hfz75_2 := blk_frozen BK130.out 2
                              have hfz75_3 := blk_frozen BK130.out 3
                              have hfz75_4 := blk_frozen BK130.out 4
                              obtain ⟨Ao76, co76, eo76⟩ := Kd.R_slice HO_10.out
                              subst eo76
                              have p131 : 0 ≤ (((rd_T42 y110 x15_4).f1) : Int) := of_decide_eq_true (by first | (with_reducible assumption) | assumption)
                              have q131 : ((rd_T42 y110 x15_4).f1) < (x10_4.length : Int) := of_decide_eq_true (by first | (with_reducible assumption) | assumption)
                              obtain ⟨ad131, e131, hx131_0⟩ := Kd.at_int (Kd.R_reads' HO_10.out).2.2 ((rd_T42 y110 x15_4).f1) p131 q131
                              cases e131
                              replace p131 := eq_true p131
                              replace q131 := eq_true q131
                              obtain ⟨Ao77, co77, eo77⟩ := Kd.R_slice HO_13.out
                              subst eo77
                              have p132 : 0 ≤ (((rd_T42 y110 x15_4).f1) : Int) := of_decide_eq_true (by first | (with_reducible assumption) | assumption)
                              have q132 : ((rd_T42 y110 x15_4).f1) < (x13_4.length : Int) := of_decide_eq_true (by first | (with_reducible assumption) | assumption)
                              obtain ⟨ad132, e132, hx132_0⟩ := Kd.at_bool (Kd.R_reads' HO_13.out).2.2 ((rd_T42 y110 x15_4).f1) p132 q132
                              (try rw [← Nbq60.out] at hx132_0)
                              cases e132
                              replace p132 := eq_true p132
                              replace q132 := eq_true q132
                              go_wp2
                              repeat (go_quiet (fail); try go_wp2)
                              go_meet
                              case rel => exact ⟨_, (false), (by first | rfl | (simp; done) | (simp [*]; done)), H', ⟨by have := HJ11.out; have := HJ19.out; have := HK3.out; have := HK4.out; first | omega | exact Nat.le_refl _⟩, ⟨by (with_reducible repeat (first | apply Kd.R_alloc | apply Kd.R_drewN | apply Kd.R_drew)); exact HO_10.out⟩, ⟨by (with_reducible repeat (first | apply Kd.R_alloc | apply Kd.R_drewN | apply Kd.R_drew)); exact HO_11.out⟩, ⟨by (with_reducible repeat (first | apply Kd.R_alloc | apply Kd.R_drewN | apply Kd.R_drew)); exact HO_12.out⟩, ⟨by (with_reducible repeat (first | apply Kd.R_alloc | apply Kd.R_drewN | apply Kd.R_drew)); exact HO_13.out⟩, ⟨by (with_reducible repeat (first | refine blk_drewN ?_ _ | refine blk_drew ?_ | refine blk_alloc ?_ _)); exact BK104.out⟩, ⟨by (with_reducible repeat (first | refine blk_drewN ?_ _ | refine blk_drew ?_ | refine blk_alloc ?_ _)); exact BK130.out⟩, ⟨by repeat (first | (with_reducible first | exact HB.out | apply below_alloc | apply pw_below_drewN | apply below_drew1 | refine below_set ?_ GE104.out | refine below_set ?_ GE130.out) | exact HB.out)⟩⟩
                           ·
                            rw [if_neg c59] at H
                            exact absurd H (by simp)
                         ·
                          rw [if_neg c54] at H
                          exact absurd H (by simp)
                        ·
                         rw [if_neg c53] at H
                         exact absurd H (by simp)
                     case rest => as_aux_lemma =>
                      clear HC43
                      (try clear c1); (try clear p1); (try clear q1); (try clear hx1); (try clear c2); (try clear p2); (try clear c3); (try clear p3); (try clear q3); (try clear hx3); (try clear hf3); (try clear c4); (try clear c5); (try clear c6); (try clear c6b0); (try clear c6b1); (try clear p6); (try clear q6); (try clear c7); (try clear c7b0); (try clear c7b1); (try clear c9); (try clear c9b0); (try clear c9b1); (try clear c10); (try clear c10b0); (try clear c10b1); (try clear p12); (try clear q12); (try clear hx12); (try clear p13); (try clear q13); (try clear hx13); (try clear q15); (try clear q16); (try clear c19); (try clear c19b0); (try clear c19b1); (try clear c21); (try clear c21b0); (try clear c22); (try clear c23); (try clear c23b0); (try clear c23b1); (try clear c24); (try clear c24b0); (try clear c24b1); (try clear c25); (try clear c25b0); (try clear c25b1); (try clear c34); (try clear c34b0); (try clear c35); (try clear c35b0); (try clear c36); (try clear c36b0); (try clear p37); (try clear q37); (try clear hx37); (try clear hf37); (try clear c40); (try clear c40b0); (try clear c41); (try clear c41b0); (try clear c42); (try clear c42b0); (try clear c45); (try clear c47); (try clear c47b0); (try clear c48); (try clear c50); (try clear c50b0); (try clear c51); (try clear c53); (try clear c53b0); (try clear c54); (try clear c54b0); (try clear c55); (try clear c55b0); (try clear c55b1); (try clear c55b2); (try clear c56); (try clear c59); (try clear c59b0); (try clear q60); (try clear c61); (try clear c62); (try clear p64); (try clear c66); (try clear c66b0); (try clear c68); (try clear c68b0); (try clear c69); (try clear c69b0); (try clear c70); (try clear c74); (try clear hcz17_0); (try clear hcz17_1); (try clear hcz17_2); (try clear hcz17_3); (try clear hcz17_4); (try clear hcz17_5); (try clear hcz17_6); (try clear hcz17_7); (try clear hcz17_8); (try clear hcz17_9); (try clear hcz46_0); (try clear hcz46_1); (try clear hcz46_2); (try clear hcz46_3); (try clear hcz46_4); (try clear hcz49_0); (try clear hcz49_1); (try clear hcz49_2); (try clear hcz49_3); (try clear hcz49_4); (try clear hcz52_0); (try clear hcz52_1); (try clear hcz52_2); (try clear hcz52_3); (try clear hcz52_4); (try clear hcz57_0); (try clear hcz57_1); (try clear hcz57_2); (try clear hcz57_3); (try clear hcz57_4); (try clear hcz63_0); (try clear hcz63_1); (try clear hcz63_2); (try clear hcz63_3); (try clear hcz63_4); (try clear hcz71_0); (try clear hcz71_1); (try clear hcz71_2); (try clear hcz71_3); (try clear hcz71_4); (try clear hcz75_0); (try clear hcz75_1); (try clear hcz75_2); (try clear hcz75_3); (try clear hcz75_4); (try clear hfz17_0); (try clear hfz17_1); (try clear hfz17_2); (try clear hfz17_3); (try clear hfz17_4); (try clear hfz17_5); (try clear hfz17_6); (try clear hfz17_7); (try clear hfz17_8); (try clear hfz17_9); (try clear hfz46_0); (try clear hfz46_1); (try clear hfz46_2); (try clear hfz46_3); (try clear hfz46_4); (try clear hfz49_0); (try clear hfz49_1); (try clear hfz49_2); (try clear hfz49_3); (try clear hfz49_4); (try clear hfz52_0); (try clear hfz52_1); (try clear hfz52_2); (try clear hfz52_3); (try clear hfz52_4); (try clear hfz57_0); (try clear hfz57_1); (try clear hfz57_2); (try clear hfz57_3); (try clear hfz57_4); (try clear hfz63_0); (try clear hfz63_1); (try clear hfz63_2); (try clear hfz63_3); (try clear hfz63_4); (try clear hfz71_0); (try clear hfz71_1); (try clear hfz71_2); (try clear hfz71_3); (try clear hfz71_4); (try clear hfz75_0); (try clear hfz75_1); (try clear hfz75_2); (try clear hfz75_3); (try clear hfz75_4); (try clear hx129_0); (try clear hx129_1); (try clear hx129_2); (try clear hx129_3); (try clear hx129_4); (try clear hx131_0); (try clear hx132_0); (try clear hx133_0); (try clear hx133_1); (try clear hx133_2); (try clear hx133_3); (try clear hx133_4); (try clear hx37_0); (try clear p129); (try clear p131); (try clear p132); (try clear p133); (try clear p2); (try clear p3); (try clear p37); (try clear p6); (try clear q1); (try clear q129); (try clear q131); (try clear q132); (try clear q133); (try clear q15); (try clear q16); (try clear q3); (try clear q37)
                      obtain ⟨kq, x125_42, rfl, HA, HJ42, HO_10, HO_11, HO_12, HO_13, BK104, BK130, HB⟩ := hcut
                      cases kq with
                      | zero => exact absurd HA.out (by simp [millwrightlaw19_TraceBounds.j4])
                      | succ kj42 =>
                       have H := HA.out
                       clear HA
                       simp only [millwrightlaw19_TraceBounds.j4] at H
                       by_cases c78 : x125_42 = true
                       ·
                        subst c78
                        have H1 : (some false) = some r := by rw [if_pos rfl] at H; exact H
                        clear H
                        have H := H1
                        clear H1
                        obtain rfl := Option.some.inj H
                        go_wp2
                        repeat (go_quiet (fail); try go_wp2)
                        go_ret
                        exact ⟨by first | rfl | (simp [errW_none, errW_some] <;> rfl) | (simp only [← hji5, ← hji8]; first | rfl | (simp [errW_none, errW_some] <;> rfl)) | (simp [*, errW_none, errW_some] <;> rfl), by repeat (first | (with_reducible first | exact HB.out | apply below_alloc | apply pw_below_drewN | apply below_drew1 | refine below_set ?_ GE104.out | refine below_set ?_ GE130.out) | exact HB.out)⟩
                       ·
                        replace c78 := Bool.eq_false_iff.mpr c78
                        subst c78
                        have H1 : (if ((rd_T42 y110 x15_4).f0) = 1 then (if 0 ≤ ((rd_T42 y110 x15_4).f1) then (if ((rd_T42 y110 x15_4).f1) < (x10_4.length : Int) then (millwrightlaw19_TraceBounds.j6 kj42 y106 y110 t105 x8_11 (x10_4.set (((rd_T42 y110 x15_4).f1) : Int).toNat ((rd_T42 y110 x15_4).f2)) x11_4 x12_4 x13_4 x15_4 a0_0 a0_1 a0_2 a0_3 a0_4 a0_5 a0_6 a0_7 a0_8 a0_9 ((rd_T42 y110 x15_4).f0) ((rd_T42 y110 x15_4).f1) ((rd_T42 y110 x15_4).f2) ((rd_T42 y110 x15_4).f3) ((rd_T42 y110 x15_4).f4)) else (none)) else (none)) else (if ((rd_T42 y110 x15_4).f0) = 2 then (if 0 ≤ ((rd_T42 y110 x15_4).f1) then (if ((rd_T42 y110 x15_4).f1) < (x13_4.length : Int) then (millwrightlaw19_TraceBounds.j6 kj42 y106 y110 t105 x8_11 x10_4 x11_4 x12_4 (x13_4.set (((rd_T42 y110 x15_4).f1) : Int).toNat true) x15_4 a0_0 a0_1 a0_2 a0_3 a0_4 a0_5 a0_6 a0_7 a0_8 a0_9 ((rd_T42 y110 x15_4).f0) ((rd_T42 y110 x15_4).f1) ((rd_T42 y110 x15_4).f2) ((rd_T42 y110 x15_4).f3) ((rd_T42 y110 x15_4).f4)) else (none)) else (none)) else (if ((rd_T42 y110 x15_4).f0) = 3 then (millwrightlaw19_TraceBounds.j5 kj42 y106 y110 t105 x8_11 x10_4 x11_4 x12_4 x13_4 x15_4 ((rd_T42 y110 x15_4).f0) (((rd_T42 y110 x15_4).f0) == 3) a0_0 a0_1 a0_2 a0_3 a0_4 a0_5 a0_6 a0_7 a0_8 a0_9 ((rd_T42 y110 x15_4).f0) ((rd_T42 y110 x15_4).f1) ((rd_T42 y110 x15_4).f2) ((rd_T42 y110 x15_4).f3) ((rd_T42 y110 x15_4).f4)) else (millwrightlaw19_TraceBounds.j5 kj42 y106 y110 t105 x8_11 x10_4 x11_4 x12_4 x13_4 x15_4 ((rd_T42 y110 x15_4).f0) (((rd_T42 y110 x15_4).f0) == 5) a0_0 a0_1 a0_2 a0_3 a0_4 a0_5 a0_6 a0_7 a0_8 a0_9 ((rd_T42 y110 x15_4).f0) ((rd_T42 y110 x15_4).f1) ((rd_T42 y110 x15_4).f2) ((rd_T42 y110 x15_4).f3) ((rd_T42 y110 x15_4).f4))))) = some r := by rw [if_neg (show ¬ (false = true) by decide)] at H; exact H
                        clear H
                        have H := H1
                        clear H1
                        have HC79 := Aside0.mk H
                        clear H
                        have hnb80 := NB130_104.out
                        have hnc80 := NB104_130.out
                        have hcz81_0 : wc.cell? ⟨gb130, 0, none⟩ = some (.int .i64 ((rd_T42 y110 x15_4).f0)) := (blk_cell BK130.out 0).trans rfl
                        have hcz81_1 : wc.cell? ⟨gb130, 1, none⟩ = some (.int .i64 ((rd_T42 y110 x15_4).f1)) := (blk_cell BK130.out 1).trans rfl
                        have hcz81_2 : wc.cell? ⟨gb130, 2, none⟩ = some (.int .i64 ((rd_T42 y110 x15_4).f2)) := (blk_cell BK130.out 2).trans rfl
                        have hcz81_3 : wc.cell? ⟨gb130, 3, none⟩ = some (.int .i64 ((rd_T42 y110 x15_4).f3)) := (blk_cell BK130.out 3).trans rfl
                        have hcz81_4 : wc.cell? ⟨gb130, 4, none⟩ = some (.int .i64 ((rd_T42 y110 x15_4).f4)) := (blk_cell BK130.out 4).trans rfl
                        have hfz81_0 := blk_frozen BK130.out 0
                        have hfz81_1 := blk_frozen BK130.out 1
                        have hfz81_2 := blk_frozen BK130.out 2
                        have hfz81_3 := blk_frozen BK130.out 3
                        have hfz81_4 := blk_frozen BK130.out 4
                        go_upto_block 4 with (fail)
                        repeat (go_quiet (fail); go_upto_block 4 with (fail))
                        go_cut [] (fun wc => ∃ (kq : Nat) (x10_78 : List Int) (x11_78 : List Int) (x12_78 : List Int) (x13_78 : List Bool), Aside0 (millwrightlaw19_TraceBounds.j6 kq y106 y110 t105 x8_11 x10_78 x11_78 x12_78 x13_78 x15_4 a0_0 a0_1 a0_2 a0_3 a0_4 a0_5 a0_6 a0_7 a0_8 a0_9 ((rd_T42 y110 x15_4).f0) ((rd_T42 y110 x15_4).f1) ((rd_T42 y110 x15_4).f2) ((rd_T42 y110 x15_4).f3) ((rd_T42 y110 x15_4).f4) = some r) ∧ Aside0 (kq ≤ kj42) ∧ Aside0 (Kd.R (Kd.int .i64) 3 wc w.heap.size (fun k_ => some k_ ≠ (v120 : Value).ownBlock ∧ some k_ ≠ (v123 : Value).ownBlock) v117 x10_78) ∧ Aside0 (Kd.R (Kd.int .i64) 3 wc w.heap.size (fun k_ => some k_ ≠ (v117 : Value).ownBlock ∧ some k_ ≠ (v123 : Value).ownBlock) v120 x11_78) ∧ Aside0 (Kd.R (Kd.int .i64) 3 wc w.heap.size (fun k_ => some k_ ≠ (v117 : Value).ownBlock ∧ some k_ ≠ (v120 : Value).ownBlock) v123 x12_78) ∧ Aside0 (Kd.R Kd.bool 4 wc w.heap.size (fun _ => True) v126 x13_78) ∧ Aside0 (wc.heap[gb104]? = some (.cells #[.int .i64 a0_0, .int .i64 a0_1, .int .i64 a0_2, .int .i64 a0_3, .int .i64 a0_4, .int .i64 a0_5, .int .i64 a0_6, .int .i64 a0_7, .int .i64 a0_8, .int .i64 a0_9] 23 (0, 0))) ∧ Aside0 (wc.heap[gb130]? = some (.cells #[.int .i64 ((rd_T42 y110 x15_4).f0), .int .i64 ((rd_T42 y110 x15_4).f1), .int .i64 ((rd_T42 y110 x15_4).f2), .int .i64 ((rd_T42 y110 x15_4).f3), .int .i64 ((rd_T42 y110 x15_4).f4)] 42 (0, 0))) ∧ Aside0 (Below w.heap.size w wc))
                        case first => as_aux_lemma =>
                         have H := HC79.out
                         clear HC79
                         by_cases c82 : ((rd_T42 y110 x15_4).f0) = 1
                         ·
                          rw [if_pos c82] at H
                          have c82b0 : (((rd_T42 y110 x15_4).f0) == 1) = true := beq_iff_eq.mpr c82
                          have c82b1 : (((rd_T42 y110 x15_4).f0) != 1) = false := bne_eq_false_iff_eq.mpr c82
                          clear c82
                          (first | rw [c82b0] | (simp only [i64_w, i32_w]; rw [c82b0]) | skip)
                          by_cases c83 : 0 ≤ ((rd_T42 y110 x15_4).f1)
                          ·
                           rw [if_pos c83] at H
                           have c83b0 : decide (0 ≤ ((rd_T42 y110 x15_4).f1)) = true := decide_eq_true c83
                           clear c83
                           by_cases c84 : ((rd_T42 y110 x15_4).f1) < (x10_4.length : Int)
                           ·
                            rw [if_pos c84] at H
                            have c84b0 : decide (((rd_T42 y110 x15_4).f1) < (x10_4.length : Int)) = true := decide_eq_true c84
                            clear c84
                            obtain ⟨y134, hy134⟩ : ∃ y_ : List Int, y_ = (x10_4.set (((rd_T42 y110 x15_4).f1) : Int).toNat ((rd_T42 y110 x15_4).f2)) := ⟨_, rfl⟩
                            replace H : (millwrightlaw19_TraceBounds.j6 kj42 y106 y110 t105 x8_11 y134 x11_4 x12_4 x13_4 x15_4 a0_0 a0_1 a0_2 a0_3 a0_4 a0_5 a0_6 a0_7 a0_8 a0_9 ((rd_T42 y110 x15_4).f0) ((rd_T42 y110 x15_4).f1) ((rd_T42 y110 x15_4).f2) ((rd_T42 y110 x15_4).f3) ((rd_T42 y110 x15_4).f4)) = some r := by first | (rw [hy134]; with_reducible exact H) | (have H2_ := (Option.bind_some _ _).symm.trans H; rw [hy134]; with_reducible exact H2_) | (have H2_ := (Option.bind_some _ _).symm.trans H; with_reducible exact H2_) | with_reducible exact H | (rw [hy134]; exact H) | exact H
                            have Ny134 := Aside0.mk hy134
                            clear hy134
                            have H' := Aside0.mk H
                            clear H
                            have hnb86 := NB130_104.out
                            have hnc86 := NB104_130.out
                            have hcz87_0 : wc.cell? ⟨gb130, 0, none⟩ = some (.int .i64 ((rd_T42 y110 x15_4).f0)) := (blk_cell BK130.out 0).trans rfl
                            have hcz87_1 : wc.cell? ⟨gb130, 1, none⟩ = some (.int .i64 ((rd_T42 y110 x15_4).f1)) := (blk_cell BK130.out 1).trans rfl
                            have hcz87_2 : wc.cell? ⟨gb130, 2, none⟩ = some (.int .i64 ((rd_T42 y110 x15_4).f2)) := (blk_cell BK130.out 2).trans rfl
                            have hcz87_3 : wc.cell? ⟨gb130, 3, none⟩ = some (.int .i64 ((rd_T42 y110 x15_4).f3)) := (blk_cell BK130.out 3).trans rfl
                            have hcz87_4 : wc.cell? ⟨gb130, 4, none⟩ = some (.int .i64 ((rd_T42 y110 x15_4).f4)) := (blk_cell BK130.out 4).trans rfl
                            have hfz87_0 := blk_frozen BK130.out 0
                            have hfz87_1 := blk_frozen BK130.out 1
                            have hfz87_2 := blk_frozen BK130.out 2
                            have hfz87_3 := blk_frozen BK130.out 3
                            have hfz87_4 := blk_frozen BK130.out 4
                            have p85 : 0 ≤ (((rd_T42 y110 x15_4).f1) : Int) := of_decide_eq_true (by first | (with_reducible assumption) | assumption)
                            have q85 : (((rd_T42 y110 x15_4).f1) : Int) < ((x10_4.length : Int) : Int) := of_decide_eq_true (by first | (with_reducible assumption) | assumption)
                            obtain ⟨go85, co85, eo85, gb85, gl85, cl85, HG85⟩ := Kd.R_form HO_10.out (by omega)
                            (first | cases eo85 | (injection eo85 with ea_ en_ ec_; (first | subst ea_ | (injection ea_ with ea_; subst ea_)); subst ec_; clear en_))
                            have GB85 := Aside0.mk gb85
                            have GG85 := Aside0.mk HG85
                            clear gb85 gl85 HG85
                            obtain ⟨hx85_0, hf85_0⟩ := Kd.R_celln 0 HO_10.out (((rd_T42 y110 x15_4).f1) : Int) p85 q85
                            replace p85 := eq_true p85
                            replace q85 := eq_true q85
                            have HP88 := Kd.R_putg HO_10.out (((rd_T42 y110 x15_4).f1) : Int) ((rd_T42 y110 x15_4).f2)
                            go_wp2_with (first | ((with_reducible refine gate_store (t := 3) (p := 135) rfl ?_); (try (rw [drewN_self wc]; generalize hq_ : World.drewN wc _ = wc; have n0_ := Aside0.mk (Kd.R_at hq_ HO_10.out); have n1_ := Aside0.mk (Kd.R_at hq_ HO_11.out); have n2_ := Aside0.mk (Kd.R_at hq_ HO_12.out); have n3_ := Aside0.mk (Kd.R_at hq_ HO_13.out); have n4_ := Aside0.mk (blk_at hq_ BK104.out); have n5_ := Aside0.mk (blk_at hq_ BK130.out); have n6_ := Aside0.mk (below_at hq_ HB.out); clear hq_ HO_10 HO_11 HO_12 HO_13 BK104 BK130 HB; have HO_10 := n0_; have HO_11 := n1_; have HO_12 := n2_; have HO_13 := n3_; have BK104 := n4_; have BK130 := n5_; have HB := n6_; clear n0_ n1_ n2_ n3_ n4_ n5_ n6_; (try (have HP88 := Kd.R_putg HO_10.out (((rd_T42 y110 x15_4).f1) : Int) ((rd_T42 y110 x15_4).f2))))); refine store_event (t := 3) (p := 135) (v := ?vo_w89) (w1 := (wc.setCell ⟨go85, (((rd_T42 y110 x15_4).f1) : Int).toNat, none⟩ (.int .i64 ((rd_T42 y110 x15_4).f2)))) ?hg ?ho ?hn ?hr ?_; (case ho => rfl); (case hg => rfl); (case hn => rfl); (case hr => first | (go_simp; done) | (go_simp; rfl)); intro w89 hw; have hg : wc.grownBy w89 (some go85) := (by rw [hw]; exact HP88.2); have hp_ : Kd.R (Kd.int .i64) 3 w89 w.heap.size (fun k_ => some k_ ≠ (v120 : Value).ownBlock ∧ some k_ ≠ (v123 : Value).ownBlock) (.slice (some ⟨go85, 0, none⟩) x10_4.length co85) y134 := (by rw [hw, Ny134.out]; exact HP88.1); clear HP88; have n0_ := Aside0.mk (hp_); have n1_ := Aside0.mk (Kd.R_after (v := (.slice (some ⟨go85, 0, none⟩) x10_4.length co85)) (v1 := (.slice (some ⟨go85, 0, none⟩) x10_4.length co85)) (ok := (fun k_ => some k_ ≠ (v123 : Value).ownBlock)) (by (with_reducible repeat (first | apply Kd.R_alloc | apply Kd.R_drewN | apply Kd.R_drew)); exact Kd.R_mono HO_11.out (fun _ hk => ⟨hk.2, hk.1⟩)) hg (.inl rfl)); have n2_ := Aside0.mk (Kd.R_after (v := (.slice (some ⟨go85, 0, none⟩) x10_4.length co85)) (v1 := (.slice (some ⟨go85, 0, none⟩) x10_4.length co85)) (ok := (fun k_ => some k_ ≠ (v120 : Value).ownBlock)) (by (with_reducible repeat (first | apply Kd.R_alloc | apply Kd.R_drewN | apply Kd.R_drew)); exact Kd.R_mono HO_12.out (fun _ hk => ⟨hk.2, hk.1⟩)) hg (.inl rfl)); have n3_ := Aside0.mk (Kd.R_over' (v := (.slice (some ⟨go85, 0, none⟩) x10_4.length co85)) (by (with_reducible repeat (first | apply Kd.R_alloc | apply Kd.R_drewN | apply Kd.R_drew)); exact HO_13.out) (Kd.R_typed HO_10.out) (by decide) hg); have n4_ := Aside0.mk (blk_grown (g := gb104) (o := .cells #[.int .i64 a0_0, .int .i64 a0_1, .int .i64 a0_2, .int .i64 a0_3, .int .i64 a0_4, .int .i64 a0_5, .int .i64 a0_6, .int .i64 a0_7, .int .i64 a0_8, .int .i64 a0_9] 23 (0, 0)) (by (with_reducible repeat (first | refine blk_drewN ?_ _ | refine blk_drew ?_ | refine blk_alloc ?_ _)); exact BK104.out) hg (Kd.R_ne HO_10.out BK104.out (by decide))); have n5_ := Aside0.mk (blk_grown (g := gb130) (o := .cells #[.int .i64 ((rd_T42 y110 x15_4).f0), .int .i64 ((rd_T42 y110 x15_4).f1), .int .i64 ((rd_T42 y110 x15_4).f2), .int .i64 ((rd_T42 y110 x15_4).f3), .int .i64 ((rd_T42 y110 x15_4).f4)] 42 (0, 0)) (by (with_reducible repeat (first | refine blk_drewN ?_ _ | refine blk_drew ?_ | refine blk_alloc ?_ _)); exact BK130.out) hg (Kd.R_ne HO_10.out BK130.out (by decide))); have n6_ := Aside0.mk ((by rw [hw]; exact below_set (HB.out) GB85.out : Below w.heap.size w w89)); clear HO_10; clear HO_11; clear HO_12; clear HO_13; clear BK104; clear BK130; clear HB; have HO_10 := n0_; have HO_11 := n1_; have HO_12 := n2_; have HO_13 := n3_; have BK104 := n4_; have BK130 := n5_; have HB := n6_; clear n0_ n1_ n2_ n3_ n4_ n5_ n6_; clear hg hw hp_))
                            repeat (go_quiet (fail); try go_wp2)
                            go_meet
                            case rel => exact ⟨_, (y134), (x11_4), (x12_4), (x13_4), H', ⟨by have := HJ11.out; have := HJ19.out; have := HK3.out; have := HK4.out; have := HJ42.out; first | omega | exact Nat.le_refl _⟩, ⟨by (with_reducible repeat (first | apply Kd.R_alloc | apply Kd.R_drewN | apply Kd.R_drew)); exact HO_10.out⟩, ⟨by (with_reducible repeat (first | apply Kd.R_alloc | apply Kd.R_drewN | apply Kd.R_drew)); exact Kd.R_mono HO_11.out (fun _ hk => ⟨hk.2, hk.1⟩)⟩, ⟨by (with_reducible repeat (first | apply Kd.R_alloc | apply Kd.R_drewN | apply Kd.R_drew)); exact Kd.R_mono HO_12.out (fun _ hk => ⟨hk.2, hk.1⟩)⟩, ⟨by (with_reducible repeat (first | apply Kd.R_alloc | apply Kd.R_drewN | apply Kd.R_drew)); exact HO_13.out⟩, ⟨by (with_reducible repeat (first | refine blk_drewN ?_ _ | refine blk_drew ?_ | refine blk_alloc ?_ _)); exact BK104.out⟩, ⟨by (with_reducible repeat (first | refine blk_drewN ?_ _ | refine blk_drew ?_ | refine blk_alloc ?_ _)); exact BK130.out⟩, ⟨by repeat (first | (with_reducible first | exact HB.out | apply below_alloc | apply pw_below_drewN | apply below_drew1 | refine below_set ?_ GE104.out | refine below_set ?_ GE130.out) | exact HB.out)⟩⟩
                           ·
                            rw [if_neg c84] at H
                            exact absurd H (by simp)
                          ·
                           rw [if_neg c83] at H
                           exact absurd H (by simp)
                         ·
                          rw [if_neg c82] at H
                          have c82b0 : (((rd_T42 y110 x15_4).f0) == 1) = false := beq_eq_false_iff_ne.mpr c82
                          have c82b1 : (((rd_T42 y110 x15_4).f0) != 1) = true := bne_iff_ne.mpr c82
                          (first | rw [c82b0] | (simp only [i64_w, i32_w]; rw [c82b0]) | skip)
                          by_cases c90 : ((rd_T42 y110 x15_4).f0) = 2
                          ·
                           rw [if_pos c90] at H
                           have c90b0 : (((rd_T42 y110 x15_4).f0) == 2) = true := beq_iff_eq.mpr c90
                           have c90b1 : (((rd_T42 y110 x15_4).f0) != 2) = false := bne_eq_false_iff_eq.mpr c90
                           clear c90
                           by_cases c91 : 0 ≤ ((rd_T42 y110 x15_4).f1)
                           ·
                            rw [if_pos c91] at H
                            have c91b0 : decide (0 ≤ ((rd_T42 y110 x15_4).f1)) = true := decide_eq_true c91
                            clear c91
                            by_cases c92 : ((rd_T42 y110 x15_4).f1) < (x13_4.length : Int)
                            ·
                             rw [if_pos c92] at H
                             have c92b0 : decide (((rd_T42 y110 x15_4).f1) < (x13_4.length : Int)) = true := decide_eq_true c92
                             clear c92
                             obtain ⟨y135, hy135⟩ : ∃ y_ : List Bool, y_ = (x13_4.set (((rd_T42 y110 x15_4).f1) : Int).toNat true) := ⟨_, rfl⟩
                             replace H : (millwrightlaw19_TraceBounds.j6 kj42 y106 y110 t105 x8_11 x10_4 x11_4 x12_4 y135 x15_4 a0_0 a0_1 a0_2 a0_3 a0_4 a0_5 a0_6 a0_7 a0_8 a0_9 ((rd_T42 y110 x15_4).f0) ((rd_T42 y110 x15_4).f1) ((rd_T42 y110 x15_4).f2) ((rd_T42 y110 x15_4).f3) ((rd_T42 y110 x15_4).f4)) = some r := by first | (rw [hy135]; with_reducible exact H) | (have H2_ := (Option.bind_some _ _).symm.trans H; rw [hy135]; with_reducible exact H2_) | (have H2_ := (Option.bind_some _ _).symm.trans H; with_reducible exact H2_) | with_reducible exact H | (rw [hy135]; exact H) | exact H
                             have Ny135 := Aside0.mk hy135
                             clear hy135
                             have H' := Aside0.mk H
                             clear H
                             have hnb94 := NB130_104.out
                             have hnc94 := NB104_130.out
                             have hcz95_0 : wc.cell? ⟨gb130, 0, none⟩ = some (.int .i64 ((rd_T42 y110 x15_4).f0)) := (blk_cell BK130.out 0).trans rfl
                             have hcz95_1 : wc.cell? ⟨gb130, 1, none⟩ = some (.int .i64 ((rd_T42 y110 x15_4).f1)) := (blk_cell BK130.out 1).trans rfl
                             have hcz95_2 : wc.cell? ⟨gb130, 2, none⟩ = some (.int .i64 ((rd_T42 y110 x15_4).f2)) := (blk_cell BK130.out 2).trans rfl
                             have hcz95_3 : wc.cell? ⟨gb130, 3, none⟩ = some (.int .i64 ((rd_T42 y110 x15_4).f3)) := (blk_cell BK130.out 3).trans rfl
                             have hcz95_4 : wc.cell? ⟨gb130, 4, none⟩ = some (.int .i64 ((rd_T42 y110 x15_4).f4)) := (blk_cell BK130.out 4).trans rfl
                             have hfz95_0 := blk_frozen BK130.out 0
                             have hfz95_1 := blk_frozen BK130.out 1
                             have hfz95_2 := blk_frozen BK130.out 2
                             have hfz95_3 := blk_frozen BK130.out 3
                             have hfz95_4 := blk_frozen BK130.out 4
                             have p93 : 0 ≤ (((rd_T42 y110 x15_4).f1) : Int) := of_decide_eq_true (by first | (with_reducible assumption) | assumption)
                             have q93 : (((rd_T42 y110 x15_4).f1) : Int) < ((x13_4.length : Int) : Int) := of_decide_eq_true (by first | (with_reducible assumption) | assumption)
                             obtain ⟨go93, co93, eo93, gb93, gl93, cl93, HG93⟩ := Kd.R_form HO_13.out (by omega)
                             (first | cases eo93 | (injection eo93 with ea_ en_ ec_; (first | subst ea_ | (injection ea_ with ea_; subst ea_)); subst ec_; clear en_))
                             have GB93 := Aside0.mk gb93
                             have GG93 := Aside0.mk HG93
                             clear gb93 gl93 HG93
                             obtain ⟨hx93_0, hf93_0⟩ := Kd.R_celln false HO_13.out (((rd_T42 y110 x15_4).f1) : Int) p93 q93
                             replace p93 := eq_true p93
                             replace q93 := eq_true q93
                             have HP96 := Kd.R_putg HO_13.out (((rd_T42 y110 x15_4).f1) : Int) true
                             go_wp2_with (first | ((with_reducible refine gate_store (t := 4) (p := 141) rfl ?_); (try (rw [drewN_self wc]; generalize hq_ : World.drewN wc _ = wc; have n0_ := Aside0.mk (Kd.R_at hq_ HO_10.out); have n1_ := Aside0.mk (Kd.R_at hq_ HO_11.out); have n2_ := Aside0.mk (Kd.R_at hq_ HO_12.out); have n3_ := Aside0.mk (Kd.R_at hq_ HO_13.out); have n4_ := Aside0.mk (blk_at hq_ BK104.out); have n5_ := Aside0.mk (blk_at hq_ BK130.out); have n6_ := Aside0.mk (below_at hq_ HB.out); clear hq_ HO_10 HO_11 HO_12 HO_13 BK104 BK130 HB; have HO_10 := n0_; have HO_11 := n1_; have HO_12 := n2_; have HO_13 := n3_; have BK104 := n4_; have BK130 := n5_; have HB := n6_; clear n0_ n1_ n2_ n3_ n4_ n5_ n6_; (try (have HP96 := Kd.R_putg HO_13.out (((rd_T42 y110 x15_4).f1) : Int) true)))); refine store_event (t := 4) (p := 141) (v := ?vo_w97) (w1 := (wc.setCell ⟨go93, (((rd_T42 y110 x15_4).f1) : Int).toNat, none⟩ (.bool true))) ?hg ?ho ?hn ?hr ?_; (case ho => rfl); (case hg => rfl); (case hn => rfl); (case hr => first | (go_simp; done) | (go_simp; rfl)); intro w97 hw; have hg : wc.grownBy w97 (some go93) := (by rw [hw]; exact HP96.2); have hp_ : Kd.R Kd.bool 4 w97 w.heap.size (fun _ => True) (.slice (some ⟨go93, 0, none⟩) x13_4.length co93) y135 := (by rw [hw, Ny135.out]; exact HP96.1); clear HP96; have n0_ := Aside0.mk (Kd.R_over' (v := (.slice (some ⟨go93, 0, none⟩) x13_4.length co93)) (by (with_reducible repeat (first | apply Kd.R_alloc | apply Kd.R_drewN | apply Kd.R_drew)); exact HO_10.out) (Kd.R_typed HO_13.out) (by decide) hg); have n1_ := Aside0.mk (Kd.R_over' (v := (.slice (some ⟨go93, 0, none⟩) x13_4.length co93)) (by (with_reducible repeat (first | apply Kd.R_alloc | apply Kd.R_drewN | apply Kd.R_drew)); exact HO_11.out) (Kd.R_typed HO_13.out) (by decide) hg); have n2_ := Aside0.mk (Kd.R_over' (v := (.slice (some ⟨go93, 0, none⟩) x13_4.length co93)) (by (with_reducible repeat (first | apply Kd.R_alloc | apply Kd.R_drewN | apply Kd.R_drew)); exact HO_12.out) (Kd.R_typed HO_13.out) (by decide) hg); have n3_ := Aside0.mk (hp_); have n4_ := Aside0.mk (blk_grown (g := gb104) (o := .cells #[.int .i64 a0_0, .int .i64 a0_1, .int .i64 a0_2, .int .i64 a0_3, .int .i64 a0_4, .int .i64 a0_5, .int .i64 a0_6, .int .i64 a0_7, .int .i64 a0_8, .int .i64 a0_9] 23 (0, 0)) (by (with_reducible repeat (first | refine blk_drewN ?_ _ | refine blk_drew ?_ | refine blk_alloc ?_ _)); exact BK104.out) hg (Kd.R_ne HO_13.out BK104.out (by decide))); have n5_ := Aside0.mk (blk_grown (g := gb130) (o := .cells #[.int .i64 ((rd_T42 y110 x15_4).f0), .int .i64 ((rd_T42 y110 x15_4).f1), .int .i64 ((rd_T42 y110 x15_4).f2), .int .i64 ((rd_T42 y110 x15_4).f3), .int .i64 ((rd_T42 y110 x15_4).f4)] 42 (0, 0)) (by (with_reducible repeat (first | refine blk_drewN ?_ _ | refine blk_drew ?_ | refine blk_alloc ?_ _)); exact BK130.out) hg (Kd.R_ne HO_13.out BK130.out (by decide))); have n6_ := Aside0.mk ((by rw [hw]; exact below_set (HB.out) GB93.out : Below w.heap.size w w97)); clear HO_10; clear HO_11; clear HO_12; clear HO_13; clear BK104; clear BK130; clear HB; have HO_10 := n0_; have HO_11 := n1_; have HO_12 := n2_; have HO_13 := n3_; have BK104 := n4_; have BK130 := n5_; have HB := n6_; clear n0_ n1_ n2_ n3_ n4_ n5_ n6_; clear hg hw hp_))
                             repeat (go_quiet (fail); try go_wp2)
                             go_meet
                             case rel => exact ⟨_, (x10_4), (x11_4), (x12_4), (y135), H', ⟨by have := HJ11.out; have := HJ19.out; have := HK3.out; have := HK4.out; have := HJ42.out; first | omega | exact Nat.le_refl _⟩, ⟨by (with_reducible repeat (first | apply Kd.R_alloc | apply Kd.R_drewN | apply Kd.R_drew)); exact HO_10.out⟩, ⟨by (with_reducible repeat (first | apply Kd.R_alloc | apply Kd.R_drewN | apply Kd.R_drew)); exact HO_11.out⟩, ⟨by (with_reducible repeat (first | apply Kd.R_alloc | apply Kd.R_drewN | apply Kd.R_drew)); exact HO_12.out⟩, ⟨by (with_reducible repeat (first | apply Kd.R_alloc | apply Kd.R_drewN | apply Kd.R_drew)); exact HO_13.out⟩, ⟨by (with_reducible repeat (first | refine blk_drewN ?_ _ | refine blk_drew ?_ | refine blk_alloc ?_ _)); exact BK104.out⟩, ⟨by (with_reducible repeat (first | refine blk_drewN ?_ _ | refine blk_drew ?_ | refine blk_alloc ?_ _)); exact BK130.out⟩, ⟨by repeat (first | (with_reducible first | exact HB.out | apply below_alloc | apply pw_below_drewN | apply below_drew1 | refine below_set ?_ GE104.out | refine below_set ?_ GE130.out) | exact HB.out)⟩⟩
                            ·
                             rw [if_neg c92] at H
                             exact absurd H (by simp)
                           ·
                            rw [if_neg c91] at H
                            exact absurd H (by simp)
                          ·
                           rw [if_neg c90] at H
                           have c90b0 : (((rd_T42 y110 x15_4).f0) == 2) = false := beq_eq_false_iff_ne.mpr c90
                           have c90b1 : (((rd_T42 y110 x15_4).f0) != 2) = true := bne_iff_ne.mpr c90
                           have HC98 := Aside0.mk H
                           clear H
                           go_upto_if 142 with (fail)
                           repeat (go_quiet (fail); go_upto_if 142 with (fail))
                           go_cut [142] (fun v142 wc => ∃ (kq : Nat) (x142_97 : Bool), v142 = .bool x142_97 ∧ Aside0 (millwrightlaw19_TraceBounds.j5 kq y106 y110 t105 x8_11 x10_4 x11_4 x12_4 x13_4 x15_4 ((rd_T42 y110 x15_4).f0) x142_97 a0_0 a0_1 a0_2 a0_3 a0_4 a0_5 a0_6 a0_7 a0_8 a0_9 ((rd_T42 y110 x15_4).f0) ((rd_T42 y110 x15_4).f1) ((rd_T42 y110 x15_4).f2) ((rd_T42 y110 x15_4).f3) ((rd_T42 y110 x15_4).f4) = some r) ∧ Aside0 (kq ≤ kj42) ∧ Aside0 (Kd.R (Kd.int .i64) 3 wc w.heap.size (fun k_ => some k_ ≠ (v120 : Value).ownBlock ∧ some k_ ≠ (v123 : Value).ownBlock) v117 x10_4) ∧ Aside0 (Kd.R (Kd.int .i64) 3 wc w.heap.size (fun k_ => some k_ ≠ (v117 : Value).ownBlock ∧ some k_ ≠ (v123 : Value).ownBlock) v120 x11_4) ∧ Aside0 (Kd.R (Kd.int .i64) 3 wc w.heap.size (fun k_ => some k_ ≠ (v117 : Value).ownBlock ∧ some k_ ≠ (v120 : Value).ownBlock) v123 x12_4) ∧ Aside0 (Kd.R Kd.bool 4 wc w.heap.size (fun _ => True) v126 x13_4) ∧ Aside0 (wc.heap[gb104]? = some (.cells #[.int .i64 a0_0, .int .i64 a0_1, .int .i64 a0_2, .int .i64 a0_3, .int .i64 a0_4, .int .i64 a0_5, .int .i64 a0_6, .int .i64 a0_7, .int .i64 a0_8, .int .i64 a0_9] 23 (0, 0))) ∧ Aside0 (wc.heap[gb130]? = some (.cells #[.int .i64 ((rd_T42 y110 x15_4).f0), .int .i64 ((rd_T42 y110 x15_4).f1), .int .i64 ((rd_T42 y110 x15_4).f2), .int .i64 ((rd_T42 y110 x15_4).f3), .int .i64 ((rd_T42 y110 x15_4).f4)] 42 (0, 0))) ∧ Aside0 (Below w.heap.size w wc))
                           case first => as_aux_lemma =>
                            have H := HC98.out
                            clear HC98
                            by_cases c99 : ((rd_T42 y110 x15_4).f0) = 3
                            ·
                             rw [if_pos c99] at H
                             have c99b0 : (((rd_T42 y110 x15_4).f0) == 3) = true := beq_iff_eq.mpr c99
                             have c99b1 : (((rd_T42 y110 x15_4).f0) != 3) = false := bne_eq_false_iff_eq.mpr c99
                             clear c99
                             (first | rw [c99b0] | (simp only [i64_w, i32_w]; rw [c99b0]) | skip)
                             have H' := Aside0.mk H
                             clear H
                             go_wp2
                             repeat (go_quiet (fail); try go_wp2)
                             go_meet
                             case rel => exact ⟨_, ((((rd_T42 y110 x15_4).f0) == 3)), (by first | rfl | (simp; done) | (simp [*]; done)), H', ⟨by have := HJ11.out; have := HJ19.out; have := HK3.out; have := HK4.out; have := HJ42.out; first | omega | exact Nat.le_refl _⟩, ⟨by (with_reducible repeat (first | apply Kd.R_alloc | apply Kd.R_drewN | apply Kd.R_drew)); exact HO_10.out⟩, ⟨by (with_reducible repeat (first | apply Kd.R_alloc | apply Kd.R_drewN | apply Kd.R_drew)); exact HO_11.out⟩, ⟨by (with_reducible repeat (first | apply Kd.R_alloc | apply Kd.R_drewN | apply Kd.R_drew)); exact HO_12.out⟩, ⟨by (with_reducible repeat (first | apply Kd.R_alloc | apply Kd.R_drewN | apply Kd.R_drew)); exact HO_13.out⟩, ⟨by (with_reducible repeat (first | refine blk_drewN ?_ _ | refine blk_drew ?_ | refine blk_alloc ?_ _)); exact BK104.out⟩, ⟨by (with_reducible repeat (first | refine blk_drewN ?_ _ | refine blk_drew ?_ | refine blk_alloc ?_ _)); exact BK130.out⟩, ⟨by repeat (first | (with_reducible first | exact HB.out | apply below_alloc | apply pw_below_drewN | apply below_drew1 | refine below_set ?_ GE104.out | refine below_set ?_ GE130.out) | exact HB.out)⟩⟩
                            ·
                             rw [if_neg c99] at H
                             have c99b0 : (((rd_T42 y110 x15_4).f0) == 3) = false := beq_eq_false_iff_ne.mpr c99
                             have c99b1 : (((rd_T42 y110 x15_4).f0) != 3) = true := bne_iff_ne.mpr c99
                             (first | rw [c99b0] | (simp only [i64_w, i32_w]; rw [c99b0]) | skip)
                             have H' := Aside0.mk H
                             clear H
                             go_wp2
                             repeat (go_quiet (fail); try go_wp2)
                             go_meet
                             case rel => exact ⟨_, ((((rd_T42 y110 x15_4).f0) == 5)), (by first | rfl | (simp; done) | (simp [*]; done)), H', ⟨by have := HJ11.out; have := HJ19.out; have := HK3.out; have := HK4.out; have := HJ42.out; first | omega | exact Nat.le_refl _⟩, ⟨by (with_reducible repeat (first | apply Kd.R_alloc | apply Kd.R_drewN | apply Kd.R_drew)); exact HO_10.out⟩, ⟨by (with_reducible repeat (first | apply Kd.R_alloc | apply Kd.R_drewN | apply Kd.R_drew)); exact HO_11.out⟩, ⟨by (with_reducible repeat (first | apply Kd.R_alloc | apply Kd.R_drewN | apply Kd.R_drew)); exact HO_12.out⟩, ⟨by (with_reducible repeat (first | apply Kd.R_alloc | apply Kd.R_drewN | apply Kd.R_drew)); exact HO_13.out⟩, ⟨by (with_reducible repeat (first | refine blk_drewN ?_ _ | refine blk_drew ?_ | refine blk_alloc ?_ _)); exact BK104.out⟩, ⟨by (with_reducible repeat (first | refine blk_drewN ?_ _ | refine blk_drew ?_ | refine blk_alloc ?_ _)); exact BK130.out⟩, ⟨by repeat (first | (with_reducible first | exact HB.out | apply below_alloc | apply pw_below_drewN | apply below_drew1 | refine below_set ?_ GE104.out | refine below_set ?_ GE130.out) | exact HB.out)⟩⟩
                           case rest => as_aux_lemma =>
                            clear HC98
                            (try clear c1); (try clear p1); (try clear q1); (try clear hx1); (try clear c2); (try clear p2); (try clear c3); (try clear p3); (try clear q3); (try clear hx3); (try clear hf3); (try clear c4); (try clear c5); (try clear c6); (try clear c6b0); (try clear c6b1); (try clear p6); (try clear q6); (try clear c7); (try clear c7b0); (try clear c7b1); (try clear c8); (try clear p8); (try clear q8); (try clear hx8); (try clear hf8); (try clear c9); (try clear c9b0); (try clear c9b1); (try clear p9); (try clear q9); (try clear hx9); (try clear hf9); (try clear c10); (try clear c10b0); (try clear c10b1); (try clear p12); (try clear q12); (try clear hx12); (try clear p13); (try clear q13); (try clear hx13); (try clear q15); (try clear q16); (try clear c19); (try clear c19b0); (try clear c19b1); (try clear c21); (try clear c21b0); (try clear c22); (try clear c23); (try clear c23b0); (try clear c23b1); (try clear c24); (try clear c24b0); (try clear c24b1); (try clear c25); (try clear c25b0); (try clear c25b1); (try clear c34); (try clear c34b0); (try clear c35); (try clear c35b0); (try clear c36); (try clear c36b0); (try clear p37); (try clear q37); (try clear hx37); (try clear hf37); (try clear c40); (try clear c40b0); (try clear c41); (try clear c41b0); (try clear c42); (try clear c42b0); (try clear c45); (try clear c47); (try clear c47b0); (try clear c48); (try clear c50); (try clear c50b0); (try clear c51); (try clear c53); (try clear c53b0); (try clear c54); (try clear c54b0); (try clear c55); (try clear c55b0); (try clear c55b1); (try clear c55b2); (try clear c56); (try clear c59); (try clear c59b0); (try clear q60); (try clear c61); (try clear c62); (try clear p64); (try clear c66); (try clear c66b0); (try clear c68); (try clear c68b0); (try clear c69); (try clear c69b0); (try clear c70); (try clear c74); (try clear c78); (try clear c80); (try clear c82); (try clear c82b0); (try clear c82b1); (try clear c83); (try clear c83b0); (try clear c84); (try clear c84b0); (try clear p85); (try clear q85); (try clear hx85); (try clear hf85); (try clear c86); (try clear c90); (try clear c90b0); (try clear c90b1); (try clear c91); (try clear c91b0); (try clear c92); (try clear c92b0); (try clear p93); (try clear q93); (try clear hx93); (try clear hf93); (try clear c94); (try clear c99); (try clear c99b0); (try clear c99b1); (try clear hcz17_0); (try clear hcz17_1); (try clear hcz17_2); (try clear hcz17_3); (try clear hcz17_4); (try clear hcz17_5); (try clear hcz17_6); (try clear hcz17_7); (try clear hcz17_8); (try clear hcz17_9); (try clear hcz46_0); (try clear hcz46_1); (try clear hcz46_2); (try clear hcz46_3); (try clear hcz46_4); (try clear hcz49_0); (try clear hcz49_1); (try clear hcz49_2); (try clear hcz49_3); (try clear hcz49_4); (try clear hcz52_0); (try clear hcz52_1); (try clear hcz52_2); (try clear hcz52_3); (try clear hcz52_4); (try clear hcz57_0); (try clear hcz57_1); (try clear hcz57_2); (try clear hcz57_3); (try clear hcz57_4); (try clear hcz63_0); (try clear hcz63_1); (try clear hcz63_2); (try clear hcz63_3); (try clear hcz63_4); (try clear hcz71_0); (try clear hcz71_1); (try clear hcz71_2); (try clear hcz71_3); (try clear hcz71_4); (try clear hcz75_0); (try clear hcz75_1); (try clear hcz75_2); (try clear hcz75_3); (try clear hcz75_4); (try clear hcz81_0); (try clear hcz81_1); (try clear hcz81_2); (try clear hcz81_3); (try clear hcz81_4); (try clear hcz87_0); (try clear hcz87_1); (try clear hcz87_2); (try clear hcz87_3); (try clear hcz87_4); (try clear hcz95_0); (try clear hcz95_1); (try clear hcz95_2); (try clear hcz95_3); (try clear hcz95_4); (try clear hfz17_0); (try clear hfz17_1); (try clear hfz17_2); (try clear hfz17_3); (try clear hfz17_4); (try clear hfz17_5); (try clear hfz17_6); (try clear hfz17_7); (try clear hfz17_8); (try clear hfz17_9); (try clear hfz46_0); (try clear hfz46_1); (try clear hfz46_2); (try clear hfz46_3); (try clear hfz46_4); (try clear hfz49_0); (try clear hfz49_1); (try clear hfz49_2); (try clear hfz49_3); (try clear hfz49_4); (try clear hfz52_0); (try clear hfz52_1); (try clear hfz52_2); (try clear hfz52_3); (try clear hfz52_4); (try clear hfz57_0); (try clear hfz57_1); (try clear hfz57_2); (try clear hfz57_3); (try clear hfz57_4); (try clear hfz63_0); (try clear hfz63_1); (try clear hfz63_2); (try clear hfz63_3); (try clear hfz63_4); (try clear hfz71_0); (try clear hfz71_1); (try clear hfz71_2); (try clear hfz71_3); (try clear hfz71_4); (try clear hfz75_0); (try clear hfz75_1); (try clear hfz75_2); (try clear hfz75_3); (try clear hfz75_4); (try clear hfz81_0); (try clear hfz81_1); (try clear hfz81_2); (try clear hfz81_3); (try clear hfz81_4); (try clear hfz87_0); (try clear hfz87_1); (try clear hfz87_2); (try clear hfz87_3); (try clear hfz87_4); (try clear hfz95_0); (try clear hfz95_1); (try clear hfz95_2); (try clear hfz95_3); (try clear hfz95_4); (try clear hx129_0); (try clear hx129_1); (try clear hx129_2); (try clear hx129_3); (try clear hx129_4); (try clear hx131_0); (try clear hx132_0); (try clear hx133_0); (try clear hx133_1); (try clear hx133_2); (try clear hx133_3); (try clear hx133_4); (try clear hx37_0); (try clear hx85_0); (try clear hx93_0); (try clear p1); (try clear p12); (try clear p129); (try clear p13); (try clear p131); (try clear p132); (try clear p133); (try clear p2); (try clear p3); (try clear p37); (try clear p6); (try clear p64); (try clear p85); (try clear p93); (try clear q1); (try clear q12); (try clear q129); (try clear q13); (try clear q131); (try clear q132); (try clear q133); (try clear q15); (try clear q16); (try clear q3); (try clear q37); (try clear q6); (try clear q60); (try clear q85); (try clear q93)
                            obtain ⟨kq, x142_97, rfl, HA, HJ97, HO_10, HO_11, HO_12, HO_13, BK104, BK130, HB⟩ := hcut
                            cases kq with
                            | zero => exact absurd HA.out (by simp [millwrightlaw19_TraceBounds.j5])
                            | succ kj97 =>
                             have H := HA.out
                             clear HA
                             simp only [millwrightlaw19_TraceBounds.j5] at H
                             by_cases c100 : x142_97 = true
                             ·
                              subst c100
                              have H1 : (if 0 ≤ ((rd_T42 y110 x15_4).f1) then (if ((rd_T42 y110 x15_4).f1) < (x11_4.length : Int) then (millwrightlaw19_TraceBounds.j6 kj97 y106 y110 t105 x8_11 x10_4 (x11_4.set (((rd_T42 y110 x15_4).f1) : Int).toNat (wrap64 ((rd x11_4 ((rd_T42 y110 x15_4).f1)) + 1))) x12_4 x13_4 x15_4 a0_0 a0_1 a0_2 a0_3 a0_4 a0_5 a0_6 a0_7 a0_8 a0_9 ((rd_T42 y110 x15_4).f0) ((rd_T42 y110 x15_4).f1) ((rd_T42 y110 x15_4).f2) ((rd_T42 y110 x15_4).f3) ((rd_T42 y110 x15_4).f4)) else (none)) else (none)) = some r := by rw [if_pos rfl] at H; exact H
                              clear H
                              have H := H1
                              clear H1
                              by_cases c101 : 0 ≤ ((rd_T42 y110 x15_4).f1)
                              ·
                               rw [if_pos c101] at H
                               have c101b0 : decide (0 ≤ ((rd_T42 y110 x15_4).f1)) = true := decide_eq_true c101
                               clear c101
                               by_cases c102 : ((rd_T42 y110 x15_4).f1) < (x11_4.length : Int)
                               ·
                                rw [if_pos c102] at H
                                have c102b0 : decide (((rd_T42 y110 x15_4).f1) < (x11_4.length : Int)) = true := decide_eq_true c102
                                clear c102
                                obtain ⟨y137, hy137⟩ : ∃ y_ : List Int, y_ = (x11_4.set (((rd_T42 y110 x15_4).f1) : Int).toNat (wrap64 ((rd x11_4 ((rd_T42 y110 x15_4).f1)) + 1))) := ⟨_, rfl⟩
                                replace H : (millwrightlaw19_TraceBounds.j6 kj97 y106 y110 t105 x8_11 x10_4 y137 x12_4 x13_4 x15_4 a0_0 a0_1 a0_2 a0_3 a0_4 a0_5 a0_6 a0_7 a0_8 a0_9 ((rd_T42 y110 x15_4).f0) ((rd_T42 y110 x15_4).f1) ((rd_T42 y110 x15_4).f2) ((rd_T42 y110 x15_4).f3) ((rd_T42 y110 x15_4).f4)) = some r := by first | (rw [hy137]; with_reducible exact H) | (have H2_ := (Option.bind_some _ _).symm.trans H; rw [hy137]; with_reducible exact H2_) | (have H2_ := (Option.bind_some _ _).symm.trans H; with_reducible exact H2_) | with_reducible exact H | (rw [hy137]; exact H) | exact H
                                have Ny137 := Aside0.mk hy137
                                clear hy137
                                have H' := Aside0.mk H
                                clear H
                                have hnb104 := NB130_104.out
                                have hnc104 := NB104_130.out
                                have hcz105_0 : wc.cell? ⟨gb130, 0, none⟩ = some (.int .i64 ((rd_T42 y110 x15_4).f0)) := (blk_cell BK130.out 0).trans rfl
                                have hcz105_1 : wc.cell? ⟨gb130, 1, none⟩ = some (.int .i64 ((rd_T42 y110 x15_4).f1)) := (blk_cell BK130.out 1).trans rfl
                                have hcz105_2 : wc.cell? ⟨gb130, 2, none⟩ = some (.int .i64 ((rd_T42 y110 x15_4).f2)) := (blk_cell BK130.out 2).trans rfl
                                have hcz105_3 : wc.cell? ⟨gb130, 3, none⟩ = some (.int .i64 ((rd_T42 y110 x15_4).f3)) := (blk_cell BK130.out 3).trans rfl
                                have hcz105_4 : wc.cell? ⟨gb130, 4, none⟩ = some (.int .i64 ((rd_T42 y110 x15_4).f4)) := (blk_cell BK130.out 4).trans rfl
                                have hfz105_0 := blk_frozen BK130.out 0
                                have hfz105_1 := blk_frozen BK130.out 1
                                have hfz105_2 := blk_frozen BK130.out 2
                                have hfz105_3 := blk_frozen BK130.out 3
                                have hfz105_4 := blk_frozen BK130.out 4
                                obtain ⟨Ao106, co106, eo106⟩ := Kd.R_slice HO_11.out
                                subst eo106
                                have p136 : 0 ≤ (((rd_T42 y110 x15_4).f1) : Int) := of_decide_eq_true (by first | (with_reducible assumption) | assumption)
                                have q136 : ((rd_T42 y110 x15_4).f1) < (x11_4.length : Int) := of_decide_eq_true (by first | (with_reducible assumption) | assumption)
                                obtain ⟨ad136, e136, hx136_0⟩ := Kd.at_int (Kd.R_reads' HO_11.out).2.2 ((rd_T42 y110 x15_4).f1) p136 q136
                                cases e136
                                replace p136 := eq_true p136
                                replace q136 := eq_true q136
                                have p103 : 0 ≤ (((rd_T42 y110 x15_4).f1) : Int) := of_decide_eq_true (by first | (with_reducible assumption) | assumption)
                                have q103 : (((rd_T42 y110 x15_4).f1) : Int) < ((x11_4.length : Int) : Int) := of_decide_eq_true (by first | (with_reducible assumption) | assumption)
                                obtain ⟨go103, co103, eo103, gb103, gl103, cl103, HG103⟩ := Kd.R_form HO_11.out (by omega)
                                (first | cases eo103 | (injection eo103 with ea_ en_ ec_; (first | subst ea_ | (injection ea_ with ea_; subst ea_)); subst ec_; clear en_))
                                have GB103 := Aside0.mk gb103
                                have GG103 := Aside0.mk HG103
                                clear gb103 gl103 HG103
                                (first | simp only [add_plain] at hx136_0 | skip)
                                obtain ⟨hx103_0, hf103_0⟩ := Kd.R_celln 0 HO_11.out (((rd_T42 y110 x15_4).f1) : Int) p103 q103
                                replace p103 := eq_true p103
                                replace q103 := eq_true q103
                                have HP107 := Kd.R_putg HO_11.out (((rd_T42 y110 x15_4).f1) : Int) (wrap64 ((rd x11_4 ((rd_T42 y110 x15_4).f1)) + 1))
                                go_wp2_with (first | ((with_reducible refine gate_store (t := 3) (p := 151) rfl ?_); (try (rw [drewN_self wc]; generalize hq_ : World.drewN wc _ = wc; have n0_ := Aside0.mk (Kd.R_at hq_ HO_10.out); have n1_ := Aside0.mk (Kd.R_at hq_ HO_11.out); have n2_ := Aside0.mk (Kd.R_at hq_ HO_12.out); have n3_ := Aside0.mk (Kd.R_at hq_ HO_13.out); have n4_ := Aside0.mk (blk_at hq_ BK104.out); have n5_ := Aside0.mk (blk_at hq_ BK130.out); have n6_ := Aside0.mk (below_at hq_ HB.out); clear hq_ HO_10 HO_11 HO_12 HO_13 BK104 BK130 HB; have HO_10 := n0_; have HO_11 := n1_; have HO_12 := n2_; have HO_13 := n3_; have BK104 := n4_; have BK130 := n5_; have HB := n6_; clear n0_ n1_ n2_ n3_ n4_ n5_ n6_; (try (have HP107 := Kd.R_putg HO_11.out (((rd_T42 y110 x15_4).f1) : Int) (wrap64 ((rd x11_4 ((rd_T42 y110 x15_4).f1)) + 1)))))); refine store_event (t := 3) (p := 151) (v := ?vo_w108) (w1 := (wc.setCell ⟨go103, (((rd_T42 y110 x15_4).f1) : Int).toNat, none⟩ (.int .i64 (wrap64 ((rd x11_4 ((rd_T42 y110 x15_4).f1)) + 1))))) ?hg ?ho ?hn ?hr ?_; (case ho => rfl); (case hg => rfl); (case hn => rfl); (case hr => first | (go_simp; done) | (go_simp; rfl)); intro w108 hw; have hg : wc.grownBy w108 (some go103) := (by rw [hw]; exact HP107.2); have hp_ : Kd.R (Kd.int .i64) 3 w108 w.heap.size (fun k_ => some k_ ≠ (v117 : Value).ownBlock ∧ some k_ ≠ (v123 : Value).ownBlock) (.slice (some ⟨go103, 0, none⟩) x11_4.length co106) y137 := (by rw [hw, Ny137.out]; exact HP107.1); clear HP107; have n0_ := Aside0.mk (Kd.R_after (v := (.slice (some ⟨go103, 0, none⟩) x11_4.length co106)) (v1 := (.slice (some ⟨go103, 0, none⟩) x11_4.length co106)) (ok := (fun k_ => some k_ ≠ (v123 : Value).ownBlock)) (by (with_reducible repeat (first | apply Kd.R_alloc | apply Kd.R_drewN | apply Kd.R_drew)); exact Kd.R_mono HO_10.out (fun _ hk => ⟨hk.2, hk.1⟩)) hg (.inl rfl)); have n1_ := Aside0.mk (hp_); have n2_ := Aside0.mk (Kd.R_after (v := (.slice (some ⟨go103, 0, none⟩) x11_4.length co106)) (v1 := (.slice (some ⟨go103, 0, none⟩) x11_4.length co106)) (ok := (fun k_ => some k_ ≠ (v117 : Value).ownBlock)) (by (with_reducible repeat (first | apply Kd.R_alloc | apply Kd.R_drewN | apply Kd.R_drew)); exact HO_12.out) hg (.inl rfl)); have n3_ := Aside0.mk (Kd.R_over' (v := (.slice (some ⟨go103, 0, none⟩) x11_4.length co106)) (by (with_reducible repeat (first | apply Kd.R_alloc | apply Kd.R_drewN | apply Kd.R_drew)); exact HO_13.out) (Kd.R_typed HO_11.out) (by decide) hg); have n4_ := Aside0.mk (blk_grown (g := gb104) (o := .cells #[.int .i64 a0_0, .int .i64 a0_1, .int .i64 a0_2, .int .i64 a0_3, .int .i64 a0_4, .int .i64 a0_5, .int .i64 a0_6, .int .i64 a0_7, .int .i64 a0_8, .int .i64 a0_9] 23 (0, 0)) (by (with_reducible repeat (first | refine blk_drewN ?_ _ | refine blk_drew ?_ | refine blk_alloc ?_ _)); exact BK104.out) hg (Kd.R_ne HO_11.out BK104.out (by decide))); have n5_ := Aside0.mk (blk_grown (g := gb130) (o := .cells #[.int .i64 ((rd_T42 y110 x15_4).f0), .int .i64 ((rd_T42 y110 x15_4).f1), .int .i64 ((rd_T42 y110 x15_4).f2), .int .i64 ((rd_T42 y110 x15_4).f3), .int .i64 ((rd_T42 y110 x15_4).f4)] 42 (0, 0)) (by (with_reducible repeat (first | refine blk_drewN ?_ _ | refine blk_drew ?_ | refine blk_alloc ?_ _)); exact BK130.out) hg (Kd.R_ne HO_11.out BK130.out (by decide))); have n6_ := Aside0.mk ((by rw [hw]; exact below_set (HB.out) GB103.out : Below w.heap.size w w108)); clear HO_10; clear HO_11; clear HO_12; clear HO_13; clear BK104; clear BK130; clear HB; have HO_10 := n0_; have HO_11 := n1_; have HO_12 := n2_; have HO_13 := n3_; have BK104 := n4_; have BK130 := n5_; have HB := n6_; clear n0_ n1_ n2_ n3_ n4_ n5_ n6_; clear hg hw hp_))
                                repeat (go_quiet (fail); try go_wp2)
                                go_meet
                                case rel => exact ⟨_, (x10_4), (y137), (x12_4), (x13_4), H', ⟨by have := HJ11.out; have := HJ19.out; have := HK3.out; have := HK4.out; have := HJ42.out; have := HJ97.out; first | omega | exact Nat.le_refl _⟩, ⟨by (with_reducible repeat (first | apply Kd.R_alloc | apply Kd.R_drewN | apply Kd.R_drew)); exact Kd.R_mono HO_10.out (fun _ hk => ⟨hk.2, hk.1⟩)⟩, ⟨by (with_reducible repeat (first | apply Kd.R_alloc | apply Kd.R_drewN | apply Kd.R_drew)); exact HO_11.out⟩, ⟨by (with_reducible repeat (first | apply Kd.R_alloc | apply Kd.R_drewN | apply Kd.R_drew)); exact HO_12.out⟩, ⟨by (with_reducible repeat (first | apply Kd.R_alloc | apply Kd.R_drewN | apply Kd.R_drew)); exact HO_13.out⟩, ⟨by (with_reducible repeat (first | refine blk_drewN ?_ _ | refine blk_drew ?_ | refine blk_alloc ?_ _)); exact BK104.out⟩, ⟨by (with_reducible repeat (first | refine blk_drewN ?_ _ | refine blk_drew ?_ | refine blk_alloc ?_ _)); exact BK130.out⟩, ⟨by repeat (first | (with_reducible first | exact HB.out | apply below_alloc | apply pw_below_drewN | apply below_drew1 | refine below_set ?_ GE104.out | refine below_set ?_ GE130.out) | exact HB.out)⟩⟩
                               ·
                                rw [if_neg c102] at H
                                exact absurd H (by simp)
                              ·
                               rw [if_neg c101] at H
                               exact absurd H (by simp)
                             ·
                              replace c100 := Bool.eq_false_iff.mpr c100
                              subst c100
                              have H1 : (if ((rd_T42 y110 x15_4).f0) = 6 then (if 0 ≤ ((rd_T42 y110 x15_4).f1) then (if ((rd_T42 y110 x15_4).f1) < (x12_4.length : Int) then (millwrightlaw19_TraceBounds.j6 kj97 y106 y110 t105 x8_11 x10_4 x11_4 (x12_4.set (((rd_T42 y110 x15_4).f1) : Int).toNat (wrap64 ((rd x12_4 ((rd_T42 y110 x15_4).f1)) + 1))) x13_4 x15_4 a0_0 a0_1 a0_2 a0_3 a0_4 a0_5 a0_6 a0_7 a0_8 a0_9 ((rd_T42 y110 x15_4).f0) ((rd_T42 y110 x15_4).f1) ((rd_T42 y110 x15_4).f2) ((rd_T42 y110 x15_4).f3) ((rd_T42 y110 x15_4).f4)) else (none)) else (none)) else (millwrightlaw19_TraceBounds.j6 kj97 y106 y110 t105 x8_11 x10_4 x11_4 x12_4 x13_4 x15_4 a0_0 a0_1 a0_2 a0_3 a0_4 a0_5 a0_6 a0_7 a0_8 a0_9 ((rd_T42 y110 x15_4).f0) ((rd_T42 y110 x15_4).f1) ((rd_T42 y110 x15_4).f2) ((rd_T42 y110 x15_4).f3) ((rd_T42 y110 x15_4).f4))) = some r := by rw [if_neg (show ¬ (false = true) by decide)] at H; exact H
                              clear H
                              have H := H1
                              clear H1
                              by_cases c109 : ((rd_T42 y110 x15_4).f0) = 6
                              ·
                               rw [if_pos c109] at H
                               have c109b0 : (((rd_T42 y110 x15_4).f0) == 6) = true := beq_iff_eq.mpr c109
                               have c109b1 : (((rd_T42 y110 x15_4).f0) != 6) = false := bne_eq_false_iff_eq.mpr c109
                               clear c109
                               by_cases c110 : 0 ≤ ((rd_T42 y110 x15_4).f1)
                               ·
                                rw [if_pos c110] at H
                                have c110b0 : decide (0 ≤ ((rd_T42 y110 x15_4).f1)) = true := decide_eq_true c110
                                clear c110
                                by_cases c111 : ((rd_T42 y110 x15_4).f1) < (x12_4.length : Int)
                                ·
                                 rw [if_pos c111] at H
                                 have c111b0 : decide (((rd_T42 y110 x15_4).f1) < (x12_4.length : Int)) = true := decide_eq_true c111
                                 clear c111
                                 obtain ⟨y139, hy139⟩ : ∃ y_ : List Int, y_ = (x12_4.set (((rd_T42 y110 x15_4).f1) : Int).toNat (wrap64 ((rd x12_4 ((rd_T42 y110 x15_4).f1)) + 1))) := ⟨_, rfl⟩
                                 replace H : (millwrightlaw19_TraceBounds.j6 kj97 y106 y110 t105 x8_11 x10_4 x11_4 y139 x13_4 x15_4 a0_0 a0_1 a0_2 a0_3 a0_4 a0_5 a0_6 a0_7 a0_8 a0_9 ((rd_T42 y110 x15_4).f0) ((rd_T42 y110 x15_4).f1) ((rd_T42 y110 x15_4).f2) ((rd_T42 y110 x15_4).f3) ((rd_T42 y110 x15_4).f4)) = some r := by first | (rw [hy139]; with_reducible exact H) | (have H2_ := (Option.bind_some _ _).symm.trans H; rw [hy139]; with_reducible exact H2_) | (have H2_ := (Option.bind_some _ _).symm.trans H; with_reducible exact H2_) | with_reducible exact H | (rw [hy139]; exact H) | exact H
                                 have Ny139 := Aside0.mk hy139
                                 clear hy139
                                 have H' := Aside0.mk H
                                 clear H
                                 have hnb113 := NB130_104.out
                                 have hnc113 := NB104_130.out
                                 have hcz114_0 : wc.cell? ⟨gb130, 0, none⟩ = some (.int .i64 ((rd_T42 y110 x15_4).f0)) := (blk_cell BK130.out 0).trans rfl
                                 have hcz114_1 : wc.cell? ⟨gb130, 1, none⟩ = some (.int .i64 ((rd_T42 y110 x15_4).f1)) := (blk_cell BK130.out 1).trans rfl
                                 have hcz114_2 : wc.cell? ⟨gb130, 2, none⟩ = some (.int .i64 ((rd_T42 y110 x15_4).f2)) := (blk_cell BK130.out 2).trans rfl
                                 have hcz114_3 : wc.cell? ⟨gb130, 3, none⟩ = some (.int .i64 ((rd_T42 y110 x15_4).f3)) := (blk_cell BK130.out 3).trans rfl
                                 have hcz114_4 : wc.cell? ⟨gb130, 4, none⟩ = some (.int .i64 ((rd_T42 y110 x15_4).f4)) := (blk_cell BK130.out 4).trans rfl
                                 have hfz114_0 := blk_frozen BK130.out 0
                                 have hfz114_1 := blk_frozen BK130.out 1
                                 have hfz114_2 := blk_frozen BK130.out 2
                                 have hfz114_3 := blk_frozen BK130.out 3
                                 have hfz114_4 := blk_frozen BK130.out 4
                                 obtain ⟨Ao115, co115, eo115⟩ := Kd.R_slice HO_12.out
                                 subst eo115
                                 have p138 : 0 ≤ (((rd_T42 y110 x15_4).f1) : Int) := of_decide_eq_true (by first | (with_reducible assumption) | assumption)
                                 have q138 : ((rd_T42 y110 x15_4).f1) < (x12_4.length : Int) := of_decide_eq_true (by first | (with_reducible assumption) | assumption)
                                 obtain ⟨ad138, e138, hx138_0⟩ := Kd.at_int (Kd.R_reads' HO_12.out).2.2 ((rd_T42 y110 x15_4).f1) p138 q138
                                 cases e138
                                 replace p138 := eq_true p138
                                 replace q138 := eq_true q138
                                 have p112 : 0 ≤ (((rd_T42 y110 x15_4).f1) : Int) := of_decide_eq_true (by first | (with_reducible assumption) | assumption)
                                 have q112 : (((rd_T42 y110 x15_4).f1) : Int) < ((x12_4.length : Int) : Int) := of_decide_eq_true (by first | (with_reducible assumption) | assumption)
                                 obtain ⟨go112, co112, eo112, gb112, gl112, cl112, HG112⟩ := Kd.R_form HO_12.out (by omega)
                                 (first | cases eo112 | (injection eo112 with ea_ en_ ec_; (first | subst ea_ | (injection ea_ with ea_; subst ea_)); subst ec_; clear en_))
                                 have GB112 := Aside0.mk gb112
                                 have GG112 := Aside0.mk HG112
                                 clear gb112 gl112 HG112
                                 (first | simp only [add_plain] at hx138_0 | skip)
                                 obtain ⟨hx112_0, hf112_0⟩ := Kd.R_celln 0 HO_12.out (((rd_T42 y110 x15_4).f1) : Int) p112 q112
                                 replace p112 := eq_true p112
                                 replace q112 := eq_true q112
                                 have HP116 := Kd.R_putg HO_12.out (((rd_T42 y110 x15_4).f1) : Int) (wrap64 ((rd x12_4 ((rd_T42 y110 x15_4).f1)) + 1))
                                 go_wp2_with (first | ((with_reducible refine gate_store (t := 3) (p := 160) rfl ?_); (try (rw [drewN_self wc]; generalize hq_ : World.drewN wc _ = wc; have n0_ := Aside0.mk (Kd.R_at hq_ HO_10.out); have n1_ := Aside0.mk (Kd.R_at hq_ HO_11.out); have n2_ := Aside0.mk (Kd.R_at hq_ HO_12.out); have n3_ := Aside0.mk (Kd.R_at hq_ HO_13.out); have n4_ := Aside0.mk (blk_at hq_ BK104.out); have n5_ := Aside0.mk (blk_at hq_ BK130.out); have n6_ := Aside0.mk (below_at hq_ HB.out); clear hq_ HO_10 HO_11 HO_12 HO_13 BK104 BK130 HB; have HO_10 := n0_; have HO_11 := n1_; have HO_12 := n2_; have HO_13 := n3_; have BK104 := n4_; have BK130 := n5_; have HB := n6_; clear n0_ n1_ n2_ n3_ n4_ n5_ n6_; (try (have HP116 := Kd.R_putg HO_12.out (((rd_T42 y110 x15_4).f1) : Int) (wrap64 ((rd x12_4 ((rd_T42 y110 x15_4).f1)) + 1)))))); refine store_event (t := 3) (p := 160) (v := ?vo_w117) (w1 := (wc.setCell ⟨go112, (((rd_T42 y110 x15_4).f1) : Int).toNat, none⟩ (.int .i64 (wrap64 ((rd x12_4 ((rd_T42 y110 x15_4).f1)) + 1))))) ?hg ?ho ?hn ?hr ?_; (case ho => rfl); (case hg => rfl); (case hn => rfl); (case hr => first | (go_simp; done) | (go_simp; rfl)); intro w117 hw; have hg : wc.grownBy w117 (some go112) := (by rw [hw]; exact HP116.2); have hp_ : Kd.R (Kd.int .i64) 3 w117 w.heap.size (fun k_ => some k_ ≠ (v117 : Value).ownBlock ∧ some k_ ≠ (v120 : Value).ownBlock) (.slice (some ⟨go112, 0, none⟩) x12_4.length co115) y139 := (by rw [hw, Ny139.out]; exact HP116.1); clear HP116; have n0_ := Aside0.mk (Kd.R_after (v := (.slice (some ⟨go112, 0, none⟩) x12_4.length co115)) (v1 := (.slice (some ⟨go112, 0, none⟩) x12_4.length co115)) (ok := (fun k_ => some k_ ≠ (v120 : Value).ownBlock)) (by (with_reducible repeat (first | apply Kd.R_alloc | apply Kd.R_drewN | apply Kd.R_drew)); exact HO_10.out) hg (.inl rfl)); have n1_ := Aside0.mk (Kd.R_after (v := (.slice (some ⟨go112, 0, none⟩) x12_4.length co115)) (v1 := (.slice (some ⟨go112, 0, none⟩) x12_4.length co115)) (ok := (fun k_ => some k_ ≠ (v117 : Value).ownBlock)) (by (with_reducible repeat (first | apply Kd.R_alloc | apply Kd.R_drewN | apply Kd.R_drew)); exact HO_11.out) hg (.inl rfl)); have n2_ := Aside0.mk (hp_); have n3_ := Aside0.mk (Kd.R_over' (v := (.slice (some ⟨go112, 0, none⟩) x12_4.length co115)) (by (with_reducible repeat (first | apply Kd.R_alloc | apply Kd.R_drewN | apply Kd.R_drew)); exact HO_13.out) (Kd.R_typed HO_12.out) (by decide) hg); have n4_ := Aside0.mk (blk_grown (g := gb104) (o := .cells #[.int .i64 a0_0, .int .i64 a0_1, .int .i64 a0_2, .int .i64 a0_3, .int .i64 a0_4, .int .i64 a0_5, .int .i64 a0_6, .int .i64 a0_7, .int .i64 a0_8, .int .i64 a0_9] 23 (0, 0)) (by (with_reducible repeat (first | refine blk_drewN ?_ _ | refine blk_drew ?_ | refine blk_alloc ?_ _)); exact BK104.out) hg (Kd.R_ne HO_12.out BK104.out (by decide))); have n5_ := Aside0.mk (blk_grown (g := gb130) (o := .cells #[.int .i64 ((rd_T42 y110 x15_4).f0), .int .i64 ((rd_T42 y110 x15_4).f1), .int .i64 ((rd_T42 y110 x15_4).f2), .int .i64 ((rd_T42 y110 x15_4).f3), .int .i64 ((rd_T42 y110 x15_4).f4)] 42 (0, 0)) (by (with_reducible repeat (first | refine blk_drewN ?_ _ | refine blk_drew ?_ | refine blk_alloc ?_ _)); exact BK130.out) hg (Kd.R_ne HO_12.out BK130.out (by decide))); have n6_ := Aside0.mk ((by rw [hw]; exact below_set (HB.out) GB112.out : Below w.heap.size w w117)); clear HO_10; clear HO_11; clear HO_12; clear HO_13; clear BK104; clear BK130; clear HB; have HO_10 := n0_; have HO_11 := n1_; have HO_12 := n2_; have HO_13 := n3_; have BK104 := n4_; have BK130 := n5_; have HB := n6_; clear n0_ n1_ n2_ n3_ n4_ n5_ n6_; clear hg hw hp_))
                                 repeat (go_quiet (fail); try go_wp2)
                                 go_meet
                                 case rel => exact ⟨_, (x10_4), (x11_4), (y139), (x13_4), H', ⟨by have := HJ11.out; have := HJ19.out; have := HK3.out; have := HK4.out; have := HJ42.out; have := HJ97.out; first | omega | exact Nat.le_refl _⟩, ⟨by (with_reducible repeat (first | apply Kd.R_alloc | apply Kd.R_drewN | apply Kd.R_drew)); exact HO_10.out⟩, ⟨by (with_reducible repeat (first | apply Kd.R_alloc | apply Kd.R_drewN | apply Kd.R_drew)); exact HO_11.out⟩, ⟨by (with_reducible repeat (first | apply Kd.R_alloc | apply Kd.R_drewN | apply Kd.R_drew)); exact HO_12.out⟩, ⟨by (with_reducible repeat (first | apply Kd.R_alloc | apply Kd.R_drewN | apply Kd.R_drew)); exact HO_13.out⟩, ⟨by (with_reducible repeat (first | refine blk_drewN ?_ _ | refine blk_drew ?_ | refine blk_alloc ?_ _)); exact BK104.out⟩, ⟨by (with_reducible repeat (first | refine blk_drewN ?_ _ | refine blk_drew ?_ | refine blk_alloc ?_ _)); exact BK130.out⟩, ⟨by repeat (first | (with_reducible first | exact HB.out | apply below_alloc | apply pw_below_drewN | apply below_drew1 | refine below_set ?_ GE104.out | refine below_set ?_ GE130.out) | exact HB.out)⟩⟩
                                ·
                                 rw [if_neg c111] at H
                                 exact absurd H (by simp)
                               ·
                                rw [if_neg c110] at H
                                exact absurd H (by simp)
                              ·
                               rw [if_neg c109] at H
                               have c109b0 : (((rd_T42 y110 x15_4).f0) == 6) = false := beq_eq_false_iff_ne.mpr c109
                               have c109b1 : (((rd_T42 y110 x15_4).f0) != 6) = true := bne_iff_ne.mpr c109
                               have H' := Aside0.mk H
                               clear H
                               go_wp2
                               repeat (go_quiet (fail); try go_wp2)
                               go_meet
                               case rel => exact ⟨_, (x10_4), (x11_4), (x12_4), (x13_4), H', ⟨by have := HJ11.out; have := HJ19.out; have := HK3.out; have := HK4.out; have := HJ42.out; have := HJ97.out; first | omega | exact Nat.le_refl _⟩, ⟨by (with_reducible repeat (first | apply Kd.R_alloc | apply Kd.R_drewN | apply Kd.R_drew)); exact HO_10.out⟩, ⟨by (with_reducible repeat (first | apply Kd.R_alloc | apply Kd.R_drewN | apply Kd.R_drew)); exact HO_11.out⟩, ⟨by (with_reducible repeat (first | apply Kd.R_alloc | apply Kd.R_drewN | apply Kd.R_drew)); exact HO_12.out⟩, ⟨by (with_reducible repeat (first | apply Kd.R_alloc | apply Kd.R_drewN | apply Kd.R_drew)); exact HO_13.out⟩, ⟨by (with_reducible repeat (first | refine blk_drewN ?_ _ | refine blk_drew ?_ | refine blk_alloc ?_ _)); exact BK104.out⟩, ⟨by (with_reducible repeat (first | refine blk_drewN ?_ _ | refine blk_drew ?_ | refine blk_alloc ?_ _)); exact BK130.out⟩, ⟨by repeat (first | (with_reducible first | exact HB.out | apply below_alloc | apply pw_below_drewN | apply below_drew1 | refine below_set ?_ GE104.out | refine below_set ?_ GE130.out) | exact HB.out)⟩⟩
                        case rest => as_aux_lemma =>
                         clear HC79
                         (try clear c1); (try clear p1); (try clear q1); (try clear hx1); (try clear c2); (try clear p2); (try clear c3); (try clear p3); (try clear q3); (try clear hx3); (try clear hf3); (try clear c4); (try clear c5); (try clear c6); (try clear c6b0); (try clear c6b1); (try clear p6); (try clear q6); (try clear c7); (try clear c7b0); (try clear c7b1); (try clear c8); (try clear p8); (try clear q8); (try clear hx8); (try clear hf8); (try clear c9); (try clear c9b0); (try clear c9b1); (try clear p9); (try clear q9); (try clear hx9); (try clear hf9); (try clear c10); (try clear c10b0); (try clear c10b1); (try clear p10); (try clear q10); (try clear hx10); (try clear hf10); (try clear c11); (try clear p11); (try clear q11); (try clear hx11); (try clear hf11); (try clear p12); (try clear q12); (try clear hx12); (try clear p13); (try clear q13); (try clear hx13); (try clear q15); (try clear q16); (try clear c19); (try clear c19b0); (try clear c19b1); (try clear c21); (try clear c21b0); (try clear c22); (try clear c23); (try clear c23b0); (try clear c23b1); (try clear c24); (try clear c24b0); (try clear c24b1); (try clear c25); (try clear c25b0); (try clear c25b1); (try clear c34); (try clear c34b0); (try clear c35); (try clear c35b0); (try clear c36); (try clear c36b0); (try clear p37); (try clear q37); (try clear hx37); (try clear hf37); (try clear c40); (try clear c40b0); (try clear c41); (try clear c41b0); (try clear c42); (try clear c42b0); (try clear c45); (try clear c47); (try clear c47b0); (try clear c48); (try clear c50); (try clear c50b0); (try clear c51); (try clear c53); (try clear c53b0); (try clear c54); (try clear c54b0); (try clear c55); (try clear c55b0); (try clear c55b1); (try clear c55b2); (try clear c56); (try clear c59); (try clear c59b0); (try clear q60); (try clear c61); (try clear c62); (try clear p64); (try clear c66); (try clear c66b0); (try clear c68); (try clear c68b0); (try clear c69); (try clear c69b0); (try clear c70); (try clear c74); (try clear c78); (try clear c80); (try clear c82); (try clear c82b0); (try clear c82b1); (try clear c83); (try clear c83b0); (try clear c84); (try clear c84b0); (try clear p85); (try clear q85); (try clear hx85); (try clear hf85); (try clear c86); (try clear c90); (try clear c90b0); (try clear c90b1); (try clear c91); (try clear c91b0); (try clear c92); (try clear c92b0); (try clear p93); (try clear q93); (try clear hx93); (try clear hf93); (try clear c94); (try clear c99); (try clear c99b0); (try clear c99b1); (try clear c100); (try clear c101); (try clear c101b0); (try clear c102); (try clear c102b0); (try clear p103); (try clear q103); (try clear hx103); (try clear hf103); (try clear c104); (try clear c109); (try clear c109b0); (try clear c109b1); (try clear c110); (try clear c110b0); (try clear c111); (try clear c111b0); (try clear p112); (try clear q112); (try clear hx112); (try clear hf112); (try clear c113); (try clear hcz105_0); (try clear hcz105_1); (try clear hcz105_2); (try clear hcz105_3); (try clear hcz105_4); (try clear hcz114_0); (try clear hcz114_1); (try clear hcz114_2); (try clear hcz114_3); (try clear hcz114_4); (try clear hcz17_0); (try clear hcz17_1); (try clear hcz17_2); (try clear hcz17_3); (try clear hcz17_4); (try clear hcz17_5); (try clear hcz17_6); (try clear hcz17_7); (try clear hcz17_8); (try clear hcz17_9); (try clear hcz46_0); (try clear hcz46_1); (try clear hcz46_2); (try clear hcz46_3); (try clear hcz46_4); (try clear hcz49_0); (try clear hcz49_1); (try clear hcz49_2); (try clear hcz49_3); (try clear hcz49_4); (try clear hcz52_0); (try clear hcz52_1); (try clear hcz52_2); (try clear hcz52_3); (try clear hcz52_4); (try clear hcz57_0); (try clear hcz57_1); (try clear hcz57_2); (try clear hcz57_3); (try clear hcz57_4); (try clear hcz63_0); (try clear hcz63_1); (try clear hcz63_2); (try clear hcz63_3); (try clear hcz63_4); (try clear hcz71_0); (try clear hcz71_1); (try clear hcz71_2); (try clear hcz71_3); (try clear hcz71_4); (try clear hcz75_0); (try clear hcz75_1); (try clear hcz75_2); (try clear hcz75_3); (try clear hcz75_4); (try clear hcz81_0); (try clear hcz81_1); (try clear hcz81_2); (try clear hcz81_3); (try clear hcz81_4); (try clear hcz87_0); (try clear hcz87_1); (try clear hcz87_2); (try clear hcz87_3); (try clear hcz87_4); (try clear hcz95_0); (try clear hcz95_1); (try clear hcz95_2); (try clear hcz95_3); (try clear hcz95_4); (try clear hfz105_0); (try clear hfz105_1); (try clear hfz105_2); (try clear hfz105_3); (try clear hfz105_4); (try clear hfz114_0); (try clear hfz114_1); (try clear hfz114_2); (try clear hfz114_3); (try clear hfz114_4); (try clear hfz17_0); (try clear hfz17_1); (try clear hfz17_2); (try clear hfz17_3); (try clear hfz17_4); (try clear hfz17_5); (try clear hfz17_6); (try clear hfz17_7); (try clear hfz17_8); (try clear hfz17_9); (try clear hfz46_0); (try clear hfz46_1); (try clear hfz46_2); (try clear hfz46_3); (try clear hfz46_4); (try clear hfz49_0); (try clear hfz49_1); (try clear hfz49_2); (try clear hfz49_3); (try clear hfz49_4); (try clear hfz52_0); (try clear hfz52_1); (try clear hfz52_2); (try clear hfz52_3); (try clear hfz52_4); (try clear hfz57_0); (try clear hfz57_1); (try clear hfz57_2); (try clear hfz57_3); (try clear hfz57_4); (try clear hfz63_0); (try clear hfz63_1); (try clear hfz63_2); (try clear hfz63_3); (try clear hfz63_4); (try clear hfz71_0); (try clear hfz71_1); (try clear hfz71_2); (try clear hfz71_3); (try clear hfz71_4); (try clear hfz75_0); (try clear hfz75_1); (try clear hfz75_2); (try clear hfz75_3); (try clear hfz75_4); (try clear hfz81_0); (try clear hfz81_1); (try clear hfz81_2); (try clear hfz81_3); (try clear hfz81_4); (try clear hfz87_0); (try clear hfz87_1); (try clear hfz87_2); (try clear hfz87_3); (try clear hfz87_4); (try clear hfz95_0); (try clear hfz95_1); (try clear hfz95_2); (try clear hfz95_3); (try clear hfz95_4); (try clear hx103_0); (try clear hx112_0); (try clear hx129_0); (try clear hx129_1); (try clear hx129_2); (try clear hx129_3); (try clear hx129_4); (try clear hx131_0); (try clear hx132_0); (try clear hx133_0); (try clear hx133_1); (try clear hx133_2); (try clear hx133_3); (try clear hx133_4); (try clear hx136_0); (try clear hx138_0); (try clear hx37_0); (try clear hx85_0); (try clear hx93_0); (try clear p1); (try clear p103); (try clear p112); (try clear p12); (try clear p129); (try clear p13); (try clear p131); (try clear p132); (try clear p133); (try clear p136); (try clear p138); (try clear p2); (try clear p3); (try clear p37); (try clear p6); (try clear p64); (try clear p8); (try clear p85); (try clear p9); (try clear p93); (try clear q1); (try clear q103); (try clear q112); (try clear q12); (try clear q129); (try clear q13); (try clear q131); (try clear q132); (try clear q133); (try clear q136); (try clear q138); (try clear q15); (try clear q16); (try clear q3); (try clear q37); (try clear q6); (try clear q60); (try clear q8); (try clear q85); (try clear q9); (try clear q93)
                         obtain ⟨kq, x10_78, x11_78, x12_78, x13_78, HA, HJ78, HO_10, HO_11, HO_12, HO_13, BK104, BK130, HB⟩ := hcut
                         cases kq with
                         | zero => exact absurd HA.out (by simp [millwrightlaw19_TraceBounds.j6])
                         | succ kj78 =>
                          have H := HA.out
                          clear HA
                          simp only [millwrightlaw19_TraceBounds.j6] at H
                          have HC118 := Aside0.mk H
                          clear H
                          have hnb119 := NB130_104.out
                          have hnc119 := NB104_130.out
                          have hcz120_0 : wc.cell? ⟨gb130, 0, none⟩ = some (.int .i64 ((rd_T42 y110 x15_4).f0)) := (blk_cell BK130.out 0).trans rfl
                          have hcz120_1 : wc.cell? ⟨gb130, 1, none⟩ = some (.int .i64 ((rd_T42 y110 x15_4).f1)) := (blk_cell BK130.out 1).trans rfl
                          have hcz120_2 : wc.cell? ⟨gb130, 2, none⟩ = some (.int .i64 ((rd_T42 y110 x15_4).f2)) := (blk_cell BK130.out 2).trans rfl
                          have hcz120_3 : wc.cell? ⟨gb130, 3, none⟩ = some (.int .i64 ((rd_T42 y110 x15_4).f3)) := (blk_cell BK130.out 3).trans rfl
                          have hcz120_4 : wc.cell? ⟨gb130, 4, none⟩ = some (.int .i64 ((rd_T42 y110 x15_4).f4)) := (blk_cell BK130.out 4).trans rfl
                          have hfz120_0 := blk_frozen BK130.out 0
                          have hfz120_1 := blk_frozen BK130.out 1
                          have hfz120_2 := blk_frozen BK130.out 2
                          have hfz120_3 := blk_frozen BK130.out 3
                          have hfz120_4 := blk_frozen BK130.out 4
                          go_upto_if 163 with (fail)
                          repeat (go_quiet (fail); go_upto_if 163 with (fail))
                          go_cut [] (fun wc => ∃ (kq : Nat) (x10_117 : List Int), Aside0 (millwrightlaw19_TraceBounds.j7 kq y106 y110 t105 x8_11 x10_117 x11_78 x12_78 x13_78 x15_4 a0_0 a0_1 a0_2 a0_3 a0_4 a0_5 a0_6 a0_7 a0_8 a0_9 ((rd_T42 y110 x15_4).f0) ((rd_T42 y110 x15_4).f1) ((rd_T42 y110 x15_4).f2) ((rd_T42 y110 x15_4).f3) ((rd_T42 y110 x15_4).f4) = some r) ∧ Aside0 (kq ≤ kj78) ∧ Aside0 (Kd.R (Kd.int .i64) 3 wc w.heap.size (fun k_ => some k_ ≠ (v120 : Value).ownBlock ∧ some k_ ≠ (v123 : Value).ownBlock) v117 x10_117) ∧ Aside0 (Kd.R (Kd.int .i64) 3 wc w.heap.size (fun k_ => some k_ ≠ (v117 : Value).ownBlock ∧ some k_ ≠ (v123 : Value).ownBlock) v120 x11_78) ∧ Aside0 (Kd.R (Kd.int .i64) 3 wc w.heap.size (fun k_ => some k_ ≠ (v117 : Value).ownBlock ∧ some k_ ≠ (v120 : Value).ownBlock) v123 x12_78) ∧ Aside0 (Kd.R Kd.bool 4 wc w.heap.size (fun _ => True) v126 x13_78) ∧ Aside0 (wc.heap[gb104]? = some (.cells #[.int .i64 a0_0, .int .i64 a0_1, .int .i64 a0_2, .int .i64 a0_3, .int .i64 a0_4, .int .i64 a0_5, .int .i64 a0_6, .int .i64 a0_7, .int .i64 a0_8, .int .i64 a0_9] 23 (0, 0))) ∧ Aside0 (wc.heap[gb130]? = some (.cells #[.int .i64 ((rd_T42 y110 x15_4).f0), .int .i64 ((rd_T42 y110 x15_4).f1), .int .i64 ((rd_T42 y110 x15_4).f2), .int .i64 ((rd_T42 y110 x15_4).f3), .int .i64 ((rd_T42 y110 x15_4).f4)] 42 (0, 0))) ∧ Aside0 (Below w.heap.size w wc))
                          case first => as_aux_lemma =>
                           have H := HC118.out
                           clear HC118
                           by_cases c121 : ((rd_T42 y110 x15_4).f0) = 1
                           ·
                            rw [if_pos c121] at H
                            have c121b0 : (((rd_T42 y110 x15_4).f0) == 1) = true := beq_iff_eq.mpr c121
                            have c121b1 : (((rd_T42 y110 x15_4).f0) != 1) = false := bne_eq_false_iff_eq.mpr c121
                            clear c121
                            (first | rw [c121b0] | (simp only [i64_w, i32_w]; rw [c121b0]) | skip)
                            have H' := Aside0.mk H
                            clear H
                            go_wp2
                            repeat (go_quiet (fail); try go_wp2)
                            go_meet
                            case rel => exact ⟨_, (x10_78), H', ⟨by have := HJ11.out; have := HJ19.out; have := HK3.out; have := HK4.out; have := HJ42.out; have := HJ78.out; first | omega | exact Nat.le_refl _⟩, ⟨by (with_reducible repeat (first | apply Kd.R_alloc | apply Kd.R_drewN | apply Kd.R_drew)); exact HO_10.out⟩, ⟨by (with_reducible repeat (first | apply Kd.R_alloc | apply Kd.R_drewN | apply Kd.R_drew)); exact HO_11.out⟩, ⟨by (with_reducible repeat (first | apply Kd.R_alloc | apply Kd.R_drewN | apply Kd.R_drew)); exact HO_12.out⟩, ⟨by (with_reducible repeat (first | apply Kd.R_alloc | apply Kd.R_drewN | apply Kd.R_drew)); exact HO_13.out⟩, ⟨by (with_reducible repeat (first | refine blk_drewN ?_ _ | refine blk_drew ?_ | refine blk_alloc ?_ _)); exact BK104.out⟩, ⟨by (with_reducible repeat (first | refine blk_drewN ?_ _ | refine blk_drew ?_ | refine blk_alloc ?_ _)); exact BK130.out⟩, ⟨by repeat (first | (with_reducible first | exact HB.out | apply below_alloc | apply pw_below_drewN | apply below_drew1 | refine below_set ?_ GE104.out | refine below_set ?_ GE130.out) | exact HB.out)⟩⟩
                           ·
                            rw [if_neg c121] at H
                            have c121b0 : (((rd_T42 y110 x15_4).f0) == 1) = false := beq_eq_false_iff_ne.mpr c121
                            have c121b1 : (((rd_T42 y110 x15_4).f0) != 1) = true := bne_iff_ne.mpr c121
                            (first | rw [c121b0] | (simp only [i64_w, i32_w]; rw [c121b0]) | skip)
                            by_cases c122 : 0 ≤ ((rd_T42 y110 x15_4).f1)
                            ·
                             rw [if_pos c122] at H
                             have c122b0 : decide (0 ≤ ((rd_T42 y110 x15_4).f1)) = true := decide_eq_true c122
                             clear c122
                             by_cases c123 : ((rd_T42 y110 x15_4).f1) < (x10_78.length : Int)
                             ·
                              rw [if_pos c123] at H
                              have c123b0 : decide (((rd_T42 y110 x15_4).f1) < (x10_78.length : Int)) = true := decide_eq_true c123
                              clear c123
                              by_cases c124 : (rd x10_78 ((rd_T42 y110 x15_4).f1)) = ((rd_T42 y110 x15_4).f2)
                              ·
                               rw [if_pos c124] at H
                               have c124b0 : ((rd x10_78 ((rd_T42 y110 x15_4).f1)) == ((rd_T42 y110 x15_4).f2)) = true := beq_iff_eq.mpr c124
                               have c124b1 : ((rd x10_78 ((rd_T42 y110 x15_4).f1)) != ((rd_T42 y110 x15_4).f2)) = false := bne_eq_false_iff_eq.mpr c124
                               clear c124
                               obtain ⟨y141, hy141⟩ : ∃ y_ : List Int, y_ = (x10_78.set (((rd_T42 y110 x15_4).f1) : Int).toNat (-1)) := ⟨_, rfl⟩
                               replace H : (millwrightlaw19_TraceBounds.j7 kj78 y106 y110 t105 x8_11 y141 x11_78 x12_78 x13_78 x15_4 a0_0 a0_1 a0_2 a0_3 a0_4 a0_5 a0_6 a0_7 a0_8 a0_9 ((rd_T42 y110 x15_4).f0) ((rd_T42 y110 x15_4).f1) ((rd_T42 y110 x15_4).f2) ((rd_T42 y110 x15_4).f3) ((rd_T42 y110 x15_4).f4)) = some r := by first | (rw [hy141]; with_reducible exact H) | (have H2_ := (Option.bind_some _ _).symm.trans H; rw [hy141]; with_reducible exact H2_) | (have H2_ := (Option.bind_some _ _).symm.trans H; with_reducible exact H2_) | with_reducible exact H | (rw [hy141]; exact H) | exact H
                               have Ny141 := Aside0.mk hy141
                               clear hy141
                               have H' := Aside0.mk H
                               clear H
                               have hnb126 := NB130_104.out
                               have hnc126 := NB104_130.out
                               have hcz127_0 : wc.cell? ⟨gb130, 0, none⟩ = some (.int .i64 ((rd_T42 y110 x15_4).f0)) := (blk_cell BK130.out 0).trans rfl
                               have hcz127_1 : wc.cell? ⟨gb130, 1, none⟩ = some (.int .i64 ((rd_T42 y110 x15_4).f1)) := (blk_cell BK130.out 1).trans rfl
                               have hcz127_2 : wc.cell? ⟨gb130, 2, none⟩ = some (.int .i64 ((rd_T42 y110 x15_4).f2)) := (blk_cell BK130.out 2).trans rfl
                               have hcz127_3 : wc.cell? ⟨gb130, 3, none⟩ = some (.int .i64 ((rd_T42 y110 x15_4).f3)) := (blk_cell BK130.out 3).trans rfl
                               have hcz127_4 : wc.cell? ⟨gb130, 4, none⟩ = some (.int .i64 ((rd_T42 y110 x15_4).f4)) := (blk_cell BK130.out 4).trans rfl
                               have hfz127_0 := blk_frozen BK130.out 0
                               have hfz127_1 := blk_frozen BK130.out 1
                               have hfz127_2 := blk_frozen BK130.out 2
                               have hfz127_3 := blk_frozen BK130.out 3
                               have hfz127_4 := blk_frozen BK130.out 4
                               obtain ⟨Ao128, co128, eo128⟩ := Kd.R_slice HO_10.out
                               subst eo128
                               have p140 : 0 ≤ (((rd_T42 y110 x15_4).f1) : Int) := of_decide_eq_true (by first | (with_reducible assumption) | assumption)
                               have q140 : ((rd_T42 y110 x15_4).f1) < (x10_78.length : Int) := of_decide_eq_true (by first | (with_reducible assumption) | assumption)
                               obtain ⟨ad140, e140, hx140_0⟩ := Kd.at_int (Kd.R_reads' HO_10.out).2.2 ((rd_T42 y110 x15_4).f1) p140 q140
                               cases e140
                               replace p140 := eq_true p140
                               replace q140 := eq_true q140
                               have p125 : 0 ≤ (((rd_T42 y110 x15_4).f1) : Int) := of_decide_eq_true (by first | (with_reducible assumption) | assumption)
                               have q125 : (((rd_T42 y110 x15_4).f1) : Int) < ((x10_78.length : Int) : Int) := of_decide_eq_true (by first | (with_reducible assumption) | assumption)
                               obtain ⟨go125, co125, eo125, gb125, gl125, cl125, HG125⟩ := Kd.R_form HO_10.out (by omega)
                               (first | cases eo125 | (injection eo125 with ea_ en_ ec_; (first | subst ea_ | (injection ea_ with ea_; subst ea_)); subst ec_; clear en_))
                               have GB125 := Aside0.mk gb125
                               have GG125 := Aside0.mk HG125
                               clear gb125 gl125 HG125
                               (first | simp only [add_plain] at hx140_0 | skip)
                               obtain ⟨hx125_0, hf125_0⟩ := Kd.R_celln 0 HO_10.out (((rd_T42 y110 x15_4).f1) : Int) p125 q125
                               replace p125 := eq_true p125
                               replace q125 := eq_true q125

                               go_wp2_with fail
                               go_quiet (fail)
                               go_wp2_with fail
                               generalize hq_ : World.drewN wc nq = wd; have n0_ := Aside0.mk (Kd.R_at hq_ HO_10.out); have n1_ := Aside0.mk (Kd.R_at hq_ HO_11.out); have n2_ := Aside0.mk (Kd.R_at hq_ HO_12.out); have n3_ := Aside0.mk (Kd.R_at hq_ HO_13.out); have n4_ := Aside0.mk (blk_at hq_ BK104.out); have n5_ := Aside0.mk (blk_at hq_ BK130.out); have n6_ := Aside0.mk (below_at hq_ HB.out); clear hq_ HO_10 HO_11 HO_12 HO_13 BK104 BK130 HB; have HO_10 := n0_; have HO_11 := n1_; have HO_12 := n2_; have HO_13 := n3_; have BK104 := n4_; have BK130 := n5_; have HB := n6_; clear n0_ n1_ n2_ n3_ n4_ n5_ n6_
                               have HP129 := Kd.R_putg HO_10.out (((rd_T42 y110 x15_4).f1) : Int) (-1)
                               obtain ⟨w130, hw⟩ : ∃ W_, W_ = (wd.setCell ⟨go125, (((rd_T42 y110 x15_4).f1) : Int).toNat, none⟩ (.int .i64 (-1))) := ⟨_, rfl⟩
                               rw [← hw]
                               have hg : wd.grownBy w130 (some go125) := (by rw [hw]; exact HP129.2); have hp_ : Kd.R (Kd.int .i64) 3 w130 w.heap.size (fun k_ => some k_ ≠ (v120 : Value).ownBlock ∧ some k_ ≠ (v123 : Value).ownBlock) (.slice (some ⟨go125, 0, none⟩) x10_78.length co128) y141 := (by rw [hw, Ny141.out]; exact HP129.1); clear HP129; have n0_ := Aside0.mk (hp_); have n1_ := Aside0.mk (Kd.R_after (v := (.slice (some ⟨go125, 0, none⟩) x10_78.length co128)) (v1 := (.slice (some ⟨go125, 0, none⟩) x10_78.length co128)) (ok := (fun k_ => some k_ ≠ (v123 : Value).ownBlock)) (by (with_reducible repeat (first | apply Kd.R_alloc | apply Kd.R_drewN | apply Kd.R_drew)); exact Kd.R_mono HO_11.out (fun _ hk => ⟨hk.2, hk.1⟩)) hg (.inl rfl)); have n2_ := Aside0.mk (Kd.R_after (v := (.slice (some ⟨go125, 0, none⟩) x10_78.length co128)) (v1 := (.slice (some ⟨go125, 0, none⟩) x10_78.length co128)) (ok := (fun k_ => some k_ ≠ (v120 : Value).ownBlock)) (by (with_reducible repeat (first | apply Kd.R_alloc | apply Kd.R_drewN | apply Kd.R_drew)); exact Kd.R_mono HO_12.out (fun _ hk => ⟨hk.2, hk.1⟩)) hg (.inl rfl)); have n3_ := Aside0.mk (Kd.R_over' (v := (.slice (some ⟨go125, 0, none⟩) x10_78.length co128)) (by (with_reducible repeat (first | apply Kd.R_alloc | apply Kd.R_drewN | apply Kd.R_drew)); exact HO_13.out) (Kd.R_typed HO_10.out) (by decide) hg); have n4_ := Aside0.mk (blk_grown (g := gb104) (o := .cells #[.int .i64 a0_0, .int .i64 a0_1, .int .i64 a0_2, .int .i64 a0_3, .int .i64 a0_4, .int .i64 a0_5, .int .i64 a0_6, .int .i64 a0_7, .int .i64 a0_8, .int .i64 a0_9] 23 (0, 0)) (by (with_reducible repeat (first | refine blk_drewN ?_ _ | refine blk_drew ?_ | refine blk_alloc ?_ _)); exact BK104.out) hg (Kd.R_ne HO_10.out BK104.out (by decide))); have n5_ := Aside0.mk (blk_grown (g := gb130) (o := .cells #[.int .i64 ((rd_T42 y110 x15_4).f0), .int .i64 ((rd_T42 y110 x15_4).f1), .int .i64 ((rd_T42 y110 x15_4).f2), .int .i64 ((rd_T42 y110 x15_4).f3), .int .i64 ((rd_T42 y110 x15_4).f4)] 42 (0, 0)) (by (with_reducible repeat (first | refine blk_drewN ?_ _ | refine blk_drew ?_ | refine blk_alloc ?_ _)); exact BK130.out) hg (Kd.R_ne HO_10.out BK130.out (by decide))); have n6_ := Aside0.mk ((by rw [hw]; exact below_set (HB.out) GB125.out : Below w.heap.size w w130)); clear HO_10; clear HO_11; clear HO_12; clear HO_13; clear BK104; clear BK130; clear HB; have HO_10 := n0_; have HO_11 := n1_; have HO_12 := n2_; have HO_13 := n3_; have BK104 := n4_; have BK130 := n5_; have HB := n6_; clear n0_ n1_ n2_ n3_ n4_ n5_ n6_; clear hg hw hp_

                               go_meet
                               case rel => exact ⟨_, (y141), H', ⟨by have := HJ11.out; have := HJ19.out; have := HK3.out; have := HK4.out; have := HJ42.out; have := HJ78.out; first | omega | exact Nat.le_refl _⟩, ⟨by (with_reducible repeat (first | apply Kd.R_alloc | apply Kd.R_drewN | apply Kd.R_drew)); exact HO_10.out⟩, ⟨by (with_reducible repeat (first | apply Kd.R_alloc | apply Kd.R_drewN | apply Kd.R_drew)); exact Kd.R_mono HO_11.out (fun _ hk => ⟨hk.2, hk.1⟩)⟩, ⟨by (with_reducible repeat (first | apply Kd.R_alloc | apply Kd.R_drewN | apply Kd.R_drew)); exact Kd.R_mono HO_12.out (fun _ hk => ⟨hk.2, hk.1⟩)⟩, ⟨by (with_reducible repeat (first | apply Kd.R_alloc | apply Kd.R_drewN | apply Kd.R_drew)); exact HO_13.out⟩, ⟨by (with_reducible repeat (first | refine blk_drewN ?_ _ | refine blk_drew ?_ | refine blk_alloc ?_ _)); exact BK104.out⟩, ⟨by (with_reducible repeat (first | refine blk_drewN ?_ _ | refine blk_drew ?_ | refine blk_alloc ?_ _)); exact BK130.out⟩, ⟨by repeat (first | (with_reducible first | exact HB.out | apply below_alloc | apply pw_below_drewN | apply below_drew1 | refine below_set ?_ GE104.out | refine below_set ?_ GE130.out) | exact HB.out)⟩⟩
                              ·
                               rw [if_neg c124] at H
                               have c124b0 : ((rd x10_78 ((rd_T42 y110 x15_4).f1)) == ((rd_T42 y110 x15_4).f2)) = false := beq_eq_false_iff_ne.mpr c124
                               have c124b1 : ((rd x10_78 ((rd_T42 y110 x15_4).f1)) != ((rd_T42 y110 x15_4).f2)) = true := bne_iff_ne.mpr c124
                               obtain rfl := Option.some.inj H
                               have hnb131 := NB130_104.out
                               have hnc131 := NB104_130.out
                               have hcz132_0 : wc.cell? ⟨gb130, 0, none⟩ = some (.int .i64 ((rd_T42 y110 x15_4).f0)) := (blk_cell BK130.out 0).trans rfl
                               have hcz132_1 : wc.cell? ⟨gb130, 1, none⟩ = some (.int .i64 ((rd_T42 y110 x15_4).f1)) := (blk_cell BK130.out 1).trans rfl
                               have hcz132_2 : wc.cell? ⟨gb130, 2, none⟩ = some (.int .i64 ((rd_T42 y110 x15_4).f2)) := (blk_cell BK130.out 2).trans rfl
                               have hcz132_3 : wc.cell? ⟨gb130, 3, none⟩ = some (.int .i64 ((rd_T42 y110 x15_4).f3)) := (blk_cell BK130.out 3).trans rfl
                               have hcz132_4 : wc.cell? ⟨gb130, 4, none⟩ = some (.int .i64 ((rd_T42 y110 x15_4).f4)) := (blk_cell BK130.out 4).trans rfl
                               have hfz132_0 := blk_frozen BK130.out 0
                               have hfz132_1 := blk_frozen BK130.out 1
                               have hfz132_2 := blk_frozen BK130.out 2
                               have hfz132_3 := blk_frozen BK130.out 3
                               have hfz132_4 := blk_frozen BK130.out 4
                               obtain ⟨Ao133, co133, eo133⟩ := Kd.R_slice HO_10.out
                               subst eo133
                               have p140 : 0 ≤ (((rd_T42 y110 x15_4).f1) : Int) := of_decide_eq_true (by first | (with_reducible assumption) | assumption)
                               have q140 : ((rd_T42 y110 x15_4).f1) < (x10_78.length : Int) := of_decide_eq_true (by first | (with_reducible assumption) | assumption)
                               obtain ⟨ad140, e140, hx140_0⟩ := Kd.at_int (Kd.R_reads' HO_10.out).2.2 ((rd_T42 y110 x15_4).f1) p140 q140
                               cases e140
                               replace p140 := eq_true p140
                               replace q140 := eq_true q140
                               go_wp2
                               repeat (go_quiet (fail); try go_wp2)
                               go_ret
                               exact ⟨by first | rfl | (simp [errW_none, errW_some] <;> rfl) | (simp only [← hji5, ← hji8]; first | rfl | (simp [errW_none, errW_some] <;> rfl)) | (simp [*, errW_none, errW_some] <;> rfl), by repeat (first | (with_reducible first | exact HB.out | apply below_alloc | apply pw_below_drewN | apply below_drew1 | refine below_set ?_ GE104.out | refine below_set ?_ GE130.out) | exact HB.out)⟩
                             ·
                              rw [if_neg c123] at H
                              exact absurd H (by simp)
                            ·
                             rw [if_neg c122] at H
                             exact absurd H (by simp)
                          case rest => as_aux_lemma =>
                           clear HC118
                           (try clear c1); (try clear p1); (try clear q1); (try clear hx1); (try clear c2); (try clear p2); (try clear c3); (try clear p3); (try clear q3); (try clear hx3); (try clear hf3); (try clear c4); (try clear c5); (try clear c6); (try clear c6b0); (try clear c6b1); (try clear p6); (try clear q6); (try clear c7); (try clear c7b0); (try clear c7b1); (try clear c8); (try clear p8); (try clear q8); (try clear hx8); (try clear hf8); (try clear c9); (try clear c9b0); (try clear c9b1); (try clear p9); (try clear q9); (try clear hx9); (try clear hf9); (try clear c10); (try clear c10b0); (try clear c10b1); (try clear p10); (try clear q10); (try clear hx10); (try clear hf10); (try clear c11); (try clear p11); (try clear q11); (try clear hx11); (try clear hf11); (try clear c12); (try clear p12); (try clear q12); (try clear hx12); (try clear hf12); (try clear c13); (try clear p13); (try clear q13); (try clear hx13); (try clear p14); (try clear q14); (try clear hx14); (try clear q15); (try clear q16); (try clear c19); (try clear c19b0); (try clear c19b1); (try clear c21); (try clear c21b0); (try clear c22); (try clear c23); (try clear c23b0); (try clear c23b1); (try clear c24); (try clear c24b0); (try clear c24b1); (try clear c25); (try clear c25b0); (try clear c25b1); (try clear c34); (try clear c34b0); (try clear c35); (try clear c35b0); (try clear c36); (try clear c36b0); (try clear p37); (try clear q37); (try clear hx37); (try clear hf37); (try clear c40); (try clear c40b0); (try clear c41); (try clear c41b0); (try clear c42); (try clear c42b0); (try clear c45); (try clear c47); (try clear c47b0); (try clear c48); (try clear c50); (try clear c50b0); (try clear c51); (try clear c53); (try clear c53b0); (try clear c54); (try clear c54b0); (try clear c55); (try clear c55b0); (try clear c55b1); (try clear c55b2); (try clear c56); (try clear c59); (try clear c59b0); (try clear q60); (try clear c61); (try clear c62); (try clear p64); (try clear c66); (try clear c66b0); (try clear c68); (try clear c68b0); (try clear c69); (try clear c69b0); (try clear c70); (try clear c74); (try clear c78); (try clear c80); (try clear c82); (try clear c82b0); (try clear c82b1); (try clear c83); (try clear c83b0); (try clear c84); (try clear c84b0); (try clear p85); (try clear q85); (try clear hx85); (try clear hf85); (try clear c86); (try clear c90); (try clear c90b0); (try clear c90b1); (try clear c91); (try clear c91b0); (try clear c92); (try clear c92b0); (try clear p93); (try clear q93); (try clear hx93); (try clear hf93); (try clear c94); (try clear c99); (try clear c99b0); (try clear c99b1); (try clear c100); (try clear c101); (try clear c101b0); (try clear c102); (try clear c102b0); (try clear p103); (try clear q103); (try clear hx103); (try clear hf103); (try clear c104); (try clear c109); (try clear c109b0); (try clear c109b1); (try clear c110); (try clear c110b0); (try clear c111); (try clear c111b0); (try clear p112); (try clear q112); (try clear hx112); (try clear hf112); (try clear c113); (try clear c119); (try clear c121); (try clear c121b0); (try clear c121b1); (try clear c122); (try clear c122b0); (try clear c123); (try clear c123b0); (try clear c124); (try clear c124b0); (try clear c124b1); (try clear p125); (try clear q125); (try clear hx125); (try clear hf125); (try clear c126); (try clear p129); (try clear q129); (try clear hx129); (try clear c131); (try clear p131); (try clear q131); (try clear hx131); (try clear p132); (try clear q132); (try clear hx132); (try clear p133); (try clear q133); (try clear hx133); (try clear hcz105_0); (try clear hcz105_1); (try clear hcz105_2); (try clear hcz105_3); (try clear hcz105_4); (try clear hcz114_0); (try clear hcz114_1); (try clear hcz114_2); (try clear hcz114_3); (try clear hcz114_4); (try clear hcz120_0); (try clear hcz120_1); (try clear hcz120_2); (try clear hcz120_3); (try clear hcz120_4); (try clear hcz127_0); (try clear hcz127_1); (try clear hcz127_2); (try clear hcz127_3); (try clear hcz127_4); (try clear hcz132_0); (try clear hcz132_1); (try clear hcz132_2); (try clear hcz132_3); (try clear hcz132_4); (try clear hcz17_0); (try clear hcz17_1); (try clear hcz17_2); (try clear hcz17_3); (try clear hcz17_4); (try clear hcz17_5); (try clear hcz17_6); (try clear hcz17_7); (try clear hcz17_8); (try clear hcz17_9); (try clear hcz46_0); (try clear hcz46_1); (try clear hcz46_2); (try clear hcz46_3); (try clear hcz46_4); (try clear hcz49_0); (try clear hcz49_1); (try clear hcz49_2); (try clear hcz49_3); (try clear hcz49_4); (try clear hcz52_0); (try clear hcz52_1); (try clear hcz52_2); (try clear hcz52_3); (try clear hcz52_4); (try clear hcz57_0); (try clear hcz57_1); (try clear hcz57_2); (try clear hcz57_3); (try clear hcz57_4); (try clear hcz63_0); (try clear hcz63_1); (try clear hcz63_2); (try clear hcz63_3); (try clear hcz63_4); (try clear hcz71_0); (try clear hcz71_1); (try clear hcz71_2); (try clear hcz71_3); (try clear hcz71_4); (try clear hcz75_0); (try clear hcz75_1); (try clear hcz75_2); (try clear hcz75_3); (try clear hcz75_4); (try clear hcz81_0); (try clear hcz81_1); (try clear hcz81_2); (try clear hcz81_3); (try clear hcz81_4); (try clear hcz87_0); (try clear hcz87_1); (try clear hcz87_2); (try clear hcz87_3); (try clear hcz87_4); (try clear hcz95_0); (try clear hcz95_1); (try clear hcz95_2); (try clear hcz95_3); (try clear hcz95_4); (try clear hfz105_0); (try clear hfz105_1); (try clear hfz105_2); (try clear hfz105_3); (try clear hfz105_4); (try clear hfz114_0); (try clear hfz114_1); (try clear hfz114_2); (try clear hfz114_3); (try clear hfz114_4); (try clear hfz120_0); (try clear hfz120_1); (try clear hfz120_2); (try clear hfz120_3); (try clear hfz120_4); (try clear hfz127_0); (try clear hfz127_1); (try clear hfz127_2); (try clear hfz127_3); (try clear hfz127_4); (try clear hfz132_0); (try clear hfz132_1); (try clear hfz132_2); (try clear hfz132_3); (try clear hfz132_4); (try clear hfz17_0); (try clear hfz17_1); (try clear hfz17_2); (try clear hfz17_3); (try clear hfz17_4); (try clear hfz17_5); (try clear hfz17_6); (try clear hfz17_7); (try clear hfz17_8); (try clear hfz17_9); (try clear hfz46_0); (try clear hfz46_1); (try clear hfz46_2); (try clear hfz46_3); (try clear hfz46_4); (try clear hfz49_0); (try clear hfz49_1); (try clear hfz49_2); (try clear hfz49_3); (try clear hfz49_4); (try clear hfz52_0); (try clear hfz52_1); (try clear hfz52_2); (try clear hfz52_3); (try clear hfz52_4); (try clear hfz57_0); (try clear hfz57_1); (try clear hfz57_2); (try clear hfz57_3); (try clear hfz57_4); (try clear hfz63_0); (try clear hfz63_1); (try clear hfz63_2); (try clear hfz63_3); (try clear hfz63_4); (try clear hfz71_0); (try clear hfz71_1); (try clear hfz71_2); (try clear hfz71_3); (try clear hfz71_4); (try clear hfz75_0); (try clear hfz75_1); (try clear hfz75_2); (try clear hfz75_3); (try clear hfz75_4); (try clear hfz81_0); (try clear hfz81_1); (try clear hfz81_2); (try clear hfz81_3); (try clear hfz81_4); (try clear hfz87_0); (try clear hfz87_1); (try clear hfz87_2); (try clear hfz87_3); (try clear hfz87_4); (try clear hfz95_0); (try clear hfz95_1); (try clear hfz95_2); (try clear hfz95_3); (try clear hfz95_4); (try clear hx103_0); (try clear hx112_0); (try clear hx125_0); (try clear hx129_0); (try clear hx129_1); (try clear hx129_2); (try clear hx129_3); (try clear hx129_4); (try clear hx131_0); (try clear hx132_0); (try clear hx133_0); (try clear hx133_1); (try clear hx133_2); (try clear hx133_3); (try clear hx133_4); (try clear hx136_0); (try clear hx138_0); (try clear hx140_0); (try clear hx37_0); (try clear hx85_0); (try clear hx93_0); (try clear p1); (try clear p10); (try clear p103); (try clear p11); (try clear p112); (try clear p12); (try clear p125); (try clear p129); (try clear p13); (try clear p131); (try clear p132); (try clear p133); (try clear p136); (try clear p138); (try clear p140); (try clear p2); (try clear p3); (try clear p37); (try clear p6); (try clear p64); (try clear p8); (try clear p85); (try clear p9); (try clear p93); (try clear q1); (try clear q10); (try clear q103); (try clear q11); (try clear q112); (try clear q12); (try clear q125); (try clear q129); (try clear q13); (try clear q131); (try clear q132); (try clear q133); (try clear q136); (try clear q138); (try clear q140); (try clear q15); (try clear q16); (try clear q3); (try clear q37); (try clear q6); (try clear q60); (try clear q8); (try clear q85); (try clear q9); (try clear q93)
                           obtain ⟨kq, x10_117, HA, HJ117, HO_10, HO_11, HO_12, HO_13, BK104, BK130, HB⟩ := hcut
                           cases kq with
                           | zero => exact absurd HA.out (by simp [millwrightlaw19_TraceBounds.j7])
                           | succ kj117 =>
                            have H := HA.out
                            clear HA
                            simp only [millwrightlaw19_TraceBounds.j7] at H
                            have H' := Aside0.mk H
                            clear H
                            go_wp2
                            repeat (go_quiet (fail); try go_wp2)
                            go_loopg [17, 18] kj117 (fun kq v17 v18 w' => ∃ (x17_8 : Int) (x18_8 : Int), v17 = .int .i64 x17_8 ∧ v18 = .int .i64 x18_8 ∧ Aside0 (millwrightlaw19_TraceBounds.l2 kq y106 y110 t105 x8_11 x10_117 x11_78 x12_78 x13_78 x15_4 x17_8 x18_8 a0_0 a0_1 a0_2 a0_3 a0_4 a0_5 a0_6 a0_7 a0_8 a0_9 ((rd_T42 y110 x15_4).f0) ((rd_T42 y110 x15_4).f1) ((rd_T42 y110 x15_4).f2) ((rd_T42 y110 x15_4).f3) ((rd_T42 y110 x15_4).f4) = some r) ∧ Aside0 (kq ≤ kj117) ∧ Aside0 (Kd.R (Kd.int .i64) 3 w' w.heap.size (fun k_ => some k_ ≠ (v120 : Value).ownBlock ∧ some k_ ≠ (v123 : Value).ownBlock) v117 x10_117) ∧ Aside0 (Kd.R (Kd.int .i64) 3 w' w.heap.size (fun k_ => some k_ ≠ (v117 : Value).ownBlock ∧ some k_ ≠ (v123 : Value).ownBlock) v120 x11_78) ∧ Aside0 (Kd.R (Kd.int .i64) 3 w' w.heap.size (fun k_ => some k_ ≠ (v117 : Value).ownBlock ∧ some k_ ≠ (v120 : Value).ownBlock) v123 x12_78) ∧ Aside0 (Kd.R Kd.bool 4 w' w.heap.size (fun _ => True) v126 x13_78) ∧ Aside0 (w'.heap[gb104]? = some (.cells #[.int .i64 a0_0, .int .i64 a0_1, .int .i64 a0_2, .int .i64 a0_3, .int .i64 a0_4, .int .i64 a0_5, .int .i64 a0_6, .int .i64 a0_7, .int .i64 a0_8, .int .i64 a0_9] 23 (0, 0))) ∧ Aside0 (w'.heap[gb130]? = some (.cells #[.int .i64 ((rd_T42 y110 x15_4).f0), .int .i64 ((rd_T42 y110 x15_4).f1), .int .i64 ((rd_T42 y110 x15_4).f2), .int .i64 ((rd_T42 y110 x15_4).f3), .int .i64 ((rd_T42 y110 x15_4).f4)] 42 (0, 0))) ∧ Aside0 (Below w.heap.size w w'))
                            case atStart => exact ⟨(0), (0), (by first | rfl | (simp; done) | (simp [*]; done)), (by first | rfl | (simp; done) | (simp [*]; done)), H', ⟨Nat.le_refl _⟩, ⟨by (with_reducible repeat (first | apply Kd.R_alloc | apply Kd.R_drewN | apply Kd.R_drew)); exact HO_10.out⟩, ⟨by (with_reducible repeat (first | apply Kd.R_alloc | apply Kd.R_drewN | apply Kd.R_drew)); exact HO_11.out⟩, ⟨by (with_reducible repeat (first | apply Kd.R_alloc | apply Kd.R_drewN | apply Kd.R_drew)); exact HO_12.out⟩, ⟨by (with_reducible repeat (first | apply Kd.R_alloc | apply Kd.R_drewN | apply Kd.R_drew)); exact HO_13.out⟩, ⟨by (with_reducible repeat (first | refine blk_drewN ?_ _ | refine blk_drew ?_ | refine blk_alloc ?_ _)); exact BK104.out⟩, ⟨by (with_reducible repeat (first | refine blk_drewN ?_ _ | refine blk_drew ?_ | refine blk_alloc ?_ _)); exact BK130.out⟩, ⟨by repeat (first | (with_reducible first | exact HB.out | apply below_alloc | apply pw_below_drewN | apply below_drew1 | refine below_set ?_ GE104.out | refine below_set ?_ GE130.out) | exact HB.out)⟩⟩
                            case round => as_aux_lemma =>
                             clear H'
                             (try clear c1); (try clear p1); (try clear q1); (try clear hx1); (try clear c2); (try clear p2); (try clear c3); (try clear p3); (try clear q3); (try clear hx3); (try clear hf3); (try clear c4); (try clear c5); (try clear c6); (try clear c6b0); (try clear c6b1); (try clear p6); (try clear q6); (try clear c7); (try clear c7b0); (try clear c7b1); (try clear c8); (try clear p8); (try clear q8); (try clear hx8); (try clear hf8); (try clear c9); (try clear c9b0); (try clear c9b1); (try clear p9); (try clear q9); (try clear hx9); (try clear hf9); (try clear c10); (try clear c10b0); (try clear c10b1); (try clear p10); (try clear q10); (try clear hx10); (try clear hf10); (try clear c11); (try clear p11); (try clear q11); (try clear hx11); (try clear hf11); (try clear c12); (try clear p12); (try clear q12); (try clear hx12); (try clear hf12); (try clear c13); (try clear p13); (try clear q13); (try clear hx13); (try clear p14); (try clear q14); (try clear hx14); (try clear q15); (try clear q16); (try clear c19); (try clear c19b0); (try clear c19b1); (try clear c21); (try clear c21b0); (try clear c22); (try clear c23); (try clear c23b0); (try clear c23b1); (try clear c24); (try clear c24b0); (try clear c24b1); (try clear c25); (try clear c25b0); (try clear c25b1); (try clear c34); (try clear c34b0); (try clear c35); (try clear c35b0); (try clear c36); (try clear c36b0); (try clear p37); (try clear q37); (try clear hx37); (try clear hf37); (try clear c40); (try clear c40b0); (try clear c41); (try clear c41b0); (try clear c42); (try clear c42b0); (try clear c45); (try clear c47); (try clear c47b0); (try clear c48); (try clear c50); (try clear c50b0); (try clear c51); (try clear c53); (try clear c53b0); (try clear c54); (try clear c54b0); (try clear c55); (try clear c55b0); (try clear c55b1); (try clear c55b2); (try clear c56); (try clear c59); (try clear c59b0); (try clear q60); (try clear c61); (try clear c62); (try clear p64); (try clear c66); (try clear c66b0); (try clear c68); (try clear c68b0); (try clear c69); (try clear c69b0); (try clear c70); (try clear c74); (try clear c78); (try clear c80); (try clear c82); (try clear c82b0); (try clear c82b1); (try clear c83); (try clear c83b0); (try clear c84); (try clear c84b0); (try clear p85); (try clear q85); (try clear hx85); (try clear hf85); (try clear c86); (try clear c90); (try clear c90b0); (try clear c90b1); (try clear c91); (try clear c91b0); (try clear c92); (try clear c92b0); (try clear p93); (try clear q93); (try clear hx93); (try clear hf93); (try clear c94); (try clear c99); (try clear c99b0); (try clear c99b1); (try clear c100); (try clear c101); (try clear c101b0); (try clear c102); (try clear c102b0); (try clear p103); (try clear q103); (try clear hx103); (try clear hf103); (try clear c104); (try clear c109); (try clear c109b0); (try clear c109b1); (try clear c110); (try clear c110b0); (try clear c111); (try clear c111b0); (try clear p112); (try clear q112); (try clear hx112); (try clear hf112); (try clear c113); (try clear c119); (try clear c121); (try clear c121b0); (try clear c121b1); (try clear c122); (try clear c122b0); (try clear c123); (try clear c123b0); (try clear c124); (try clear c124b0); (try clear c124b1); (try clear p125); (try clear q125); (try clear hx125); (try clear hf125); (try clear c126); (try clear p129); (try clear q129); (try clear hx129); (try clear c131); (try clear p131); (try clear q131); (try clear hx131); (try clear p132); (try clear q132); (try clear hx132); (try clear p133); (try clear q133); (try clear hx133); (try clear hcz105_0); (try clear hcz105_1); (try clear hcz105_2); (try clear hcz105_3); (try clear hcz105_4); (try clear hcz114_0); (try clear hcz114_1); (try clear hcz114_2); (try clear hcz114_3); (try clear hcz114_4); (try clear hcz120_0); (try clear hcz120_1); (try clear hcz120_2); (try clear hcz120_3); (try clear hcz120_4); (try clear hcz127_0); (try clear hcz127_1); (try clear hcz127_2); (try clear hcz127_3); (try clear hcz127_4); (try clear hcz132_0); (try clear hcz132_1); (try clear hcz132_2); (try clear hcz132_3); (try clear hcz132_4); (try clear hcz17_0); (try clear hcz17_1); (try clear hcz17_2); (try clear hcz17_3); (try clear hcz17_4); (try clear hcz17_5); (try clear hcz17_6); (try clear hcz17_7); (try clear hcz17_8); (try clear hcz17_9); (try clear hcz46_0); (try clear hcz46_1); (try clear hcz46_2); (try clear hcz46_3); (try clear hcz46_4); (try clear hcz49_0); (try clear hcz49_1); (try clear hcz49_2); (try clear hcz49_3); (try clear hcz49_4); (try clear hcz52_0); (try clear hcz52_1); (try clear hcz52_2); (try clear hcz52_3); (try clear hcz52_4); (try clear hcz57_0); (try clear hcz57_1); (try clear hcz57_2); (try clear hcz57_3); (try clear hcz57_4); (try clear hcz63_0); (try clear hcz63_1); (try clear hcz63_2); (try clear hcz63_3); (try clear hcz63_4); (try clear hcz71_0); (try clear hcz71_1); (try clear hcz71_2); (try clear hcz71_3); (try clear hcz71_4); (try clear hcz75_0); (try clear hcz75_1); (try clear hcz75_2); (try clear hcz75_3); (try clear hcz75_4); (try clear hcz81_0); (try clear hcz81_1); (try clear hcz81_2); (try clear hcz81_3); (try clear hcz81_4); (try clear hcz87_0); (try clear hcz87_1); (try clear hcz87_2); (try clear hcz87_3); (try clear hcz87_4); (try clear hcz95_0); (try clear hcz95_1); (try clear hcz95_2); (try clear hcz95_3); (try clear hcz95_4); (try clear hfz105_0); (try clear hfz105_1); (try clear hfz105_2); (try clear hfz105_3); (try clear hfz105_4); (try clear hfz114_0); (try clear hfz114_1); (try clear hfz114_2); (try clear hfz114_3); (try clear hfz114_4); (try clear hfz120_0); (try clear hfz120_1); (try clear hfz120_2); (try clear hfz120_3); (try clear hfz120_4); (try clear hfz127_0); (try clear hfz127_1); (try clear hfz127_2); (try clear hfz127_3); (try clear hfz127_4); (try clear hfz132_0); (try clear hfz132_1); (try clear hfz132_2); (try clear hfz132_3); (try clear hfz132_4); (try clear hfz17_0); (try clear hfz17_1); (try clear hfz17_2); (try clear hfz17_3); (try clear hfz17_4); (try clear hfz17_5); (try clear hfz17_6); (try clear hfz17_7); (try clear hfz17_8); (try clear hfz17_9); (try clear hfz46_0); (try clear hfz46_1); (try clear hfz46_2); (try clear hfz46_3); (try clear hfz46_4); (try clear hfz49_0); (try clear hfz49_1); (try clear hfz49_2); (try clear hfz49_3); (try clear hfz49_4); (try clear hfz52_0); (try clear hfz52_1); (try clear hfz52_2); (try clear hfz52_3); (try clear hfz52_4); (try clear hfz57_0); (try clear hfz57_1); (try clear hfz57_2); (try clear hfz57_3); (try clear hfz57_4); (try clear hfz63_0); (try clear hfz63_1); (try clear hfz63_2); (try clear hfz63_3); (try clear hfz63_4); (try clear hfz71_0); (try clear hfz71_1); (try clear hfz71_2); (try clear hfz71_3); (try clear hfz71_4); (try clear hfz75_0); (try clear hfz75_1); (try clear hfz75_2); (try clear hfz75_3); (try clear hfz75_4); (try clear hfz81_0); (try clear hfz81_1); (try clear hfz81_2); (try clear hfz81_3); (try clear hfz81_4); (try clear hfz87_0); (try clear hfz87_1); (try clear hfz87_2); (try clear hfz87_3); (try clear hfz87_4); (try clear hfz95_0); (try clear hfz95_1); (try clear hfz95_2); (try clear hfz95_3); (try clear hfz95_4); (try clear hx103_0); (try clear hx112_0); (try clear hx125_0); (try clear hx129_0); (try clear hx129_1); (try clear hx129_2); (try clear hx129_3); (try clear hx129_4); (try clear hx131_0); (try clear hx132_0); (try clear hx133_0); (try clear hx133_1); (try clear hx133_2); (try clear hx133_3); (try clear hx133_4); (try clear hx136_0); (try clear hx138_0); (try clear hx140_0); (try clear hx37_0); (try clear hx85_0); (try clear hx93_0); (try clear p1); (try clear p10); (try clear p103); (try clear p11); (try clear p112); (try clear p12); (try clear p125); (try clear p129); (try clear p13); (try clear p131); (try clear p132); (try clear p133); (try clear p136); (try clear p138); (try clear p14); (try clear p140); (try clear p2); (try clear p3); (try clear p37); (try clear p6); (try clear p64); (try clear p8); (try clear p85); (try clear p9); (try clear p93); (try clear q1); (try clear q10); (try clear q103); (try clear q11); (try clear q112); (try clear q12); (try clear q125); (try clear q129); (try clear q13); (try clear q131); (try clear q132); (try clear q133); (try clear q136); (try clear q138); (try clear q14); (try clear q140); (try clear q15); (try clear q16); (try clear q3); (try clear q37); (try clear q6); (try clear q60); (try clear q8); (try clear q85); (try clear q9); (try clear q93)
                             obtain ⟨x17_8, x18_8, rfl, rfl, HA, HK8, HO_10, HO_11, HO_12, HO_13, BK104, BK130, HB⟩ := hrel
                             cases gk with
                             | zero => exact absurd HA.out (by simp [millwrightlaw19_TraceBounds.l2])
                             | succ k8 =>
                              have H := HA.out
                              clear HA
                              simp only [millwrightlaw19_TraceBounds.l2] at H
                              by_cases c134 : x18_8 < (y106.length : Int)
                              ·
                               rw [if_pos c134] at H
                               have c134b0 : decide (x18_8 < (y106.length : Int)) = true := decide_eq_true c134
                               clear c134
                               by_cases c135 : 0 ≤ x18_8
                               ·
                                rw [if_pos c135] at H
                                have c135b0 : decide (0 ≤ x18_8) = true := decide_eq_true c135
                                clear c135
                                by_cases c136 : x18_8 < (x10_117.length : Int)
                                ·
                                 rw [if_pos c136] at H
                                 have c136b0 : decide (x18_8 < (x10_117.length : Int)) = true := decide_eq_true c136
                                 clear c136
                                 by_cases c137 : (rd x10_117 x18_8) < 0
                                 ·
                                  rw [if_pos c137] at H
                                  have c137b0 : decide ((rd x10_117 x18_8) < 0) = true := decide_eq_true c137
                                  clear c137
                                  have H' := Aside0.mk H
                                  clear H
                                  obtain ⟨Ao138, co138, eo138⟩ := Kd.R_slice HO_10.out
                                  subst eo138
                                  have p144 : 0 ≤ (x18_8 : Int) := of_decide_eq_true (by first | (with_reducible assumption) | assumption)
                                  have q144 : x18_8 < (x10_117.length : Int) := of_decide_eq_true (by first | (with_reducible assumption) | assumption)
                                  obtain ⟨ad144, e144, hx144_0⟩ := Kd.at_int (Kd.R_reads' HO_10.out).2.2 x18_8 p144 q144
                                  cases e144
                                  replace p144 := eq_true p144
                                  replace q144 := eq_true q144
                                  go_wp2
                                  repeat (go_quiet (fail); try go_wp2)
                                  go_roundg k8
                                  case measure => have := HJ11.out; have := HJ19.out; have := HK3.out; have := HK4.out; have := HJ42.out; have := HJ78.out; have := HJ117.out; have := HK8.out; omega
                                  case rel => exact ⟨(x17_8), (wrap64 (x18_8 + 1)), (by first | rfl | (simp; done) | (simp [*]; done)), (by first | rfl | (simp; done) | (simp [*]; done)), H', ⟨by have := HJ11.out; have := HJ19.out; have := HK3.out; have := HK4.out; have := HJ42.out; have := HJ78.out; have := HJ117.out; have := HK8.out; omega⟩, ⟨by (with_reducible repeat (first | apply Kd.R_alloc | apply Kd.R_drewN | apply Kd.R_drew)); exact HO_10.out⟩, ⟨by (with_reducible repeat (first | apply Kd.R_alloc | apply Kd.R_drewN | apply Kd.R_drew)); exact HO_11.out⟩, ⟨by (with_reducible repeat (first | apply Kd.R_alloc | apply Kd.R_drewN | apply Kd.R_drew)); exact HO_12.out⟩, ⟨by (with_reducible repeat (first | apply Kd.R_alloc | apply Kd.R_drewN | apply Kd.R_drew)); exact HO_13.out⟩, ⟨by (with_reducible repeat (first | refine blk_drewN ?_ _ | refine blk_drew ?_ | refine blk_alloc ?_ _)); exact BK104.out⟩, ⟨by (with_reducible repeat (first | refine blk_drewN ?_ _ | refine blk_drew ?_ | refine blk_alloc ?_ _)); exact BK130.out⟩, ⟨by repeat (first | (with_reducible first | exact HB.out | apply below_alloc | apply pw_below_drewN | apply below_drew1 | refine below_set ?_ GE104.out | refine below_set ?_ GE130.out) | exact HB.out)⟩⟩
                                 ·
                                  rw [if_neg c137] at H
                                  have c137b0 : decide ((rd x10_117 x18_8) < 0) = false := decide_eq_false c137
                                  clear c137
                                  obtain ⟨ji139, hji139⟩ : ∃ j_ : Int, (mx ((rd_T50 y106 x18_8).f0) 0) = j_ := ⟨_, rfl⟩
                                  replace H : ((millwrightref01_Add.f x17_8 (ji139)).bind fun bt146 => (if bt146.2 = true then (millwrightlaw19_TraceBounds.j9 k8 y106 y110 t105 x8_11 x10_117 x11_78 x12_78 x13_78 x15_4 x18_8 bt146.1 (decide ((rd x10_117 x18_8) ≥ a0_1)) a0_0 a0_1 a0_2 a0_3 a0_4 a0_5 a0_6 a0_7 a0_8 a0_9 ((rd_T42 y110 x15_4).f0) ((rd_T42 y110 x15_4).f1) ((rd_T42 y110 x15_4).f2) ((rd_T42 y110 x15_4).f3) ((rd_T42 y110 x15_4).f4)) else (millwrightlaw19_TraceBounds.j9 k8 y106 y110 t105 x8_11 x10_117 x11_78 x12_78 x13_78 x15_4 x18_8 bt146.1 true a0_0 a0_1 a0_2 a0_3 a0_4 a0_5 a0_6 a0_7 a0_8 a0_9 ((rd_T42 y110 x15_4).f0) ((rd_T42 y110 x15_4).f1) ((rd_T42 y110 x15_4).f2) ((rd_T42 y110 x15_4).f3) ((rd_T42 y110 x15_4).f4)))) = some r := by first | (rw [hji139] at H; exact H) | (simp only [hji139] at H ⊢; exact H)
                                  have hji139_ : (if ((rd_T50 y106 x18_8).f0) < 0 then 0 else ((rd_T50 y106 x18_8).f0)) = ji139 := hji139
                                  replace H := Option.bind_eq_some_iff.mp H
                                  obtain ⟨⟨t146, t147⟩, A1400, H⟩ := H
                                  replace H : (if t147 = true then (millwrightlaw19_TraceBounds.j9 k8 y106 y110 t105 x8_11 x10_117 x11_78 x12_78 x13_78 x15_4 x18_8 t146 (decide ((rd x10_117 x18_8) ≥ a0_1)) a0_0 a0_1 a0_2 a0_3 a0_4 a0_5 a0_6 a0_7 a0_8 a0_9 ((rd_T42 y110 x15_4).f0) ((rd_T42 y110 x15_4).f1) ((rd_T42 y110 x15_4).f2) ((rd_T42 y110 x15_4).f3) ((rd_T42 y110 x15_4).f4)) else (millwrightlaw19_TraceBounds.j9 k8 y106 y110 t105 x8_11 x10_117 x11_78 x12_78 x13_78 x15_4 x18_8 t146 true a0_0 a0_1 a0_2 a0_3 a0_4 a0_5 a0_6 a0_7 a0_8 a0_9 ((rd_T42 y110 x15_4).f0) ((rd_T42 y110 x15_4).f1) ((rd_T42 y110 x15_4).f2) ((rd_T42 y110 x15_4).f3) ((rd_T42 y110 x15_4).f4))) = some r := H
                                  have A140 := Aside0.mk A1400
                                  clear A1400
                                  have HC141 := Aside0.mk H
                                  clear H
                                  obtain ⟨Ao142, co142, eo142⟩ := Kd.R_slice HO_10.out
                                  subst eo142
                                  have p144 : 0 ≤ (x18_8 : Int) := of_decide_eq_true (by first | (with_reducible assumption) | assumption)
                                  have q144 : x18_8 < (x10_117.length : Int) := of_decide_eq_true (by first | (with_reducible assumption) | assumption)
                                  obtain ⟨ad144, e144, hx144_0⟩ := Kd.at_int (Kd.R_reads' HO_10.out).2.2 x18_8 p144 q144
                                  cases e144
                                  replace p144 := eq_true p144
                                  replace q144 := eq_true q144
                                  have p145 : 0 ≤ (x18_8 : Int) := of_decide_eq_true (by first | (with_reducible assumption) | assumption)
                                  have q145 : x18_8 < (y106.length : Int) := of_decide_eq_true (by first | (with_reducible assumption) | assumption)
                                  obtain ⟨ad145, e145, hx145_0, hx145_1⟩ := at_T50 HR109.out x18_8 p145 q145
                                  cases e145
                                  replace hx145_0 := (HB.out.cell (World.block_lt_of_cell? w _ hx145_0)).trans hx145_0
                                  replace hx145_1 := (HB.out.cell (World.block_lt_of_cell? w _ hx145_1)).trans hx145_1
                                  replace p145 := eq_true p145
                                  replace q145 := eq_true q145
                                  go_upto_region 43 with (first | (go_at_call 22; (with_reducible refine (millwrightref01_Add.calls x17_8 ji139 t146 t147 _ A140.out).mono ?_); rintro e w' ⟨rfl, ⟨nd, rfl⟩⟩; (try first | exact ⟨rfl, _, World.drewN_drewN _ _ _⟩ | exact ⟨rfl, _, Eq.trans (World.drewN_drewN _ _ _) (congrArg (World.drewN _) (Nat.add_assoc _ _ _))⟩)))
                                  repeat (go_quiet (fail); try go_wp2)
                                  (try simp only [Act.put, List.setIfInBounds_toArray, List.set_cons_zero, List.set_cons_succ])
                                  go_cut [208] (fun v208 wc => ∃ (kq : Nat) (x208_140 : Bool), v208 = .bool x208_140 ∧ Aside0 (millwrightlaw19_TraceBounds.j9 kq y106 y110 t105 x8_11 x10_117 x11_78 x12_78 x13_78 x15_4 x18_8 t146 x208_140 a0_0 a0_1 a0_2 a0_3 a0_4 a0_5 a0_6 a0_7 a0_8 a0_9 ((rd_T42 y110 x15_4).f0) ((rd_T42 y110 x15_4).f1) ((rd_T42 y110 x15_4).f2) ((rd_T42 y110 x15_4).f3) ((rd_T42 y110 x15_4).f4) = some r) ∧ Aside0 (kq ≤ k8) ∧ Aside0 (Kd.R (Kd.int .i64) 3 wc w.heap.size (fun k_ => some k_ ≠ (v120 : Value).ownBlock ∧ some k_ ≠ (v123 : Value).ownBlock) (.slice (some ad144) x10_117.length co142) x10_117) ∧ Aside0 (Kd.R (Kd.int .i64) 3 wc w.heap.size (fun k_ => some k_ ≠ ((.slice (some ad144) x10_117.length co142) : Value).ownBlock ∧ some k_ ≠ (v123 : Value).ownBlock) v120 x11_78) ∧ Aside0 (Kd.R (Kd.int .i64) 3 wc w.heap.size (fun k_ => some k_ ≠ ((.slice (some ad144) x10_117.length co142) : Value).ownBlock ∧ some k_ ≠ (v120 : Value).ownBlock) v123 x12_78) ∧ Aside0 (Kd.R Kd.bool 4 wc w.heap.size (fun _ => True) v126 x13_78) ∧ Aside0 (wc.heap[gb104]? = some (.cells #[.int .i64 a0_0, .int .i64 a0_1, .int .i64 a0_2, .int .i64 a0_3, .int .i64 a0_4, .int .i64 a0_5, .int .i64 a0_6, .int .i64 a0_7, .int .i64 a0_8, .int .i64 a0_9] 23 (0, 0))) ∧ Aside0 (wc.heap[gb130]? = some (.cells #[.int .i64 ((rd_T42 y110 x15_4).f0), .int .i64 ((rd_T42 y110 x15_4).f1), .int .i64 ((rd_T42 y110 x15_4).f2), .int .i64 ((rd_T42 y110 x15_4).f3), .int .i64 ((rd_T42 y110 x15_4).f4)] 42 (0, 0))) ∧ Aside0 (Below w.heap.size w wc))
                                  case first => as_aux_lemma =>
                                   have H := HC141.out
                                   clear HC141
                                   by_cases c143 : t147 = true
                                   ·
                                    subst c143
                                    have H1 : (millwrightlaw19_TraceBounds.j9 k8 y106 y110 t105 x8_11 x10_117 x11_78 x12_78 x13_78 x15_4 x18_8 t146 (decide ((rd x10_117 x18_8) ≥ a0_1)) a0_0 a0_1 a0_2 a0_3 a0_4 a0_5 a0_6 a0_7 a0_8 a0_9 ((rd_T42 y110 x15_4).f0) ((rd_T42 y110 x15_4).f1) ((rd_T42 y110 x15_4).f2) ((rd_T42 y110 x15_4).f3) ((rd_T42 y110 x15_4).f4)) = some r := by rw [if_pos rfl] at H; exact H
                                    clear H
                                    have H := H1
                                    clear H1
                                    have H' := Aside0.mk H
                                    clear H
                                    have p148 : 0 ≤ (x18_8 : Int) := of_decide_eq_true (by first | (with_reducible assumption) | assumption)
                                    have q148 : x18_8 < (x10_117.length : Int) := of_decide_eq_true (by first | (with_reducible assumption) | assumption)
                                    obtain ⟨ad148, e148, hx148_0⟩ := Kd.at_int (Kd.R_reads' HO_10.out).2.2 x18_8 p148 q148
                                    obtain rfl : ad144 = ad148 := (by injection e148)
                                    replace p148 := eq_true p148
                                    replace q148 := eq_true q148
                                    have hnb144 := NB104_130.out
                                    have hnc144 := NB130_104.out
                                    have hcz145_0 : wr.cell? ⟨gb104, 0, none⟩ = some (.int .i64 a0_0) := (blk_cell BK104.out 0).trans rfl
                                    have hcz145_1 : wr.cell? ⟨gb104, 1, none⟩ = some (.int .i64 a0_1) := (blk_cell BK104.out 1).trans rfl
                                    have hcz145_2 : wr.cell? ⟨gb104, 2, none⟩ = some (.int .i64 a0_2) := (blk_cell BK104.out 2).trans rfl
                                    have hcz145_3 : wr.cell? ⟨gb104, 3, none⟩ = some (.int .i64 a0_3) := (blk_cell BK104.out 3).trans rfl
                                    have hcz145_4 : wr.cell? ⟨gb104, 4, none⟩ = some (.int .i64 a0_4) := (blk_cell BK104.out 4).trans rfl
                                    have hcz145_5 : wr.cell? ⟨gb104, 5, none⟩ = some (.int .i64 a0_5) := (blk_cell BK104.out 5).trans rfl
                                    have hcz145_6 : wr.cell? ⟨gb104, 6, none⟩ = some (.int .i64 a0_6) := (blk_cell BK104.out 6).trans rfl
                                    have hcz145_7 : wr.cell? ⟨gb104, 7, none⟩ = some (.int .i64 a0_7) := (blk_cell BK104.out 7).trans rfl
                                    have hcz145_8 : wr.cell? ⟨gb104, 8, none⟩ = some (.int .i64 a0_8) := (blk_cell BK104.out 8).trans rfl
                                    have hcz145_9 : wr.cell? ⟨gb104, 9, none⟩ = some (.int .i64 a0_9) := (blk_cell BK104.out 9).trans rfl
                                    have hfz145_0 := blk_frozen BK104.out 0
                                    have hfz145_1 := blk_frozen BK104.out 1
                                    have hfz145_2 := blk_frozen BK104.out 2
                                    have hfz145_3 := blk_frozen BK104.out 3
                                    have hfz145_4 := blk_frozen BK104.out 4
                                    have hfz145_5 := blk_frozen BK104.out 5
                                    have hfz145_6 := blk_frozen BK104.out 6
                                    have hfz145_7 := blk_frozen BK104.out 7
                                    have hfz145_8 := blk_frozen BK104.out 8
                                    have hfz145_9 := blk_frozen BK104.out 9
                                    go_wp2
                                    repeat (go_quiet (fail); try go_wp2)
                                    go_meet
                                    case rel => exact ⟨_, (decide ((rd x10_117 x18_8) ≥ a0_1)), (by first | rfl | (simp; done) | (simp [*]; done)), H', ⟨by have := HJ11.out; have := HJ19.out; have := HK3.out; have := HK4.out; have := HJ42.out; have := HJ78.out; have := HJ117.out; have := HK8.out; first | omega | exact Nat.le_refl _⟩, ⟨by (with_reducible repeat (first | apply Kd.R_alloc | apply Kd.R_drewN | apply Kd.R_drew)); exact HO_10.out⟩, ⟨by (with_reducible repeat (first | apply Kd.R_alloc | apply Kd.R_drewN | apply Kd.R_drew)); exact HO_11.out⟩, ⟨by (with_reducible repeat (first | apply Kd.R_alloc | apply Kd.R_drewN | apply Kd.R_drew)); exact HO_12.out⟩, ⟨by (with_reducible repeat (first | apply Kd.R_alloc | apply Kd.R_drewN | apply Kd.R_drew)); exact HO_13.out⟩, ⟨by (with_reducible repeat (first | refine blk_drewN ?_ _ | refine blk_drew ?_ | refine blk_alloc ?_ _)); exact BK104.out⟩, ⟨by (with_reducible repeat (first | refine blk_drewN ?_ _ | refine blk_drew ?_ | refine blk_alloc ?_ _)); exact BK130.out⟩, ⟨by repeat (first | (with_reducible first | exact HB.out | apply below_alloc | apply pw_below_drewN | apply below_drew1 | refine below_set ?_ GE104.out | refine below_set ?_ GE130.out) | exact HB.out)⟩⟩
                                   ·
                                    replace c143 := Bool.eq_false_iff.mpr c143
                                    subst c143
                                    have H1 : (millwrightlaw19_TraceBounds.j9 k8 y106 y110 t105 x8_11 x10_117 x11_78 x12_78 x13_78 x15_4 x18_8 t146 true a0_0 a0_1 a0_2 a0_3 a0_4 a0_5 a0_6 a0_7 a0_8 a0_9 ((rd_T42 y110 x15_4).f0) ((rd_T42 y110 x15_4).f1) ((rd_T42 y110 x15_4).f2) ((rd_T42 y110 x15_4).f3) ((rd_T42 y110 x15_4).f4)) = some r := by rw [if_neg (show ¬ (false = true) by decide)] at H; exact H
                                    clear H
                                    have H := H1
                                    clear H1
                                    have H' := Aside0.mk H
                                    clear H
                                    go_wp2
                                    repeat (go_quiet (fail); try go_wp2)
                                    go_meet
                                    case rel => exact ⟨_, (true), (by first | rfl | (simp; done) | (simp [*]; done)), H', ⟨by have := HJ11.out; have := HJ19.out; have := HK3.out; have := HK4.out; have := HJ42.out; have := HJ78.out; have := HJ117.out; have := HK8.out; first | omega | exact Nat.le_refl _⟩, ⟨by (with_reducible repeat (first | apply Kd.R_alloc | apply Kd.R_drewN | apply Kd.R_drew)); exact HO_10.out⟩, ⟨by (with_reducible repeat (first | apply Kd.R_alloc | apply Kd.R_drewN | apply Kd.R_drew)); exact HO_11.out⟩, ⟨by (with_reducible repeat (first | apply Kd.R_alloc | apply Kd.R_drewN | apply Kd.R_drew)); exact HO_12.out⟩, ⟨by (with_reducible repeat (first | apply Kd.R_alloc | apply Kd.R_drewN | apply Kd.R_drew)); exact HO_13.out⟩, ⟨by (with_reducible repeat (first | refine blk_drewN ?_ _ | refine blk_drew ?_ | refine blk_alloc ?_ _)); exact BK104.out⟩, ⟨by (with_reducible repeat (first | refine blk_drewN ?_ _ | refine blk_drew ?_ | refine blk_alloc ?_ _)); exact BK130.out⟩, ⟨by repeat (first | (with_reducible first | exact HB.out | apply below_alloc | apply pw_below_drewN | apply below_drew1 | refine below_set ?_ GE104.out | refine below_set ?_ GE130.out) | exact HB.out)⟩⟩
                                  case rest => as_aux_lemma =>
                                   clear HC141
                                   (try clear c1); (try clear p1); (try clear q1); (try clear hx1); (try clear c2); (try clear p2); (try clear c3); (try clear p3); (try clear q3); (try clear hx3); (try clear hf3); (try clear c4); (try clear c5); (try clear c6); (try clear c6b0); (try clear c6b1); (try clear p6); (try clear q6); (try clear c7); (try clear c7b0); (try clear c7b1); (try clear c8); (try clear p8); (try clear q8); (try clear hx8); (try clear hf8); (try clear c9); (try clear c9b0); (try clear c9b1); (try clear p9); (try clear q9); (try clear hx9); (try clear hf9); (try clear c10); (try clear c10b0); (try clear c10b1); (try clear p10); (try clear q10); (try clear hx10); (try clear hf10); (try clear c11); (try clear p11); (try clear q11); (try clear hx11); (try clear hf11); (try clear c12); (try clear p12); (try clear q12); (try clear hx12); (try clear hf12); (try clear c13); (try clear p13); (try clear q13); (try clear hx13); (try clear c14); (try clear p14); (try clear q14); (try clear hx14); (try clear q15); (try clear q16); (try clear c19); (try clear c19b0); (try clear c19b1); (try clear c21); (try clear c21b0); (try clear c22); (try clear c23); (try clear c23b0); (try clear c23b1); (try clear c24); (try clear c24b0); (try clear c24b1); (try clear c25); (try clear c25b0); (try clear c25b1); (try clear c34); (try clear c34b0); (try clear c35); (try clear c35b0); (try clear c36); (try clear c36b0); (try clear p37); (try clear q37); (try clear hx37); (try clear hf37); (try clear c40); (try clear c40b0); (try clear c41); (try clear c41b0); (try clear c42); (try clear c42b0); (try clear c45); (try clear c47); (try clear c47b0); (try clear c48); (try clear c50); (try clear c50b0); (try clear c51); (try clear c53); (try clear c53b0); (try clear c54); (try clear c54b0); (try clear c55); (try clear c55b0); (try clear c55b1); (try clear c55b2); (try clear c56); (try clear c59); (try clear c59b0); (try clear q60); (try clear c61); (try clear c62); (try clear p64); (try clear c66); (try clear c66b0); (try clear c68); (try clear c68b0); (try clear c69); (try clear c69b0); (try clear c70); (try clear c74); (try clear c78); (try clear c80); (try clear c82); (try clear c82b0); (try clear c82b1); (try clear c83); (try clear c83b0); (try clear c84); (try clear c84b0); (try clear p85); (try clear q85); (try clear hx85); (try clear hf85); (try clear c86); (try clear c90); (try clear c90b0); (try clear c90b1); (try clear c91); (try clear c91b0); (try clear c92); (try clear c92b0); (try clear p93); (try clear q93); (try clear hx93); (try clear hf93); (try clear c94); (try clear c99); (try clear c99b0); (try clear c99b1); (try clear c100); (try clear c101); (try clear c101b0); (try clear c102); (try clear c102b0); (try clear p103); (try clear q103); (try clear hx103); (try clear hf103); (try clear c104); (try clear c109); (try clear c109b0); (try clear c109b1); (try clear c110); (try clear c110b0); (try clear c111); (try clear c111b0); (try clear p112); (try clear q112); (try clear hx112); (try clear hf112); (try clear c113); (try clear c119); (try clear c121); (try clear c121b0); (try clear c121b1); (try clear c122); (try clear c122b0); (try clear c123); (try clear c123b0); (try clear c124); (try clear c124b0); (try clear c124b1); (try clear p125); (try clear q125); (try clear hx125); (try clear hf125); (try clear c126); (try clear p129); (try clear q129); (try clear hx129); (try clear c131); (try clear p131); (try clear q131); (try clear hx131); (try clear p132); (try clear q132); (try clear hx132); (try clear p133); (try clear q133); (try clear hx133); (try clear c134); (try clear c134b0); (try clear c135); (try clear c135b0); (try clear c136); (try clear c136b0); (try clear p136); (try clear q136); (try clear hx136); (try clear c137); (try clear c137b0); (try clear p138); (try clear q138); (try clear hx138); (try clear p140); (try clear q140); (try clear hx140); (try clear c143); (try clear c144); (try clear p144); (try clear q144); (try clear hx144); (try clear p145); (try clear q145); (try clear hx145); (try clear hcz105_0); (try clear hcz105_1); (try clear hcz105_2); (try clear hcz105_3); (try clear hcz105_4); (try clear hcz114_0); (try clear hcz114_1); (try clear hcz114_2); (try clear hcz114_3); (try clear hcz114_4); (try clear hcz120_0); (try clear hcz120_1); (try clear hcz120_2); (try clear hcz120_3); (try clear hcz120_4); (try clear hcz127_0); (try clear hcz127_1); (try clear hcz127_2); (try clear hcz127_3); (try clear hcz127_4); (try clear hcz132_0); (try clear hcz132_1); (try clear hcz132_2); (try clear hcz132_3); (try clear hcz132_4); (try clear hcz145_0); (try clear hcz145_1); (try clear hcz145_2); (try clear hcz145_3); (try clear hcz145_4); (try clear hcz145_5); (try clear hcz145_6); (try clear hcz145_7); (try clear hcz145_8); (try clear hcz145_9); (try clear hcz17_0); (try clear hcz17_1); (try clear hcz17_2); (try clear hcz17_3); (try clear hcz17_4); (try clear hcz17_5); (try clear hcz17_6); (try clear hcz17_7); (try clear hcz17_8); (try clear hcz17_9); (try clear hcz46_0); (try clear hcz46_1); (try clear hcz46_2); (try clear hcz46_3); (try clear hcz46_4); (try clear hcz49_0); (try clear hcz49_1); (try clear hcz49_2); (try clear hcz49_3); (try clear hcz49_4); (try clear hcz52_0); (try clear hcz52_1); (try clear hcz52_2); (try clear hcz52_3); (try clear hcz52_4); (try clear hcz57_0); (try clear hcz57_1); (try clear hcz57_2); (try clear hcz57_3); (try clear hcz57_4); (try clear hcz63_0); (try clear hcz63_1); (try clear hcz63_2); (try clear hcz63_3); (try clear hcz63_4); (try clear hcz71_0); (try clear hcz71_1); (try clear hcz71_2); (try clear hcz71_3); (try clear hcz71_4); (try clear hcz75_0); (try clear hcz75_1); (try clear hcz75_2); (try clear hcz75_3); (try clear hcz75_4); (try clear hcz81_0); (try clear hcz81_1); (try clear hcz81_2); (try clear hcz81_3); (try clear hcz81_4); (try clear hcz87_0); (try clear hcz87_1); (try clear hcz87_2); (try clear hcz87_3); (try clear hcz87_4); (try clear hcz95_0); (try clear hcz95_1); (try clear hcz95_2); (try clear hcz95_3); (try clear hcz95_4); (try clear hfz105_0); (try clear hfz105_1); (try clear hfz105_2); (try clear hfz105_3); (try clear hfz105_4); (try clear hfz114_0); (try clear hfz114_1); (try clear hfz114_2); (try clear hfz114_3); (try clear hfz114_4); (try clear hfz120_0); (try clear hfz120_1); (try clear hfz120_2); (try clear hfz120_3); (try clear hfz120_4); (try clear hfz127_0); (try clear hfz127_1); (try clear hfz127_2); (try clear hfz127_3); (try clear hfz127_4); (try clear hfz132_0); (try clear hfz132_1); (try clear hfz132_2); (try clear hfz132_3); (try clear hfz132_4); (try clear hfz145_0); (try clear hfz145_1); (try clear hfz145_2); (try clear hfz145_3); (try clear hfz145_4); (try clear hfz145_5); (try clear hfz145_6); (try clear hfz145_7); (try clear hfz145_8); (try clear hfz145_9); (try clear hfz17_0); (try clear hfz17_1); (try clear hfz17_2); (try clear hfz17_3); (try clear hfz17_4); (try clear hfz17_5); (try clear hfz17_6); (try clear hfz17_7); (try clear hfz17_8); (try clear hfz17_9); (try clear hfz46_0); (try clear hfz46_1); (try clear hfz46_2); (try clear hfz46_3); (try clear hfz46_4); (try clear hfz49_0); (try clear hfz49_1); (try clear hfz49_2); (try clear hfz49_3); (try clear hfz49_4); (try clear hfz52_0); (try clear hfz52_1); (try clear hfz52_2); (try clear hfz52_3); (try clear hfz52_4); (try clear hfz57_0); (try clear hfz57_1); (try clear hfz57_2); (try clear hfz57_3); (try clear hfz57_4); (try clear hfz63_0); (try clear hfz63_1); (try clear hfz63_2); (try clear hfz63_3); (try clear hfz63_4); (try clear hfz71_0); (try clear hfz71_1); (try clear hfz71_2); (try clear hfz71_3); (try clear hfz71_4); (try clear hfz75_0); (try clear hfz75_1); (try clear hfz75_2); (try clear hfz75_3); (try clear hfz75_4); (try clear hfz81_0); (try clear hfz81_1); (try clear hfz81_2); (try clear hfz81_3); (try clear hfz81_4); (try clear hfz87_0); (try clear hfz87_1); (try clear hfz87_2); (try clear hfz87_3); (try clear hfz87_4); (try clear hfz95_0); (try clear hfz95_1); (try clear hfz95_2); (try clear hfz95_3); (try clear hfz95_4); (try clear hx103_0); (try clear hx112_0); (try clear hx125_0); (try clear hx129_0); (try clear hx129_1); (try clear hx129_2); (try clear hx129_3); (try clear hx129_4); (try clear hx131_0); (try clear hx132_0); (try clear hx133_0); (try clear hx133_1); (try clear hx133_2); (try clear hx133_3); (try clear hx133_4); (try clear hx136_0); (try clear hx138_0); (try clear hx140_0); (try clear hx144_0); (try clear hx145_0); (try clear hx145_1); (try clear hx148_0); (try clear hx37_0); (try clear hx85_0); (try clear hx93_0); (try clear p1); (try clear p10); (try clear p103); (try clear p11); (try clear p112); (try clear p12); (try clear p125); (try clear p129); (try clear p13); (try clear p131); (try clear p132); (try clear p133); (try clear p136); (try clear p138); (try clear p14); (try clear p140); (try clear p144); (try clear p145); (try clear p148); (try clear p2); (try clear p3); (try clear p37); (try clear p6); (try clear p64); (try clear p8); (try clear p85); (try clear p9); (try clear p93); (try clear q1); (try clear q10); (try clear q103); (try clear q11); (try clear q112); (try clear q12); (try clear q125); (try clear q129); (try clear q13); (try clear q131); (try clear q132); (try clear q133); (try clear q136); (try clear q138); (try clear q14); (try clear q140); (try clear q144); (try clear q145); (try clear q148); (try clear q15); (try clear q16); (try clear q3); (try clear q37); (try clear q6); (try clear q60); (try clear q8); (try clear q85); (try clear q9); (try clear q93)
                                   obtain ⟨kq, x208_140, rfl, HA, HJ140, HO_10, HO_11, HO_12, HO_13, BK104, BK130, HB⟩ := hcut
                                   cases kq with
                                   | zero => exact absurd HA.out (by simp [millwrightlaw19_TraceBounds.j9])
                                   | succ kj140 =>
                                    have H := HA.out
                                    clear HA
                                    simp only [millwrightlaw19_TraceBounds.j9] at H
                                    by_cases c146 : x208_140 = true
                                    ·
                                     subst c146
                                     have H1 : (some false) = some r := by rw [if_pos rfl] at H; exact H
                                     clear H
                                     have H := H1
                                     clear H1
                                     obtain rfl := Option.some.inj H
                                     go_wp2
                                     repeat (go_quiet (fail); try go_wp2)
                                     go_ret
                                     exact ⟨by first | rfl | (simp [errW_none, errW_some] <;> rfl) | (simp only [← hji5, ← hji8, ← hji139]; first | rfl | (simp [errW_none, errW_some] <;> rfl)) | (simp [*, errW_none, errW_some] <;> rfl), by repeat (first | (with_reducible first | exact HB.out | apply below_alloc | apply pw_below_drewN | apply below_drew1 | refine below_set ?_ GE104.out | refine below_set ?_ GE130.out) | exact HB.out)⟩
                                    ·
                                     replace c146 := Bool.eq_false_iff.mpr c146
                                     subst c146
                                     have H1 : (millwrightlaw19_TraceBounds.l3 kj140 y106 y110 t105 x8_11 x10_117 x11_78 x12_78 x13_78 x15_4 t146 x18_8 0 a0_0 a0_1 a0_2 a0_3 a0_4 a0_5 a0_6 a0_7 a0_8 a0_9 ((rd_T42 y110 x15_4).f0) ((rd_T42 y110 x15_4).f1) ((rd_T42 y110 x15_4).f2) ((rd_T42 y110 x15_4).f3) ((rd_T42 y110 x15_4).f4)) = some r := by rw [if_neg (show ¬ (false = true) by decide)] at H; exact H
                                     clear H
                                     have H := H1
                                     clear H1
                                     have H' := Aside0.mk H
                                     clear H
                                     go_wp2
                                     repeat (go_quiet (fail); try go_wp2)
                                     go_loopg [21] kj140 (fun kq v21 w' => ∃ (x21_10 : Int), v21 = .int .i64 x21_10 ∧ Aside0 (millwrightlaw19_TraceBounds.l3 kq y106 y110 t105 x8_11 x10_117 x11_78 x12_78 x13_78 x15_4 t146 x18_8 x21_10 a0_0 a0_1 a0_2 a0_3 a0_4 a0_5 a0_6 a0_7 a0_8 a0_9 ((rd_T42 y110 x15_4).f0) ((rd_T42 y110 x15_4).f1) ((rd_T42 y110 x15_4).f2) ((rd_T42 y110 x15_4).f3) ((rd_T42 y110 x15_4).f4) = some r) ∧ Aside0 (kq ≤ kj140) ∧ Aside0 (Kd.R (Kd.int .i64) 3 w' w.heap.size (fun k_ => some k_ ≠ (v120 : Value).ownBlock ∧ some k_ ≠ (v123 : Value).ownBlock) (.slice (some ad144) x10_117.length co142) x10_117) ∧ Aside0 (Kd.R (Kd.int .i64) 3 w' w.heap.size (fun k_ => some k_ ≠ ((.slice (some ad144) x10_117.length co142) : Value).ownBlock ∧ some k_ ≠ (v123 : Value).ownBlock) v120 x11_78) ∧ Aside0 (Kd.R (Kd.int .i64) 3 w' w.heap.size (fun k_ => some k_ ≠ ((.slice (some ad144) x10_117.length co142) : Value).ownBlock ∧ some k_ ≠ (v120 : Value).ownBlock) v123 x12_78) ∧ Aside0 (Kd.R Kd.bool 4 w' w.heap.size (fun _ => True) v126 x13_78) ∧ Aside0 (w'.heap[gb104]? = some (.cells #[.int .i64 a0_0, .int .i64 a0_1, .int .i64 a0_2, .int .i64 a0_3, .int .i64 a0_4, .int .i64 a0_5, .int .i64 a0_6, .int .i64 a0_7, .int .i64 a0_8, .int .i64 a0_9] 23 (0, 0))) ∧ Aside0 (w'.heap[gb130]? = some (.cells #[.int .i64 ((rd_T42 y110 x15_4).f0), .int .i64 ((rd_T42 y110 x15_4).f1), .int .i64 ((rd_T42 y110 x15_4).f2), .int .i64 ((rd_T42 y110 x15_4).f3), .int .i64 ((rd_T42 y110 x15_4).f4)] 42 (0, 0))) ∧ Aside0 (Below w.heap.size w w'))
                                     case atStart => exact ⟨(0), (by first | rfl | (simp; done) | (simp [*]; done)), H', ⟨Nat.le_refl _⟩, ⟨by (with_reducible repeat (first | apply Kd.R_alloc | apply Kd.R_drewN | apply Kd.R_drew)); exact HO_10.out⟩, ⟨by (with_reducible repeat (first | apply Kd.R_alloc | apply Kd.R_drewN | apply Kd.R_drew)); exact HO_11.out⟩, ⟨by (with_reducible repeat (first | apply Kd.R_alloc | apply Kd.R_drewN | apply Kd.R_drew)); exact HO_12.out⟩, ⟨by (with_reducible repeat (first | apply Kd.R_alloc | apply Kd.R_drewN | apply Kd.R_drew)); exact HO_13.out⟩, ⟨by (with_reducible repeat (first | refine blk_drewN ?_ _ | refine blk_drew ?_ | refine blk_alloc ?_ _)); exact BK104.out⟩, ⟨by (with_reducible repeat (first | refine blk_drewN ?_ _ | refine blk_drew ?_ | refine blk_alloc ?_ _)); exact BK130.out⟩, ⟨by repeat (first | (with_reducible first | exact HB.out | apply below_alloc | apply pw_below_drewN | apply below_drew1 | refine below_set ?_ GE104.out | refine below_set ?_ GE130.out) | exact HB.out)⟩⟩
                                     case round => as_aux_lemma =>
                                      clear H'
                                      (try clear c1); (try clear p1); (try clear q1); (try clear hx1); (try clear c2); (try clear p2); (try clear c3); (try clear p3); (try clear q3); (try clear hx3); (try clear hf3); (try clear c4); (try clear c5); (try clear c6); (try clear c6b0); (try clear c6b1); (try clear p6); (try clear q6); (try clear c7); (try clear c7b0); (try clear c7b1); (try clear c8); (try clear p8); (try clear q8); (try clear hx8); (try clear hf8); (try clear c9); (try clear c9b0); (try clear c9b1); (try clear p9); (try clear q9); (try clear hx9); (try clear hf9); (try clear c10); (try clear c10b0); (try clear c10b1); (try clear p10); (try clear q10); (try clear hx10); (try clear hf10); (try clear c11); (try clear p11); (try clear q11); (try clear hx11); (try clear hf11); (try clear c12); (try clear p12); (try clear q12); (try clear hx12); (try clear hf12); (try clear c13); (try clear p13); (try clear q13); (try clear hx13); (try clear c14); (try clear p14); (try clear q14); (try clear hx14); (try clear q15); (try clear q16); (try clear c19); (try clear c19b0); (try clear c19b1); (try clear c21); (try clear c21b0); (try clear c22); (try clear c23); (try clear c23b0); (try clear c23b1); (try clear c24); (try clear c24b0); (try clear c24b1); (try clear c25); (try clear c25b0); (try clear c25b1); (try clear c34); (try clear c34b0); (try clear c35); (try clear c35b0); (try clear c36); (try clear c36b0); (try clear p37); (try clear q37); (try clear hx37); (try clear hf37); (try clear c40); (try clear c40b0); (try clear c41); (try clear c41b0); (try clear c42); (try clear c42b0); (try clear c45); (try clear c47); (try clear c47b0); (try clear c48); (try clear c50); (try clear c50b0); (try clear c51); (try clear c53); (try clear c53b0); (try clear c54); (try clear c54b0); (try clear c55); (try clear c55b0); (try clear c55b1); (try clear c55b2); (try clear c56); (try clear c59); (try clear c59b0); (try clear q60); (try clear c61); (try clear c62); (try clear p64); (try clear c66); (try clear c66b0); (try clear c68); (try clear c68b0); (try clear c69); (try clear c69b0); (try clear c70); (try clear c74); (try clear c78); (try clear c80); (try clear c82); (try clear c82b0); (try clear c82b1); (try clear c83); (try clear c83b0); (try clear c84); (try clear c84b0); (try clear p85); (try clear q85); (try clear hx85); (try clear hf85); (try clear c86); (try clear c90); (try clear c90b0); (try clear c90b1); (try clear c91); (try clear c91b0); (try clear c92); (try clear c92b0); (try clear p93); (try clear q93); (try clear hx93); (try clear hf93); (try clear c94); (try clear c99); (try clear c99b0); (try clear c99b1); (try clear c100); (try clear c101); (try clear c101b0); (try clear c102); (try clear c102b0); (try clear p103); (try clear q103); (try clear hx103); (try clear hf103); (try clear c104); (try clear c109); (try clear c109b0); (try clear c109b1); (try clear c110); (try clear c110b0); (try clear c111); (try clear c111b0); (try clear p112); (try clear q112); (try clear hx112); (try clear hf112); (try clear c113); (try clear c119); (try clear c121); (try clear c121b0); (try clear c121b1); (try clear c122); (try clear c122b0); (try clear c123); (try clear c123b0); (try clear c124); (try clear c124b0); (try clear c124b1); (try clear p125); (try clear q125); (try clear hx125); (try clear hf125); (try clear c126); (try clear p129); (try clear q129); (try clear hx129); (try clear c131); (try clear p131); (try clear q131); (try clear hx131); (try clear p132); (try clear q132); (try clear hx132); (try clear p133); (try clear q133); (try clear hx133); (try clear c134); (try clear c134b0); (try clear c135); (try clear c135b0); (try clear c136); (try clear c136b0); (try clear p136); (try clear q136); (try clear hx136); (try clear c137); (try clear c137b0); (try clear p138); (try clear q138); (try clear hx138); (try clear p140); (try clear q140); (try clear hx140); (try clear c143); (try clear c144); (try clear p144); (try clear q144); (try clear hx144); (try clear p145); (try clear q145); (try clear hx145); (try clear c146); (try clear hcz105_0); (try clear hcz105_1); (try clear hcz105_2); (try clear hcz105_3); (try clear hcz105_4); (try clear hcz114_0); (try clear hcz114_1); (try clear hcz114_2); (try clear hcz114_3); (try clear hcz114_4); (try clear hcz120_0); (try clear hcz120_1); (try clear hcz120_2); (try clear hcz120_3); (try clear hcz120_4); (try clear hcz127_0); (try clear hcz127_1); (try clear hcz127_2); (try clear hcz127_3); (try clear hcz127_4); (try clear hcz132_0); (try clear hcz132_1); (try clear hcz132_2); (try clear hcz132_3); (try clear hcz132_4); (try clear hcz145_0); (try clear hcz145_1); (try clear hcz145_2); (try clear hcz145_3); (try clear hcz145_4); (try clear hcz145_5); (try clear hcz145_6); (try clear hcz145_7); (try clear hcz145_8); (try clear hcz145_9); (try clear hcz17_0); (try clear hcz17_1); (try clear hcz17_2); (try clear hcz17_3); (try clear hcz17_4); (try clear hcz17_5); (try clear hcz17_6); (try clear hcz17_7); (try clear hcz17_8); (try clear hcz17_9); (try clear hcz46_0); (try clear hcz46_1); (try clear hcz46_2); (try clear hcz46_3); (try clear hcz46_4); (try clear hcz49_0); (try clear hcz49_1); (try clear hcz49_2); (try clear hcz49_3); (try clear hcz49_4); (try clear hcz52_0); (try clear hcz52_1); (try clear hcz52_2); (try clear hcz52_3); (try clear hcz52_4); (try clear hcz57_0); (try clear hcz57_1); (try clear hcz57_2); (try clear hcz57_3); (try clear hcz57_4); (try clear hcz63_0); (try clear hcz63_1); (try clear hcz63_2); (try clear hcz63_3); (try clear hcz63_4); (try clear hcz71_0); (try clear hcz71_1); (try clear hcz71_2); (try clear hcz71_3); (try clear hcz71_4); (try clear hcz75_0); (try clear hcz75_1); (try clear hcz75_2); (try clear hcz75_3); (try clear hcz75_4); (try clear hcz81_0); (try clear hcz81_1); (try clear hcz81_2); (try clear hcz81_3); (try clear hcz81_4); (try clear hcz87_0); (try clear hcz87_1); (try clear hcz87_2); (try clear hcz87_3); (try clear hcz87_4); (try clear hcz95_0); (try clear hcz95_1); (try clear hcz95_2); (try clear hcz95_3); (try clear hcz95_4); (try clear hfz105_0); (try clear hfz105_1); (try clear hfz105_2); (try clear hfz105_3); (try clear hfz105_4); (try clear hfz114_0); (try clear hfz114_1); (try clear hfz114_2); (try clear hfz114_3); (try clear hfz114_4); (try clear hfz120_0); (try clear hfz120_1); (try clear hfz120_2); (try clear hfz120_3); (try clear hfz120_4); (try clear hfz127_0); (try clear hfz127_1); (try clear hfz127_2); (try clear hfz127_3); (try clear hfz127_4); (try clear hfz132_0); (try clear hfz132_1); (try clear hfz132_2); (try clear hfz132_3); (try clear hfz132_4); (try clear hfz145_0); (try clear hfz145_1); (try clear hfz145_2); (try clear hfz145_3); (try clear hfz145_4); (try clear hfz145_5); (try clear hfz145_6); (try clear hfz145_7); (try clear hfz145_8); (try clear hfz145_9); (try clear hfz17_0); (try clear hfz17_1); (try clear hfz17_2); (try clear hfz17_3); (try clear hfz17_4); (try clear hfz17_5); (try clear hfz17_6); (try clear hfz17_7); (try clear hfz17_8); (try clear hfz17_9); (try clear hfz46_0); (try clear hfz46_1); (try clear hfz46_2); (try clear hfz46_3); (try clear hfz46_4); (try clear hfz49_0); (try clear hfz49_1); (try clear hfz49_2); (try clear hfz49_3); (try clear hfz49_4); (try clear hfz52_0); (try clear hfz52_1); (try clear hfz52_2); (try clear hfz52_3); (try clear hfz52_4); (try clear hfz57_0); (try clear hfz57_1); (try clear hfz57_2); (try clear hfz57_3); (try clear hfz57_4); (try clear hfz63_0); (try clear hfz63_1); (try clear hfz63_2); (try clear hfz63_3); (try clear hfz63_4); (try clear hfz71_0); (try clear hfz71_1); (try clear hfz71_2); (try clear hfz71_3); (try clear hfz71_4); (try clear hfz75_0); (try clear hfz75_1); (try clear hfz75_2); (try clear hfz75_3); (try clear hfz75_4); (try clear hfz81_0); (try clear hfz81_1); (try clear hfz81_2); (try clear hfz81_3); (try clear hfz81_4); (try clear hfz87_0); (try clear hfz87_1); (try clear hfz87_2); (try clear hfz87_3); (try clear hfz87_4); (try clear hfz95_0); (try clear hfz95_1); (try clear hfz95_2); (try clear hfz95_3); (try clear hfz95_4); (try clear hx103_0); (try clear hx112_0); (try clear hx125_0); (try clear hx129_0); (try clear hx129_1); (try clear hx129_2); (try clear hx129_3); (try clear hx129_4); (try clear hx131_0); (try clear hx132_0); (try clear hx133_0); (try clear hx133_1); (try clear hx133_2); (try clear hx133_3); (try clear hx133_4); (try clear hx136_0); (try clear hx138_0); (try clear hx140_0); (try clear hx144_0); (try clear hx145_0); (try clear hx145_1); (try clear hx148_0); (try clear hx37_0); (try clear hx85_0); (try clear hx93_0); (try clear p1); (try clear p10); (try clear p103); (try clear p11); (try clear p112); (try clear p12); (try clear p125); (try clear p129); (try clear p13); (try clear p131); (try clear p132); (try clear p133); (try clear p136); (try clear p138); (try clear p14); (try clear p140); (try clear p144); (try clear p145); (try clear p148); (try clear p2); (try clear p3); (try clear p37); (try clear p6); (try clear p64); (try clear p8); (try clear p85); (try clear p9); (try clear p93); (try clear q1); (try clear q10); (try clear q103); (try clear q11); (try clear q112); (try clear q12); (try clear q125); (try clear q129); (try clear q13); (try clear q131); (try clear q132); (try clear q133); (try clear q136); (try clear q138); (try clear q14); (try clear q140); (try clear q144); (try clear q145); (try clear q148); (try clear q15); (try clear q16); (try clear q3); (try clear q37); (try clear q6); (try clear q60); (try clear q8); (try clear q85); (try clear q9); (try clear q93)
                                      obtain ⟨x21_10, rfl, HA, HK10, HO_10, HO_11, HO_12, HO_13, BK104, BK130, HB⟩ := hrel
                                      cases gk with
                                      | zero => exact absurd HA.out (by simp [millwrightlaw19_TraceBounds.l3])
                                      | succ k10 =>
                                       have H := HA.out
                                       clear HA
                                       simp only [millwrightlaw19_TraceBounds.l3] at H
                                       by_cases c147 : x21_10 < x18_8
                                       ·
                                        rw [if_pos c147] at H
                                        have c147b0 : decide (x21_10 < x18_8) = true := decide_eq_true c147
                                        clear c147
                                        by_cases c148 : 0 ≤ x21_10
                                        ·
                                         rw [if_pos c148] at H
                                         have c148b0 : decide (0 ≤ x21_10) = true := decide_eq_true c148
                                         clear c148
                                         by_cases c149 : x21_10 < (x10_117.length : Int)
                                         ·
                                          rw [if_pos c149] at H
                                          have c149b0 : decide (x21_10 < (x10_117.length : Int)) = true := decide_eq_true c149
                                          clear c149
                                          by_cases c150 : 0 ≤ x18_8
                                          ·
                                           rw [if_pos c150] at H
                                           have c150b0 : decide (0 ≤ x18_8) = true := decide_eq_true c150
                                           clear c150
                                           by_cases c151 : x18_8 < (x10_117.length : Int)
                                           ·
                                            rw [if_pos c151] at H
                                            have c151b0 : decide (x18_8 < (x10_117.length : Int)) = true := decide_eq_true c151
                                            clear c151
                                            by_cases c152 : (rd x10_117 x21_10) = (rd x10_117 x18_8)
                                            ·
                                             rw [if_pos c152] at H
                                             have c152b0 : ((rd x10_117 x21_10) == (rd x10_117 x18_8)) = true := beq_iff_eq.mpr c152
                                             have c152b1 : ((rd x10_117 x21_10) != (rd x10_117 x18_8)) = false := bne_eq_false_iff_eq.mpr c152
                                             clear c152
                                             obtain rfl := Option.some.inj H
                                             have p149 : 0 ≤ (x21_10 : Int) := of_decide_eq_true (by first | (with_reducible assumption) | assumption)
                                             have q149 : x21_10 < (x10_117.length : Int) := of_decide_eq_true (by first | (with_reducible assumption) | assumption)
                                             obtain ⟨ad149, e149, hx149_0⟩ := Kd.at_int (Kd.R_reads' HO_10.out).2.2 x21_10 p149 q149
                                             obtain rfl : ad144 = ad149 := (by injection e149)
                                             replace p149 := eq_true p149
                                             replace q149 := eq_true q149
                                             have p150 : 0 ≤ (x18_8 : Int) := of_decide_eq_true (by first | (with_reducible assumption) | assumption)
                                             have q150 : x18_8 < (x10_117.length : Int) := of_decide_eq_true (by first | (with_reducible assumption) | assumption)
                                             obtain ⟨ad150, e150, hx150_0⟩ := Kd.at_int (Kd.R_reads' HO_10.out).2.2 x18_8 p150 q150
                                             obtain rfl : ad144 = ad150 := (by injection e150)
                                             replace p150 := eq_true p150
                                             replace q150 := eq_true q150
                                             go_wp2
                                             repeat (go_quiet (fail); try go_wp2)
                                             go_ret
                                             exact ⟨by first | rfl | (simp [errW_none, errW_some] <;> rfl) | (simp only [← hji5, ← hji8, ← hji139]; first | rfl | (simp [errW_none, errW_some] <;> rfl)) | (simp [*, errW_none, errW_some] <;> rfl), by repeat (first | (with_reducible first | exact HB.out | apply below_alloc | apply pw_below_drewN | apply below_drew1 | refine below_set ?_ GE104.out | refine below_set ?_ GE130.out) | exact HB.out)⟩
                                            ·
                                             rw [if_neg c152] at H
                                             have c152b0 : ((rd x10_117 x21_10) == (rd x10_117 x18_8)) = false := beq_eq_false_iff_ne.mpr c152
                                             have c152b1 : ((rd x10_117 x21_10) != (rd x10_117 x18_8)) = true := bne_iff_ne.mpr c152
                                             have H' := Aside0.mk H
                                             clear H
                                             have p149 : 0 ≤ (x21_10 : Int) := of_decide_eq_true (by first | (with_reducible assumption) | assumption)
                                             have q149 : x21_10 < (x10_117.length : Int) := of_decide_eq_true (by first | (with_reducible assumption) | assumption)
                                             obtain ⟨ad149, e149, hx149_0⟩ := Kd.at_int (Kd.R_reads' HO_10.out).2.2 x21_10 p149 q149
                                             obtain rfl : ad144 = ad149 := (by injection e149)
                                             replace p149 := eq_true p149
                                             replace q149 := eq_true q149
                                             have p150 : 0 ≤ (x18_8 : Int) := of_decide_eq_true (by first | (with_reducible assumption) | assumption)
                                             have q150 : x18_8 < (x10_117.length : Int) := of_decide_eq_true (by first | (with_reducible assumption) | assumption)
                                             obtain ⟨ad150, e150, hx150_0⟩ := Kd.at_int (Kd.R_reads' HO_10.out).2.2 x18_8 p150 q150
                                             obtain rfl : ad144 = ad150 := (by injection e150)
                                             replace p150 := eq_true p150
                                             replace q150 := eq_true q150
                                             go_wp2
                                             repeat (go_quiet (fail); try go_wp2)
                                             go_roundg k10
                                             case measure => have := HJ11.out; have := HJ19.out; have := HK3.out; have := HK4.out; have := HJ42.out; have := HJ78.out; have := HJ117.out; have := HK8.out; have := HJ140.out; have := HK10.out; omega
                                             case rel => exact ⟨(wrap64 (x21_10 + 1)), (by first | rfl | (simp; done) | (simp [*]; done)), H', ⟨by have := HJ11.out; have := HJ19.out; have := HK3.out; have := HK4.out; have := HJ42.out; have := HJ78.out; have := HJ117.out; have := HK8.out; have := HJ140.out; have := HK10.out; omega⟩, ⟨by (with_reducible repeat (first | apply Kd.R_alloc | apply Kd.R_drewN | apply Kd.R_drew)); exact HO_10.out⟩, ⟨by (with_reducible repeat (first | apply Kd.R_alloc | apply Kd.R_drewN | apply Kd.R_drew)); exact HO_11.out⟩, ⟨by (with_reducible repeat (first | apply Kd.R_alloc | apply Kd.R_drewN | apply Kd.R_drew)); exact HO_12.out⟩, ⟨by (with_reducible repeat (first | apply Kd.R_alloc | apply Kd.R_drewN | apply Kd.R_drew)); exact HO_13.out⟩, ⟨by (with_reducible repeat (first | refine blk_drewN ?_ _ | refine blk_drew ?_ | refine blk_alloc ?_ _)); exact BK104.out⟩, ⟨by (with_reducible repeat (first | refine blk_drewN ?_ _ | refine blk_drew ?_ | refine blk_alloc ?_ _)); exact BK130.out⟩, ⟨by repeat (first | (with_reducible first | exact HB.out | apply below_alloc | apply pw_below_drewN | apply below_drew1 | refine below_set ?_ GE104.out | refine below_set ?_ GE130.out) | exact HB.out)⟩⟩
                                           ·
                                            rw [if_neg c151] at H
                                            exact absurd H (by simp)
                                          ·
                                           rw [if_neg c150] at H
                                           exact absurd H (by simp)
                                         ·
                                          rw [if_neg c149] at H
                                          exact absurd H (by simp)
                                        ·
                                         rw [if_neg c148] at H
                                         exact absurd H (by simp)
                                       ·
                                        rw [if_neg c147] at H
                                        have c147b0 : decide (x21_10 < x18_8) = false := decide_eq_false c147
                                        clear c147
                                        have H' := Aside0.mk H
                                        clear H
                                        go_wp2
                                        repeat (go_quiet (fail); try go_wp2)
                                        go_roundg k10
                                        case measure => have := HJ11.out; have := HJ19.out; have := HK3.out; have := HK4.out; have := HJ42.out; have := HJ78.out; have := HJ117.out; have := HK8.out; have := HJ140.out; have := HK10.out; omega
                                        case rel => exact ⟨(t146), (wrap64 (x18_8 + 1)), (by first | rfl | (simp; done) | (simp [*]; done)), (by first | rfl | (simp; done) | (simp [*]; done)), H', ⟨by have := HJ11.out; have := HJ19.out; have := HK3.out; have := HK4.out; have := HJ42.out; have := HJ78.out; have := HJ117.out; have := HK8.out; have := HJ140.out; have := HK10.out; omega⟩, ⟨by (with_reducible repeat (first | apply Kd.R_alloc | apply Kd.R_drewN | apply Kd.R_drew)); exact HO_10.out⟩, ⟨by (with_reducible repeat (first | apply Kd.R_alloc | apply Kd.R_drewN | apply Kd.R_drew)); exact HO_11.out⟩, ⟨by (with_reducible repeat (first | apply Kd.R_alloc | apply Kd.R_drewN | apply Kd.R_drew)); exact HO_12.out⟩, ⟨by (with_reducible repeat (first | apply Kd.R_alloc | apply Kd.R_drewN | apply Kd.R_drew)); exact HO_13.out⟩, ⟨by (with_reducible repeat (first | refine blk_drewN ?_ _ | refine blk_drew ?_ | refine blk_alloc ?_ _)); exact BK104.out⟩, ⟨by (with_reducible repeat (first | refine blk_drewN ?_ _ | refine blk_drew ?_ | refine blk_alloc ?_ _)); exact BK130.out⟩, ⟨by repeat (first | (with_reducible first | exact HB.out | apply below_alloc | apply pw_below_drewN | apply below_drew1 | refine below_set ?_ GE104.out | refine below_set ?_ GE130.out) | exact HB.out)⟩⟩
                                ·
                                 rw [if_neg c136] at H
                                 exact absurd H (by simp)
                               ·
                                rw [if_neg c135] at H
                                exact absurd H (by simp)
                              ·
                               rw [if_neg c134] at H
                               have c134b0 : decide (x18_8 < (y106.length : Int)) = false := decide_eq_false c134
                               clear c134
                               obtain ⟨ji153, hji153⟩ : ∃ j_ : Int, (mx a0_0 0) = j_ := ⟨_, rfl⟩
                               replace H : (if x17_8 > (ji153) then (some false) else (if 0 ≤ ((rd_T42 y110 x15_4).f1) then (if ((rd_T42 y110 x15_4).f1) < (x11_78.length : Int) then (if (rd x11_78 ((rd_T42 y110 x15_4).f1)) > (mx a0_4 0) then (some false) else (if ((rd_T42 y110 x15_4).f1) < (x12_78.length : Int) then (if (rd x12_78 ((rd_T42 y110 x15_4).f1)) > (mx a0_5 0) then (some false) else (millwrightlaw19_TraceBounds.l1 k8 y106 y110 t105 x8_11 x10_117 x11_78 x12_78 x13_78 (wrap64 (x15_4 + 1)) a0_0 a0_1 a0_2 a0_3 a0_4 a0_5 a0_6 a0_7 a0_8 a0_9)) else (none))) else (none)) else (none))) = some r := by first | (rw [hji153] at H; exact H) | (simp only [hji153] at H ⊢; exact H)
                               have hji153_ : (if a0_0 < 0 then 0 else a0_0) = ji153 := hji153
                               by_cases c154 : x17_8 > (ji153)
                               ·
                                rw [if_pos c154] at H
                                have c154b0 : decide ((ji153) < x17_8) = true := decide_eq_true c154
                                clear c154
                                obtain rfl := Option.some.inj H
                                have hnb155 := NB104_130.out
                                have hnc155 := NB130_104.out
                                have hcz156_0 : wr.cell? ⟨gb104, 0, none⟩ = some (.int .i64 a0_0) := (blk_cell BK104.out 0).trans rfl
                                have hcz156_1 : wr.cell? ⟨gb104, 1, none⟩ = some (.int .i64 a0_1) := (blk_cell BK104.out 1).trans rfl
                                have hcz156_2 : wr.cell? ⟨gb104, 2, none⟩ = some (.int .i64 a0_2) := (blk_cell BK104.out 2).trans rfl
                                have hcz156_3 : wr.cell? ⟨gb104, 3, none⟩ = some (.int .i64 a0_3) := (blk_cell BK104.out 3).trans rfl
                                have hcz156_4 : wr.cell? ⟨gb104, 4, none⟩ = some (.int .i64 a0_4) := (blk_cell BK104.out 4).trans rfl
                                have hcz156_5 : wr.cell? ⟨gb104, 5, none⟩ = some (.int .i64 a0_5) := (blk_cell BK104.out 5).trans rfl
                                have hcz156_6 : wr.cell? ⟨gb104, 6, none⟩ = some (.int .i64 a0_6) := (blk_cell BK104.out 6).trans rfl
                                have hcz156_7 : wr.cell? ⟨gb104, 7, none⟩ = some (.int .i64 a0_7) := (blk_cell BK104.out 7).trans rfl
                                have hcz156_8 : wr.cell? ⟨gb104, 8, none⟩ = some (.int .i64 a0_8) := (blk_cell BK104.out 8).trans rfl
                                have hcz156_9 : wr.cell? ⟨gb104, 9, none⟩ = some (.int .i64 a0_9) := (blk_cell BK104.out 9).trans rfl
                                have hfz156_0 := blk_frozen BK104.out 0
                                have hfz156_1 := blk_frozen BK104.out 1
                                have hfz156_2 := blk_frozen BK104.out 2
                                have hfz156_3 := blk_frozen BK104.out 3
                                have hfz156_4 := blk_frozen BK104.out 4
                                have hfz156_5 := blk_frozen BK104.out 5
                                have hfz156_6 := blk_frozen BK104.out 6
                                have hfz156_7 := blk_frozen BK104.out 7
                                have hfz156_8 := blk_frozen BK104.out 8
                                have hfz156_9 := blk_frozen BK104.out 9
                                go_wp2
                                repeat (go_quiet (fail); try go_wp2)
                                go_ret
                                exact ⟨by first | rfl | (simp [errW_none, errW_some] <;> rfl) | (simp only [← hji5, ← hji8, ← hji153]; first | rfl | (simp [errW_none, errW_some] <;> rfl)) | (simp [*, errW_none, errW_some] <;> rfl), by repeat (first | (with_reducible first | exact HB.out | apply below_alloc | apply pw_below_drewN | apply below_drew1 | refine below_set ?_ GE104.out | refine below_set ?_ GE130.out) | exact HB.out)⟩
                               ·
                                rw [if_neg c154] at H
                                have c154b0 : decide ((ji153) < x17_8) = false := decide_eq_false c154
                                clear c154
                                by_cases c157 : 0 ≤ ((rd_T42 y110 x15_4).f1)
                                ·
                                 rw [if_pos c157] at H
                                 have c157b0 : decide (0 ≤ ((rd_T42 y110 x15_4).f1)) = true := decide_eq_true c157
                                 clear c157
                                 by_cases c158 : ((rd_T42 y110 x15_4).f1) < (x11_78.length : Int)
                                 ·
                                  rw [if_pos c158] at H
                                  have c158b0 : decide (((rd_T42 y110 x15_4).f1) < (x11_78.length : Int)) = true := decide_eq_true c158
                                  clear c158
                                  obtain ⟨ji159, hji159⟩ : ∃ j_ : Int, (mx a0_4 0) = j_ := ⟨_, rfl⟩
                                  replace H : (if (rd x11_78 ((rd_T42 y110 x15_4).f1)) > (ji159) then (some false) else (if ((rd_T42 y110 x15_4).f1) < (x12_78.length : Int) then (if (rd x12_78 ((rd_T42 y110 x15_4).f1)) > (mx a0_5 0) then (some false) else (millwrightlaw19_TraceBounds.l1 k8 y106 y110 t105 x8_11 x10_117 x11_78 x12_78 x13_78 (wrap64 (x15_4 + 1)) a0_0 a0_1 a0_2 a0_3 a0_4 a0_5 a0_6 a0_7 a0_8 a0_9)) else (none))) = some r := by first | (rw [hji159] at H; exact H) | (simp only [hji159] at H ⊢; exact H)
                                  have hji159_ : (if a0_4 < 0 then 0 else a0_4) = ji159 := hji159
                                  by_cases c160 : (rd x11_78 ((rd_T42 y110 x15_4).f1)) > (ji159)
                                  ·
                                   rw [if_pos c160] at H
                                   have c160b0 : decide ((ji159) < (rd x11_78 ((rd_T42 y110 x15_4).f1))) = true := decide_eq_true c160
                                   clear c160
                                   obtain rfl := Option.some.inj H
                                   have hnb161 := NB104_130.out
                                   have hnc161 := NB130_104.out
                                   have hcz162_0 : wr.cell? ⟨gb104, 0, none⟩ = some (.int .i64 a0_0) := (blk_cell BK104.out 0).trans rfl
                                   have hcz162_1 : wr.cell? ⟨gb104, 1, none⟩ = some (.int .i64 a0_1) := (blk_cell BK104.out 1).trans rfl
                                   have hcz162_2 : wr.cell? ⟨gb104, 2, none⟩ = some (.int .i64 a0_2) := (blk_cell BK104.out 2).trans rfl
                                   have hcz162_3 : wr.cell? ⟨gb104, 3, none⟩ = some (.int .i64 a0_3) := (blk_cell BK104.out 3).trans rfl
                                   have hcz162_4 : wr.cell? ⟨gb104, 4, none⟩ = some (.int .i64 a0_4) := (blk_cell BK104.out 4).trans rfl
                                   have hcz162_5 : wr.cell? ⟨gb104, 5, none⟩ = some (.int .i64 a0_5) := (blk_cell BK104.out 5).trans rfl
                                   have hcz162_6 : wr.cell? ⟨gb104, 6, none⟩ = some (.int .i64 a0_6) := (blk_cell BK104.out 6).trans rfl
                                   have hcz162_7 : wr.cell? ⟨gb104, 7, none⟩ = some (.int .i64 a0_7) := (blk_cell BK104.out 7).trans rfl
                                   have hcz162_8 : wr.cell? ⟨gb104, 8, none⟩ = some (.int .i64 a0_8) := (blk_cell BK104.out 8).trans rfl
                                   have hcz162_9 : wr.cell? ⟨gb104, 9, none⟩ = some (.int .i64 a0_9) := (blk_cell BK104.out 9).trans rfl
                                   have hfz162_0 := blk_frozen BK104.out 0
                                   have hfz162_1 := blk_frozen BK104.out 1
                                   have hfz162_2 := blk_frozen BK104.out 2
                                   have hfz162_3 := blk_frozen BK104.out 3
                                   have hfz162_4 := blk_frozen BK104.out 4
                                   have hfz162_5 := blk_frozen BK104.out 5
                                   have hfz162_6 := blk_frozen BK104.out 6
                                   have hfz162_7 := blk_frozen BK104.out 7
                                   have hfz162_8 := blk_frozen BK104.out 8
                                   have hfz162_9 := blk_frozen BK104.out 9
                                   have hcz163_0 : wr.cell? ⟨gb130, 0, none⟩ = some (.int .i64 ((rd_T42 y110 x15_4).f0)) := (blk_cell BK130.out 0).trans rfl
                                   have hcz163_1 : wr.cell? ⟨gb130, 1, none⟩ = some (.int .i64 ((rd_T42 y110 x15_4).f1)) := (blk_cell BK130.out 1).trans rfl
                                   have hcz163_2 : wr.cell? ⟨gb130, 2, none⟩ = some (.int .i64 ((rd_T42 y110 x15_4).f2)) := (blk_cell BK130.out 2).trans rfl
                                   have hcz163_3 : wr.cell? ⟨gb130, 3, none⟩ = some (.int .i64 ((rd_T42 y110 x15_4).f3)) := (blk_cell BK130.out 3).trans rfl
                                   have hcz163_4 : wr.cell? ⟨gb130, 4, none⟩ = some (.int .i64 ((rd_T42 y110 x15_4).f4)) := (blk_cell BK130.out 4).trans rfl
                                   have hfz163_0 := blk_frozen BK130.out 0
                                   have hfz163_1 := blk_frozen BK130.out 1
                                   have hfz163_2 := blk_frozen BK130.out 2
                                   have hfz163_3 := blk_frozen BK130.out 3
                                   have hfz163_4 := blk_frozen BK130.out 4
                                   obtain ⟨Ao164, co164, eo164⟩ := Kd.R_slice HO_11.out
                                   subst eo164
                                   have p142 : 0 ≤ (((rd_T42 y110 x15_4).f1) : Int) := of_decide_eq_true (by first | (with_reducible assumption) | assumption)
                                   have q142 : ((rd_T42 y110 x15_4).f1) < (x11_78.length : Int) := of_decide_eq_true (by first | (with_reducible assumption) | assumption)
                                   obtain ⟨ad142, e142, hx142_0⟩ := Kd.at_int (Kd.R_reads' HO_11.out).2.2 ((rd_T42 y110 x15_4).f1) p142 q142
                                   cases e142
                                   replace p142 := eq_true p142
                                   replace q142 := eq_true q142
                                   go_wp2
                                   repeat (go_quiet (fail); try go_wp2)
                                   go_ret
                                   exact ⟨by first | rfl | (simp [errW_none, errW_some] <;> rfl) | (simp only [← hji5, ← hji8, ← hji153, ← hji159]; first | rfl | (simp [errW_none, errW_some] <;> rfl)) | (simp [*, errW_none, errW_some] <;> rfl), by repeat (first | (with_reducible first | exact HB.out | apply below_alloc | apply pw_below_drewN | apply below_drew1 | refine below_set ?_ GE104.out | refine below_set ?_ GE130.out) | exact HB.out)⟩
                                  ·
                                   rw [if_neg c160] at H
                                   have c160b0 : decide ((ji159) < (rd x11_78 ((rd_T42 y110 x15_4).f1))) = false := decide_eq_false c160
                                   clear c160
                                   by_cases c165 : ((rd_T42 y110 x15_4).f1) < (x12_78.length : Int)
                                   ·
                                    rw [if_pos c165] at H
                                    have c165b0 : decide (((rd_T42 y110 x15_4).f1) < (x12_78.length : Int)) = true := decide_eq_true c165
                                    clear c165
                                    obtain ⟨ji166, hji166⟩ : ∃ j_ : Int, (mx a0_5 0) = j_ := ⟨_, rfl⟩
                                    replace H : (if (rd x12_78 ((rd_T42 y110 x15_4).f1)) > (ji166) then (some false) else (millwrightlaw19_TraceBounds.l1 k8 y106 y110 t105 x8_11 x10_117 x11_78 x12_78 x13_78 (wrap64 (x15_4 + 1)) a0_0 a0_1 a0_2 a0_3 a0_4 a0_5 a0_6 a0_7 a0_8 a0_9)) = some r := by first | (rw [hji166] at H; exact H) | (simp only [hji166] at H ⊢; exact H)
                                    have hji166_ : (if a0_5 < 0 then 0 else a0_5) = ji166 := hji166
                                    by_cases c167 : (rd x12_78 ((rd_T42 y110 x15_4).f1)) > (ji166)
                                    ·
                                     rw [if_pos c167] at H
                                     have c167b0 : decide ((ji166) < (rd x12_78 ((rd_T42 y110 x15_4).f1))) = true := decide_eq_true c167
                                     clear c167
                                     obtain rfl := Option.some.inj H
                                     have hnb168 := NB104_130.out
                                     have hnc168 := NB130_104.out
                                     have hcz169_0 : wr.cell? ⟨gb104, 0, none⟩ = some (.int .i64 a0_0) := (blk_cell BK104.out 0).trans rfl
                                     have hcz169_1 : wr.cell? ⟨gb104, 1, none⟩ = some (.int .i64 a0_1) := (blk_cell BK104.out 1).trans rfl
                                     have hcz169_2 : wr.cell? ⟨gb104, 2, none⟩ = some (.int .i64 a0_2) := (blk_cell BK104.out 2).trans rfl
                                     have hcz169_3 : wr.cell? ⟨gb104, 3, none⟩ = some (.int .i64 a0_3) := (blk_cell BK104.out 3).trans rfl
                                     have hcz169_4 : wr.cell? ⟨gb104, 4, none⟩ = some (.int .i64 a0_4) := (blk_cell BK104.out 4).trans rfl
                                     have hcz169_5 : wr.cell? ⟨gb104, 5, none⟩ = some (.int .i64 a0_5) := (blk_cell BK104.out 5).trans rfl
                                     have hcz169_6 : wr.cell? ⟨gb104, 6, none⟩ = some (.int .i64 a0_6) := (blk_cell BK104.out 6).trans rfl
                                     have hcz169_7 : wr.cell? ⟨gb104, 7, none⟩ = some (.int .i64 a0_7) := (blk_cell BK104.out 7).trans rfl
                                     have hcz169_8 : wr.cell? ⟨gb104, 8, none⟩ = some (.int .i64 a0_8) := (blk_cell BK104.out 8).trans rfl
                                     have hcz169_9 : wr.cell? ⟨gb104, 9, none⟩ = some (.int .i64 a0_9) := (blk_cell BK104.out 9).trans rfl
                                     have hfz169_0 := blk_frozen BK104.out 0
                                     have hfz169_1 := blk_frozen BK104.out 1
                                     have hfz169_2 := blk_frozen BK104.out 2
                                     have hfz169_3 := blk_frozen BK104.out 3
                                     have hfz169_4 := blk_frozen BK104.out 4
                                     have hfz169_5 := blk_frozen BK104.out 5
                                     have hfz169_6 := blk_frozen BK104.out 6
                                     have hfz169_7 := blk_frozen BK104.out 7
                                     have hfz169_8 := blk_frozen BK104.out 8
                                     have hfz169_9 := blk_frozen BK104.out 9
                                     have hcz170_0 : wr.cell? ⟨gb130, 0, none⟩ = some (.int .i64 ((rd_T42 y110 x15_4).f0)) := (blk_cell BK130.out 0).trans rfl
                                     have hcz170_1 : wr.cell? ⟨gb130, 1, none⟩ = some (.int .i64 ((rd_T42 y110 x15_4).f1)) := (blk_cell BK130.out 1).trans rfl
                                     have hcz170_2 : wr.cell? ⟨gb130, 2, none⟩ = some (.int .i64 ((rd_T42 y110 x15_4).f2)) := (blk_cell BK130.out 2).trans rfl
                                     have hcz170_3 : wr.cell? ⟨gb130, 3, none⟩ = some (.int .i64 ((rd_T42 y110 x15_4).f3)) := (blk_cell BK130.out 3).trans rfl
                                     have hcz170_4 : wr.cell? ⟨gb130, 4, none⟩ = some (.int .i64 ((rd_T42 y110 x15_4).f4)) := (blk_cell BK130.out 4).trans rfl
                                     have hfz170_0 := blk_frozen BK130.out 0
                                     have hfz170_1 := blk_frozen BK130.out 1
                                     have hfz170_2 := blk_frozen BK130.out 2
                                     have hfz170_3 := blk_frozen BK130.out 3
                                     have hfz170_4 := blk_frozen BK130.out 4
                                     obtain ⟨Ao171, co171, eo171⟩ := Kd.R_slice HO_11.out
                                     subst eo171
                                     have p142 : 0 ≤ (((rd_T42 y110 x15_4).f1) : Int) := of_decide_eq_true (by first | (with_reducible assumption) | assumption)
                                     have q142 : ((rd_T42 y110 x15_4).f1) < (x11_78.length : Int) := of_decide_eq_true (by first | (with_reducible assumption) | assumption)
                                     obtain ⟨ad142, e142, hx142_0⟩ := Kd.at_int (Kd.R_reads' HO_11.out).2.2 ((rd_T42 y110 x15_4).f1) p142 q142
                                     cases e142
                                     replace p142 := eq_true p142
                                     replace q142 := eq_true q142
                                     obtain ⟨Ao172, co172, eo172⟩ := Kd.R_slice HO_12.out
                                     subst eo172
                                     have p143 : 0 ≤ (((rd_T42 y110 x15_4).f1) : Int) := of_decide_eq_true (by first | (with_reducible assumption) | assumption)
                                     have q143 : ((rd_T42 y110 x15_4).f1) < (x12_78.length : Int) := of_decide_eq_true (by first | (with_reducible assumption) | assumption)
                                     obtain ⟨ad143, e143, hx143_0⟩ := Kd.at_int (Kd.R_reads' HO_12.out).2.2 ((rd_T42 y110 x15_4).f1) p143 q143
                                     cases e143
                                     replace p143 := eq_true p143
                                     replace q143 := eq_true q143
                                     go_wp2
                                     repeat (go_quiet (fail); try go_wp2)
                                     go_ret
                                     exact ⟨by first | rfl | (simp [errW_none, errW_some] <;> rfl) | (simp only [← hji5, ← hji8, ← hji153, ← hji159, ← hji166]; first | rfl | (simp [errW_none, errW_some] <;> rfl)) | (simp [*, errW_none, errW_some] <;> rfl), by repeat (first | (with_reducible first | exact HB.out | apply below_alloc | apply pw_below_drewN | apply below_drew1 | refine below_set ?_ GE104.out | refine below_set ?_ GE130.out) | exact HB.out)⟩
                                    ·
                                     rw [if_neg c167] at H
                                     have c167b0 : decide ((ji166) < (rd x12_78 ((rd_T42 y110 x15_4).f1))) = false := decide_eq_false c167
                                     clear c167
                                     have H' := Aside0.mk H
                                     clear H
                                     have hnb173 := NB104_130.out
                                     have hnc173 := NB130_104.out
                                     have hcz174_0 : wr.cell? ⟨gb104, 0, none⟩ = some (.int .i64 a0_0) := (blk_cell BK104.out 0).trans rfl
                                     have hcz174_1 : wr.cell? ⟨gb104, 1, none⟩ = some (.int .i64 a0_1) := (blk_cell BK104.out 1).trans rfl
                                     have hcz174_2 : wr.cell? ⟨gb104, 2, none⟩ = some (.int .i64 a0_2) := (blk_cell BK104.out 2).trans rfl
                                     have hcz174_3 : wr.cell? ⟨gb104, 3, none⟩ = some (.int .i64 a0_3) := (blk_cell BK104.out 3).trans rfl
                                     have hcz174_4 : wr.cell? ⟨gb104, 4, none⟩ = some (.int .i64 a0_4) := (blk_cell BK104.out 4).trans rfl
                                     have hcz174_5 : wr.cell? ⟨gb104, 5, none⟩ = some (.int .i64 a0_5) := (blk_cell BK104.out 5).trans rfl
                                     have hcz174_6 : wr.cell? ⟨gb104, 6, none⟩ = some (.int .i64 a0_6) := (blk_cell BK104.out 6).trans rfl
                                     have hcz174_7 : wr.cell? ⟨gb104, 7, none⟩ = some (.int .i64 a0_7) := (blk_cell BK104.out 7).trans rfl
                                     have hcz174_8 : wr.cell? ⟨gb104, 8, none⟩ = some (.int .i64 a0_8) := (blk_cell BK104.out 8).trans rfl
                                     have hcz174_9 : wr.cell? ⟨gb104, 9, none⟩ = some (.int .i64 a0_9) := (blk_cell BK104.out 9).trans rfl
                                     have hfz174_0 := blk_frozen BK104.out 0
                                     have hfz174_1 := blk_frozen BK104.out 1
                                     have hfz174_2 := blk_frozen BK104.out 2
                                     have hfz174_3 := blk_frozen BK104.out 3
                                     have hfz174_4 := blk_frozen BK104.out 4
                                     have hfz174_5 := blk_frozen BK104.out 5
                                     have hfz174_6 := blk_frozen BK104.out 6
                                     have hfz174_7 := blk_frozen BK104.out 7
                                     have hfz174_8 := blk_frozen BK104.out 8
                                     have hfz174_9 := blk_frozen BK104.out 9
                                     have hcz175_0 : wr.cell? ⟨gb130, 0, none⟩ = some (.int .i64 ((rd_T42 y110 x15_4).f0)) := (blk_cell BK130.out 0).trans rfl
                                     have hcz175_1 : wr.cell? ⟨gb130, 1, none⟩ = some (.int .i64 ((rd_T42 y110 x15_4).f1)) := (blk_cell BK130.out 1).trans rfl
                                     have hcz175_2 : wr.cell? ⟨gb130, 2, none⟩ = some (.int .i64 ((rd_T42 y110 x15_4).f2)) := (blk_cell BK130.out 2).trans rfl
                                     have hcz175_3 : wr.cell? ⟨gb130, 3, none⟩ = some (.int .i64 ((rd_T42 y110 x15_4).f3)) := (blk_cell BK130.out 3).trans rfl
                                     have hcz175_4 : wr.cell? ⟨gb130, 4, none⟩ = some (.int .i64 ((rd_T42 y110 x15_4).f4)) := (blk_cell BK130.out 4).trans rfl
                                     have hfz175_0 := blk_frozen BK130.out 0
                                     have hfz175_1 := blk_frozen BK130.out 1
                                     have hfz175_2 := blk_frozen BK130.out 2
                                     have hfz175_3 := blk_frozen BK130.out 3
                                     have hfz175_4 := blk_frozen BK130.out 4
                                     obtain ⟨Ao176, co176, eo176⟩ := Kd.R_slice HO_11.out
                                     subst eo176
                                     have p142 : 0 ≤ (((rd_T42 y110 x15_4).f1) : Int) := of_decide_eq_true (by first | (with_reducible assumption) | assumption)
                                     have q142 : ((rd_T42 y110 x15_4).f1) < (x11_78.length : Int) := of_decide_eq_true (by first | (with_reducible assumption) | assumption)
                                     obtain ⟨ad142, e142, hx142_0⟩ := Kd.at_int (Kd.R_reads' HO_11.out).2.2 ((rd_T42 y110 x15_4).f1) p142 q142
                                     cases e142
                                     replace p142 := eq_true p142
                                     replace q142 := eq_true q142
                                     obtain ⟨Ao177, co177, eo177⟩ := Kd.R_slice HO_12.out
                                     subst eo177
                                     have p143 : 0 ≤ (((rd_T42 y110 x15_4).f1) : Int) := of_decide_eq_true (by first | (with_reducible assumption) | assumption)
                                     have q143 : ((rd_T42 y110 x15_4).f1) < (x12_78.length : Int) := of_decide_eq_true (by first | (with_reducible assumption) | assumption)
                                     obtain ⟨ad143, e143, hx143_0⟩ := Kd.at_int (Kd.R_reads' HO_12.out).2.2 ((rd_T42 y110 x15_4).f1) p143 q143
                                     cases e143
                                     replace p143 := eq_true p143
                                     replace q143 := eq_true q143
                                     go_wp2
                                     repeat (go_quiet (fail); try go_wp2)
                                     go_roundg k8
                                     case measure => have := HJ11.out; have := HJ19.out; have := HK3.out; have := HK4.out; have := HJ42.out; have := HJ78.out; have := HJ117.out; have := HK8.out; omega
                                     case rel => exact ⟨(x10_117), (x11_78), (x12_78), (x13_78), (wrap64 (x15_4 + 1)), (by first | rfl | (simp; done) | (simp [*]; done)), H', ⟨by have := HJ11.out; have := HJ19.out; have := HK3.out; have := HK4.out; have := HJ42.out; have := HJ78.out; have := HJ117.out; have := HK8.out; omega⟩, ⟨by (with_reducible repeat (first | apply Kd.R_alloc | apply Kd.R_drewN | apply Kd.R_drew)); exact HO_10.out⟩, ⟨by (with_reducible repeat (first | apply Kd.R_alloc | apply Kd.R_drewN | apply Kd.R_drew)); exact HO_11.out⟩, ⟨by (with_reducible repeat (first | apply Kd.R_alloc | apply Kd.R_drewN | apply Kd.R_drew)); exact HO_12.out⟩, ⟨by (with_reducible repeat (first | apply Kd.R_alloc | apply Kd.R_drewN | apply Kd.R_drew)); exact HO_13.out⟩, ⟨by (with_reducible repeat (first | refine blk_drewN ?_ _ | refine blk_drew ?_ | refine blk_alloc ?_ _)); exact BK104.out⟩, ⟨by repeat (first | (with_reducible first | exact HB.out | apply below_alloc | apply pw_below_drewN | apply below_drew1 | refine below_set ?_ GE104.out | refine below_set ?_ GE130.out) | exact HB.out)⟩⟩
                                   ·
                                    rw [if_neg c165] at H
                                    exact absurd H (by simp)
                                 ·
                                  rw [if_neg c158] at H
                                  exact absurd H (by simp)
                                ·
                                 rw [if_neg c157] at H
                                 exact absurd H (by simp)
                    ·
                     rw [if_neg c42] at H
                     exact absurd H (by simp)
                   ·
                    rw [if_neg c41] at H
                    exact absurd H (by simp)
                  ·
                   rw [if_neg c40] at H
                   have c40b0 : decide (x15_4 < x8_11) = false := decide_eq_false c40
                   clear c40
                   obtain rfl := Option.some.inj H
                   go_wp2
                   repeat (go_quiet (fail); try go_wp2)
                   go_ret
                   exact ⟨by first | rfl | (simp [errW_none, errW_some] <;> rfl) | (simp only [← hji5, ← hji8]; first | rfl | (simp [errW_none, errW_some] <;> rfl)) | (simp [*, errW_none, errW_some] <;> rfl), by repeat (first | (with_reducible first | exact HB.out | apply below_alloc | apply pw_below_drewN | apply below_drew1 | refine below_set ?_ GE104.out) | exact HB.out)⟩
            ·
             rw [if_neg c25] at H
             exact absurd H (by simp)
           ·
            rw [if_neg c24] at H
            exact absurd H (by simp)
          ·
           rw [if_neg c23] at H
           exact absurd H (by simp)
    ·
     rw [if_neg c10] at H
     exact absurd H (by simp)
   ·
    rw [if_neg c9] at H
    exact absurd H (by simp)
  ·
   rw [if_neg c7] at H
   exact absurd H (by simp)
 ·
  rw [if_neg c6] at H
  exact absurd H (by simp)

end Go.Proofs.YtckcepmkfegkiaaDoor.PTraceBounds
