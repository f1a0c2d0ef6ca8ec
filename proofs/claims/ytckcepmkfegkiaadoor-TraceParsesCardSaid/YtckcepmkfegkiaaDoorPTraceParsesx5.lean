-- Printed for this claim by a program of this project's own, over the kit's printer; some functions are told by hand.
import Derived.Test.YtckcepmkfegkiaaDoorPTraceParsesx0
import Derived.Test.YtckcepmkfegkiaaDoorPTraceParsesx4
namespace Go.Proofs.YtckcepmkfegkiaaDoor.PTraceParses
open Go.RowKit Go.Proofs.YtckcepmkfegkiaaDoorW.PrintWords Go.Proofs.YtckcepmkfegkiaaDoorW.PrintLast Go.Proofs.YtckcepmkfegkiaaDoorW.PrintMore
attribute [local go_sem] max2_int min2_int max_two min_two max_three min_three max_four min_four   -- for this text's walks alone
set_option linter.unusedVariables false
set_option linter.unusedSimpArgs false

/-! ### millwrightref19_line: function 30 -/
def millwrightref19_line.pk (i j n t : Int) : Int := if i = j then t else n
mutual
def millwrightref19_line.l0 : Nat → List (S78) → Int → Int → Int → Int → Int → Int → Option (Int × Int × Int × Int × Int × Int)
  | 0, _, _, _, _, _, _, _ => none
  | k + 1, x0, x5, x140000, x140001, x140002, x140003, x140004 => if x5 ≤ 6 then (if 0 < (x0.length : Int) then (if ((rd_T78 x0 0).f0) = 1 then ((millwrightref19_Word.f x5).bind fun t142 => (if ((rd_T78 x0 0).f1).toList = t142.toList then (millwrightref19_line.l0 k x0 (wrap64 (x5 + 1)) x5 x140001 x140002 x140003 x140004) else (millwrightref19_line.l0 k x0 (wrap64 (x5 + 1)) x140000 x140001 x140002 x140003 x140004))) else (millwrightref19_line.l0 k x0 (wrap64 (x5 + 1)) x140000 x140001 x140002 x140003 x140004)) else (none)) else (if x140000 = 0 then (some (0, 0, 0, 0, 0, 2)) else (millwrightref19_line.l1 k x0 0 x140000 x140001 x140002 x140003 x140004 0 0 0 0))
def millwrightref19_line.l1 : Nat → List (S78) → Int → Int → Int → Int → Int → Int → Int → Int → Int → Int → Option (Int × Int × Int × Int × Int × Int)
  | 0, _, _, _, _, _, _, _, _, _, _, _ => none
  | k + 1, x0, x7, x140000, x140001, x140002, x140003, x140004, x144000, x144001, x144002, x144003 => if x7 < 4 then (if (wrap64 (x7 + 1)) ≥ (x0.length : Int) then (millwrightref19_line.j2 k x0 x7 true x140000 x140001 x140002 x140003 x140004 x144000 x144001 x144002 x144003) else (if 0 ≤ (wrap64 (x7 + 1)) then (if (wrap64 (x7 + 1)) < (x0.length : Int) then (millwrightref19_line.j2 k x0 x7 (((rd_T78 x0 (wrap64 (x7 + 1))).f0) != 2) x140000 x140001 x140002 x140003 x140004 x144000 x144001 x144002 x144003) else (none)) else (none))) else (if (x0.length : Int) > 5 then (some (0, 0, 0, 0, 0, 2)) else (some (x140000, x144000, x144001, x144002, x144003, 0)))
def millwrightref19_line.j2 : Nat → List (S78) → Int → Bool → Int → Int → Int → Int → Int → Int → Int → Int → Int → Option (Int × Int × Int × Int × Int × Int)
  | 0, _, _, _, _, _, _, _, _, _, _, _, _ => none
  | k + 1, x0, x7, x53, x140000, x140001, x140002, x140003, x140004, x144000, x144001, x144002, x144003 => if x53 = true then (some (0, 0, 0, 0, 0, 2)) else (if 0 ≤ (wrap64 (x7 + 1)) then (if (wrap64 (x7 + 1)) < (x0.length : Int) then ((millwrightref01_Parse.f k ((rd_T78 x0 (wrap64 (x7 + 1))).f1)).bind fun bt146 => (if bt146.2 = 0 then (millwrightref19_line.l1 k x0 (wrap64 (x7 + 1)) x140000 x140001 x140002 x140003 x140004 (millwrightref19_line.pk x7 0 x144000 bt146.1) (millwrightref19_line.pk x7 1 x144001 bt146.1) (millwrightref19_line.pk x7 2 x144002 bt146.1) (millwrightref19_line.pk x7 3 x144003 bt146.1)) else (some (0, 0, 0, 0, 0, bt146.2)))) else (none)) else (none))
end
def millwrightref19_line.f (k : Nat) (l0 : List (S78)) : Option (Int × Int × Int × Int × Int × Int) := millwrightref19_line.l0 k l0 1 0 0 0 0 0
theorem millwrightref19_line.mono_l : ∀ k, (∀ y0 y1 y2 y3 y4 y5 y6, LeO (millwrightref19_line.l0 k y0 y1 y2 y3 y4 y5 y6) (millwrightref19_line.l0 (k + 1) y0 y1 y2 y3 y4 y5 y6)) ∧ (∀ y0 y1 y2 y3 y4 y5 y6 y7 y8 y9 y10, LeO (millwrightref19_line.l1 k y0 y1 y2 y3 y4 y5 y6 y7 y8 y9 y10) (millwrightref19_line.l1 (k + 1) y0 y1 y2 y3 y4 y5 y6 y7 y8 y9 y10)) ∧ (∀ y0 y1 y2 y3 y4 y5 y6 y7 y8 y9 y10 y11, LeO (millwrightref19_line.j2 k y0 y1 y2 y3 y4 y5 y6 y7 y8 y9 y10 y11) (millwrightref19_line.j2 (k + 1) y0 y1 y2 y3 y4 y5 y6 y7 y8 y9 y10 y11))
  | 0 => ⟨fun _ _ _ _ _ _ _ r h => by simp [millwrightref19_line.l0] at h, fun _ _ _ _ _ _ _ _ _ _ _ r h => by simp [millwrightref19_line.l1] at h, fun _ _ _ _ _ _ _ _ _ _ _ _ r h => by simp [millwrightref19_line.j2] at h⟩
  | k + 1 => by
    obtain ⟨ih0, ih1, ih2⟩ := millwrightref19_line.mono_l k
    refine ⟨?_, ?_, ?_⟩
    · intro y0 y1 y2 y3 y4 y5 y6
      unfold millwrightref19_line.l0
      repeat' first
      | (with_reducible exact ih0 _ _ _ _ _ _ _)
      | (with_reducible exact ih1 _ _ _ _ _ _ _ _ _ _ _)
      | (with_reducible exact ih2 _ _ _ _ _ _ _ _ _ _ _ _)
      | (with_reducible exact millwrightref01_Parse.mono _ _)
      | (with_reducible exact LeO.refl _)
      | (with_reducible exact LeO.none _)
      | (with_reducible refine LeO.ite ?_ ?_)
      | (with_reducible refine LeO.bind ?_ (fun _ => ?_))
      | exact ih0 _ _ _ _ _ _ _
      | exact ih1 _ _ _ _ _ _ _ _ _ _ _
      | exact ih2 _ _ _ _ _ _ _ _ _ _ _ _
      | exact millwrightref01_Parse.mono _ _
      | exact LeO.none _
      | refine LeO.ite ?_ ?_
      | refine LeO.bind ?_ (fun _ => ?_)
    · intro y0 y1 y2 y3 y4 y5 y6 y7 y8 y9 y10
      unfold millwrightref19_line.l1
      repeat' first
      | (with_reducible exact ih0 _ _ _ _ _ _ _)
      | (with_reducible exact ih1 _ _ _ _ _ _ _ _ _ _ _)
      | (with_reducible exact ih2 _ _ _ _ _ _ _ _ _ _ _ _)
      | (with_reducible exact millwrightref01_Parse.mono _ _)
      | (with_reducible exact LeO.refl _)
      | (with_reducible exact LeO.none _)
      | (with_reducible refine LeO.ite ?_ ?_)
      | (with_reducible refine LeO.bind ?_ (fun _ => ?_))
      | exact ih0 _ _ _ _ _ _ _
      | exact ih1 _ _ _ _ _ _ _ _ _ _ _
      | exact ih2 _ _ _ _ _ _ _ _ _ _ _ _
      | exact millwrightref01_Parse.mono _ _
      | exact LeO.none _
      | refine LeO.ite ?_ ?_
      | refine LeO.bind ?_ (fun _ => ?_)
    · intro y0 y1 y2 y3 y4 y5 y6 y7 y8 y9 y10 y11
      unfold millwrightref19_line.j2
      repeat' first
      | (with_reducible exact ih0 _ _ _ _ _ _ _)
      | (with_reducible exact ih1 _ _ _ _ _ _ _ _ _ _ _)
      | (with_reducible exact ih2 _ _ _ _ _ _ _ _ _ _ _ _)
      | (with_reducible exact millwrightref01_Parse.mono _ _)
      | (with_reducible exact LeO.refl _)
      | (with_reducible exact LeO.none _)
      | (with_reducible refine LeO.ite ?_ ?_)
      | (with_reducible refine LeO.bind ?_ (fun _ => ?_))
      | exact ih0 _ _ _ _ _ _ _
      | exact ih1 _ _ _ _ _ _ _ _ _ _ _
      | exact ih2 _ _ _ _ _ _ _ _ _ _ _ _
      | exact millwrightref01_Parse.mono _ _
      | exact LeO.none _
      | refine LeO.ite ?_ ?_
      | refine LeO.bind ?_ (fun _ => ?_)
theorem millwrightref19_line.mono : ∀ a0 k, LeO (millwrightref19_line.f k a0) (millwrightref19_line.f (k + 1) a0) := by
  intro a0 k
  obtain ⟨ih0, ih1, ih2⟩ := millwrightref19_line.mono_l k
  unfold millwrightref19_line.f
  repeat' first
      | (with_reducible exact ih0 _ _ _ _ _ _ _)
      | (with_reducible exact ih1 _ _ _ _ _ _ _ _ _ _ _)
      | (with_reducible exact ih2 _ _ _ _ _ _ _ _ _ _ _ _)
      | (with_reducible exact millwrightref01_Parse.mono _ _)
      | (with_reducible exact LeO.refl _)
      | (with_reducible exact LeO.none _)
      | (with_reducible refine LeO.ite ?_ ?_)
      | (with_reducible refine LeO.bind ?_ (fun _ => ?_))
      | exact ih0 _ _ _ _ _ _ _
      | exact ih1 _ _ _ _ _ _ _ _ _ _ _
      | exact ih2 _ _ _ _ _ _ _ _ _ _ _ _
      | exact millwrightref01_Parse.mono _ _
      | exact LeO.none _
      | refine LeO.ite ?_ ?_
      | refine LeO.bind ?_ (fun _ => ?_)
def millwrightref19_line.T5 : Bool × List (List Nat × List Nat) := (true, [([], []), ([0], [0]), ([1], [1]), ([2], [2]), ([3], [3]), ([4], [4]), ([5], [5]), ([6, 5], [5, 6]), ([7, 5], [5, 7]), ([8, 5], [5, 8]), ([5], [5]), ([10, 5, 5], [5, 10]), ([9, 11, 5], [5, 9, 11]), ([5, 12], [5, 12])])
def millwrightref19_line.B5 : List Nat := [0, 1, 3, 7, 15, 31, 63, 127, 255, 511, 63, 1087, 4095, 8191]
theorem millwrightref19_line.tab5 : rtab .any (opsOf Tryd.f30 5) = millwrightref19_line.T5 := by kernel_rfl
theorem millwrightref19_line.bits5 : waitsOk millwrightref19_line.T5.2 millwrightref19_line.B5 = true := by kernel_rfl
theorem millwrightref19_line.arr4_cell {w : World} {g : Nat} {t : TypeId} {a0 a1 a2 a3 : Value} (h : w.heap[g]? = some (.cells #[a0, a1, a2, a3] t (0, 0))) (i : Int) (h0 : 0 ≤ i) (h1 : i < 4) : ∃ v, w.cell? ⟨g, i.toNat, none⟩ = some v := by
  rcases (show i = 0 ∨ i = 1 ∨ i = 2 ∨ i = 3 by omega) with rfl | rfl | rfl | rfl
  · exact ⟨a0, (blk_cell h 0).trans rfl⟩
  · exact ⟨a1, (blk_cell h 1).trans rfl⟩
  · exact ⟨a2, (blk_cell h 2).trans rfl⟩
  · exact ⟨a3, (blk_cell h 3).trans rfl⟩
theorem millwrightref19_line.arr4_put {w : World} {g : Nat} {t : TypeId} {n0 n1 n2 n3 : Int} (h : w.heap[g]? = some (.cells #[.int .i64 n0, .int .i64 n1, .int .i64 n2, .int .i64 n3] t (0, 0))) (i x : Int) (h0 : 0 ≤ i) (h1 : i < 4) :
    (w.setCell ⟨g, i.toNat, none⟩ (.int .i64 x)).heap[g]? = some (.cells #[.int .i64 (millwrightref19_line.pk i 0 n0 x), .int .i64 (millwrightref19_line.pk i 1 n1 x), .int .i64 (millwrightref19_line.pk i 2 n2 x), .int .i64 (millwrightref19_line.pk i 3 n3 x)] t (0, 0)) := by
  rcases (show i = 0 ∨ i = 1 ∨ i = 2 ∨ i = 3 by omega) with rfl | rfl | rfl | rfl
  · exact blk_put h 0 _ rfl
  · exact blk_put h 1 _ rfl
  · exact blk_put h 2 _ rfl
  · exact blk_put h 3 _ rfl
theorem results_ct {P : Program} {fn : Func} {p u : Tmp} {ty : TypeId} (h : fn.results = #[.cell p ty, .tmp u]) (tmps : Array Value) (w : World) (g : Nat) (t : TypeId) (cs : Array Value) (fr : Nat × Nat) (d : TypeDesc)
    (hp : tmps.getD p undef = .pointer (some ⟨g, 0, none⟩)) (hg : w.heap[g]? = some (.cells cs t fr))
    (hu : P.underlying ty = some d) (hd : (match d with | .struct _ | .array _ _ => true | _ => false) = true) (hi : (P.info? ty).map (·.size) = some cs.size) :
    (results fn tmps).run P w = .ok (.tuple #[.agg cs, tmps.getD u undef]) w := by
  have hp' : tmps[p]?.getD undef = .pointer (some ⟨g, 0, none⟩) := by simpa using hp
  simp [results, h, hp', asAddr, run_loadVar_row w g t ty cs fr d hg hu hd hi]
set_option maxHeartbeats 8000000 in
set_option maxRecDepth 100000 in
theorem millwrightref19_line.calls (k : Nat) (A0 : Option Addr) (c0 : Nat) (l0 : List (S78)) (r1 : Int) (r2 : Int) (r3 : Int) (r4 : Int) (r5 : Int) (r6 : Int) (w : World) (hr0 : Kd.C k78 w A0 l0.length l0) (hc0 : l0.length ≤ c0) (h : millwrightref19_line.f k l0 = some (r1, r2, r3, r4, r5, r6)) :
    Calls Tryd.prog 30 #[.slice A0 l0.length c0] w fun e w' => e = .returned (.tuple #[.agg #[.int .i64 r1, .int .i64 r2, .int .i64 r3, .int .i64 r4, .int .i64 r5], .int .i64 r6]) ∧ Below w.heap.size w w' := by
  have hu39 := Tryd.underlying39
  have hu89 := Tryd.underlying89
  have HR0 := Aside0.mk hr0
  have HC0 := Aside0.mk hc0
  clear hr0 hc0
  have HB := Aside0.mk (Below.refl w.heap.size w)
  have H : (millwrightref19_line.l0 k l0 1 0 0 0 0 0) = some (r1, r2, r3, r4, r5, r6) := h
  clear h
  have H' := Aside0.mk H
  clear H
  go_enter Tryd.func30, Tryd.ntmps30
  go_wp2_with (first | ((with_reducible refine gate_dst (N := 2) rfl ?_); refine box_event ?hg (N := 2) ?hd (cs := #[.int .i64 0, .int .i64 0, .int .i64 0, .int .i64 0, .int .i64 0]) (t := 39) ?hr ?_; (case hd => rfl); (case hg => rfl); (case hr => first | (go_simp; done) | (go_simp; rfl)); intro gb138 hg w2 hbox hb; have n0_ := Aside0.mk (below_step (by repeat (first | (with_reducible first | exact HB.out | apply below_alloc | apply pw_below_drewN | apply below_drew1) | exact HB.out)) hb); have n1_ := Aside0.mk (hbox); have n2_ := Aside0.mk ((by rw [hg]; exact (below_size (by repeat (first | (with_reducible first | exact HB.out | apply below_alloc | apply pw_below_drewN | apply below_drew1) | exact HB.out))) : w.heap.size ≤ gb138)); have n3_ := Aside0.mk ((by rw [hg]; exact (below_size (by repeat (first | (with_reducible first | exact HB.out | apply below_alloc | apply pw_below_drewN | apply below_drew1) | exact HB.out))) : w.heap.size ≤ gb138)); clear HB; have HB := n0_; have BK138 := n1_; have GW138 := n2_; have GE138 := n3_; clear n0_ n1_ n2_ n3_; clear hb hbox hg) | ((with_reducible refine gate_dst (N := 4) rfl ?_); refine box_event ?hg (N := 4) ?hd (cs := #[.int .i64 0, .int .i64 0, .int .i64 0, .int .i64 0, .int .i64 0]) (t := 39) ?hr ?_; (case hd => rfl); (case hg => rfl); (case hr => first | (go_simp; done) | (go_simp; rfl)); intro gb139 hg w3 hbox hb; have n0_ := Aside0.mk (blk_below (g := gb138) (o := .cells #[.int .i64 0, .int .i64 0, .int .i64 0, .int .i64 0, .int .i64 0] 39 (0, 0)) (by (with_reducible repeat (first | refine blk_drewN ?_ _ | refine blk_drew ?_ | refine blk_alloc ?_ _)); exact BK138.out) hb); have n1_ := Aside0.mk (below_step (by repeat (first | (with_reducible first | exact HB.out | apply below_alloc | apply pw_below_drewN | apply below_drew1 | refine below_set ?_ GE138.out) | exact HB.out)) hb); have n2_ := Aside0.mk (hbox); have n3_ := Aside0.mk ((by rw [hg]; exact (below_size (by repeat (first | (with_reducible first | exact HB.out | apply below_alloc | apply pw_below_drewN | apply below_drew1 | refine below_set ?_ GE138.out) | exact HB.out))) : w.heap.size ≤ gb139)); have n4_ := Aside0.mk ((by rw [hg]; exact (below_size (by repeat (first | (with_reducible first | exact HB.out | apply below_alloc | apply pw_below_drewN | apply below_drew1 | refine below_set ?_ GE138.out) | exact HB.out))) : w.heap.size ≤ gb139)); have n5_ := Aside0.mk ((by rw [hg]; exact Nat.ne_of_lt (blk_lt (g := gb138) (o := .cells #[.int .i64 0, .int .i64 0, .int .i64 0, .int .i64 0, .int .i64 0] 39 (0, 0)) (by (with_reducible repeat (first | refine blk_drewN ?_ _ | refine blk_drew ?_ | refine blk_alloc ?_ _)); exact BK138.out)) : gb138 ≠ gb139)); have n6_ := Aside0.mk ((by rw [hg]; exact Nat.ne_of_gt (blk_lt (g := gb138) (o := .cells #[.int .i64 0, .int .i64 0, .int .i64 0, .int .i64 0, .int .i64 0] 39 (0, 0)) (by (with_reducible repeat (first | refine blk_drewN ?_ _ | refine blk_drew ?_ | refine blk_alloc ?_ _)); exact BK138.out)) : gb139 ≠ gb138)); clear BK138; clear HB; have BK138 := n0_; have HB := n1_; have BK139 := n2_; have GW139 := n3_; have GE139 := n4_; have NB138_139 := n5_; have NB139_138 := n6_; clear n0_ n1_ n2_ n3_ n4_ n5_ n6_; clear hb hbox hg; have hnb4 := NB139_138.out; have hnc4 := NB138_139.out; have hcz5_0 : w3.cell? ⟨gb139, 0, none⟩ = some (.int .i64 0) := (blk_cell BK139.out 0).trans rfl; have hcz5_1 : w3.cell? ⟨gb139, 1, none⟩ = some (.int .i64 0) := (blk_cell BK139.out 1).trans rfl; have hcz5_2 : w3.cell? ⟨gb139, 2, none⟩ = some (.int .i64 0) := (blk_cell BK139.out 2).trans rfl; have hcz5_3 : w3.cell? ⟨gb139, 3, none⟩ = some (.int .i64 0) := (blk_cell BK139.out 3).trans rfl; have hcz5_4 : w3.cell? ⟨gb139, 4, none⟩ = some (.int .i64 0) := (blk_cell BK139.out 4).trans rfl; have hfz5_0 := blk_frozen BK139.out 0; have hfz5_1 := blk_frozen BK139.out 1; have hfz5_2 := blk_frozen BK139.out 2; have hfz5_3 := blk_frozen BK139.out 3; have hfz5_4 := blk_frozen BK139.out 4))
  go_loopg [5] k (fun kq v5 w' => ∃ (x5_1 : Int) (x140000_1 : Int), v5 = .int .i64 x5_1 ∧ Aside0 (millwrightref19_line.l0 kq l0 x5_1 x140000_1 0 0 0 0 = some (r1, r2, r3, r4, r5, r6)) ∧ Aside0 (kq ≤ k) ∧ Aside0 (w'.heap[gb138]? = some (.cells #[.int .i64 0, .int .i64 0, .int .i64 0, .int .i64 0, .int .i64 0] 39 (0, 0))) ∧ Aside0 (w'.heap[gb139]? = some (.cells #[.int .i64 x140000_1, .int .i64 0, .int .i64 0, .int .i64 0, .int .i64 0] 39 (0, 0))) ∧ Aside0 (Below w.heap.size w w'))
  case atStart => exact ⟨(1), (0), (by first | rfl | (simp; done) | (simp [*]; done)), H', ⟨Nat.le_refl _⟩, ⟨by (with_reducible repeat (first | refine blk_drewN ?_ _ | refine blk_drew ?_ | refine blk_alloc ?_ _)); refine blk_far ?_ NB138_139.out _; (with_reducible repeat (first | refine blk_drewN ?_ _ | refine blk_drew ?_ | refine blk_alloc ?_ _)); refine blk_far ?_ NB138_139.out _; (with_reducible repeat (first | refine blk_drewN ?_ _ | refine blk_drew ?_ | refine blk_alloc ?_ _)); refine blk_far ?_ NB138_139.out _; (with_reducible repeat (first | refine blk_drewN ?_ _ | refine blk_drew ?_ | refine blk_alloc ?_ _)); refine blk_far ?_ NB138_139.out _; (with_reducible repeat (first | refine blk_drewN ?_ _ | refine blk_drew ?_ | refine blk_alloc ?_ _)); refine blk_far ?_ NB138_139.out _; (with_reducible repeat (first | refine blk_drewN ?_ _ | refine blk_drew ?_ | refine blk_alloc ?_ _)); exact BK138.out⟩, ⟨by (with_reducible repeat (first | refine blk_drewN ?_ _ | refine blk_drew ?_ | refine blk_alloc ?_ _)); refine blk_put (cs := #[.int .i64 0, .int .i64 0, .int .i64 0, .int .i64 0, .int .i64 0]) ?_ 4 _ rfl; (with_reducible repeat (first | refine blk_drewN ?_ _ | refine blk_drew ?_ | refine blk_alloc ?_ _)); refine blk_put (cs := #[.int .i64 0, .int .i64 0, .int .i64 0, .int .i64 0, .int .i64 0]) ?_ 3 _ rfl; (with_reducible repeat (first | refine blk_drewN ?_ _ | refine blk_drew ?_ | refine blk_alloc ?_ _)); refine blk_put (cs := #[.int .i64 0, .int .i64 0, .int .i64 0, .int .i64 0, .int .i64 0]) ?_ 2 _ rfl; (with_reducible repeat (first | refine blk_drewN ?_ _ | refine blk_drew ?_ | refine blk_alloc ?_ _)); refine blk_put (cs := #[.int .i64 0, .int .i64 0, .int .i64 0, .int .i64 0, .int .i64 0]) ?_ 1 _ rfl; (with_reducible repeat (first | refine blk_drewN ?_ _ | refine blk_drew ?_ | refine blk_alloc ?_ _)); refine blk_put (cs := #[.int .i64 0, .int .i64 0, .int .i64 0, .int .i64 0, .int .i64 0]) ?_ 0 _ rfl; (with_reducible repeat (first | refine blk_drewN ?_ _ | refine blk_drew ?_ | refine blk_alloc ?_ _)); exact BK139.out⟩, ⟨by repeat (first | (with_reducible first | exact HB.out | apply below_alloc | apply pw_below_drewN | apply below_drew1 | refine below_set ?_ GE138.out | refine below_set ?_ GE139.out) | exact HB.out)⟩⟩
  case round =>
    clear H'
    try clear p2
    try clear c3
    try clear c4
    try clear hcz5_0
    try clear hcz5_1
    try clear hcz5_2
    try clear hcz5_3
    try clear hcz5_4
    try clear hfz5_0
    try clear hfz5_1
    try clear hfz5_2
    try clear hfz5_3
    try clear hfz5_4
    obtain ⟨x5_1, x140000_1, rfl, HA, HK1, BK138, BK139, HB⟩ := hrel
    cases gk with
    | zero => exact absurd HA.out (by simp [millwrightref19_line.l0])
    | succ k1 =>
      have H := HA.out
      clear HA
      simp only [millwrightref19_line.l0] at H
      by_cases c6 : x5_1 ≤ 6
      · rw [if_pos c6] at H
        have c6b0 : decide (x5_1 ≤ 6) = true := decide_eq_true c6
        clear c6
        by_cases c7 : 0 < (l0.length : Int)
        · rw [if_pos c7] at H
          have c7b0 : decide (0 < (l0.length : Int)) = true := decide_eq_true c7
          have c7b1 : decide (0 < l0.length) = true := decide_eq_true (by omega)
          clear c7
          by_cases c8 : ((rd_T78 l0 0).f0) = 1
          · rw [if_pos c8] at H
            have c8b0 : (((rd_T78 l0 0).f0) == 1) = true := beq_iff_eq.mpr c8
            have c8b1 : (((rd_T78 l0 0).f0) != 1) = false := bne_eq_false_iff_eq.mpr c8
            clear c8
            replace H := Option.bind_eq_some_iff.mp H
            obtain ⟨t142, A90, H⟩ := H
            replace H : (if ((rd_T78 l0 0).f1).toList = t142.toList then (millwrightref19_line.l0 k1 l0 (wrap64 (x5_1 + 1)) x5_1 0 0 0 0) else (millwrightref19_line.l0 k1 l0 (wrap64 (x5_1 + 1)) x140000_1 0 0 0 0)) = some (r1, r2, r3, r4, r5, r6) := H
            have A9 := Aside0.mk A90
            clear A90
            by_cases c10 : ((rd_T78 l0 0).f1).toList = t142.toList
            · rw [if_pos c10] at H
              have c10b0 : (((rd_T78 l0 0).f1).toList == t142.toList) = true := beq_iff_eq.mpr c10
              have c10b1 : (((rd_T78 l0 0).f1).toList != t142.toList) = false := bne_eq_false_iff_eq.mpr c10
              clear c10
              have H' := Aside0.mk H
              clear H
              try go_wp2
              have n0_ := Aside0.mk (blk_drew BK138.out)
              have n1_ := Aside0.mk (blk_drew BK139.out)
              have n2_ := Aside0.mk (below_drew1 HB.out)
              clear BK138
              clear BK139
              clear HB
              have BK138 := n0_
              have BK139 := n1_
              have HB := n2_
              clear n0_ n1_ n2_
              have p140 : 0 ≤ (0 : Int) := (by omega)
              have q140 : 0 < (l0.length : Int) := of_decide_eq_true (by first | (with_reducible assumption) | assumption)
              obtain ⟨ad140, e140, hx140_0, hx140_1, hx140_2⟩ := at_T78 HR0.out 0 p140 q140
              have hw140_2 := hx140_2
              (try rw [show ((0 : Int)).toNat = 0 from rfl] at hw140_2)
              (try rw [show 0 * 3 = 0 from rfl] at hw140_2)
              (try rw [Addr.add_zero'] at hw140_2)
              have hw140_1 := hx140_1
              (try rw [show ((0 : Int)).toNat = 0 from rfl] at hw140_1)
              (try rw [show 0 * 3 = 0 from rfl] at hw140_1)
              (try rw [Addr.add_zero'] at hw140_1)
              have hw140_0 := hx140_0
              (try rw [show ((0 : Int)).toNat = 0 from rfl] at hw140_0)
              (try rw [show 0 * 3 = 0 from rfl] at hw140_0)
              (try rw [Addr.add_zero'] at hw140_0)
              cases e140
              have qi140 : (0 < l0.length) = True := eq_true (by omega)
              (try rw [show ((0 : Int)).toNat = 0 from rfl] at hx140_0)
              (try rw [show 0 * 3 = 0 from rfl] at hx140_0)
              (try rw [Addr.add_zero'] at hx140_0)
              (try rw [show ((0 : Int)).toNat = 0 from rfl] at hx140_1)
              (try rw [show 0 * 3 = 0 from rfl] at hx140_1)
              (try rw [Addr.add_zero'] at hx140_1)
              (try rw [show ((0 : Int)).toNat = 0 from rfl] at hx140_2)
              (try rw [show 0 * 3 = 0 from rfl] at hx140_2)
              (try rw [Addr.add_zero'] at hx140_2)
              replace hx140_0 := (HB.out.cell (World.block_lt_of_cell? w _ hx140_0)).trans hx140_0
              replace hx140_1 := (HB.out.cell (World.block_lt_of_cell? w _ hx140_1)).trans hx140_1
              replace hx140_2 := (HB.out.cell (World.block_lt_of_cell? w _ hx140_2)).trans hx140_2
              replace p140 := eq_true p140
              replace q140 := eq_true q140
              have p141 : 0 ≤ (0 : Int) := (by omega)
              have q141 : 0 < (l0.length : Int) := of_decide_eq_true (by first | (with_reducible assumption) | assumption)
              obtain ⟨ad141, e141, hx141_0, hx141_1, hx141_2⟩ := at_T78 HR0.out 0 p141 q141
              have hw141_2 := hx141_2
              (try rw [show ((0 : Int)).toNat = 0 from rfl] at hw141_2)
              (try rw [show 0 * 3 = 0 from rfl] at hw141_2)
              (try rw [Addr.add_zero'] at hw141_2)
              have hw141_1 := hx141_1
              (try rw [show ((0 : Int)).toNat = 0 from rfl] at hw141_1)
              (try rw [show 0 * 3 = 0 from rfl] at hw141_1)
              (try rw [Addr.add_zero'] at hw141_1)
              have hw141_0 := hx141_0
              (try rw [show ((0 : Int)).toNat = 0 from rfl] at hw141_0)
              (try rw [show 0 * 3 = 0 from rfl] at hw141_0)
              (try rw [Addr.add_zero'] at hw141_0)
              obtain rfl : ad140 = ad141 := (by injection e141)
              have qi141 : (0 < l0.length) = True := eq_true (by omega)
              (try rw [show ((0 : Int)).toNat = 0 from rfl] at hx141_0)
              (try rw [show 0 * 3 = 0 from rfl] at hx141_0)
              (try rw [Addr.add_zero'] at hx141_0)
              (try rw [show ((0 : Int)).toNat = 0 from rfl] at hx141_1)
              (try rw [show 0 * 3 = 0 from rfl] at hx141_1)
              (try rw [Addr.add_zero'] at hx141_1)
              (try rw [show ((0 : Int)).toNat = 0 from rfl] at hx141_2)
              (try rw [show 0 * 3 = 0 from rfl] at hx141_2)
              (try rw [Addr.add_zero'] at hx141_2)
              replace hx141_0 := (HB.out.cell (World.block_lt_of_cell? w _ hx141_0)).trans hx141_0
              replace hx141_1 := (HB.out.cell (World.block_lt_of_cell? w _ hx141_1)).trans hx141_1
              replace hx141_2 := (HB.out.cell (World.block_lt_of_cell? w _ hx141_2)).trans hx141_2
              replace p141 := eq_true p141
              replace q141 := eq_true q141
              refine start_ (n := 14) (S := fun w' => w'.cell? ad140 = some (.int .i64 ((rd_T78 l0 0).f0)) ∧ w'.cell? ⟨ad140.block, ad140.off + 1, none⟩ = some (.string ((rd_T78 l0 0).f1)) ∧ w'.cell? ⟨ad140.block, ad140.off + 2, none⟩ = some (.int .i64 ((rd_T78 l0 0).f2)) ∧ w'.cell? ad140 = some (.int .i64 ((rd_T78 l0 0).f0)) ∧ w'.cell? ⟨ad140.block, ad140.off + 1, none⟩ = some (.string ((rd_T78 l0 0).f1)) ∧ w'.cell? ⟨ad140.block, ad140.off + 2, none⟩ = some (.int .i64 ((rd_T78 l0 0).f2))) (ds := []) #[false, false, false, false, false, false, false, false, false, false, false, false, false, false] (by kernel_rfl) rfl rfl ⟨((HB.out.cell (World.block_lt_of_cell? w _ hw140_0)).trans hw140_0), ((HB.out.cell (World.block_lt_of_cell? w _ hw140_1)).trans hw140_1), ((HB.out.cell (World.block_lt_of_cell? w _ hw140_2)).trans hw140_2), ((HB.out.cell (World.block_lt_of_cell? w _ hw141_0)).trans hw141_0), ((HB.out.cell (World.block_lt_of_cell? w _ hw141_1)).trans hw141_1), ((HB.out.cell (World.block_lt_of_cell? w _ hw141_2)).trans hw141_2)⟩ (fun hHeld => ?_); refine with_tabW millwrightref19_line.tab5 millwrightref19_line.bits5 (fun HT_ HW_ => ?_)
              generalize wr.drew = w11 at BK138 BK139 HB hx140_0 hx140_1 hx140_2 hx141_0 hx141_1 hx141_2 hHeld ⊢
              refine pure_ (i := 0) (N := some 15) (v := ?_) (a' := ?_) #[true, false, false, false, false, false, false, false, false, false, false, false, false, false] rfl rfl (any_of HT_.out (by kernel_rfl)) (fun _ _ _ h => h) (Or.inl ⟨by rfl, ?_⟩) ?_ ?_
              rotate_left
              · intro w'
                go_simp
                with_reducible rfl
              rotate_left
              · simp only [Act.put, List.setIfInBounds_toArray, List.set_cons_zero, List.set_cons_succ, i64_w, i32_w]
                rfl
              refine pure_ (i := 1) (N := some 16) (v := ?_) (a' := ?_) #[true, true, false, false, false, false, false, false, false, false, false, false, false, false] rfl rfl (any_of HT_.out (by kernel_rfl)) (fun _ _ _ h => h) (Or.inl ⟨by rfl, ?_⟩) ?_ ?_
              rotate_left
              · intro w'
                go_simp
                with_reducible rfl
              rotate_left
              · simp only [Act.put, List.setIfInBounds_toArray, List.set_cons_zero, List.set_cons_succ, i64_w, i32_w]
                rfl
              refine pure_ (i := 2) (N := some 17) (v := ?_) (a' := ?_) #[true, true, true, false, false, false, false, false, false, false, false, false, false, false] rfl rfl (any_of HT_.out (by kernel_rfl)) (fun _ _ _ h => h) (Or.inl ⟨by rfl, ?_⟩) ?_ ?_
              rotate_left
              · intro w'
                go_simp
                with_reducible rfl
              rotate_left
              · simp only [Act.put, List.setIfInBounds_toArray, List.set_cons_zero, List.set_cons_succ, i64_w, i32_w]
                rfl
              refine take_ (i := 3) (N := some 18) (v := ?_) (a' := ?_) #[true, true, true, true, false, false, false, false, false, false, false, false, false, false] rfl rfl (take_ofW HT_.out HW_.out (by kernel_rfl)) (fun _ _ _ h => h) (Or.inl ⟨by rfl, ?_⟩) hHeld ?_ ?_
              rotate_left
              · rintro w' ⟨s0, s1, s2, s3, s4, s5⟩
                go_simp
                with_reducible rfl
              rotate_left
              · simp only [Act.put, List.setIfInBounds_toArray, List.set_cons_zero, List.set_cons_succ, i64_w, i32_w]
                rfl
              refine pure_ (i := 4) (N := some 19) (v := ?_) (a' := ?_) #[true, true, true, true, true, false, false, false, false, false, false, false, false, false] rfl rfl (any_of HT_.out (by kernel_rfl)) (fun _ _ _ h => h) (Or.inl ⟨by rfl, ?_⟩) ?_ ?_
              rotate_left
              · intro w'
                go_simp
                with_reducible rfl
              rotate_left
              · simp only [Act.put, List.setIfInBounds_toArray, List.set_cons_zero, List.set_cons_succ, i64_w, i32_w]
                rfl
              refine pure_ (i := 5) (N := some 20) (v := ?_) (a' := ?_) #[true, true, true, true, true, true, false, false, false, false, false, false, false, false] rfl rfl (any_of HT_.out (by kernel_rfl)) (fun _ _ _ h => h) (Or.inl ⟨by rfl, ?_⟩) ?_ ?_
              rotate_left
              · intro w'
                go_simp
                with_reducible rfl
              rotate_left
              · simp only [Act.put, List.setIfInBounds_toArray, List.set_cons_zero, List.set_cons_succ, i64_w, i32_w]
                rfl
              refine pure_ (i := 6) (N := some 21) (v := ?_) (a' := ?_) #[true, true, true, true, true, true, true, false, false, false, false, false, false, false] rfl rfl (any_of HT_.out (by kernel_rfl)) (fun _ _ _ h => h) (Or.inl ⟨by rfl, ?_⟩) ?_ ?_
              rotate_left
              · intro w'
                go_simp
                with_reducible rfl
              rotate_left
              · simp only [Act.put, List.setIfInBounds_toArray, List.set_cons_zero, List.set_cons_succ, i64_w, i32_w]
                rfl
              refine pure_ (i := 7) (N := some 22) (v := ?_) (a' := ?_) #[true, true, true, true, true, true, true, true, false, false, false, false, false, false] rfl rfl (any_of HT_.out (by kernel_rfl)) (fun _ _ _ h => h) (Or.inl ⟨by rfl, ?_⟩) ?_ ?_
              rotate_left
              · intro w'
                go_simp
                with_reducible rfl
              rotate_left
              · simp only [Act.put, List.setIfInBounds_toArray, List.set_cons_zero, List.set_cons_succ, i64_w, i32_w]
                rfl
              refine pure_ (i := 8) (N := some 23) (v := ?_) (a' := ?_) #[true, true, true, true, true, true, true, true, true, false, false, false, false, false] rfl rfl (any_of HT_.out (by kernel_rfl)) (fun _ _ _ h => h) (Or.inl ⟨by rfl, ?_⟩) ?_ ?_
              rotate_left
              · intro w'
                go_simp
                with_reducible rfl
              rotate_left
              · simp only [Act.put, List.setIfInBounds_toArray, List.set_cons_zero, List.set_cons_succ, i64_w, i32_w]
                rfl
              refine pure_ (i := 10) (N := some 25) (v := ?_) (a' := ?_) #[true, true, true, true, true, true, true, true, true, false, true, false, false, false] rfl rfl (any_of HT_.out (by kernel_rfl)) (fun _ _ _ h => h) (Or.inl ⟨by rfl, ?_⟩) ?_ ?_
              rotate_left
              · intro w'
                go_simp
                with_reducible rfl
              rotate_left
              · simp only [Act.put, List.setIfInBounds_toArray, List.set_cons_zero, List.set_cons_succ, i64_w, i32_w]
                rfl
              refine take_ (i := 9) (N := some 24) (v := ?_) (a' := ?_) #[true, true, true, true, true, true, true, true, true, true, true, false, false, false] rfl rfl (take_ofW HT_.out HW_.out (by kernel_rfl)) (fun _ _ _ h => h) (Or.inl ⟨by rfl, ?_⟩) hHeld ?_ ?_
              rotate_left
              · rintro w' ⟨s0, s1, s2, s3, s4, s5⟩
                go_simp
                with_reducible rfl
              rotate_left
              · simp only [Act.put, List.setIfInBounds_toArray, List.set_cons_zero, List.set_cons_succ, i64_w, i32_w]
                rfl
              refine one_ (i := 11) (N := some 26) #[true, true, true, true, true, true, true, true, true, true, true, true, false, false] rfl rfl (one_of HT_.out (by kernel_rfl)) (by decide) (fun K hK => ?_)
              refine goes_ Tryd.func50 (by kernel_rfl) rfl #[.int .i64 x5_1] (by rfl) rfl rfl (by (try simp only [List.map_toArray, List.map_cons, List.map_nil]); first | done | rfl | (simp only [List.length_drop, List.length_take]; rfl)) ?_
              with_reducible refine (millwrightref19_Word.calls x5_1 t142 _ A9.out).mono ?_
              rintro e w12 ⟨rfl, hb⟩
              refine ⟨_, rfl, ?_⟩
              have n0_ := Aside0.mk (blk_below (g := gb138) (o := .cells #[.int .i64 0, .int .i64 0, .int .i64 0, .int .i64 0, .int .i64 0] 39 (0, 0)) (by (with_reducible repeat (first | refine blk_drewN ?_ _ | refine blk_drew ?_ | refine blk_alloc ?_ _)); exact BK138.out) hb)
              have n1_ := Aside0.mk (blk_below (g := gb139) (o := .cells #[.int .i64 x140000_1, .int .i64 0, .int .i64 0, .int .i64 0, .int .i64 0] 39 (0, 0)) (by (with_reducible repeat (first | refine blk_drewN ?_ _ | refine blk_drew ?_ | refine blk_alloc ?_ _)); exact BK139.out) hb)
              have n2_ := Aside0.mk (below_step (by repeat (first | (with_reducible first | exact HB.out | apply below_alloc | apply pw_below_drewN | apply below_drew1 | refine below_set ?_ GE138.out | refine below_set ?_ GE139.out) | exact HB.out)) hb)
              clear BK138
              clear BK139
              clear HB
              have BK138 := n0_
              have BK139 := n1_
              have HB := n2_
              clear n0_ n1_ n2_
              (try clear hb)
              (try clear hb2)
              (try clear hk)
              (try clear hi)
              refine hK.out _ _ ⟨((HB.out.cell (World.block_lt_of_cell? w _ hw140_0)).trans hw140_0), ((HB.out.cell (World.block_lt_of_cell? w _ hw140_1)).trans hw140_1), ((HB.out.cell (World.block_lt_of_cell? w _ hw140_2)).trans hw140_2), ((HB.out.cell (World.block_lt_of_cell? w _ hw141_0)).trans hw141_0), ((HB.out.cell (World.block_lt_of_cell? w _ hw141_1)).trans hw141_1), ((HB.out.cell (World.block_lt_of_cell? w _ hw141_2)).trans hw141_2)⟩ (fun hHeld => ?_)
              clear hK K
              refine norm_ (a' := ?_) ?_ ?_
              rotate_left
              · show Act.put _ (some 26) _ = _
                simp only [Act.put, List.setIfInBounds_toArray, List.set_cons_zero, List.set_cons_succ, i64_w, i32_w]
                rfl
              refine pure_ (i := 12) (N := some 27) (v := ?_) (a' := ?_) #[true, true, true, true, true, true, true, true, true, true, true, true, true, false] rfl rfl (any_of HT_.out (by kernel_rfl)) (fun _ _ _ h => h) (Or.inl ⟨by rfl, ?_⟩) ?_ ?_
              rotate_left
              · intro w'
                go_simp
                with_reducible rfl
              rotate_left
              · simp only [Act.put, List.setIfInBounds_toArray, List.set_cons_zero, List.set_cons_succ, i64_w, i32_w]
                rfl
              refine pure_ (i := 13) (N := some 28) (v := ?_) (a' := ?_) #[true, true, true, true, true, true, true, true, true, true, true, true, true, true] rfl rfl (any_of HT_.out (by kernel_rfl)) (fun _ _ _ h => h) (Or.inl ⟨by rfl, ?_⟩) ?_ ?_
              rotate_left
              · intro w'
                go_simp
                with_reducible rfl
              rotate_left
              · simp only [Act.put, List.setIfInBounds_toArray, List.set_cons_zero, List.set_cons_succ, i64_w, i32_w]
                rfl
              refine done_ (done_of HT_.out (by kernel_rfl)) ?_
              have hnb13 := NB139_138.out
              have hnc13 := NB138_139.out
              have hcz14_0 : w12.cell? ⟨gb139, 0, none⟩ = some (.int .i64 x140000_1) := (blk_cell BK139.out 0).trans rfl
              have hcz14_1 : w12.cell? ⟨gb139, 1, none⟩ = some (.int .i64 0) := (blk_cell BK139.out 1).trans rfl
              have hcz14_2 : w12.cell? ⟨gb139, 2, none⟩ = some (.int .i64 0) := (blk_cell BK139.out 2).trans rfl
              have hcz14_3 : w12.cell? ⟨gb139, 3, none⟩ = some (.int .i64 0) := (blk_cell BK139.out 3).trans rfl
              have hcz14_4 : w12.cell? ⟨gb139, 4, none⟩ = some (.int .i64 0) := (blk_cell BK139.out 4).trans rfl
              have hfz14_0 := blk_frozen BK139.out 0
              have hfz14_1 := blk_frozen BK139.out 1
              have hfz14_2 := blk_frozen BK139.out 2
              have hfz14_3 := blk_frozen BK139.out 3
              have hfz14_4 := blk_frozen BK139.out 4
              try go_wp2
              go_roundg k1
              case measure => have := HK1.out; omega
              case rel => exact ⟨(wrap64 (x5_1 + 1)), (x5_1), (by first | rfl | (simp; done) | (simp [*]; done)), H', ⟨by have := HK1.out; omega⟩, ⟨by (with_reducible repeat (first | refine blk_drewN ?_ _ | refine blk_drew ?_ | refine blk_alloc ?_ _)); refine blk_far ?_ NB138_139.out _; (with_reducible repeat (first | refine blk_drewN ?_ _ | refine blk_drew ?_ | refine blk_alloc ?_ _)); exact BK138.out⟩, ⟨by (with_reducible repeat (first | refine blk_drewN ?_ _ | refine blk_drew ?_ | refine blk_alloc ?_ _)); refine blk_put (cs := #[.int .i64 x140000_1, .int .i64 0, .int .i64 0, .int .i64 0, .int .i64 0]) ?_ 0 _ rfl; (with_reducible repeat (first | refine blk_drewN ?_ _ | refine blk_drew ?_ | refine blk_alloc ?_ _)); exact BK139.out⟩, ⟨by repeat (first | (with_reducible first | exact HB.out | apply below_alloc | apply pw_below_drewN | apply below_drew1 | refine below_set ?_ GE138.out | refine below_set ?_ GE139.out) | exact HB.out)⟩⟩
            · rw [if_neg c10] at H
              have c10b0 : (((rd_T78 l0 0).f1).toList == t142.toList) = false := beq_eq_false_iff_ne.mpr c10
              have c10b1 : (((rd_T78 l0 0).f1).toList != t142.toList) = true := bne_iff_ne.mpr c10
              have H' := Aside0.mk H
              clear H
              try go_wp2
              have n0_ := Aside0.mk (blk_drew BK138.out)
              have n1_ := Aside0.mk (blk_drew BK139.out)
              have n2_ := Aside0.mk (below_drew1 HB.out)
              clear BK138
              clear BK139
              clear HB
              have BK138 := n0_
              have BK139 := n1_
              have HB := n2_
              clear n0_ n1_ n2_
              have p140 : 0 ≤ (0 : Int) := (by omega)
              have q140 : 0 < (l0.length : Int) := of_decide_eq_true (by first | (with_reducible assumption) | assumption)
              obtain ⟨ad140, e140, hx140_0, hx140_1, hx140_2⟩ := at_T78 HR0.out 0 p140 q140
              have hw140_2 := hx140_2
              (try rw [show ((0 : Int)).toNat = 0 from rfl] at hw140_2)
              (try rw [show 0 * 3 = 0 from rfl] at hw140_2)
              (try rw [Addr.add_zero'] at hw140_2)
              have hw140_1 := hx140_1
              (try rw [show ((0 : Int)).toNat = 0 from rfl] at hw140_1)
              (try rw [show 0 * 3 = 0 from rfl] at hw140_1)
              (try rw [Addr.add_zero'] at hw140_1)
              have hw140_0 := hx140_0
              (try rw [show ((0 : Int)).toNat = 0 from rfl] at hw140_0)
              (try rw [show 0 * 3 = 0 from rfl] at hw140_0)
              (try rw [Addr.add_zero'] at hw140_0)
              cases e140
              have qi140 : (0 < l0.length) = True := eq_true (by omega)
              (try rw [show ((0 : Int)).toNat = 0 from rfl] at hx140_0)
              (try rw [show 0 * 3 = 0 from rfl] at hx140_0)
              (try rw [Addr.add_zero'] at hx140_0)
              (try rw [show ((0 : Int)).toNat = 0 from rfl] at hx140_1)
              (try rw [show 0 * 3 = 0 from rfl] at hx140_1)
              (try rw [Addr.add_zero'] at hx140_1)
              (try rw [show ((0 : Int)).toNat = 0 from rfl] at hx140_2)
              (try rw [show 0 * 3 = 0 from rfl] at hx140_2)
              (try rw [Addr.add_zero'] at hx140_2)
              replace hx140_0 := (HB.out.cell (World.block_lt_of_cell? w _ hx140_0)).trans hx140_0
              replace hx140_1 := (HB.out.cell (World.block_lt_of_cell? w _ hx140_1)).trans hx140_1
              replace hx140_2 := (HB.out.cell (World.block_lt_of_cell? w _ hx140_2)).trans hx140_2
              replace p140 := eq_true p140
              replace q140 := eq_true q140
              have p141 : 0 ≤ (0 : Int) := (by omega)
              have q141 : 0 < (l0.length : Int) := of_decide_eq_true (by first | (with_reducible assumption) | assumption)
              obtain ⟨ad141, e141, hx141_0, hx141_1, hx141_2⟩ := at_T78 HR0.out 0 p141 q141
              have hw141_2 := hx141_2
              (try rw [show ((0 : Int)).toNat = 0 from rfl] at hw141_2)
              (try rw [show 0 * 3 = 0 from rfl] at hw141_2)
              (try rw [Addr.add_zero'] at hw141_2)
              have hw141_1 := hx141_1
              (try rw [show ((0 : Int)).toNat = 0 from rfl] at hw141_1)
              (try rw [show 0 * 3 = 0 from rfl] at hw141_1)
              (try rw [Addr.add_zero'] at hw141_1)
              have hw141_0 := hx141_0
              (try rw [show ((0 : Int)).toNat = 0 from rfl] at hw141_0)
              (try rw [show 0 * 3 = 0 from rfl] at hw141_0)
              (try rw [Addr.add_zero'] at hw141_0)
              obtain rfl : ad140 = ad141 := (by injection e141)
              have qi141 : (0 < l0.length) = True := eq_true (by omega)
              (try rw [show ((0 : Int)).toNat = 0 from rfl] at hx141_0)
              (try rw [show 0 * 3 = 0 from rfl] at hx141_0)
              (try rw [Addr.add_zero'] at hx141_0)
              (try rw [show ((0 : Int)).toNat = 0 from rfl] at hx141_1)
              (try rw [show 0 * 3 = 0 from rfl] at hx141_1)
              (try rw [Addr.add_zero'] at hx141_1)
              (try rw [show ((0 : Int)).toNat = 0 from rfl] at hx141_2)
              (try rw [show 0 * 3 = 0 from rfl] at hx141_2)
              (try rw [Addr.add_zero'] at hx141_2)
              replace hx141_0 := (HB.out.cell (World.block_lt_of_cell? w _ hx141_0)).trans hx141_0
              replace hx141_1 := (HB.out.cell (World.block_lt_of_cell? w _ hx141_1)).trans hx141_1
              replace hx141_2 := (HB.out.cell (World.block_lt_of_cell? w _ hx141_2)).trans hx141_2
              replace p141 := eq_true p141
              replace q141 := eq_true q141
              refine start_ (n := 14) (S := fun w' => w'.cell? ad140 = some (.int .i64 ((rd_T78 l0 0).f0)) ∧ w'.cell? ⟨ad140.block, ad140.off + 1, none⟩ = some (.string ((rd_T78 l0 0).f1)) ∧ w'.cell? ⟨ad140.block, ad140.off + 2, none⟩ = some (.int .i64 ((rd_T78 l0 0).f2)) ∧ w'.cell? ad140 = some (.int .i64 ((rd_T78 l0 0).f0)) ∧ w'.cell? ⟨ad140.block, ad140.off + 1, none⟩ = some (.string ((rd_T78 l0 0).f1)) ∧ w'.cell? ⟨ad140.block, ad140.off + 2, none⟩ = some (.int .i64 ((rd_T78 l0 0).f2))) (ds := []) #[false, false, false, false, false, false, false, false, false, false, false, false, false, false] (by kernel_rfl) rfl rfl ⟨((HB.out.cell (World.block_lt_of_cell? w _ hw140_0)).trans hw140_0), ((HB.out.cell (World.block_lt_of_cell? w _ hw140_1)).trans hw140_1), ((HB.out.cell (World.block_lt_of_cell? w _ hw140_2)).trans hw140_2), ((HB.out.cell (World.block_lt_of_cell? w _ hw141_0)).trans hw141_0), ((HB.out.cell (World.block_lt_of_cell? w _ hw141_1)).trans hw141_1), ((HB.out.cell (World.block_lt_of_cell? w _ hw141_2)).trans hw141_2)⟩ (fun hHeld => ?_); refine with_tabW millwrightref19_line.tab5 millwrightref19_line.bits5 (fun HT_ HW_ => ?_)
              generalize wr.drew = w15 at BK138 BK139 HB hx140_0 hx140_1 hx140_2 hx141_0 hx141_1 hx141_2 hHeld ⊢
              refine pure_ (i := 0) (N := some 15) (v := ?_) (a' := ?_) #[true, false, false, false, false, false, false, false, false, false, false, false, false, false] rfl rfl (any_of HT_.out (by kernel_rfl)) (fun _ _ _ h => h) (Or.inl ⟨by rfl, ?_⟩) ?_ ?_
              rotate_left
              · intro w'
                go_simp
                with_reducible rfl
              rotate_left
              · simp only [Act.put, List.setIfInBounds_toArray, List.set_cons_zero, List.set_cons_succ, i64_w, i32_w]
                rfl
              refine pure_ (i := 1) (N := some 16) (v := ?_) (a' := ?_) #[true, true, false, false, false, false, false, false, false, false, false, false, false, false] rfl rfl (any_of HT_.out (by kernel_rfl)) (fun _ _ _ h => h) (Or.inl ⟨by rfl, ?_⟩) ?_ ?_
              rotate_left
              · intro w'
                go_simp
                with_reducible rfl
              rotate_left
              · simp only [Act.put, List.setIfInBounds_toArray, List.set_cons_zero, List.set_cons_succ, i64_w, i32_w]
                rfl
              refine pure_ (i := 2) (N := some 17) (v := ?_) (a' := ?_) #[true, true, true, false, false, false, false, false, false, false, false, false, false, false] rfl rfl (any_of HT_.out (by kernel_rfl)) (fun _ _ _ h => h) (Or.inl ⟨by rfl, ?_⟩) ?_ ?_
              rotate_left
              · intro w'
                go_simp
                with_reducible rfl
              rotate_left
              · simp only [Act.put, List.setIfInBounds_toArray, List.set_cons_zero, List.set_cons_succ, i64_w, i32_w]
                rfl
              refine take_ (i := 3) (N := some 18) (v := ?_) (a' := ?_) #[true, true, true, true, false, false, false, false, false, false, false, false, false, false] rfl rfl (take_ofW HT_.out HW_.out (by kernel_rfl)) (fun _ _ _ h => h) (Or.inl ⟨by rfl, ?_⟩) hHeld ?_ ?_
              rotate_left
              · rintro w' ⟨s0, s1, s2, s3, s4, s5⟩
                go_simp
                with_reducible rfl
              rotate_left
              · simp only [Act.put, List.setIfInBounds_toArray, List.set_cons_zero, List.set_cons_succ, i64_w, i32_w]
                rfl
              refine pure_ (i := 4) (N := some 19) (v := ?_) (a' := ?_) #[true, true, true, true, true, false, false, false, false, false, false, false, false, false] rfl rfl (any_of HT_.out (by kernel_rfl)) (fun _ _ _ h => h) (Or.inl ⟨by rfl, ?_⟩) ?_ ?_
              rotate_left
              · intro w'
                go_simp
                with_reducible rfl
              rotate_left
              · simp only [Act.put, List.setIfInBounds_toArray, List.set_cons_zero, List.set_cons_succ, i64_w, i32_w]
                rfl
              refine pure_ (i := 5) (N := some 20) (v := ?_) (a' := ?_) #[true, true, true, true, true, true, false, false, false, false, false, false, false, false] rfl rfl (any_of HT_.out (by kernel_rfl)) (fun _ _ _ h => h) (Or.inl ⟨by rfl, ?_⟩) ?_ ?_
              rotate_left
              · intro w'
                go_simp
                with_reducible rfl
              rotate_left
              · simp only [Act.put, List.setIfInBounds_toArray, List.set_cons_zero, List.set_cons_succ, i64_w, i32_w]
                rfl
              refine pure_ (i := 6) (N := some 21) (v := ?_) (a' := ?_) #[true, true, true, true, true, true, true, false, false, false, false, false, false, false] rfl rfl (any_of HT_.out (by kernel_rfl)) (fun _ _ _ h => h) (Or.inl ⟨by rfl, ?_⟩) ?_ ?_
              rotate_left
              · intro w'
                go_simp
                with_reducible rfl
              rotate_left
              · simp only [Act.put, List.setIfInBounds_toArray, List.set_cons_zero, List.set_cons_succ, i64_w, i32_w]
                rfl
              refine pure_ (i := 7) (N := some 22) (v := ?_) (a' := ?_) #[true, true, true, true, true, true, true, true, false, false, false, false, false, false] rfl rfl (any_of HT_.out (by kernel_rfl)) (fun _ _ _ h => h) (Or.inl ⟨by rfl, ?_⟩) ?_ ?_
              rotate_left
              · intro w'
                go_simp
                with_reducible rfl
              rotate_left
              · simp only [Act.put, List.setIfInBounds_toArray, List.set_cons_zero, List.set_cons_succ, i64_w, i32_w]
                rfl
              refine pure_ (i := 8) (N := some 23) (v := ?_) (a' := ?_) #[true, true, true, true, true, true, true, true, true, false, false, false, false, false] rfl rfl (any_of HT_.out (by kernel_rfl)) (fun _ _ _ h => h) (Or.inl ⟨by rfl, ?_⟩) ?_ ?_
              rotate_left
              · intro w'
                go_simp
                with_reducible rfl
              rotate_left
              · simp only [Act.put, List.setIfInBounds_toArray, List.set_cons_zero, List.set_cons_succ, i64_w, i32_w]
                rfl
              refine pure_ (i := 10) (N := some 25) (v := ?_) (a' := ?_) #[true, true, true, true, true, true, true, true, true, false, true, false, false, false] rfl rfl (any_of HT_.out (by kernel_rfl)) (fun _ _ _ h => h) (Or.inl ⟨by rfl, ?_⟩) ?_ ?_
              rotate_left
              · intro w'
                go_simp
                with_reducible rfl
              rotate_left
              · simp only [Act.put, List.setIfInBounds_toArray, List.set_cons_zero, List.set_cons_succ, i64_w, i32_w]
                rfl
              refine take_ (i := 9) (N := some 24) (v := ?_) (a' := ?_) #[true, true, true, true, true, true, true, true, true, true, true, false, false, false] rfl rfl (take_ofW HT_.out HW_.out (by kernel_rfl)) (fun _ _ _ h => h) (Or.inl ⟨by rfl, ?_⟩) hHeld ?_ ?_
              rotate_left
              · rintro w' ⟨s0, s1, s2, s3, s4, s5⟩
                go_simp
                with_reducible rfl
              rotate_left
              · simp only [Act.put, List.setIfInBounds_toArray, List.set_cons_zero, List.set_cons_succ, i64_w, i32_w]
                rfl
              refine one_ (i := 11) (N := some 26) #[true, true, true, true, true, true, true, true, true, true, true, true, false, false] rfl rfl (one_of HT_.out (by kernel_rfl)) (by decide) (fun K hK => ?_)
              refine goes_ Tryd.func50 (by kernel_rfl) rfl #[.int .i64 x5_1] (by rfl) rfl rfl (by (try simp only [List.map_toArray, List.map_cons, List.map_nil]); first | done | rfl | (simp only [List.length_drop, List.length_take]; rfl)) ?_
              with_reducible refine (millwrightref19_Word.calls x5_1 t142 _ A9.out).mono ?_
              rintro e w16 ⟨rfl, hb⟩
              refine ⟨_, rfl, ?_⟩
              have n0_ := Aside0.mk (blk_below (g := gb138) (o := .cells #[.int .i64 0, .int .i64 0, .int .i64 0, .int .i64 0, .int .i64 0] 39 (0, 0)) (by (with_reducible repeat (first | refine blk_drewN ?_ _ | refine blk_drew ?_ | refine blk_alloc ?_ _)); exact BK138.out) hb)
              have n1_ := Aside0.mk (blk_below (g := gb139) (o := .cells #[.int .i64 x140000_1, .int .i64 0, .int .i64 0, .int .i64 0, .int .i64 0] 39 (0, 0)) (by (with_reducible repeat (first | refine blk_drewN ?_ _ | refine blk_drew ?_ | refine blk_alloc ?_ _)); exact BK139.out) hb)
              have n2_ := Aside0.mk (below_step (by repeat (first | (with_reducible first | exact HB.out | apply below_alloc | apply pw_below_drewN | apply below_drew1 | refine below_set ?_ GE138.out | refine below_set ?_ GE139.out) | exact HB.out)) hb)
              clear BK138
              clear BK139
              clear HB
              have BK138 := n0_
              have BK139 := n1_
              have HB := n2_
              clear n0_ n1_ n2_
              (try clear hb)
              (try clear hb2)
              (try clear hk)
              (try clear hi)
              refine hK.out _ _ ⟨((HB.out.cell (World.block_lt_of_cell? w _ hw140_0)).trans hw140_0), ((HB.out.cell (World.block_lt_of_cell? w _ hw140_1)).trans hw140_1), ((HB.out.cell (World.block_lt_of_cell? w _ hw140_2)).trans hw140_2), ((HB.out.cell (World.block_lt_of_cell? w _ hw141_0)).trans hw141_0), ((HB.out.cell (World.block_lt_of_cell? w _ hw141_1)).trans hw141_1), ((HB.out.cell (World.block_lt_of_cell? w _ hw141_2)).trans hw141_2)⟩ (fun hHeld => ?_)
              clear hK K
              refine norm_ (a' := ?_) ?_ ?_
              rotate_left
              · show Act.put _ (some 26) _ = _
                simp only [Act.put, List.setIfInBounds_toArray, List.set_cons_zero, List.set_cons_succ, i64_w, i32_w]
                rfl
              refine pure_ (i := 12) (N := some 27) (v := ?_) (a' := ?_) #[true, true, true, true, true, true, true, true, true, true, true, true, true, false] rfl rfl (any_of HT_.out (by kernel_rfl)) (fun _ _ _ h => h) (Or.inl ⟨by rfl, ?_⟩) ?_ ?_
              rotate_left
              · intro w'
                go_simp
                with_reducible rfl
              rotate_left
              · simp only [Act.put, List.setIfInBounds_toArray, List.set_cons_zero, List.set_cons_succ, i64_w, i32_w]
                rfl
              refine pure_ (i := 13) (N := some 28) (v := ?_) (a' := ?_) #[true, true, true, true, true, true, true, true, true, true, true, true, true, true] rfl rfl (any_of HT_.out (by kernel_rfl)) (fun _ _ _ h => h) (Or.inl ⟨by rfl, ?_⟩) ?_ ?_
              rotate_left
              · intro w'
                go_simp
                with_reducible rfl
              rotate_left
              · simp only [Act.put, List.setIfInBounds_toArray, List.set_cons_zero, List.set_cons_succ, i64_w, i32_w]
                rfl
              refine done_ (done_of HT_.out (by kernel_rfl)) ?_
              try go_wp2
              go_roundg k1
              case measure => have := HK1.out; omega
              case rel => exact ⟨(wrap64 (x5_1 + 1)), (x140000_1), (by first | rfl | (simp; done) | (simp [*]; done)), H', ⟨by have := HK1.out; omega⟩, ⟨by (with_reducible repeat (first | refine blk_drewN ?_ _ | refine blk_drew ?_ | refine blk_alloc ?_ _)); exact BK138.out⟩, ⟨by (with_reducible repeat (first | refine blk_drewN ?_ _ | refine blk_drew ?_ | refine blk_alloc ?_ _)); exact BK139.out⟩, ⟨by repeat (first | (with_reducible first | exact HB.out | apply below_alloc | apply pw_below_drewN | apply below_drew1 | refine below_set ?_ GE138.out | refine below_set ?_ GE139.out) | exact HB.out)⟩⟩
          · rw [if_neg c8] at H
            have c8b0 : (((rd_T78 l0 0).f0) == 1) = false := beq_eq_false_iff_ne.mpr c8
            have c8b1 : (((rd_T78 l0 0).f0) != 1) = true := bne_iff_ne.mpr c8
            have H' := Aside0.mk H
            clear H
            try go_wp2
            have n0_ := Aside0.mk (blk_drew BK138.out)
            have n1_ := Aside0.mk (blk_drew BK139.out)
            have n2_ := Aside0.mk (below_drew1 HB.out)
            clear BK138
            clear BK139
            clear HB
            have BK138 := n0_
            have BK139 := n1_
            have HB := n2_
            clear n0_ n1_ n2_
            have p140 : 0 ≤ (0 : Int) := (by omega)
            have q140 : 0 < (l0.length : Int) := of_decide_eq_true (by first | (with_reducible assumption) | assumption)
            obtain ⟨ad140, e140, hx140_0, hx140_1, hx140_2⟩ := at_T78 HR0.out 0 p140 q140
            have hw140_2 := hx140_2
            (try rw [show ((0 : Int)).toNat = 0 from rfl] at hw140_2)
            (try rw [show 0 * 3 = 0 from rfl] at hw140_2)
            (try rw [Addr.add_zero'] at hw140_2)
            have hw140_1 := hx140_1
            (try rw [show ((0 : Int)).toNat = 0 from rfl] at hw140_1)
            (try rw [show 0 * 3 = 0 from rfl] at hw140_1)
            (try rw [Addr.add_zero'] at hw140_1)
            have hw140_0 := hx140_0
            (try rw [show ((0 : Int)).toNat = 0 from rfl] at hw140_0)
            (try rw [show 0 * 3 = 0 from rfl] at hw140_0)
            (try rw [Addr.add_zero'] at hw140_0)
            cases e140
            have qi140 : (0 < l0.length) = True := eq_true (by omega)
            (try rw [show ((0 : Int)).toNat = 0 from rfl] at hx140_0)
            (try rw [show 0 * 3 = 0 from rfl] at hx140_0)
            (try rw [Addr.add_zero'] at hx140_0)
            (try rw [show ((0 : Int)).toNat = 0 from rfl] at hx140_1)
            (try rw [show 0 * 3 = 0 from rfl] at hx140_1)
            (try rw [Addr.add_zero'] at hx140_1)
            (try rw [show ((0 : Int)).toNat = 0 from rfl] at hx140_2)
            (try rw [show 0 * 3 = 0 from rfl] at hx140_2)
            (try rw [Addr.add_zero'] at hx140_2)
            replace hx140_0 := (HB.out.cell (World.block_lt_of_cell? w _ hx140_0)).trans hx140_0
            replace hx140_1 := (HB.out.cell (World.block_lt_of_cell? w _ hx140_1)).trans hx140_1
            replace hx140_2 := (HB.out.cell (World.block_lt_of_cell? w _ hx140_2)).trans hx140_2
            replace p140 := eq_true p140
            replace q140 := eq_true q140
            refine start_ (n := 14) (S := fun w' => w'.cell? ad140 = some (.int .i64 ((rd_T78 l0 0).f0)) ∧ w'.cell? ⟨ad140.block, ad140.off + 1, none⟩ = some (.string ((rd_T78 l0 0).f1)) ∧ w'.cell? ⟨ad140.block, ad140.off + 2, none⟩ = some (.int .i64 ((rd_T78 l0 0).f2))) (ds := []) #[false, false, false, false, false, false, false, false, false, false, false, false, false, false] (by kernel_rfl) rfl rfl ⟨((HB.out.cell (World.block_lt_of_cell? w _ hw140_0)).trans hw140_0), ((HB.out.cell (World.block_lt_of_cell? w _ hw140_1)).trans hw140_1), ((HB.out.cell (World.block_lt_of_cell? w _ hw140_2)).trans hw140_2)⟩ (fun hHeld => ?_); refine with_tabW millwrightref19_line.tab5 millwrightref19_line.bits5 (fun HT_ HW_ => ?_)
            generalize wr.drew = w17 at BK138 BK139 HB hx140_0 hx140_1 hx140_2 hHeld ⊢
            refine pure_ (i := 0) (N := some 15) (v := ?_) (a' := ?_) #[true, false, false, false, false, false, false, false, false, false, false, false, false, false] rfl rfl (any_of HT_.out (by kernel_rfl)) (fun _ _ _ h => h) (Or.inl ⟨by rfl, ?_⟩) ?_ ?_
            rotate_left
            · intro w'
              go_simp
              with_reducible rfl
            rotate_left
            · simp only [Act.put, List.setIfInBounds_toArray, List.set_cons_zero, List.set_cons_succ, i64_w, i32_w]
              rfl
            refine pure_ (i := 1) (N := some 16) (v := ?_) (a' := ?_) #[true, true, false, false, false, false, false, false, false, false, false, false, false, false] rfl rfl (any_of HT_.out (by kernel_rfl)) (fun _ _ _ h => h) (Or.inl ⟨by rfl, ?_⟩) ?_ ?_
            rotate_left
            · intro w'
              go_simp
              with_reducible rfl
            rotate_left
            · simp only [Act.put, List.setIfInBounds_toArray, List.set_cons_zero, List.set_cons_succ, i64_w, i32_w]
              rfl
            refine pure_ (i := 2) (N := some 17) (v := ?_) (a' := ?_) #[true, true, true, false, false, false, false, false, false, false, false, false, false, false] rfl rfl (any_of HT_.out (by kernel_rfl)) (fun _ _ _ h => h) (Or.inl ⟨by rfl, ?_⟩) ?_ ?_
            rotate_left
            · intro w'
              go_simp
              with_reducible rfl
            rotate_left
            · simp only [Act.put, List.setIfInBounds_toArray, List.set_cons_zero, List.set_cons_succ, i64_w, i32_w]
              rfl
            refine take_ (i := 3) (N := some 18) (v := ?_) (a' := ?_) #[true, true, true, true, false, false, false, false, false, false, false, false, false, false] rfl rfl (take_ofW HT_.out HW_.out (by kernel_rfl)) (fun _ _ _ h => h) (Or.inl ⟨by rfl, ?_⟩) hHeld ?_ ?_
            rotate_left
            · rintro w' ⟨s0, s1, s2⟩
              go_simp
              with_reducible rfl
            rotate_left
            · simp only [Act.put, List.setIfInBounds_toArray, List.set_cons_zero, List.set_cons_succ, i64_w, i32_w]
              rfl
            refine pure_ (i := 4) (N := some 19) (v := ?_) (a' := ?_) #[true, true, true, true, true, false, false, false, false, false, false, false, false, false] rfl rfl (any_of HT_.out (by kernel_rfl)) (fun _ _ _ h => h) (Or.inl ⟨by rfl, ?_⟩) ?_ ?_
            rotate_left
            · intro w'
              go_simp
              with_reducible rfl
            rotate_left
            · simp only [Act.put, List.setIfInBounds_toArray, List.set_cons_zero, List.set_cons_succ, i64_w, i32_w]
              rfl
            refine pure_ (i := 5) (N := some 20) (v := ?_) (a' := ?_) #[true, true, true, true, true, true, false, false, false, false, false, false, false, false] rfl rfl (any_of HT_.out (by kernel_rfl)) (fun _ _ _ h => h) (Or.inl ⟨by rfl, ?_⟩) ?_ ?_
            rotate_left
            · intro w'
              go_simp
              with_reducible rfl
            rotate_left
            · simp only [Act.put, List.setIfInBounds_toArray, List.set_cons_zero, List.set_cons_succ, i64_w, i32_w]
              rfl
            refine pure_ (i := 6) (N := some 21) (v := undef) (a' := ?_) #[true, true, true, true, true, true, true, false, false, false, false, false, false, false] rfl rfl (any_of HT_.out (by kernel_rfl)) (fun _ _ _ h => h) (Or.inr ⟨by rfl, rfl⟩) ?_ ?_
            rotate_left
            · simp only [Act.put, List.setIfInBounds_toArray, List.set_cons_zero, List.set_cons_succ, i64_w, i32_w]
              rfl
            refine pure_ (i := 7) (N := some 22) (v := undef) (a' := ?_) #[true, true, true, true, true, true, true, true, false, false, false, false, false, false] rfl rfl (any_of HT_.out (by kernel_rfl)) (fun _ _ _ h => h) (Or.inr ⟨by rfl, rfl⟩) ?_ ?_
            rotate_left
            · simp only [Act.put, List.setIfInBounds_toArray, List.set_cons_zero, List.set_cons_succ, i64_w, i32_w]
              rfl
            refine pure_ (i := 8) (N := some 23) (v := undef) (a' := ?_) #[true, true, true, true, true, true, true, true, true, false, false, false, false, false] rfl rfl (any_of HT_.out (by kernel_rfl)) (fun _ _ _ h => h) (Or.inr ⟨by rfl, rfl⟩) ?_ ?_
            rotate_left
            · simp only [Act.put, List.setIfInBounds_toArray, List.set_cons_zero, List.set_cons_succ, i64_w, i32_w]
              rfl
            refine pure_ (i := 9) (N := some 24) (v := undef) (a' := ?_) #[true, true, true, true, true, true, true, true, true, true, false, false, false, false] rfl rfl (any_of HT_.out (by kernel_rfl)) (fun _ _ _ h => h) (Or.inr ⟨by rfl, rfl⟩) ?_ ?_
            rotate_left
            · simp only [Act.put, List.setIfInBounds_toArray, List.set_cons_zero, List.set_cons_succ, i64_w, i32_w]
              rfl
            refine pure_ (i := 10) (N := some 25) (v := undef) (a' := ?_) #[true, true, true, true, true, true, true, true, true, true, true, false, false, false] rfl rfl (any_of HT_.out (by kernel_rfl)) (fun _ _ _ h => h) (Or.inr ⟨by rfl, rfl⟩) ?_ ?_
            rotate_left
            · simp only [Act.put, List.setIfInBounds_toArray, List.set_cons_zero, List.set_cons_succ, i64_w, i32_w]
              rfl
            refine pure_ (i := 11) (N := some 26) (v := undef) (a' := ?_) #[true, true, true, true, true, true, true, true, true, true, true, true, false, false] rfl rfl (any_of HT_.out (by kernel_rfl)) (fun _ _ _ h => h) (Or.inr ⟨by rfl, rfl⟩) ?_ ?_
            rotate_left
            · simp only [Act.put, List.setIfInBounds_toArray, List.set_cons_zero, List.set_cons_succ, i64_w, i32_w]
              rfl
            refine pure_ (i := 12) (N := some 27) (v := undef) (a' := ?_) #[true, true, true, true, true, true, true, true, true, true, true, true, true, false] rfl rfl (any_of HT_.out (by kernel_rfl)) (fun _ _ _ h => h) (Or.inr ⟨by rfl, rfl⟩) ?_ ?_
            rotate_left
            · simp only [Act.put, List.setIfInBounds_toArray, List.set_cons_zero, List.set_cons_succ, i64_w, i32_w]
              rfl
            refine pure_ (i := 13) (N := some 28) (v := ?_) (a' := ?_) #[true, true, true, true, true, true, true, true, true, true, true, true, true, true] rfl rfl (any_of HT_.out (by kernel_rfl)) (fun _ _ _ h => h) (Or.inl ⟨by rfl, ?_⟩) ?_ ?_
            rotate_left
            · intro w'
              go_simp
              with_reducible rfl
            rotate_left
            · simp only [Act.put, List.setIfInBounds_toArray, List.set_cons_zero, List.set_cons_succ, i64_w, i32_w]
              rfl
            refine done_ (done_of HT_.out (by kernel_rfl)) ?_
            try go_wp2
            go_roundg k1
            case measure => have := HK1.out; omega
            case rel => exact ⟨(wrap64 (x5_1 + 1)), (x140000_1), (by first | rfl | (simp; done) | (simp [*]; done)), H', ⟨by have := HK1.out; omega⟩, ⟨by (with_reducible repeat (first | refine blk_drewN ?_ _ | refine blk_drew ?_ | refine blk_alloc ?_ _)); exact BK138.out⟩, ⟨by (with_reducible repeat (first | refine blk_drewN ?_ _ | refine blk_drew ?_ | refine blk_alloc ?_ _)); exact BK139.out⟩, ⟨by repeat (first | (with_reducible first | exact HB.out | apply below_alloc | apply pw_below_drewN | apply below_drew1 | refine below_set ?_ GE138.out | refine below_set ?_ GE139.out) | exact HB.out)⟩⟩
        · rw [if_neg c7] at H
          exact absurd H (by simp)
      · rw [if_neg c6] at H
        have c6b0 : decide (x5_1 ≤ 6) = false := decide_eq_false c6
        clear c6
        by_cases c18 : x140000_1 = 0
        · rw [if_pos c18] at H
          have c18b0 : (x140000_1 == 0) = true := beq_iff_eq.mpr c18
          have c18b1 : (x140000_1 != 0) = false := bne_eq_false_iff_eq.mpr c18
          clear c18
          simp only [Option.some.injEq, Prod.mk.injEq] at H
          obtain ⟨rfl, rfl, rfl, rfl, rfl, rfl⟩ := H
          have hnb19 := NB139_138.out
          have hnc19 := NB138_139.out
          have hcz20_0 : wr.cell? ⟨gb139, 0, none⟩ = some (.int .i64 x140000_1) := (blk_cell BK139.out 0).trans rfl
          have hcz20_1 : wr.cell? ⟨gb139, 1, none⟩ = some (.int .i64 0) := (blk_cell BK139.out 1).trans rfl
          have hcz20_2 : wr.cell? ⟨gb139, 2, none⟩ = some (.int .i64 0) := (blk_cell BK139.out 2).trans rfl
          have hcz20_3 : wr.cell? ⟨gb139, 3, none⟩ = some (.int .i64 0) := (blk_cell BK139.out 3).trans rfl
          have hcz20_4 : wr.cell? ⟨gb139, 4, none⟩ = some (.int .i64 0) := (blk_cell BK139.out 4).trans rfl
          have hfz20_0 := blk_frozen BK139.out 0
          have hfz20_1 := blk_frozen BK139.out 1
          have hfz20_2 := blk_frozen BK139.out 2
          have hfz20_3 := blk_frozen BK139.out 3
          have hfz20_4 := blk_frozen BK139.out 4
          have hcz21_0 : wr.cell? ⟨gb138, 0, none⟩ = some (.int .i64 0) := (blk_cell BK138.out 0).trans rfl
          have hcz21_1 : wr.cell? ⟨gb138, 1, none⟩ = some (.int .i64 0) := (blk_cell BK138.out 1).trans rfl
          have hcz21_2 : wr.cell? ⟨gb138, 2, none⟩ = some (.int .i64 0) := (blk_cell BK138.out 2).trans rfl
          have hcz21_3 : wr.cell? ⟨gb138, 3, none⟩ = some (.int .i64 0) := (blk_cell BK138.out 3).trans rfl
          have hcz21_4 : wr.cell? ⟨gb138, 4, none⟩ = some (.int .i64 0) := (blk_cell BK138.out 4).trans rfl
          have hfz21_0 := blk_frozen BK138.out 0
          have hfz21_1 := blk_frozen BK138.out 1
          have hfz21_2 := blk_frozen BK138.out 2
          have hfz21_3 := blk_frozen BK138.out 3
          have hfz21_4 := blk_frozen BK138.out 4
          go_wp2
          refine bodyPost_ret (results_ct rfl _ _ gb138 39 #[.int .i64 0, .int .i64 0, .int .i64 0, .int .i64 0, .int .i64 0] (0, 0) _ rfl (by (with_reducible repeat (first | refine blk_drewN ?_ _ | refine blk_drew ?_ | refine blk_alloc ?_ _)); refine blk_put (cs := #[.int .i64 0, .int .i64 0, .int .i64 0, .int .i64 0, .int .i64 0]) ?_ 4 _ rfl; (with_reducible repeat (first | refine blk_drewN ?_ _ | refine blk_drew ?_ | refine blk_alloc ?_ _)); refine blk_put (cs := #[.int .i64 0, .int .i64 0, .int .i64 0, .int .i64 0, .int .i64 0]) ?_ 3 _ rfl; (with_reducible repeat (first | refine blk_drewN ?_ _ | refine blk_drew ?_ | refine blk_alloc ?_ _)); refine blk_put (cs := #[.int .i64 0, .int .i64 0, .int .i64 0, .int .i64 0, .int .i64 0]) ?_ 2 _ rfl; (with_reducible repeat (first | refine blk_drewN ?_ _ | refine blk_drew ?_ | refine blk_alloc ?_ _)); refine blk_put (cs := #[.int .i64 0, .int .i64 0, .int .i64 0, .int .i64 0, .int .i64 0]) ?_ 1 _ rfl; (with_reducible repeat (first | refine blk_drewN ?_ _ | refine blk_drew ?_ | refine blk_alloc ?_ _)); refine blk_put (cs := #[.int .i64 0, .int .i64 0, .int .i64 0, .int .i64 0, .int .i64 0]) ?_ 0 _ rfl; (with_reducible repeat (first | refine blk_drewN ?_ _ | refine blk_drew ?_ | refine blk_alloc ?_ _)); exact BK138.out) Tryd.underlying39 rfl (by kernel_rfl)) rfl ?_
          exact ⟨by first | rfl | (simp [errW_none, errW_some] <;> rfl) | (simp [*, errW_none, errW_some] <;> rfl), by repeat (first | (with_reducible first | exact HB.out | apply below_alloc | apply pw_below_drewN | apply below_drew1 | refine below_set ?_ GE138.out | refine below_set ?_ GE139.out) | exact HB.out)⟩
        · rw [if_neg c18] at H
          have c18b0 : (x140000_1 == 0) = false := beq_eq_false_iff_ne.mpr c18
          have c18b1 : (x140000_1 != 0) = true := bne_iff_ne.mpr c18
          have H' := Aside0.mk H
          clear H
          have hnb22 := NB139_138.out
          have hnc22 := NB138_139.out
          have hcz23_0 : wr.cell? ⟨gb139, 0, none⟩ = some (.int .i64 x140000_1) := (blk_cell BK139.out 0).trans rfl
          have hcz23_1 : wr.cell? ⟨gb139, 1, none⟩ = some (.int .i64 0) := (blk_cell BK139.out 1).trans rfl
          have hcz23_2 : wr.cell? ⟨gb139, 2, none⟩ = some (.int .i64 0) := (blk_cell BK139.out 2).trans rfl
          have hcz23_3 : wr.cell? ⟨gb139, 3, none⟩ = some (.int .i64 0) := (blk_cell BK139.out 3).trans rfl
          have hcz23_4 : wr.cell? ⟨gb139, 4, none⟩ = some (.int .i64 0) := (blk_cell BK139.out 4).trans rfl
          have hfz23_0 := blk_frozen BK139.out 0
          have hfz23_1 := blk_frozen BK139.out 1
          have hfz23_2 := blk_frozen BK139.out 2
          have hfz23_3 := blk_frozen BK139.out 3
          have hfz23_4 := blk_frozen BK139.out 4
          go_wp2_with (first | ((with_reducible refine gate_dst (N := 6) rfl ?_); refine box_event ?hg (N := 6) ?hd (cs := #[.int .i64 0, .int .i64 0, .int .i64 0, .int .i64 0]) (t := 89) ?hr ?_; (case hd => rfl); (case hg => rfl); (case hr => first | (go_simp; done) | (go_simp; rfl)); intro gb143 hg w24 hbox hb; have n0_ := Aside0.mk (blk_below (g := gb138) (o := .cells #[.int .i64 0, .int .i64 0, .int .i64 0, .int .i64 0, .int .i64 0] 39 (0, 0)) (by (with_reducible repeat (first | refine blk_drewN ?_ _ | refine blk_drew ?_ | refine blk_alloc ?_ _)); exact BK138.out) hb); have n1_ := Aside0.mk (blk_below (g := gb139) (o := .cells #[.int .i64 x140000_1, .int .i64 0, .int .i64 0, .int .i64 0, .int .i64 0] 39 (0, 0)) (by (with_reducible repeat (first | refine blk_drewN ?_ _ | refine blk_drew ?_ | refine blk_alloc ?_ _)); exact BK139.out) hb); have n2_ := Aside0.mk (below_step (by repeat (first | (with_reducible first | exact HB.out | apply below_alloc | apply pw_below_drewN | apply below_drew1 | refine below_set ?_ GE138.out | refine below_set ?_ GE139.out) | exact HB.out)) hb); have n3_ := Aside0.mk (hbox); have n4_ := Aside0.mk ((by rw [hg]; exact (below_size (by repeat (first | (with_reducible first | exact HB.out | apply below_alloc | apply pw_below_drewN | apply below_drew1 | refine below_set ?_ GE138.out | refine below_set ?_ GE139.out) | exact HB.out))) : w.heap.size ≤ gb143)); have n5_ := Aside0.mk ((by rw [hg]; exact (below_size (by repeat (first | (with_reducible first | exact HB.out | apply below_alloc | apply pw_below_drewN | apply below_drew1 | refine below_set ?_ GE138.out | refine below_set ?_ GE139.out) | exact HB.out))) : w.heap.size ≤ gb143)); have n6_ := Aside0.mk ((by rw [hg]; exact Nat.ne_of_lt (blk_lt (g := gb138) (o := .cells #[.int .i64 0, .int .i64 0, .int .i64 0, .int .i64 0, .int .i64 0] 39 (0, 0)) (by (with_reducible repeat (first | refine blk_drewN ?_ _ | refine blk_drew ?_ | refine blk_alloc ?_ _)); exact BK138.out)) : gb138 ≠ gb143)); have n7_ := Aside0.mk ((by rw [hg]; exact Nat.ne_of_gt (blk_lt (g := gb138) (o := .cells #[.int .i64 0, .int .i64 0, .int .i64 0, .int .i64 0, .int .i64 0] 39 (0, 0)) (by (with_reducible repeat (first | refine blk_drewN ?_ _ | refine blk_drew ?_ | refine blk_alloc ?_ _)); exact BK138.out)) : gb143 ≠ gb138)); have n8_ := Aside0.mk ((by rw [hg]; exact Nat.ne_of_lt (blk_lt (g := gb139) (o := .cells #[.int .i64 x140000_1, .int .i64 0, .int .i64 0, .int .i64 0, .int .i64 0] 39 (0, 0)) (by (with_reducible repeat (first | refine blk_drewN ?_ _ | refine blk_drew ?_ | refine blk_alloc ?_ _)); exact BK139.out)) : gb139 ≠ gb143)); have n9_ := Aside0.mk ((by rw [hg]; exact Nat.ne_of_gt (blk_lt (g := gb139) (o := .cells #[.int .i64 x140000_1, .int .i64 0, .int .i64 0, .int .i64 0, .int .i64 0] 39 (0, 0)) (by (with_reducible repeat (first | refine blk_drewN ?_ _ | refine blk_drew ?_ | refine blk_alloc ?_ _)); exact BK139.out)) : gb143 ≠ gb139)); clear BK138; clear BK139; clear HB; have BK138 := n0_; have BK139 := n1_; have HB := n2_; have BK143 := n3_; have GW143 := n4_; have GE143 := n5_; have NB138_143 := n6_; have NB143_138 := n7_; have NB139_143 := n8_; have NB143_139 := n9_; clear n0_ n1_ n2_ n3_ n4_ n5_ n6_ n7_ n8_ n9_; clear hb hbox hg; have hnb25 := NB143_138.out; have hnc25 := NB138_143.out; have hnb26 := NB143_139.out; have hnc26 := NB139_143.out; have hcz27_0 : w24.cell? ⟨gb143, 0, none⟩ = some (.int .i64 0) := (blk_cell BK143.out 0).trans rfl; have hcz27_1 : w24.cell? ⟨gb143, 1, none⟩ = some (.int .i64 0) := (blk_cell BK143.out 1).trans rfl; have hcz27_2 : w24.cell? ⟨gb143, 2, none⟩ = some (.int .i64 0) := (blk_cell BK143.out 2).trans rfl; have hcz27_3 : w24.cell? ⟨gb143, 3, none⟩ = some (.int .i64 0) := (blk_cell BK143.out 3).trans rfl; have hfz27_0 := blk_frozen BK143.out 0; have hfz27_1 := blk_frozen BK143.out 1; have hfz27_2 := blk_frozen BK143.out 2; have hfz27_3 := blk_frozen BK143.out 3))
          go_loopg [7] k1 (fun kq v7 w' => ∃ (x7_2 : Int) (x139000_2 : Int) (x139001_2 : Int) (x139002_2 : Int) (x139003_2 : Int) (x139004_2 : Int) (x144000_2 : Int) (x144001_2 : Int) (x144002_2 : Int) (x144003_2 : Int), v7 = .int .i64 x7_2 ∧ Aside0 (0 ≤ x7_2) ∧ Aside0 (millwrightref19_line.l1 kq l0 x7_2 x140000_1 0 0 0 0 x144000_2 x144001_2 x144002_2 x144003_2 = some (r1, r2, r3, r4, r5, r6)) ∧ Aside0 (kq ≤ k1) ∧ Aside0 (w'.heap[gb138]? = some (.cells #[.int .i64 x139000_2, .int .i64 x139001_2, .int .i64 x139002_2, .int .i64 x139003_2, .int .i64 x139004_2] 39 (0, 0))) ∧ Aside0 (w'.heap[gb139]? = some (.cells #[.int .i64 x140000_1, .int .i64 0, .int .i64 0, .int .i64 0, .int .i64 0] 39 (0, 0))) ∧ Aside0 (w'.heap[gb143]? = some (.cells #[.int .i64 x144000_2, .int .i64 x144001_2, .int .i64 x144002_2, .int .i64 x144003_2] 89 (0, 0))) ∧ Aside0 (Below w.heap.size w w'))
          case atStart => exact ⟨(0), (0), (0), (0), (0), (0), (0), (0), (0), (0), (by first | rfl | (simp; done) | (simp [*]; done)), ⟨by decide⟩, H', ⟨Nat.le_refl _⟩, ⟨by (with_reducible repeat (first | refine blk_drewN ?_ _ | refine blk_drew ?_ | refine blk_alloc ?_ _)); refine blk_far ?_ NB138_143.out _; (with_reducible repeat (first | refine blk_drewN ?_ _ | refine blk_drew ?_ | refine blk_alloc ?_ _)); refine blk_far ?_ NB138_143.out _; (with_reducible repeat (first | refine blk_drewN ?_ _ | refine blk_drew ?_ | refine blk_alloc ?_ _)); refine blk_far ?_ NB138_143.out _; (with_reducible repeat (first | refine blk_drewN ?_ _ | refine blk_drew ?_ | refine blk_alloc ?_ _)); refine blk_far ?_ NB138_143.out _; (with_reducible repeat (first | refine blk_drewN ?_ _ | refine blk_drew ?_ | refine blk_alloc ?_ _)); exact BK138.out⟩, ⟨by (with_reducible repeat (first | refine blk_drewN ?_ _ | refine blk_drew ?_ | refine blk_alloc ?_ _)); refine blk_far ?_ NB139_143.out _; (with_reducible repeat (first | refine blk_drewN ?_ _ | refine blk_drew ?_ | refine blk_alloc ?_ _)); refine blk_far ?_ NB139_143.out _; (with_reducible repeat (first | refine blk_drewN ?_ _ | refine blk_drew ?_ | refine blk_alloc ?_ _)); refine blk_far ?_ NB139_143.out _; (with_reducible repeat (first | refine blk_drewN ?_ _ | refine blk_drew ?_ | refine blk_alloc ?_ _)); refine blk_far ?_ NB139_143.out _; (with_reducible repeat (first | refine blk_drewN ?_ _ | refine blk_drew ?_ | refine blk_alloc ?_ _)); exact BK139.out⟩, ⟨by (with_reducible repeat (first | refine blk_drewN ?_ _ | refine blk_drew ?_ | refine blk_alloc ?_ _)); refine blk_put (cs := #[.int .i64 0, .int .i64 0, .int .i64 0, .int .i64 0]) ?_ 3 _ rfl; (with_reducible repeat (first | refine blk_drewN ?_ _ | refine blk_drew ?_ | refine blk_alloc ?_ _)); refine blk_put (cs := #[.int .i64 0, .int .i64 0, .int .i64 0, .int .i64 0]) ?_ 2 _ rfl; (with_reducible repeat (first | refine blk_drewN ?_ _ | refine blk_drew ?_ | refine blk_alloc ?_ _)); refine blk_put (cs := #[.int .i64 0, .int .i64 0, .int .i64 0, .int .i64 0]) ?_ 1 _ rfl; (with_reducible repeat (first | refine blk_drewN ?_ _ | refine blk_drew ?_ | refine blk_alloc ?_ _)); refine blk_put (cs := #[.int .i64 0, .int .i64 0, .int .i64 0, .int .i64 0]) ?_ 0 _ rfl; (with_reducible repeat (first | refine blk_drewN ?_ _ | refine blk_drew ?_ | refine blk_alloc ?_ _)); exact BK143.out⟩, ⟨by repeat (first | (with_reducible first | exact HB.out | apply below_alloc | apply pw_below_drewN | apply below_drew1 | refine below_set ?_ GE138.out | refine below_set ?_ GE139.out | refine below_set ?_ GE143.out) | exact HB.out)⟩⟩
          case round =>
            clear H'
            try clear c1
            try clear p1
            try clear q1
            try clear hx1
            try clear qi1
            try clear c2
            try clear p2
            try clear c5
            try clear c6
            try clear c6b0
            try clear p6
            try clear c7
            try clear c8
            try clear c8b0
            try clear c8b1
            try clear c10
            try clear c10b0
            try clear c10b1
            try clear c13
            try clear p14
            try clear q14
            try clear hx14
            try clear qi14
            try clear c18
            try clear c18b0
            try clear c18b1
            try clear c19
            try clear c22
            try clear c25
            try clear c26
            try clear hcz14_0
            try clear hcz14_1
            try clear hcz14_2
            try clear hcz14_3
            try clear hcz14_4
            try clear hcz20_0
            try clear hcz20_1
            try clear hcz20_2
            try clear hcz20_3
            try clear hcz20_4
            try clear hcz21_0
            try clear hcz21_1
            try clear hcz21_2
            try clear hcz21_3
            try clear hcz21_4
            try clear hcz23_0
            try clear hcz23_1
            try clear hcz23_2
            try clear hcz23_3
            try clear hcz23_4
            try clear hcz27_0
            try clear hcz27_1
            try clear hcz27_2
            try clear hcz27_3
            try clear hfz14_0
            try clear hfz14_1
            try clear hfz14_2
            try clear hfz14_3
            try clear hfz14_4
            try clear hfz20_0
            try clear hfz20_1
            try clear hfz20_2
            try clear hfz20_3
            try clear hfz20_4
            try clear hfz21_0
            try clear hfz21_1
            try clear hfz21_2
            try clear hfz21_3
            try clear hfz21_4
            try clear hfz23_0
            try clear hfz23_1
            try clear hfz23_2
            try clear hfz23_3
            try clear hfz23_4
            try clear hfz27_0
            try clear hfz27_1
            try clear hfz27_2
            try clear hfz27_3
            try clear hx140_0
            try clear hx140_1
            try clear hx140_2
            try clear hx141_0
            try clear hx141_1
            try clear hx141_2
            try clear p140
            try clear p141
            try clear q140
            try clear q141
            obtain ⟨x7_2, x139000_2, x139001_2, x139002_2, x139003_2, x139004_2, x144000_2, x144001_2, x144002_2, x144003_2, rfl, HZ7, HA, HK2, BK138, BK139, BK143, HB⟩ := hrel
            cases gk with
            | zero => exact absurd HA.out (by simp [millwrightref19_line.l1])
            | succ k2 =>
              have H := HA.out
              clear HA
              simp only [millwrightref19_line.l1] at H
              by_cases c28 : x7_2 < 4
              · rw [if_pos c28] at H
                have c28b0 : decide (x7_2 < 4) = true := decide_eq_true c28
                have HY7 := Aside0.mk (of_decide_eq_true c28b0)
                clear c28
                have HC29 := Aside0.mk H
                clear H
                go_upto_region 13 with (fail)
                go_cut [53] (fun v53 wc => ∃ (kq : Nat) (x53_28 : Bool), v53 = .bool x53_28 ∧ Aside0 (millwrightref19_line.j2 kq l0 x7_2 x53_28 x140000_1 0 0 0 0 x144000_2 x144001_2 x144002_2 x144003_2 = some (r1, r2, r3, r4, r5, r6)) ∧ Aside0 (kq ≤ k2) ∧ Aside0 (wc.heap[gb138]? = some (.cells #[.int .i64 x139000_2, .int .i64 x139001_2, .int .i64 x139002_2, .int .i64 x139003_2, .int .i64 x139004_2] 39 (0, 0))) ∧ Aside0 (wc.heap[gb139]? = some (.cells #[.int .i64 x140000_1, .int .i64 0, .int .i64 0, .int .i64 0, .int .i64 0] 39 (0, 0))) ∧ Aside0 (wc.heap[gb143]? = some (.cells #[.int .i64 x144000_2, .int .i64 x144001_2, .int .i64 x144002_2, .int .i64 x144003_2] 89 (0, 0))) ∧ Aside0 (Below w.heap.size w wc))
                case first =>
                  have H := HC29.out
                  clear HC29
                  by_cases c30 : (wrap64 (x7_2 + 1)) ≥ (l0.length : Int)
                  · rw [if_pos c30] at H
                    have c30b0 : decide ((l0.length : Int) ≤ (wrap64 (x7_2 + 1))) = true := decide_eq_true c30
                    clear c30
                    (first | rw [c30b0] | (simp only [i64_w, i32_w]; rw [c30b0]) | skip)
                    have H' := Aside0.mk H
                    clear H
                    go_wp2
                    go_meet
                    case rel => exact ⟨_, (true), (by first | rfl | (simp; done) | (simp [*]; done)), H', ⟨by have := HK1.out; have := HK2.out; first | omega | exact Nat.le_refl _⟩, ⟨by (with_reducible repeat (first | refine blk_drewN ?_ _ | refine blk_drew ?_ | refine blk_alloc ?_ _)); exact BK138.out⟩, ⟨by (with_reducible repeat (first | refine blk_drewN ?_ _ | refine blk_drew ?_ | refine blk_alloc ?_ _)); exact BK139.out⟩, ⟨by (with_reducible repeat (first | refine blk_drewN ?_ _ | refine blk_drew ?_ | refine blk_alloc ?_ _)); exact BK143.out⟩, ⟨by repeat (first | (with_reducible first | exact HB.out | apply below_alloc | apply pw_below_drewN | apply below_drew1 | refine below_set ?_ GE138.out | refine below_set ?_ GE139.out | refine below_set ?_ GE143.out) | exact HB.out)⟩⟩
                  · rw [if_neg c30] at H
                    have c30b0 : decide ((l0.length : Int) ≤ (wrap64 (x7_2 + 1))) = false := decide_eq_false c30
                    clear c30
                    (first | rw [c30b0] | (simp only [i64_w, i32_w]; rw [c30b0]) | skip)
                    obtain ⟨ji31, hji31⟩ : ∃ j_ : Int, (wrap64 (x7_2 + 1)) = j_ := ⟨_, rfl⟩
                    replace H : (if 0 ≤ (ji31) then (if (ji31) < (l0.length : Int) then (millwrightref19_line.j2 k2 l0 x7_2 (((rd_T78 l0 (ji31)).f0) != 2) x140000_1 0 0 0 0 x144000_2 x144001_2 x144002_2 x144003_2) else (none)) else (none)) = some (r1, r2, r3, r4, r5, r6) := by first | (rw [hji31] at H; exact H) | (simp only [hji31] at H ⊢; exact H)
                    (try rw [hji31] at c30b0)
                    have hji31w : (IntKind.i64.wrap (x7_2 + 1)) = ji31 := (i64_w _).trans hji31
                    by_cases c32 : 0 ≤ (ji31)
                    · rw [if_pos c32] at H
                      have c32b0 : decide (0 ≤ (ji31)) = true := decide_eq_true c32
                      clear c32
                      by_cases c33 : (ji31) < (l0.length : Int)
                      · rw [if_pos c33] at H
                        have c33b0 : decide ((ji31) < (l0.length : Int)) = true := decide_eq_true c33
                        clear c33
                        have H' := Aside0.mk H
                        clear H
                        have p144 : 0 ≤ ((ji31) : Int) := of_decide_eq_true (by first | (with_reducible assumption) | assumption)
                        have q144 : (ji31) < (l0.length : Int) := of_decide_eq_true (by first | (with_reducible assumption) | assumption)
                        obtain ⟨ad144, e144, hx144_0, hx144_1, hx144_2⟩ := at_T78 HR0.out (ji31) p144 q144
                        cases e144
                        replace hx144_0 := (HB.out.cell (World.block_lt_of_cell? w _ hx144_0)).trans hx144_0
                        replace hx144_1 := (HB.out.cell (World.block_lt_of_cell? w _ hx144_1)).trans hx144_1
                        replace hx144_2 := (HB.out.cell (World.block_lt_of_cell? w _ hx144_2)).trans hx144_2
                        replace p144 := eq_true p144
                        replace q144 := eq_true q144
                        go_wp2
                        go_meet
                        case rel => exact ⟨_, ((((rd_T78 l0 (ji31)).f0) != 2)), (by first | rfl | (simp; done) | (simp only [← hji31] <;> (first | rfl | simp)) | (simp [*]; done)), H', ⟨by have := HK1.out; have := HK2.out; first | omega | exact Nat.le_refl _⟩, ⟨by (with_reducible repeat (first | refine blk_drewN ?_ _ | refine blk_drew ?_ | refine blk_alloc ?_ _)); exact BK138.out⟩, ⟨by (with_reducible repeat (first | refine blk_drewN ?_ _ | refine blk_drew ?_ | refine blk_alloc ?_ _)); exact BK139.out⟩, ⟨by (with_reducible repeat (first | refine blk_drewN ?_ _ | refine blk_drew ?_ | refine blk_alloc ?_ _)); exact BK143.out⟩, ⟨by repeat (first | (with_reducible first | exact HB.out | apply below_alloc | apply pw_below_drewN | apply below_drew1 | refine below_set ?_ GE138.out | refine below_set ?_ GE139.out | refine below_set ?_ GE143.out) | exact HB.out)⟩⟩
                      · rw [if_neg c33] at H
                        exact absurd H (by simp)
                    · rw [if_neg c32] at H
                      exact absurd H (by simp)
                case rest =>
                  clear HC29
                  try clear c1
                  try clear p1
                  try clear q1
                  try clear hx1
                  try clear qi1
                  try clear c2
                  try clear p2
                  try clear c3
                  try clear c5
                  try clear c6
                  try clear c6b0
                  try clear p6
                  try clear c7
                  try clear c8
                  try clear c8b0
                  try clear c8b1
                  try clear c10
                  try clear c10b0
                  try clear c10b1
                  try clear c13
                  try clear p14
                  try clear q14
                  try clear hx14
                  try clear qi14
                  try clear c18
                  try clear c18b0
                  try clear c18b1
                  try clear c19
                  try clear c22
                  try clear c25
                  try clear c26
                  try clear c28
                  try clear c28b0
                  try clear c30
                  try clear c30b0
                  try clear c32
                  try clear c32b0
                  try clear c33
                  try clear c33b0
                  try clear hcz14_0
                  try clear hcz14_1
                  try clear hcz14_2
                  try clear hcz14_3
                  try clear hcz14_4
                  try clear hcz20_0
                  try clear hcz20_1
                  try clear hcz20_2
                  try clear hcz20_3
                  try clear hcz20_4
                  try clear hcz21_0
                  try clear hcz21_1
                  try clear hcz21_2
                  try clear hcz21_3
                  try clear hcz21_4
                  try clear hcz23_0
                  try clear hcz23_1
                  try clear hcz23_2
                  try clear hcz23_3
                  try clear hcz23_4
                  try clear hcz27_0
                  try clear hcz27_1
                  try clear hcz27_2
                  try clear hcz27_3
                  try clear hfz14_0
                  try clear hfz14_1
                  try clear hfz14_2
                  try clear hfz14_3
                  try clear hfz14_4
                  try clear hfz20_0
                  try clear hfz20_1
                  try clear hfz20_2
                  try clear hfz20_3
                  try clear hfz20_4
                  try clear hfz21_0
                  try clear hfz21_1
                  try clear hfz21_2
                  try clear hfz21_3
                  try clear hfz21_4
                  try clear hfz23_0
                  try clear hfz23_1
                  try clear hfz23_2
                  try clear hfz23_3
                  try clear hfz23_4
                  try clear hfz27_0
                  try clear hfz27_1
                  try clear hfz27_2
                  try clear hfz27_3
                  try clear hx140_0
                  try clear hx140_1
                  try clear hx140_2
                  try clear hx141_0
                  try clear hx141_1
                  try clear hx141_2
                  try clear hx144_0
                  try clear hx144_1
                  try clear hx144_2
                  try clear p1
                  try clear p14
                  try clear p140
                  try clear p141
                  try clear p144
                  try clear p2
                  try clear p6
                  try clear q1
                  try clear q14
                  try clear q140
                  try clear q141
                  try clear q144
                  obtain ⟨kq, x53_28, rfl, HA, HJ28, BK138, BK139, BK143, HB⟩ := hcut
                  cases kq with
                  | zero => exact absurd HA.out (by simp [millwrightref19_line.j2])
                  | succ kj28 =>
                    have H := HA.out
                    clear HA
                    simp only [millwrightref19_line.j2] at H
                    by_cases c34 : x53_28 = true
                    · subst c34
                      have H1 : (some (0, 0, 0, 0, 0, 2)) = some (r1, r2, r3, r4, r5, r6) := by rw [if_pos rfl] at H; exact H
                      clear H
                      have H := H1
                      clear H1
                      simp only [Option.some.injEq, Prod.mk.injEq] at H
                      obtain ⟨rfl, rfl, rfl, rfl, rfl, rfl⟩ := H
                      have hnb35 := NB138_139.out
                      have hnc35 := NB139_138.out
                      have hnb36 := NB138_143.out
                      have hnc36 := NB143_138.out
                      have hcz37_0 : wc.cell? ⟨gb138, 0, none⟩ = some (.int .i64 x139000_2) := (blk_cell BK138.out 0).trans rfl
                      have hcz37_1 : wc.cell? ⟨gb138, 1, none⟩ = some (.int .i64 x139001_2) := (blk_cell BK138.out 1).trans rfl
                      have hcz37_2 : wc.cell? ⟨gb138, 2, none⟩ = some (.int .i64 x139002_2) := (blk_cell BK138.out 2).trans rfl
                      have hcz37_3 : wc.cell? ⟨gb138, 3, none⟩ = some (.int .i64 x139003_2) := (blk_cell BK138.out 3).trans rfl
                      have hcz37_4 : wc.cell? ⟨gb138, 4, none⟩ = some (.int .i64 x139004_2) := (blk_cell BK138.out 4).trans rfl
                      have hfz37_0 := blk_frozen BK138.out 0
                      have hfz37_1 := blk_frozen BK138.out 1
                      have hfz37_2 := blk_frozen BK138.out 2
                      have hfz37_3 := blk_frozen BK138.out 3
                      have hfz37_4 := blk_frozen BK138.out 4
                      go_wp2
                      refine bodyPost_ret (results_ct rfl _ _ gb138 39 #[.int .i64 0, .int .i64 0, .int .i64 0, .int .i64 0, .int .i64 0] (0, 0) _ rfl (by (with_reducible repeat (first | refine blk_drewN ?_ _ | refine blk_drew ?_ | refine blk_alloc ?_ _)); refine blk_put (cs := #[.int .i64 0, .int .i64 0, .int .i64 0, .int .i64 0, .int .i64 x139004_2]) ?_ 4 _ rfl; (with_reducible repeat (first | refine blk_drewN ?_ _ | refine blk_drew ?_ | refine blk_alloc ?_ _)); refine blk_put (cs := #[.int .i64 0, .int .i64 0, .int .i64 0, .int .i64 x139003_2, .int .i64 x139004_2]) ?_ 3 _ rfl; (with_reducible repeat (first | refine blk_drewN ?_ _ | refine blk_drew ?_ | refine blk_alloc ?_ _)); refine blk_put (cs := #[.int .i64 0, .int .i64 0, .int .i64 x139002_2, .int .i64 x139003_2, .int .i64 x139004_2]) ?_ 2 _ rfl; (with_reducible repeat (first | refine blk_drewN ?_ _ | refine blk_drew ?_ | refine blk_alloc ?_ _)); refine blk_put (cs := #[.int .i64 0, .int .i64 x139001_2, .int .i64 x139002_2, .int .i64 x139003_2, .int .i64 x139004_2]) ?_ 1 _ rfl; (with_reducible repeat (first | refine blk_drewN ?_ _ | refine blk_drew ?_ | refine blk_alloc ?_ _)); refine blk_put (cs := #[.int .i64 x139000_2, .int .i64 x139001_2, .int .i64 x139002_2, .int .i64 x139003_2, .int .i64 x139004_2]) ?_ 0 _ rfl; (with_reducible repeat (first | refine blk_drewN ?_ _ | refine blk_drew ?_ | refine blk_alloc ?_ _)); exact BK138.out) Tryd.underlying39 rfl (by kernel_rfl)) rfl ?_
                      exact ⟨by first | rfl | (simp [errW_none, errW_some] <;> rfl) | (simp [*, errW_none, errW_some] <;> rfl), by repeat (first | (with_reducible first | exact HB.out | apply below_alloc | apply pw_below_drewN | apply below_drew1 | refine below_set ?_ GE138.out | refine below_set ?_ GE139.out | refine below_set ?_ GE143.out) | exact HB.out)⟩
                    · replace c34 := Bool.eq_false_iff.mpr c34
                      subst c34
                      have H1 : (if 0 ≤ (wrap64 (x7_2 + 1)) then (if (wrap64 (x7_2 + 1)) < (l0.length : Int) then ((millwrightref01_Parse.f kj28 ((rd_T78 l0 (wrap64 (x7_2 + 1))).f1)).bind fun bt146 => (if bt146.2 = 0 then (millwrightref19_line.l1 kj28 l0 (wrap64 (x7_2 + 1)) x140000_1 0 0 0 0 (millwrightref19_line.pk x7_2 0 x144000_2 bt146.1) (millwrightref19_line.pk x7_2 1 x144001_2 bt146.1) (millwrightref19_line.pk x7_2 2 x144002_2 bt146.1) (millwrightref19_line.pk x7_2 3 x144003_2 bt146.1)) else (some (0, 0, 0, 0, 0, bt146.2)))) else (none)) else (none)) = some (r1, r2, r3, r4, r5, r6) := by rw [if_neg (show ¬ (false = true) by decide)] at H; exact H
                      clear H
                      have H := H1
                      clear H1
                      obtain ⟨ji38, hji38⟩ : ∃ j_ : Int, (wrap64 (x7_2 + 1)) = j_ := ⟨_, rfl⟩
                      replace H : (if 0 ≤ (ji38) then (if (ji38) < (l0.length : Int) then ((millwrightref01_Parse.f kj28 ((rd_T78 l0 (ji38)).f1)).bind fun bt146 => (if bt146.2 = 0 then (millwrightref19_line.l1 kj28 l0 ji38 x140000_1 0 0 0 0 (millwrightref19_line.pk x7_2 0 x144000_2 bt146.1) (millwrightref19_line.pk x7_2 1 x144001_2 bt146.1) (millwrightref19_line.pk x7_2 2 x144002_2 bt146.1) (millwrightref19_line.pk x7_2 3 x144003_2 bt146.1)) else (some (0, 0, 0, 0, 0, bt146.2)))) else (none)) else (none)) = some (r1, r2, r3, r4, r5, r6) := by first | (rw [hji38] at H; exact H) | (simp only [hji38] at H ⊢; exact H)
                      have hji38w : (IntKind.i64.wrap (x7_2 + 1)) = ji38 := (i64_w _).trans hji38
                      by_cases c39 : 0 ≤ (ji38)
                      · rw [if_pos c39] at H
                        have c39b0 : decide (0 ≤ (ji38)) = true := decide_eq_true c39
                        clear c39
                        by_cases c40 : (ji38) < (l0.length : Int)
                        · rw [if_pos c40] at H
                          have c40b0 : decide ((ji38) < (l0.length : Int)) = true := decide_eq_true c40
                          clear c40
                          replace H := Option.bind_eq_some_iff.mp H
                          obtain ⟨⟨t146, t147⟩, A410, H⟩ := H
                          replace H : (if t147 = 0 then (millwrightref19_line.l1 kj28 l0 ji38 x140000_1 0 0 0 0 (millwrightref19_line.pk x7_2 0 x144000_2 t146) (millwrightref19_line.pk x7_2 1 x144001_2 t146) (millwrightref19_line.pk x7_2 2 x144002_2 t146) (millwrightref19_line.pk x7_2 3 x144003_2 t146)) else (some (0, 0, 0, 0, 0, t147))) = some (r1, r2, r3, r4, r5, r6) := H
                          have A41 := Aside0.mk A410
                          clear A410
                          by_cases c42 : t147 = 0
                          · rw [if_pos c42] at H
                            have c42b0 : (t147 == 0) = true := beq_iff_eq.mpr c42
                            have c42b1 : (t147 != 0) = false := bne_eq_false_iff_eq.mpr c42
                            clear c42
                            have H' := Aside0.mk H
                            clear H
                            have p145 : 0 ≤ ((ji38) : Int) := of_decide_eq_true (by first | (with_reducible assumption) | assumption)
                            have q145 : (ji38) < (l0.length : Int) := of_decide_eq_true (by first | (with_reducible assumption) | assumption)
                            obtain ⟨ad145, e145, hx145_0, hx145_1, hx145_2⟩ := at_T78 HR0.out (ji38) p145 q145
                            cases e145
                            replace hx145_0 := (HB.out.cell (World.block_lt_of_cell? w _ hx145_0)).trans hx145_0
                            replace hx145_1 := (HB.out.cell (World.block_lt_of_cell? w _ hx145_1)).trans hx145_1
                            replace hx145_2 := (HB.out.cell (World.block_lt_of_cell? w _ hx145_2)).trans hx145_2
                            replace p145 := eq_true p145
                            replace q145 := eq_true q145
                            go_wp2_with (first | ((with_reducible refine gate_callee (f := 51) rfl ?_); refine goesL_ (some 62) rfl rfl Tryd.func51 (by kernel_rfl) rfl #[.string ((rd_T78 l0 (ji38)).f1)] rfl (by (try simp only [List.map_toArray, List.map_cons, List.map_nil]); first | done | (simp only [hji38]; rfl) | rfl | (simp only [List.length_drop, List.length_take]; rfl)) ?_; (with_reducible refine (millwrightref01_Parse.calls kj28 ((rd_T78 l0 (ji38)).f1) t146 t147 _ A41.out).mono ?_); rintro e w' ⟨rfl, ⟨nd, rfl⟩⟩; refine ⟨_, rfl, ?_⟩; (try (rw [drewN_self wc]; generalize hq_ : World.drewN wc _ = wc; have n0_ : Aside0 (wc.heap[gb138]? = some (.cells #[.int .i64 x139000_2, .int .i64 x139001_2, .int .i64 x139002_2, .int .i64 x139003_2, .int .i64 x139004_2] 39 (0, 0))) := ⟨by rw [← hq_]; exact (by (with_reducible repeat (first | refine blk_drewN ?_ _ | refine blk_drew ?_ | refine blk_alloc ?_ _)); exact BK138.out)⟩; have n1_ : Aside0 (wc.heap[gb139]? = some (.cells #[.int .i64 x140000_1, .int .i64 0, .int .i64 0, .int .i64 0, .int .i64 0] 39 (0, 0))) := ⟨by rw [← hq_]; exact (by (with_reducible repeat (first | refine blk_drewN ?_ _ | refine blk_drew ?_ | refine blk_alloc ?_ _)); exact BK139.out)⟩; have n2_ : Aside0 (wc.heap[gb143]? = some (.cells #[.int .i64 x144000_2, .int .i64 x144001_2, .int .i64 x144002_2, .int .i64 x144003_2] 89 (0, 0))) := ⟨by rw [← hq_]; exact (by (with_reducible repeat (first | refine blk_drewN ?_ _ | refine blk_drew ?_ | refine blk_alloc ?_ _)); exact BK143.out)⟩; have n3_ : Aside0 (Below w.heap.size w wc) := ⟨by rw [← hq_]; exact (by repeat (first | (with_reducible first | exact HB.out | apply below_alloc | apply pw_below_drewN | apply below_drew1 | refine below_set ?_ GE138.out | refine below_set ?_ GE139.out | refine below_set ?_ GE143.out) | exact HB.out))⟩; clear BK138 BK139 BK143 HB hq_; have BK138 := n0_; have BK139 := n1_; have BK143 := n2_; have HB := n3_; clear n0_ n1_ n2_ n3_)); have hnb43 := NB143_138.out; have hnc43 := NB138_143.out; have hnb44 := NB143_139.out; have hnc44 := NB139_143.out; obtain ⟨vq_, hcq_⟩ := millwrightref19_line.arr4_cell BK143.out x7_2 HZ7.out HY7.out; have hfq_ := blk_frozen BK143.out x7_2.toNat; have pq_ := eq_true HZ7.out; have qq_ := eq_true HY7.out))
                            go_roundg kj28
                            case measure => have := HK1.out; have := HK2.out; have := HJ28.out; omega
                            case rel => exact ⟨(ji38), (x139000_2), (x139001_2), (x139002_2), (x139003_2), (x139004_2), (millwrightref19_line.pk x7_2 0 x144000_2 t146), (millwrightref19_line.pk x7_2 1 x144001_2 t146), (millwrightref19_line.pk x7_2 2 x144002_2 t146), (millwrightref19_line.pk x7_2 3 x144003_2 t146), (by first | rfl | (simp; done) | (simp only [← hji38] <;> (first | rfl | simp)) | (simp [*]; done)), ⟨of_decide_eq_true c39b0⟩, H', ⟨by have := HK1.out; have := HK2.out; have := HJ28.out; omega⟩, ⟨by (with_reducible repeat (first | refine blk_drewN ?_ _ | refine blk_drew ?_ | refine blk_alloc ?_ _)); refine blk_far ?_ NB138_143.out _; (with_reducible repeat (first | refine blk_drewN ?_ _ | refine blk_drew ?_ | refine blk_alloc ?_ _)); exact BK138.out⟩, ⟨by (with_reducible repeat (first | refine blk_drewN ?_ _ | refine blk_drew ?_ | refine blk_alloc ?_ _)); refine blk_far ?_ NB139_143.out _; (with_reducible repeat (first | refine blk_drewN ?_ _ | refine blk_drew ?_ | refine blk_alloc ?_ _)); exact BK139.out⟩, ⟨by (with_reducible repeat (first | refine blk_drewN ?_ _ | refine blk_drew ?_ | refine blk_alloc ?_ _)); exact millwrightref19_line.arr4_put BK143.out x7_2 t146 HZ7.out HY7.out⟩, ⟨by repeat (first | (with_reducible first | exact HB.out | apply below_alloc | apply pw_below_drewN | apply below_drew1 | refine below_set ?_ GE138.out | refine below_set ?_ GE139.out | refine below_set ?_ GE143.out) | exact HB.out)⟩⟩
                          · rw [if_neg c42] at H
                            have c42b0 : (t147 == 0) = false := beq_eq_false_iff_ne.mpr c42
                            have c42b1 : (t147 != 0) = true := bne_iff_ne.mpr c42
                            simp only [Option.some.injEq, Prod.mk.injEq] at H
                            obtain ⟨rfl, rfl, rfl, rfl, rfl, rfl⟩ := H
                            have p145 : 0 ≤ ((ji38) : Int) := of_decide_eq_true (by first | (with_reducible assumption) | assumption)
                            have q145 : (ji38) < (l0.length : Int) := of_decide_eq_true (by first | (with_reducible assumption) | assumption)
                            obtain ⟨ad145, e145, hx145_0, hx145_1, hx145_2⟩ := at_T78 HR0.out (ji38) p145 q145
                            cases e145
                            replace hx145_0 := (HB.out.cell (World.block_lt_of_cell? w _ hx145_0)).trans hx145_0
                            replace hx145_1 := (HB.out.cell (World.block_lt_of_cell? w _ hx145_1)).trans hx145_1
                            replace hx145_2 := (HB.out.cell (World.block_lt_of_cell? w _ hx145_2)).trans hx145_2
                            replace p145 := eq_true p145
                            replace q145 := eq_true q145
                            go_wp2_with (first | ((with_reducible refine gate_callee (f := 51) rfl ?_); refine goesL_ (some 62) rfl rfl Tryd.func51 (by kernel_rfl) rfl #[.string ((rd_T78 l0 (ji38)).f1)] rfl (by (try simp only [List.map_toArray, List.map_cons, List.map_nil]); first | done | (simp only [hji38]; rfl) | rfl | (simp only [List.length_drop, List.length_take]; rfl)) ?_; (with_reducible refine (millwrightref01_Parse.calls kj28 ((rd_T78 l0 (ji38)).f1) t146 t147 _ A41.out).mono ?_); rintro e w' ⟨rfl, ⟨nd, rfl⟩⟩; refine ⟨_, rfl, ?_⟩; (try (rw [drewN_self wc]; generalize hq_ : World.drewN wc _ = wc; have n0_ : Aside0 (wc.heap[gb138]? = some (.cells #[.int .i64 x139000_2, .int .i64 x139001_2, .int .i64 x139002_2, .int .i64 x139003_2, .int .i64 x139004_2] 39 (0, 0))) := ⟨by rw [← hq_]; exact (by (with_reducible repeat (first | refine blk_drewN ?_ _ | refine blk_drew ?_ | refine blk_alloc ?_ _)); exact BK138.out)⟩; have n1_ : Aside0 (wc.heap[gb139]? = some (.cells #[.int .i64 x140000_1, .int .i64 0, .int .i64 0, .int .i64 0, .int .i64 0] 39 (0, 0))) := ⟨by rw [← hq_]; exact (by (with_reducible repeat (first | refine blk_drewN ?_ _ | refine blk_drew ?_ | refine blk_alloc ?_ _)); exact BK139.out)⟩; have n2_ : Aside0 (wc.heap[gb143]? = some (.cells #[.int .i64 x144000_2, .int .i64 x144001_2, .int .i64 x144002_2, .int .i64 x144003_2] 89 (0, 0))) := ⟨by rw [← hq_]; exact (by (with_reducible repeat (first | refine blk_drewN ?_ _ | refine blk_drew ?_ | refine blk_alloc ?_ _)); exact BK143.out)⟩; have n3_ : Aside0 (Below w.heap.size w wc) := ⟨by rw [← hq_]; exact (by repeat (first | (with_reducible first | exact HB.out | apply below_alloc | apply pw_below_drewN | apply below_drew1 | refine below_set ?_ GE138.out | refine below_set ?_ GE139.out | refine below_set ?_ GE143.out) | exact HB.out))⟩; clear BK138 BK139 BK143 HB hq_; have BK138 := n0_; have BK139 := n1_; have BK143 := n2_; have HB := n3_; clear n0_ n1_ n2_ n3_)); have hnb46 := NB138_139.out; have hnc46 := NB139_138.out; have hnb47 := NB138_143.out; have hnc47 := NB143_138.out; have hcz48_0 : wc.cell? ⟨gb138, 0, none⟩ = some (.int .i64 x139000_2) := (blk_cell BK138.out 0).trans rfl; have hcz48_1 : wc.cell? ⟨gb138, 1, none⟩ = some (.int .i64 x139001_2) := (blk_cell BK138.out 1).trans rfl; have hcz48_2 : wc.cell? ⟨gb138, 2, none⟩ = some (.int .i64 x139002_2) := (blk_cell BK138.out 2).trans rfl; have hcz48_3 : wc.cell? ⟨gb138, 3, none⟩ = some (.int .i64 x139003_2) := (blk_cell BK138.out 3).trans rfl; have hcz48_4 : wc.cell? ⟨gb138, 4, none⟩ = some (.int .i64 x139004_2) := (blk_cell BK138.out 4).trans rfl; have hfz48_0 := blk_frozen BK138.out 0; have hfz48_1 := blk_frozen BK138.out 1; have hfz48_2 := blk_frozen BK138.out 2; have hfz48_3 := blk_frozen BK138.out 3; have hfz48_4 := blk_frozen BK138.out 4))
                            refine bodyPost_ret (results_ct rfl _ _ gb138 39 #[.int .i64 0, .int .i64 0, .int .i64 0, .int .i64 0, .int .i64 0] (0, 0) _ rfl (by (with_reducible repeat (first | refine blk_drewN ?_ _ | refine blk_drew ?_ | refine blk_alloc ?_ _)); refine blk_put (cs := #[.int .i64 0, .int .i64 0, .int .i64 0, .int .i64 0, .int .i64 x139004_2]) ?_ 4 _ rfl; (with_reducible repeat (first | refine blk_drewN ?_ _ | refine blk_drew ?_ | refine blk_alloc ?_ _)); refine blk_put (cs := #[.int .i64 0, .int .i64 0, .int .i64 0, .int .i64 x139003_2, .int .i64 x139004_2]) ?_ 3 _ rfl; (with_reducible repeat (first | refine blk_drewN ?_ _ | refine blk_drew ?_ | refine blk_alloc ?_ _)); refine blk_put (cs := #[.int .i64 0, .int .i64 0, .int .i64 x139002_2, .int .i64 x139003_2, .int .i64 x139004_2]) ?_ 2 _ rfl; (with_reducible repeat (first | refine blk_drewN ?_ _ | refine blk_drew ?_ | refine blk_alloc ?_ _)); refine blk_put (cs := #[.int .i64 0, .int .i64 x139001_2, .int .i64 x139002_2, .int .i64 x139003_2, .int .i64 x139004_2]) ?_ 1 _ rfl; (with_reducible repeat (first | refine blk_drewN ?_ _ | refine blk_drew ?_ | refine blk_alloc ?_ _)); refine blk_put (cs := #[.int .i64 x139000_2, .int .i64 x139001_2, .int .i64 x139002_2, .int .i64 x139003_2, .int .i64 x139004_2]) ?_ 0 _ rfl; (with_reducible repeat (first | refine blk_drewN ?_ _ | refine blk_drew ?_ | refine blk_alloc ?_ _)); exact BK138.out) Tryd.underlying39 rfl (by kernel_rfl)) rfl ?_
                            exact ⟨by first | rfl | (simp [errW_none, errW_some] <;> rfl) | (simp only [← hji38]; first | rfl | (simp [errW_none, errW_some] <;> rfl)) | (simp [*, errW_none, errW_some] <;> rfl), by repeat (first | (with_reducible first | exact HB.out | apply below_alloc | apply pw_below_drewN | apply below_drew1 | refine below_set ?_ GE138.out | refine below_set ?_ GE139.out | refine below_set ?_ GE143.out) | exact HB.out)⟩
                        · rw [if_neg c40] at H
                          exact absurd H (by simp)
                      · rw [if_neg c39] at H
                        exact absurd H (by simp)
              · rw [if_neg c28] at H
                have c28b0 : decide (x7_2 < 4) = false := decide_eq_false c28
                clear c28
                by_cases c49 : (l0.length : Int) > 5
                · rw [if_pos c49] at H
                  have c49b0 : decide (5 < (l0.length : Int)) = true := decide_eq_true c49
                  have c49b1 : decide (5 < l0.length) = true := decide_eq_true (by omega)
                  clear c49
                  simp only [Option.some.injEq, Prod.mk.injEq] at H
                  obtain ⟨rfl, rfl, rfl, rfl, rfl, rfl⟩ := H
                  have hnb50 := NB138_139.out
                  have hnc50 := NB139_138.out
                  have hnb51 := NB138_143.out
                  have hnc51 := NB143_138.out
                  have hcz52_0 : wr.cell? ⟨gb138, 0, none⟩ = some (.int .i64 x139000_2) := (blk_cell BK138.out 0).trans rfl
                  have hcz52_1 : wr.cell? ⟨gb138, 1, none⟩ = some (.int .i64 x139001_2) := (blk_cell BK138.out 1).trans rfl
                  have hcz52_2 : wr.cell? ⟨gb138, 2, none⟩ = some (.int .i64 x139002_2) := (blk_cell BK138.out 2).trans rfl
                  have hcz52_3 : wr.cell? ⟨gb138, 3, none⟩ = some (.int .i64 x139003_2) := (blk_cell BK138.out 3).trans rfl
                  have hcz52_4 : wr.cell? ⟨gb138, 4, none⟩ = some (.int .i64 x139004_2) := (blk_cell BK138.out 4).trans rfl
                  have hfz52_0 := blk_frozen BK138.out 0
                  have hfz52_1 := blk_frozen BK138.out 1
                  have hfz52_2 := blk_frozen BK138.out 2
                  have hfz52_3 := blk_frozen BK138.out 3
                  have hfz52_4 := blk_frozen BK138.out 4
                  go_wp2
                  refine bodyPost_ret (results_ct rfl _ _ gb138 39 #[.int .i64 0, .int .i64 0, .int .i64 0, .int .i64 0, .int .i64 0] (0, 0) _ rfl (by (with_reducible repeat (first | refine blk_drewN ?_ _ | refine blk_drew ?_ | refine blk_alloc ?_ _)); refine blk_put (cs := #[.int .i64 0, .int .i64 0, .int .i64 0, .int .i64 0, .int .i64 x139004_2]) ?_ 4 _ rfl; (with_reducible repeat (first | refine blk_drewN ?_ _ | refine blk_drew ?_ | refine blk_alloc ?_ _)); refine blk_put (cs := #[.int .i64 0, .int .i64 0, .int .i64 0, .int .i64 x139003_2, .int .i64 x139004_2]) ?_ 3 _ rfl; (with_reducible repeat (first | refine blk_drewN ?_ _ | refine blk_drew ?_ | refine blk_alloc ?_ _)); refine blk_put (cs := #[.int .i64 0, .int .i64 0, .int .i64 x139002_2, .int .i64 x139003_2, .int .i64 x139004_2]) ?_ 2 _ rfl; (with_reducible repeat (first | refine blk_drewN ?_ _ | refine blk_drew ?_ | refine blk_alloc ?_ _)); refine blk_put (cs := #[.int .i64 0, .int .i64 x139001_2, .int .i64 x139002_2, .int .i64 x139003_2, .int .i64 x139004_2]) ?_ 1 _ rfl; (with_reducible repeat (first | refine blk_drewN ?_ _ | refine blk_drew ?_ | refine blk_alloc ?_ _)); refine blk_put (cs := #[.int .i64 x139000_2, .int .i64 x139001_2, .int .i64 x139002_2, .int .i64 x139003_2, .int .i64 x139004_2]) ?_ 0 _ rfl; (with_reducible repeat (first | refine blk_drewN ?_ _ | refine blk_drew ?_ | refine blk_alloc ?_ _)); exact BK138.out) Tryd.underlying39 rfl (by kernel_rfl)) rfl ?_
                  exact ⟨by first | rfl | (simp [errW_none, errW_some] <;> rfl) | (simp [*, errW_none, errW_some] <;> rfl), by repeat (first | (with_reducible first | exact HB.out | apply below_alloc | apply pw_below_drewN | apply below_drew1 | refine below_set ?_ GE138.out | refine below_set ?_ GE139.out | refine below_set ?_ GE143.out) | exact HB.out)⟩
                · rw [if_neg c49] at H
                  have c49b0 : decide (5 < (l0.length : Int)) = false := decide_eq_false c49
                  have c49b1 : decide (5 < l0.length) = false := decide_eq_false (by omega)
                  clear c49
                  simp only [Option.some.injEq, Prod.mk.injEq] at H
                  obtain ⟨rfl, rfl, rfl, rfl, rfl, rfl⟩ := H
                  have hnb53 := NB139_138.out
                  have hnc53 := NB138_139.out
                  have hnb54 := NB139_143.out
                  have hnc54 := NB143_139.out
                  have hcz55_0 : wr.cell? ⟨gb139, 0, none⟩ = some (.int .i64 x140000_1) := (blk_cell BK139.out 0).trans rfl
                  have hcz55_1 : wr.cell? ⟨gb139, 1, none⟩ = some (.int .i64 0) := (blk_cell BK139.out 1).trans rfl
                  have hcz55_2 : wr.cell? ⟨gb139, 2, none⟩ = some (.int .i64 0) := (blk_cell BK139.out 2).trans rfl
                  have hcz55_3 : wr.cell? ⟨gb139, 3, none⟩ = some (.int .i64 0) := (blk_cell BK139.out 3).trans rfl
                  have hcz55_4 : wr.cell? ⟨gb139, 4, none⟩ = some (.int .i64 0) := (blk_cell BK139.out 4).trans rfl
                  have hfz55_0 := blk_frozen BK139.out 0
                  have hfz55_1 := blk_frozen BK139.out 1
                  have hfz55_2 := blk_frozen BK139.out 2
                  have hfz55_3 := blk_frozen BK139.out 3
                  have hfz55_4 := blk_frozen BK139.out 4
                  have hnb56 := NB143_138.out
                  have hnc56 := NB138_143.out
                  have hcz57_0 : wr.cell? ⟨gb143, 0, none⟩ = some (.int .i64 x144000_2) := (blk_cell BK143.out 0).trans rfl
                  have hcz57_1 : wr.cell? ⟨gb143, 1, none⟩ = some (.int .i64 x144001_2) := (blk_cell BK143.out 1).trans rfl
                  have hcz57_2 : wr.cell? ⟨gb143, 2, none⟩ = some (.int .i64 x144002_2) := (blk_cell BK143.out 2).trans rfl
                  have hcz57_3 : wr.cell? ⟨gb143, 3, none⟩ = some (.int .i64 x144003_2) := (blk_cell BK143.out 3).trans rfl
                  have hfz57_0 := blk_frozen BK143.out 0
                  have hfz57_1 := blk_frozen BK143.out 1
                  have hfz57_2 := blk_frozen BK143.out 2
                  have hfz57_3 := blk_frozen BK143.out 3
                  have hcz58_0 : wr.cell? ⟨gb138, 0, none⟩ = some (.int .i64 x139000_2) := (blk_cell BK138.out 0).trans rfl
                  have hcz58_1 : wr.cell? ⟨gb138, 1, none⟩ = some (.int .i64 x139001_2) := (blk_cell BK138.out 1).trans rfl
                  have hcz58_2 : wr.cell? ⟨gb138, 2, none⟩ = some (.int .i64 x139002_2) := (blk_cell BK138.out 2).trans rfl
                  have hcz58_3 : wr.cell? ⟨gb138, 3, none⟩ = some (.int .i64 x139003_2) := (blk_cell BK138.out 3).trans rfl
                  have hcz58_4 : wr.cell? ⟨gb138, 4, none⟩ = some (.int .i64 x139004_2) := (blk_cell BK138.out 4).trans rfl
                  have hfz58_0 := blk_frozen BK138.out 0
                  have hfz58_1 := blk_frozen BK138.out 1
                  have hfz58_2 := blk_frozen BK138.out 2
                  have hfz58_3 := blk_frozen BK138.out 3
                  have hfz58_4 := blk_frozen BK138.out 4
                  go_wp2
                  refine bodyPost_ret (results_ct rfl _ _ gb138 39 #[.int .i64 x140000_1, .int .i64 x144000_2, .int .i64 x144001_2, .int .i64 x144002_2, .int .i64 x144003_2] (0, 0) _ rfl (by (with_reducible repeat (first | refine blk_drewN ?_ _ | refine blk_drew ?_ | refine blk_alloc ?_ _)); refine blk_put (cs := #[.int .i64 x140000_1, .int .i64 x144000_2, .int .i64 x144001_2, .int .i64 x144002_2, .int .i64 x139004_2]) ?_ 4 _ rfl; (with_reducible repeat (first | refine blk_drewN ?_ _ | refine blk_drew ?_ | refine blk_alloc ?_ _)); refine blk_put (cs := #[.int .i64 x140000_1, .int .i64 x144000_2, .int .i64 x144001_2, .int .i64 x139003_2, .int .i64 x139004_2]) ?_ 3 _ rfl; (with_reducible repeat (first | refine blk_drewN ?_ _ | refine blk_drew ?_ | refine blk_alloc ?_ _)); refine blk_put (cs := #[.int .i64 x140000_1, .int .i64 x144000_2, .int .i64 x139002_2, .int .i64 x139003_2, .int .i64 x139004_2]) ?_ 2 _ rfl; (with_reducible repeat (first | refine blk_drewN ?_ _ | refine blk_drew ?_ | refine blk_alloc ?_ _)); refine blk_put (cs := #[.int .i64 x140000_1, .int .i64 x139001_2, .int .i64 x139002_2, .int .i64 x139003_2, .int .i64 x139004_2]) ?_ 1 _ rfl; (with_reducible repeat (first | refine blk_drewN ?_ _ | refine blk_drew ?_ | refine blk_alloc ?_ _)); refine blk_put (cs := #[.int .i64 x139000_2, .int .i64 x139001_2, .int .i64 x139002_2, .int .i64 x139003_2, .int .i64 x139004_2]) ?_ 0 _ rfl; (with_reducible repeat (first | refine blk_drewN ?_ _ | refine blk_drew ?_ | refine blk_alloc ?_ _)); exact BK138.out) Tryd.underlying39 rfl (by kernel_rfl)) rfl ?_
                  exact ⟨by first | rfl | (simp [errW_none, errW_some] <;> rfl) | (simp [*, errW_none, errW_some] <;> rfl), by repeat (first | (with_reducible first | exact HB.out | apply below_alloc | apply pw_below_drewN | apply below_drew1 | refine below_set ?_ GE138.out | refine below_set ?_ GE139.out | refine below_set ?_ GE143.out) | exact HB.out)⟩

end Go.Proofs.YtckcepmkfegkiaaDoor.PTraceParses
