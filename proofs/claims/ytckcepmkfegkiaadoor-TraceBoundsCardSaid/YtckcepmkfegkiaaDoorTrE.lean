/- The walks of num.Add and of fits. No condition. -/
import Derived.Test.YtckcepmkfegkiaaDoorTrD
namespace Go.Proofs.YtckcepmkfegkiaaDoor.TrE
open Go.RowKit Go.Proofs.YtckcepmkfegkiaaDoorW.PrintWords Go.Proofs.YtckcepmkfegkiaaDoorW.PrintLast Go.Proofs.YtckcepmkfegkiaaDoorW.PrintMore TrS TrA TrC
attribute [local go_sem] max2_int min2_int max_two min_two max_three min_three max_four min_four
set_option linter.unusedVariables false
set_option linter.unusedSimpArgs false
def kTsk : Kd Tsk := Kd.iso (Kd.pair (Kd.int .i64) (Kd.int .i64)) (fun x : Tsk => (x.mem, x.cost))
theorem kTsk_open {w : World} {x : Tsk} {cs : List Value} (h : kTsk.K w x cs) : cs = [.int .i64 x.mem, .int .i64 x.cost] := by
  obtain ⟨_, _, rfl, rfl, rfl⟩ := h
  exact rfl
theorem at_Tsk {w : World} {A : Option Addr} {n : Nat} {xs : List Tsk} (h : Kd.C kTsk w A n xs) (i : Int) (h0 : 0 ≤ i) (h1 : i < n) : ∃ ad , A = some ad ∧ w.cell? (ad.add (i.toNat * 2)) = some (.int .i64 (getK xs i).mem) := by
  obtain ⟨ad, c, e, _, hK, hc0⟩ := Kd.C_get h ⟨0, 0⟩ i h0 h1
  have hc : ∀ j u, c[j]? = some u → w.cell? (ad.add (i.toNat * 2 + j)) = some u := hc0
  obtain rfl := kTsk_open hK
  exact ⟨ad, e, hc 0 _ rfl⟩
theorem told_t (n : Int) (w : World) : Calls Tryd.prog 65 #[.int .i64 n, .bool true] w fun x w' => x = .returned (.tuple #[.int .i64 n, .bool true]) ∧ Below w.heap.size w w' := by
  go_enter Tryd.func65, Tryd.ntmps65
  go_wp2
  go_ret2
  exact ⟨rfl, Below.refl _ _⟩
theorem told_f (n : Int) (w : World) : Calls Tryd.prog 65 #[.int .i64 n, .bool false] w fun x w' => x = .returned (.tuple #[.int .i64 0, .bool false]) ∧ Below w.heap.size w w' := by
  go_enter Tryd.func65, Tryd.ntmps65
  go_wp2
  go_ret2
  exact ⟨rfl, Below.refl _ _⟩
theorem add_calls (a b : Int) (w : World) : Calls Tryd.prog 62 #[.int .i64 a, .int .i64 b] w fun x w' => x = .returned (.tuple #[.int .i64 (addI a b).1, .bool (addI a b).2]) ∧ Below w.heap.size w w' := by
  obtain ⟨s, hs⟩ : ∃ s, wrap64 (a + b) = s := ⟨_, rfl⟩
  have hsw : IntKind.i64.wrap (a + b) = s := (i64_w _).trans hs
  have hs2 : wrap (a + b) = s := hs
  unfold addI
  rw [hs2]
  clear hs hs2
  by_cases c1 : s < a <;> by_cases c2 : b < 0
  · have c1b : decide (s < a) = true := decide_eq_true c1
    have c2b : decide (b < 0) = true := decide_eq_true c2
    rw [c1b, c2b]
    clear c1 c2
    go_enter Tryd.func62, Tryd.ntmps62
    go_wp2_with fail
    refine (told_t s _).mono ?_
    rintro e' w2 ⟨rfl, hb2⟩
    go_wp2
    go_ret2
    exact ⟨rfl, hb2⟩
  · have c1b : decide (s < a) = true := decide_eq_true c1
    have c2b : decide (b < 0) = false := decide_eq_false c2
    rw [c1b, c2b]
    clear c1 c2
    go_enter Tryd.func62, Tryd.ntmps62
    go_wp2_with fail
    refine (told_f s _).mono ?_
    rintro e' w2 ⟨rfl, hb2⟩
    go_wp2
    go_ret2
    exact ⟨rfl, hb2⟩
  · have c1b : decide (s < a) = false := decide_eq_false c1
    have c2b : decide (b < 0) = true := decide_eq_true c2
    rw [c1b, c2b]
    clear c1 c2
    go_enter Tryd.func62, Tryd.ntmps62
    go_wp2_with fail
    refine (told_f s _).mono ?_
    rintro e' w2 ⟨rfl, hb2⟩
    go_wp2
    go_ret2
    exact ⟨rfl, hb2⟩
  · have c1b : decide (s < a) = false := decide_eq_false c1
    have c2b : decide (b < 0) = false := decide_eq_false c2
    rw [c1b, c2b]
    clear c1 c2
    go_enter Tryd.func62, Tryd.ntmps62
    go_wp2_with fail
    refine (told_t s _).mono ?_
    rintro e' w2 ⟨rfl, hb2⟩
    go_wp2
    go_ret2
    exact ⟨rfl, hb2⟩
theorem add_calls_b (a b s : Int) (ok : Bool) (h1 : (addI a b).1 = s) (h2 : (addI a b).2 = ok) (w : World) : Calls Tryd.prog 62 #[.int .i64 a, .int .i64 b] w fun x w' => x = .returned (.tuple #[.int .i64 s, .bool ok]) ∧ Below w.heap.size w w' := h1 ▸ h2 ▸ add_calls a b w
theorem set10 {w0 w : World} {g : Nat} {t : TypeId} {a0 a1 a2 a3 a4 a5 a6 a7 a8 a9 : Value} (v0 v1 v2 v3 v4 v5 v6 v7 v8 v9 : Value) (h : w.heap[g]? = some (.cells #[a0, a1, a2, a3, a4, a5, a6, a7, a8, a9] t (0, 0))) (hB : Below w0.heap.size w0 w) (hg : w0.heap.size ≤ g) :
    ∃ W, W = ((((((((((w).setCell ⟨g, 0, none⟩ v0).setCell ⟨g, 1, none⟩ v1).setCell ⟨g, 2, none⟩ v2).setCell ⟨g, 3, none⟩ v3).setCell ⟨g, 4, none⟩ v4).setCell ⟨g, 5, none⟩ v5).setCell ⟨g, 6, none⟩ v6).setCell ⟨g, 7, none⟩ v7).setCell ⟨g, 8, none⟩ v8).setCell ⟨g, 9, none⟩ v9 ∧ W.heap[g]? = some (.cells #[v0, v1, v2, v3, v4, v5, v6, v7, v8, v9] t (0, 0)) ∧ Below w0.heap.size w0 W :=
  ⟨_, rfl, blk_put (blk_put (blk_put (blk_put (blk_put (blk_put (blk_put (blk_put (blk_put (blk_put (h) 0 v0 (cs' := #[v0, a1, a2, a3, a4, a5, a6, a7, a8, a9]) rfl) 1 v1 (cs' := #[v0, v1, a2, a3, a4, a5, a6, a7, a8, a9]) rfl) 2 v2 (cs' := #[v0, v1, v2, a3, a4, a5, a6, a7, a8, a9]) rfl) 3 v3 (cs' := #[v0, v1, v2, v3, a4, a5, a6, a7, a8, a9]) rfl) 4 v4 (cs' := #[v0, v1, v2, v3, v4, a5, a6, a7, a8, a9]) rfl) 5 v5 (cs' := #[v0, v1, v2, v3, v4, v5, a6, a7, a8, a9]) rfl) 6 v6 (cs' := #[v0, v1, v2, v3, v4, v5, v6, a7, a8, a9]) rfl) 7 v7 (cs' := #[v0, v1, v2, v3, v4, v5, v6, v7, a8, a9]) rfl) 8 v8 (cs' := #[v0, v1, v2, v3, v4, v5, v6, v7, v8, a9]) rfl) 9 v9 (cs' := #[v0, v1, v2, v3, v4, v5, v6, v7, v8, v9]) rfl, below_set (below_set (below_set (below_set (below_set (below_set (below_set (below_set (below_set (below_set (hB) hg) hg) hg) hg) hg) hg) hg) hg) hg) hg⟩
theorem fits_step (ks : List Tsk) (t : Tk) (ts : List Tk) (i all : Int) : fitsL ks (t :: ts) i all = if t.live = true then (if (addI all (mxI (getK ks i).mem 0)).2 = true then fitsL ks ts (i + 1) (addI all (mxI (getK ks i).mem 0)).1 else none) else fitsL ks ts (i + 1) all := rfl
def fitsR (c : Cf) : Option Int → Bool
  | none => false
  | some all => decide (all ≤ c.budget)
set_option maxHeartbeats 4000000 in
theorem fits_calls (w0 : World) (g : Nat) (ad : Addr) (c : Cf) (kA : Option Addr) (kc : Nat) (ks : List Tsk) (ts : List Tk) (tick n : Int) (w : World) (h : AI w0 w g ad c kA ks.length kc ts tick) (hC : Kd.C kTsk w0 kA ks.length ks) (hlen : ks.length = ts.length) (h0 : 0 ≤ n) (h1 : n < ts.length) : Calls Tryd.prog 55 #[.pointer (some ⟨g, 0, none⟩), .int .i64 n] w fun x w' => x = .returned (.bool (fits c ks ts n)) ∧ Below w.heap.size w w' := by
  have hr : fits c ks ts n = fitsR c (fitsL ks ts 0 (mxI (getK ks n).mem 0)) := by unfold fits; cases fitsL ks ts 0 (mxI (getK ks n).mem 0) <;> rfl
  rw [hr]
  clear hr
  have hm : ts.length ≤ 140737488355328 := h.1.2.2.2.2.2
  obtain ⟨m0, hm0⟩ : ∃ m, mxI (getK ks n).mem 0 = m := ⟨_, rfl⟩
  have hm1 : (if (getK ks n).mem < 0 then 0 else (getK ks n).mem) = m0 := hm0
  rw [hm0]
  have h1k : n < (ks.length : Int) := by omega
  obtain ⟨kd, rfl, hk0⟩ := at_Tsk (Kd.C_below hC h.2.1) n h0 h1k
  have HI := Aside0.mk h
  have HC := Aside0.mk hC
  have HL := Aside0.mk hlen
  have HM := Aside0.mk hm
  have p1 := eq_true h0
  have q1 := eq_true h1k
  obtain ⟨ha0, ha1, ha4, ha5, ha6, ha10, ha11, ha12, hf12⟩ := h.1.cells
  clear h hC hlen hm hm0 h0 h1 h1k ha0 ha1 ha4 ha5 ha6 ha12 hf12
  go_enter Tryd.func55, Tryd.ntmps55
  go_wp2
  clear hm1 hk0 p1 q1 ha10 ha11
  go_loopg [5, 23] ts.length (fun gg s5 s23 wr => ∃ (kk : Nat) (all : Int), kk ≤ ts.length ∧ ts.length - kk ≤ gg ∧ s5 = .int .i64 all ∧ s23 = .int .i64 kk ∧ Aside0 (Below w.heap.size w wr) ∧ Aside0 (fitsL ks ts 0 m0 = fitsL ks (ts.drop kk) kk all))
  case atStart => exact ⟨0, m0, Nat.zero_le _, by omega, rfl, rfl, ⟨Below.refl _ _⟩, ⟨rfl⟩⟩
  case round =>
    obtain ⟨kk, all, hkk, hg, rfl, rfl, BW, A⟩ := hrel
    have HI1 := Aside0.mk (HI.out.below BW.out)
    obtain ⟨ha0, ha1, ha4, ha5, ha6, ha10, ha11, ha12, hf12⟩ := HI1.out.1.cells
    clear ha1 ha4 ha5 ha6 ha11 ha12 hf12
    by_cases hlt : kk < ts.length
    · have hltz : (kk : Int) < (ts.length : Int) := by omega
      have hk0 : (0 : Int) ≤ (kk : Int) := by omega
      have hltk : (kk : Int) < (ks.length : Int) := by have := HL.out; omega
      have hd : ts.drop kk = getT ts kk :: ts.drop (kk + 1) := by
        rw [List.drop_eq_getElem_cons hlt]
        simp [getT, List.getD_eq_getElem?_getD, hlt]
      obtain ⟨⟨ht0, hf0⟩, ⟨ht1, hf1⟩, ⟨ht2, hf2⟩, ⟨ht3, hf3⟩, ⟨ht4, hf4⟩, ⟨ht5, hf5⟩, ⟨ht6, hf6⟩, ⟨ht7, hf7⟩, ⟨ht8, hf8⟩, ⟨ht9, hf9⟩⟩ := HI1.out.1.task (kk : Int) hk0 hltz
      simp only [Int.toNat_natCast] at ht0 ht1 ht2 ht3 ht4 ht5 ht6 ht7 ht8 ht9
      clear hf0 hf1 hf2 hf3 hf4 hf5 hf6 hf7 hf8 hf9
      have p1 := eq_true hk0
      have q1 := eq_true hltz
      have q2 := eq_true hltk
      have Hlt := Aside0.mk hlt
      have Hd := Aside0.mk hd
      have Hg := Aside0.mk hg
      have H0 := Aside0.mk hk0
      have H1 := Aside0.mk hltk
      clear hk0 hlt hd hltz hg hkk hltk
      go_upto_region 5 with (first | ((with_reducible refine gate_dst (N := 7) rfl ?_); (try (refine gate_guard (by rfl) ?_; dsimp only)); refine box_event ?hg (N := 7) ?hd (cs := #[.bool false, .bool false, .bool false, .int .i64 0, .int .i64 0, .int .i64 0, .int .i64 0, .int .i64 0, .int .i64 0, .int .i64 0]) (t := 96) ?hr ?_; (case hd => rfl); (case hg => rfl); (case hr => first | (go_simp; done) | (go_simp; rfl)); intro gb hg w1 hbox hb; have hz0 : w1.cell? ⟨gb, 0, none⟩ = some (.bool false) := (blk_cell hbox 0).trans rfl; have hz1 : w1.cell? ⟨gb, 1, none⟩ = some (.bool false) := (blk_cell hbox 1).trans rfl; have hz2 : w1.cell? ⟨gb, 2, none⟩ = some (.bool false) := (blk_cell hbox 2).trans rfl; have hz3 : w1.cell? ⟨gb, 3, none⟩ = some (.int .i64 0) := (blk_cell hbox 3).trans rfl; have hz4 : w1.cell? ⟨gb, 4, none⟩ = some (.int .i64 0) := (blk_cell hbox 4).trans rfl; have hz5 : w1.cell? ⟨gb, 5, none⟩ = some (.int .i64 0) := (blk_cell hbox 5).trans rfl; have hz6 : w1.cell? ⟨gb, 6, none⟩ = some (.int .i64 0) := (blk_cell hbox 6).trans rfl; have hz7 : w1.cell? ⟨gb, 7, none⟩ = some (.int .i64 0) := (blk_cell hbox 7).trans rfl; have hz8 : w1.cell? ⟨gb, 8, none⟩ = some (.int .i64 0) := (blk_cell hbox 8).trans rfl; have hz9 : w1.cell? ⟨gb, 9, none⟩ = some (.int .i64 0) := (blk_cell hbox 9).trans rfl; have hy0 := blk_frozen hbox 0; have hy1 := blk_frozen hbox 1; have hy2 := blk_frozen hbox 2; have hy3 := blk_frozen hbox 3; have hy4 := blk_frozen hbox 4; have hy5 := blk_frozen hbox 5; have hy6 := blk_frozen hbox 6; have hy7 := blk_frozen hbox 7; have hy8 := blk_frozen hbox 8; have hy9 := blk_frozen hbox 9; have HX := Aside0.mk hbox; have HW := Aside0.mk hb; have GE := Aside0.mk (Nat.le_of_eq hg.symm); clear hbox hb hg))
      obtain ⟨w2, hw2, hX, hW⟩ := set10 (.bool (getT ts kk).live) (.bool (getT ts kk).begun) (.bool (getT ts kk).done) (.int .i64 (getT ts kk).start.kind) (.int .i64 (getT ts kk).start.task) (.int .i64 (getT ts kk).start.slot) (.int .i64 (getT ts kk).start.epoch) (.int .i64 (getT ts kk).start.tick) (.int .i64 (getT ts kk).fails) (.int .i64 (getT ts kk).stops) HX.out HW.out GE.out
      rw [← hw2]
      have BW2 := Aside0.mk (below_step BW.out hW)
      have hl0 : w2.cell? ⟨gb, 0, none⟩ = some (.bool (getT ts kk).live) := (blk_cell hX 0).trans rfl
      clear hX hW hw2 HX HW GE hz0 hz1 hz2 hz3 hz4 hz5 hz6 hz7 hz8 hz9 hy0 hy1 hy2 hy3 hy4 hy5 hy6 hy7 hy8 hy9 ht0 ht1 ht2 ht3 ht4 ht5 ht6 ht7 ht8 ht9 ha0 ha10 p1 q1 q2
      cases hlive : (getT ts kk).live with
      | false =>
        rw [hlive] at hl0
        go_wp2
        go_roundg (ts.length - (kk + 1))
        case measure => have := Hlt.out; have := Hg.out; omega
        case rel =>
          have hlt := Hlt.out
          have hn := HM.out
          refine ⟨kk + 1, all, by omega, by omega, rfl, ?_, ⟨BW2.out⟩, ⟨?_⟩⟩
          · have e : wrap64 ((kk : Int) + 1) = ((kk + 1 : Nat) : Int) := by unfold wrap64; omega
            first | (rw [e]) | (simp [e])
          · rw [A.out, Hd.out, fits_step, if_neg (by rw [hlive]; decide)]
            rfl
      | true =>
        rw [hlive] at hl0
        obtain ⟨m, hm0⟩ : ∃ m, mxI (getK ks kk).mem 0 = m := ⟨_, rfl⟩
        have hm1 : (if (getK ks kk).mem < 0 then 0 else (getK ks kk).mem) = m := hm0
        obtain ⟨s, hs⟩ : ∃ s, (addI all m).1 = s := ⟨_, rfl⟩
        obtain ⟨kd2, ek, hkm⟩ := at_Tsk (Kd.C_below HC.out (below_step HI.out.2.1 BW2.out)) (kk : Int) H0.out H1.out
        cases ek
        simp only [Int.toNat_natCast] at hkm
        have p1 := eq_true H0.out
        have q1 := eq_true H1.out
        obtain ⟨ha0, ha1, ha4, ha5, ha6, ha10, ha11, ha12, hf12⟩ := (HI.out.below BW2.out).1.cells
        clear ha0 ha1 ha4 ha5 ha6 ha11 ha12 hf12
        have HM0 := Aside0.mk hm0
        clear hm0
        cases hok : (addI all m).2 with
        | true =>
          go_wp2_with fail
          refine (add_calls_b all m s true hs hok _).mono ?_
          rintro e' w3 ⟨rfl, hb3⟩
          go_wp2
          go_roundg (ts.length - (kk + 1))
          case measure => have := Hlt.out; have := Hg.out; omega
          case rel =>
            have hlt := Hlt.out
            have hn := HM.out
            refine ⟨kk + 1, s, by omega, by omega, rfl, ?_, ⟨below_step BW2.out hb3⟩, ⟨?_⟩⟩
            · have e : wrap64 ((kk : Int) + 1) = ((kk + 1 : Nat) : Int) := by unfold wrap64; omega
              first | (rw [e]) | (simp [e])
            · rw [A.out, Hd.out, fits_step, if_pos hlive, HM0.out, if_pos hok, hs]
              rfl
        | false =>
          go_wp2_with fail
          refine (add_calls_b all m s false hs hok _).mono ?_
          rintro e' w3 ⟨rfl, hb3⟩
          go_wp2
          go_ret
          refine ⟨?_, below_step BW2.out hb3⟩
          rw [A.out, Hd.out, fits_step, if_pos hlive, HM0.out, if_neg (by rw [hok]; decide)]
          rfl
    · have hltz : ¬ (kk : Int) < (ts.length : Int) := by omega
      obtain rfl : kk = ts.length := by omega
      have A2 := A.out
      rw [List.drop_length] at A2
      have hr : fitsR c (fitsL ks ts 0 m0) = decide (all ≤ c.budget) := by rw [A2]; rfl
      have HR := Aside0.mk hr
      clear hg hkk hlt A A2 hr
      go_wp2
      go_ret
      refine ⟨?_, BW.out⟩
      rw [HR.out]
      rfl
end Go.Proofs.YtckcepmkfegkiaaDoor.TrE
