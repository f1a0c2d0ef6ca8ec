/- The walks of held and what it calls. No condition. -/
import Derived.Test.YtckcepmkfegkiaaDoorTrC
namespace Go.Proofs.YtckcepmkfegkiaaDoor.TrD
open Go.RowKit Go.Proofs.YtckcepmkfegkiaaDoorW.PrintWords Go.Proofs.YtckcepmkfegkiaaDoorW.PrintLast TrS TrA TrC
set_option linter.unusedVariables false
set_option linter.unusedSimpArgs false
def isIn (slot : Int) (t : Tk) : Bool := t.live && t.start.slot == slot
def idxL (p : Tk → Bool) : List Tk → Int → Int
  | [], _ => -1
  | t :: ts, i => if p t = true then i else idxL p ts (i + 1)
theorem idxL_any (p : Tk → Bool) : ∀ (ts : List Tk) (i : Int), 0 ≤ i → decide (idxL p ts i ≥ 0) = ts.any p
  | [], _, _ => rfl
  | t :: ts, i, h => by
    rw [idxL, List.any_cons]
    cases hp : p t with
    | true => rw [if_pos rfl]; simpa using h
    | false => rw [if_neg (by decide), idxL_any p ts (i + 1) (by omega)]; rfl
theorem h1_calls (t : Tk) (slot : Int) (sb : Nat) (w : World) (hs : w.heap[sb]? = some (.cells #[.int .i64 slot] 3 (0, 0))) : Calls Tryd.prog 61 #[.agg #[.bool t.live, .bool t.begun, .bool t.done, .int .i64 t.start.kind, .int .i64 t.start.task, .int .i64 t.start.slot, .int .i64 t.start.epoch, .int .i64 t.start.tick, .int .i64 t.fails, .int .i64 t.stops], .pointer (some ⟨sb, 0, none⟩)] w fun x w' => x = .returned (.bool (isIn slot t)) ∧ Below w.heap.size w w' := by
  have HS := Aside0.mk hs
  clear hs
  obtain ⟨l, hl⟩ : ∃ l, t.live = l := ⟨_, rfl⟩
  cases l with
  | false =>
    have hr : isIn slot t = false := by unfold isIn; rw [hl]; rfl
    rw [hr, hl]
    go_enter Tryd.func61, Tryd.ntmps61
    go_upto_region 1 with (first | ((with_reducible refine gate_dst (N := 2) rfl ?_); (try (refine gate_guard (by rfl) ?_; dsimp only)); refine box_event ?hg (N := 2) ?hd (cs := #[.bool false, .bool t.begun, .bool t.done, .int .i64 t.start.kind, .int .i64 t.start.task, .int .i64 t.start.slot, .int .i64 t.start.epoch, .int .i64 t.start.tick, .int .i64 t.fails, .int .i64 t.stops]) (t := 96) ?hr ?_; (case hd => rfl); (case hg => rfl); (case hr => first | (go_simp; done) | (go_simp; rfl)); intro gb hg w1 hbox hb; have hl0 : w1.cell? ⟨gb, 0, none⟩ = some (.bool false) := (blk_cell hbox 0).trans rfl; have hl5 : w1.cell? ⟨gb, 5, none⟩ = some (.int .i64 t.start.slot) := (blk_cell hbox 5).trans rfl; have hsl : w1.cell? ⟨sb, 0, none⟩ = some (.int .i64 slot) := (blk_cell ((hb.block sb (lt' HS.out)).trans HS.out) 0).trans rfl; have HB := Aside0.mk hb; clear hbox hb hg))
    go_wp2
    repeat (go_quiet (fail); try go_wp2)
    go_ret
    exact ⟨rfl, by repeat (first | exact HB.out | apply below_alloc | apply pw_below_drewN | apply below_drew1)⟩
  | true =>
    by_cases c1 : t.start.slot = slot
    · have hr : isIn slot t = true := by unfold isIn; rw [hl, c1]; simp
      have c1b : (t.start.slot == slot) = true := beq_iff_eq.mpr c1
      rw [hr, hl]
      clear c1
      go_enter Tryd.func61, Tryd.ntmps61
      go_upto_region 1 with (first | ((with_reducible refine gate_dst (N := 2) rfl ?_); (try (refine gate_guard (by rfl) ?_; dsimp only)); refine box_event ?hg (N := 2) ?hd (cs := #[.bool true, .bool t.begun, .bool t.done, .int .i64 t.start.kind, .int .i64 t.start.task, .int .i64 t.start.slot, .int .i64 t.start.epoch, .int .i64 t.start.tick, .int .i64 t.fails, .int .i64 t.stops]) (t := 96) ?hr ?_; (case hd => rfl); (case hg => rfl); (case hr => first | (go_simp; done) | (go_simp; rfl)); intro gb hg w1 hbox hb; have hl0 : w1.cell? ⟨gb, 0, none⟩ = some (.bool true) := (blk_cell hbox 0).trans rfl; have hl5 : w1.cell? ⟨gb, 5, none⟩ = some (.int .i64 t.start.slot) := (blk_cell hbox 5).trans rfl; have hsl : w1.cell? ⟨sb, 0, none⟩ = some (.int .i64 slot) := (blk_cell ((hb.block sb (lt' HS.out)).trans HS.out) 0).trans rfl; have HB := Aside0.mk hb; clear hbox hb hg))
      go_wp2
      repeat (go_quiet (fail); try go_wp2)
      go_ret
      exact ⟨rfl, by repeat (first | exact HB.out | apply below_alloc | apply pw_below_drewN | apply below_drew1)⟩
    · have hr : isIn slot t = false := by unfold isIn; rw [hl, beq_eq_false_iff_ne.mpr c1]; rfl
      have c1b : (t.start.slot == slot) = false := beq_eq_false_iff_ne.mpr c1
      rw [hr, hl]
      clear c1
      go_enter Tryd.func61, Tryd.ntmps61
      go_upto_region 1 with (first | ((with_reducible refine gate_dst (N := 2) rfl ?_); (try (refine gate_guard (by rfl) ?_; dsimp only)); refine box_event ?hg (N := 2) ?hd (cs := #[.bool true, .bool t.begun, .bool t.done, .int .i64 t.start.kind, .int .i64 t.start.task, .int .i64 t.start.slot, .int .i64 t.start.epoch, .int .i64 t.start.tick, .int .i64 t.fails, .int .i64 t.stops]) (t := 96) ?hr ?_; (case hd => rfl); (case hg => rfl); (case hr => first | (go_simp; done) | (go_simp; rfl)); intro gb hg w1 hbox hb; have hl0 : w1.cell? ⟨gb, 0, none⟩ = some (.bool true) := (blk_cell hbox 0).trans rfl; have hl5 : w1.cell? ⟨gb, 5, none⟩ = some (.int .i64 t.start.slot) := (blk_cell hbox 5).trans rfl; have hsl : w1.cell? ⟨sb, 0, none⟩ = some (.int .i64 slot) := (blk_cell ((hb.block sb (lt' HS.out)).trans HS.out) 0).trans rfl; have HB := Aside0.mk hb; clear hbox hb hg))
      go_wp2
      repeat (go_quiet (fail); try go_wp2)
      go_ret
      exact ⟨rfl, by repeat (first | exact HB.out | apply below_alloc | apply pw_below_drewN | apply below_drew1)⟩
theorem h1_calls_b (t : Tk) (slot : Int) (sb : Nat) (w : World) (hs : w.heap[sb]? = some (.cells #[.int .i64 slot] 3 (0, 0))) (b : Bool) (h : isIn slot t = b) : Calls Tryd.prog 61 #[.agg #[.bool t.live, .bool t.begun, .bool t.done, .int .i64 t.start.kind, .int .i64 t.start.task, .int .i64 t.start.slot, .int .i64 t.start.epoch, .int .i64 t.start.tick, .int .i64 t.fails, .int .i64 t.stops], .pointer (some ⟨sb, 0, none⟩)] w fun x w' => x = .returned (.bool b) ∧ Below w.heap.size w w' := h ▸ h1_calls t slot sb w hs
set_option maxHeartbeats 2000000 in
theorem idx_calls (w0 : World) (g : Nat) (ad : Addr) (c : Cf) (kA : Option Addr) (kn kc : Nat) (ts : List Tk) (tick slot : Int) (w : World) (h : AI w0 w g ad c kA kn kc ts tick) (sb : Nat) (hs : w.heap[sb]? = some (.cells #[.int .i64 slot] 3 (0, 0))) : Calls Tryd.prog 64 #[.slice (some ad) ts.length ts.length, .func (.func 61) #[] #[.pointer (some ⟨sb, 0, none⟩)]] w fun x w' => x = .returned (.int .i64 (idxL (isIn slot) ts 0)) ∧ Below w.heap.size w w' := by
  have HI := Aside0.mk h
  have HS := Aside0.mk hs
  have hn : ts.length ≤ 140737488355328 := h.1.2.2.2.2.2
  clear h hs
  go_enter Tryd.func64, Tryd.ntmps64
  go_wp2
  go_loopg [5, 8] ts.length (fun gg _ s8 wr => ∃ kk : Nat, kk ≤ ts.length ∧ ts.length - kk ≤ gg ∧ s8 = .int .i64 kk ∧ Aside0 (Below w.heap.size w wr) ∧ Aside0 (idxL (isIn slot) ts 0 = idxL (isIn slot) (ts.drop kk) kk))
  case atStart => exact ⟨0, Nat.zero_le _, by omega, rfl, ⟨Below.refl _ _⟩, ⟨rfl⟩⟩
  case round =>
    obtain ⟨kk, hkk, hg, rfl, BW, A⟩ := hrel
    by_cases hlt : kk < ts.length
    · have hltz : (kk : Int) < (ts.length : Int) := by omega
      have hk0 : (0 : Int) ≤ (kk : Int) := by omega
      have hd : ts.drop kk = getT ts kk :: ts.drop (kk + 1) := by
        rw [List.drop_eq_getElem_cons hlt]
        simp [getT, List.getD_eq_getElem?_getD, hlt]
      obtain ⟨⟨ht0, hf0⟩, ⟨ht1, hf1⟩, ⟨ht2, hf2⟩, ⟨ht3, hf3⟩, ⟨ht4, hf4⟩, ⟨ht5, hf5⟩, ⟨ht6, hf6⟩, ⟨ht7, hf7⟩, ⟨ht8, hf8⟩, ⟨ht9, hf9⟩⟩ := (HI.out.below BW.out).1.task (kk : Int) hk0 hltz
      simp only [Int.toNat_natCast] at ht0 ht1 ht2 ht3 ht4 ht5 ht6 ht7 ht8 ht9
      clear hf0 hf1 hf2 hf3 hf4 hf5 hf6 hf7 hf8 hf9
      have p1 := eq_true hk0
      have q1 := eq_true hltz
      have Hlt := Aside0.mk hlt
      have Hhn := Aside0.mk hn
      have Hd := Aside0.mk hd
      have Hg := Aside0.mk hg
      clear hk0 hlt hd hltz hn hg hkk
      cases hq : isIn slot (getT ts kk) with
      | true =>
        go_wp2_with fail
        refine (h1_calls_b (getT ts kk) slot sb wr (((BW.out).block sb (lt' HS.out)).trans HS.out) _ hq).mono ?_
        rintro e' w2 ⟨rfl, hb2⟩
        go_wp2
        go_ret
        refine ⟨?_, below_step BW.out hb2⟩
        rw [A.out, Hd.out, idxL, if_pos hq]
        rfl
      | false =>
        go_wp2_with fail
        refine (h1_calls_b (getT ts kk) slot sb wr (((BW.out).block sb (lt' HS.out)).trans HS.out) _ hq).mono ?_
        rintro e' w2 ⟨rfl, hb2⟩
        go_wp2
        go_roundg (ts.length - (kk + 1))
        case measure => have := Hlt.out; have := Hg.out; omega
        case rel =>
          have hlt := Hlt.out
          have hn := Hhn.out
          refine ⟨kk + 1, by omega, by omega, ?_, ⟨below_step BW.out hb2⟩, ⟨?_⟩⟩
          · first | go_num | (have e : wrap64 ((kk : Int) + 1) = ((kk + 1 : Nat) : Int) := by unfold wrap64; omega
                              rw [e])
          · rw [A.out, Hd.out, idxL, if_neg (by rw [hq]; decide)]
            rfl
    · have hltz : ¬ (kk : Int) < (ts.length : Int) := by omega
      obtain rfl : kk = ts.length := by omega
      have Hg := Aside0.mk hg
      clear hg hkk hlt hn
      go_wp2
      go_ret
      refine ⟨?_, BW.out⟩
      rw [A.out, List.drop_length]
      rfl
set_option maxHeartbeats 2000000 in
theorem contains_calls (w0 : World) (g : Nat) (ad : Addr) (c : Cf) (kA : Option Addr) (kn kc : Nat) (ts : List Tk) (tick slot : Int) (w : World) (h : AI w0 w g ad c kA kn kc ts tick) (sb : Nat) (hs : w.heap[sb]? = some (.cells #[.int .i64 slot] 3 (0, 0))) : Calls Tryd.prog 60 #[.slice (some ad) ts.length ts.length, .func (.func 61) #[] #[.pointer (some ⟨sb, 0, none⟩)]] w fun x w' => x = .returned (.bool (held ts slot)) ∧ Below w.heap.size w w' := by
  have HI := Aside0.mk h
  have HS := Aside0.mk hs
  clear h hs
  have hr : held ts slot = decide (idxL (isIn slot) ts 0 ≥ 0) := (idxL_any (isIn slot) ts 0 (by omega)).symm
  rw [hr]
  go_enter Tryd.func60, Tryd.ntmps60
  go_wp2_with fail
  refine (idx_calls w0 g ad c kA kn kc ts tick slot _ HI.out sb HS.out).mono ?_
  rintro e' w2 ⟨rfl, hb2⟩
  go_wp2
  go_ret
  exact ⟨rfl, hb2⟩
set_option maxHeartbeats 2000000 in
theorem held_calls (w0 : World) (g : Nat) (ad : Addr) (c : Cf) (kA : Option Addr) (kn kc : Nat) (ts : List Tk) (tick slot : Int) (w : World) (h : AI w0 w g ad c kA kn kc ts tick) : Calls Tryd.prog 54 #[.pointer (some ⟨g, 0, none⟩), .int .i64 slot] w fun x w' => x = .returned (.bool (held ts slot)) ∧ Below w.heap.size w w' := by
  have HI := Aside0.mk h
  clear h
  go_enter Tryd.func54, Tryd.ntmps54
  go_upto_region 1 with (first | ((with_reducible refine gate_dst (N := 3) rfl ?_); (try (refine gate_guard (by rfl) ?_; dsimp only)); refine box_event ?hg (N := 3) ?hd (cs := #[.int .i64 slot]) (t := 3) ?hr ?_; (case hd => rfl); (case hg => rfl); (case hr => first | (go_simp; done) | (go_simp; rfl)); intro gb hg w1 hbox hb; have ha11 : w1.cell? ⟨g, 11, none⟩ = some (.slice (some ad) ts.length ts.length) := (HI.out.below hb).1.cells.2.2.2.2.2.2.1; have HS := Aside0.mk hbox; have HI1 := Aside0.mk (HI.out.below hb); have HB := Aside0.mk hb; clear hbox hb hg))
  go_wp2_with fail
  refine (contains_calls w0 g ad c kA kn kc ts tick slot _ HI1.out gb HS.out).mono ?_
  rintro e' w2 ⟨rfl, hb2⟩
  go_wp2
  go_ret
  exact ⟨rfl, below_step HB.out hb2⟩
end Go.Proofs.YtckcepmkfegkiaaDoor.TrD
