/- The walk of the statements' first part, shown: it returns true. Conditions: the words, the ends and the powers of ten are laid. -/
import Derived.Test.YtckcepmkfegkiaaDoorTrY
import Derived.Test.YtckcepmkfegkiaaDoorTrH
import Derived.Test.YtckcepmkfegkiaaDoorTrX
namespace Go.Proofs.YtckcepmkfegkiaaDoor.TrSh
open Go.RowKit Go.Proofs.YtckcepmkfegkiaaDoorW.PrintWords Go.Proofs.YtckcepmkfegkiaaDoorW.PrintLast Go.Proofs.YtckcepmkfegkiaaDoorW.PrintMore LexS TrS TrA TrB TrE TrG TrH TrX TrV TrQ TrY
set_option linter.unusedVariables false
set_option linter.unusedSimpArgs false
theorem set10' {w0 w : World} {g : Nat} {t : TypeId} {a0 a1 a2 a3 a4 a5 a6 a7 a8 a9 : Value} (v0 v1 v2 v3 v4 v5 v6 v7 v8 v9 : Value) (h : w.heap[g]? = some (.cells #[a0, a1, a2, a3, a4, a5, a6, a7, a8, a9] t (0, 0))) (hB : Below w0.heap.size w0 w) (hg : w0.heap.size ≤ g) :
    ∃ W, W = ((((((((((w.setCell ⟨g, 0, none⟩ v0).setCell ⟨g, 1, none⟩ v1).setCell ⟨g, 2, none⟩ v2).setCell ⟨g, 3, none⟩ v3).setCell ⟨g, 4, none⟩ v4).setCell ⟨g, 5, none⟩ v5).setCell ⟨g, 6, none⟩ v6).setCell ⟨g, 7, none⟩ v7).setCell ⟨g, 8, none⟩ v8).setCell ⟨g, 9, none⟩ v9) ∧ W.heap[g]? = some (.cells #[v0, v1, v2, v3, v4, v5, v6, v7, v8, v9] t (0, 0)) ∧ Below w0.heap.size w0 W :=
  ⟨_, rfl, (blk_put (blk_put (blk_put (blk_put (blk_put (blk_put (blk_put (blk_put (blk_put (blk_put h 0 v0 (cs' := #[v0, a1, a2, a3, a4, a5, a6, a7, a8, a9]) rfl) 1 v1 (cs' := #[v0, v1, a2, a3, a4, a5, a6, a7, a8, a9]) rfl) 2 v2 (cs' := #[v0, v1, v2, a3, a4, a5, a6, a7, a8, a9]) rfl) 3 v3 (cs' := #[v0, v1, v2, v3, a4, a5, a6, a7, a8, a9]) rfl) 4 v4 (cs' := #[v0, v1, v2, v3, v4, a5, a6, a7, a8, a9]) rfl) 5 v5 (cs' := #[v0, v1, v2, v3, v4, v5, a6, a7, a8, a9]) rfl) 6 v6 (cs' := #[v0, v1, v2, v3, v4, v5, v6, a7, a8, a9]) rfl) 7 v7 (cs' := #[v0, v1, v2, v3, v4, v5, v6, v7, a8, a9]) rfl) 8 v8 (cs' := #[v0, v1, v2, v3, v4, v5, v6, v7, v8, a9]) rfl) 9 v9 (cs' := #[v0, v1, v2, v3, v4, v5, v6, v7, v8, v9]) rfl), (below_set (below_set (below_set (below_set (below_set (below_set (below_set (below_set (below_set (below_set hB hg) hg) hg) hg) hg) hg) hg) hg) hg) hg)⟩
theorem lit_C {α : Type} {d : Kd α} (w : World) (enc : α → List Value) (xs : List α) (hK : ∀ W x, d.K W x (enc x)) (hl : ∀ x, (enc x).length = d.sz) (C : Array Value) (hC : C = (xs.flatMap enc).toArray) (e : TypeId) (fr : Nat × Nat) (n : Nat) (hn : xs.length = n) (hm : n ≤ 9223372036854775807) :
    d.C (w.alloc (.cells C e fr)) (some ⟨w.heap.size, 0, none⟩) n xs := by
  refine ⟨hn, hm, fun _ => ⟨_, rfl, fun j p hj => ⟨enc p, hl p, hK _ p, fun i u hi => ?_⟩⟩⟩
  have hb : (w.alloc (.cells C e fr)).heap[w.heap.size]? = some (.cells C e fr) := by
    show (w.heap.push (.cells C e fr))[w.heap.size]? = _
    simp
  rw [add_plain, cell_of_row _ _ _ _ _ _ hb, hC, List.getElem?_toArray]
  have key : ∀ (l : List α) (j : Nat), l[j]? = some p → (l.flatMap enc)[0 + (j * d.sz + i)]? = some u := by
    intro l
    induction l with
    | nil => intro j h; simp at h
    | cons a l ih =>
      intro j h
      cases j with
      | zero =>
        simp only [List.getElem?_cons_zero, Option.some.injEq] at h
        subst h
        have : i < (enc a).length := (List.getElem?_eq_some_iff.1 hi).1
        rw [List.flatMap_cons, Nat.zero_mul, Nat.zero_add, Nat.zero_add, List.getElem?_append_left this]
        exact hi
      | succ j =>
        rw [List.getElem?_cons_succ] at h
        have h2 := ih j h
        rw [List.flatMap_cons, List.getElem?_append_right (by rw [hl, Nat.add_mul]; omega), hl]
        have e1 : 0 + ((j + 1) * d.sz + i) - d.sz = 0 + (j * d.sz + i) := by rw [Nat.add_mul]; omega
        rw [e1]
        exact h2
  have := key xs j hj
  rw [Nat.zero_add] at this
  exact this
theorem kEv_mkK (W : World) (x : Ev) : kEv.K W x (evC x) := ⟨[.int .i64 x.kind], _, rfl, rfl, ⟨[.int .i64 x.task], _, rfl, rfl, ⟨[.int .i64 x.slot], _, rfl, rfl, ⟨[.int .i64 x.epoch], _, rfl, rfl, rfl⟩⟩⟩⟩
def tskC (x : Tsk) : List Value := [.int .i64 x.mem, .int .i64 x.cost]
theorem kTsk_mkK (W : World) (x : Tsk) : kTsk.K W x (tskC x) := ⟨[.int .i64 x.mem], _, rfl, rfl, rfl⟩
theorem evs_C (w : World) (xs : List Ev) (C : Array Value) (hC : C = (xs.flatMap evC).toArray) (e : TypeId) (fr : Nat × Nat) (n : Nat) (hn : xs.length = n) (hm : n ≤ 9223372036854775807) : Kd.C kEv (w.alloc (.cells C e fr)) (some ⟨w.heap.size, 0, none⟩) n xs := lit_C w evC xs kEv_mkK (fun _ => rfl) C hC e fr n hn hm
theorem tsks_C (w : World) (xs : List Tsk) (C : Array Value) (hC : C = (xs.flatMap tskC).toArray) (e : TypeId) (fr : Nat × Nat) (n : Nat) (hn : xs.length = n) (hm : n ≤ 9223372036854775807) : Kd.C kTsk (w.alloc (.cells C e fr)) (some ⟨w.heap.size, 0, none⟩) n xs := lit_C w tskC xs kTsk_mkK (fun _ => rfl) C hC e fr n hn hm
def cS : Cf := ⟨5, 2, 0, 0, 2, 1, 3, 0, 0, 0⟩
def ksS : List Tsk := [⟨3, 0⟩, ⟨3, 0⟩]
def aS : Ev := ⟨1, 0, 1, 1, 4⟩
def bS : Ev := ⟨2, 0, 1, 1, 5⟩
def txS : List UInt8 := [115, 116, 97, 114, 116, 32, 48, 32, 49, 32, 49, 32, 52, 10, 100, 105, 100, 32, 48, 32, 49, 32, 49, 32, 53, 10]
theorem audit_b (c : Cf) (ks : List Tsk) (l : List Ev) (tA : Option Addr) (tc : Nat) (lA : Option Addr) (lc : Nat) (w : World) (r e : Int) (h : audit c ks l = (r, e)) (nk nl : Nat) (hnk : ks.length = nk) (hnl : l.length = nl) (hC : Kd.C kTsk w tA nk ks) (hL : Kd.C kEv w lA nl l) (hE : EndsIs w) (hn : nk ≤ 4398046511104) (hl : nl ≤ 4398046511104) : Calls Tryd.prog 15 #[.agg #[.int .i64 c.budget, .int .i64 c.slots, .int .i64 c.active, .int .i64 c.queue, .int .i64 c.tries, .int .i64 c.preempts, .int .i64 c.timeout, .int .i64 c.backoff, .int .i64 c.most, .int .i64 c.quantum], .slice tA nk tc, .slice lA nl lc] w fun x w' => x = .returned (.tuple #[.int .i64 r, .int .i64 e]) ∧ Below w.heap.size w w' := by
  subst hnk
  subst hnl
  have := audit_calls c ks l tA tc lA lc w hC hL hE hn hl
  rw [h] at this
  exact this
theorem evIn_S : ∀ x ∈ [aS, bS], EvIn x := by
  intro x hx
  rcases List.mem_cons.1 hx with rfl | hx
  · exact ⟨⟨by decide, by decide⟩, ⟨by decide, by decide⟩, ⟨by decide, by decide⟩, ⟨by decide, by decide⟩⟩
  · rw [List.mem_singleton.1 hx]
    exact ⟨⟨by decide, by decide⟩, ⟨by decide, by decide⟩, ⟨by decide, by decide⟩, ⟨by decide, by decide⟩⟩
theorem ev_at {w : World} {b n : Nat} {xs : List Ev} (h : Kd.C kEv w (some ⟨b, 0, none⟩) n xs) (i : Nat) (hi : i < n) : w.cell? ⟨b, i * 5, none⟩ = some (.int .i64 (xs.getD i ev0).kind) ∧ w.cell? ⟨b, i * 5 + 1, none⟩ = some (.int .i64 (xs.getD i ev0).task) ∧ w.cell? ⟨b, i * 5 + 2, none⟩ = some (.int .i64 (xs.getD i ev0).slot) ∧ w.cell? ⟨b, i * 5 + 3, none⟩ = some (.int .i64 (xs.getD i ev0).epoch) ∧ w.cell? ⟨b, i * 5 + 4, none⟩ = some (.int .i64 (xs.getD i ev0).tick) := by
  obtain ⟨ad, e, h0, h1, h2, h3, h4⟩ := at_Ev h (i : Int) (by omega) (by omega)
  cases e
  simp only [Int.toNat_natCast, add_plain, getE] at h0 h1 h2 h3 h4
  exact ⟨h0, h1, h2, h3, h4⟩
theorem au1 : audit cS ksS [aS, bS, ⟨1, 1, 0, 0, 5⟩] = (-1, 0) := by decide +kernel
theorem au2 : audit cS ksS [aS, bS, ⟨1, 0, 0, 2, 5⟩] = (2, 8) := by decide +kernel
theorem au3 : audit cS ksS [aS, ⟨1, 1, 0, 0, 5⟩] = (1, 5) := by decide +kernel
theorem tx1 : textL [aS, bS] = txS := by decide +kernel
theorem pa1 : parseT (bytesOf ⟨([35, 32, 116, 119, 111, 10] ++ txS).toArray⟩) = ([aS, bS], 0) := by decide +kernel
theorem text_b (l : List Ev) (lA : Option Addr) (lc : Nat) (w : World) (t : List UInt8) (h : textL l = t) (nl : Nat) (hnl : l.length = nl) (hL : Kd.C kEv w lA nl l) (hW : WordsIs w) (hT : NumA.Tab w) (hin : ∀ e ∈ l, EvIn e) (hl : nl ≤ 4398046511104) (hsz : t.length ≤ 140737488355328) : Calls Tryd.prog 20 #[.slice lA nl lc] w fun x w' => x = .returned (.string ⟨t.toArray⟩) ∧ Below w.heap.size w w' := by
  subst hnl
  subst h
  exact text_calls l lA lc w hL hW hT hin hl hsz
theorem parse_b (s : ByteArray) (w : World) (l : List Ev) (r : Int) (h : parseT (bytesOf s) = (l, r)) (hW : WordsIs w) (hs : s.size ≤ 9223372036854775807) : Calls Tryd.prog 18 #[.string s] w fun e w' => ∃ (A : Option Addr) (c : Nat), e = .returned (.tuple #[.slice A l.length c, .int .i64 r]) ∧ l.length ≤ c ∧ kEv.R 42 w' w.heap.size (fun _ => True) (.slice A l.length c) l ∧ Below w.heap.size w w' := by
  refine (parse_calls s w hW hs).mono ?_
  rintro e w' ⟨v, rfl, ho, hb⟩
  rw [h] at ho ⊢
  obtain ⟨A, c, rfl, h1, _⟩ := Kd.R_reads ho
  exact ⟨A, c, rfl, h1, ho, hb⟩
set_option maxHeartbeats 8000000 in
set_option maxRecDepth 100000 in
theorem shown_calls (w : World) (hW : WordsIs w) (hE : EndsIs w) (hT : NumA.Tab w) : Calls Tryd.prog 14 #[] w fun e w' => e = .returned (.bool true) ∧ Below w.heap.size w w' := by
  have HW := Aside0.mk hW
  have HE := Aside0.mk hE
  have HT := Aside0.mk hT
  clear hW hE hT
  go_enter Tryd.func14, Tryd.ntmps14
  go_upto_region 2 with (first | ((with_reducible refine gate_dst (N := 1) rfl ?_); (try (refine gate_guard (by rfl) ?_; dsimp only)); refine box_event ?hg (N := 1) ?hd (cs := #[.int .i64 0, .int .i64 0, .int .i64 0, .int .i64 0, .int .i64 0, .int .i64 0, .int .i64 0, .int .i64 0, .int .i64 0, .int .i64 0]) (t := 23) ?hr ?_; (case hd => rfl); (case hg => rfl); (case hr => first | (go_simp; done) | (go_simp; rfl)); intro gc hg w1 hbox hb; have hz0 : w1.cell? ⟨gc, 0, none⟩ = some (.int .i64 0) := (blk_cell hbox 0).trans rfl; have hz1 : w1.cell? ⟨gc, 1, none⟩ = some (.int .i64 0) := (blk_cell hbox 1).trans rfl; have hz2 : w1.cell? ⟨gc, 2, none⟩ = some (.int .i64 0) := (blk_cell hbox 2).trans rfl; have hz3 : w1.cell? ⟨gc, 3, none⟩ = some (.int .i64 0) := (blk_cell hbox 3).trans rfl; have hz4 : w1.cell? ⟨gc, 4, none⟩ = some (.int .i64 0) := (blk_cell hbox 4).trans rfl; have hz5 : w1.cell? ⟨gc, 5, none⟩ = some (.int .i64 0) := (blk_cell hbox 5).trans rfl; have hz6 : w1.cell? ⟨gc, 6, none⟩ = some (.int .i64 0) := (blk_cell hbox 6).trans rfl; have hz7 : w1.cell? ⟨gc, 7, none⟩ = some (.int .i64 0) := (blk_cell hbox 7).trans rfl; have hz8 : w1.cell? ⟨gc, 8, none⟩ = some (.int .i64 0) := (blk_cell hbox 8).trans rfl; have hz9 : w1.cell? ⟨gc, 9, none⟩ = some (.int .i64 0) := (blk_cell hbox 9).trans rfl; have hf0 := blk_frozen hbox 0; have hf1 := blk_frozen hbox 1; have hf2 := blk_frozen hbox 2; have hf3 := blk_frozen hbox 3; have hf4 := blk_frozen hbox 4; have hf5 := blk_frozen hbox 5; have hf6 := blk_frozen hbox 6; have hf7 := blk_frozen hbox 7; have hf8 := blk_frozen hbox 8; have hf9 := blk_frozen hbox 9; have HX1 := Aside0.mk hbox; have HW1 := Aside0.mk hb; have GE1 := Aside0.mk (Nat.le_of_eq hg.symm); clear hbox hb hg))
  obtain ⟨w2, hw2, hXc, hB2⟩ := set10' (.int .i64 5) (.int .i64 2) (.int .i64 0) (.int .i64 0) (.int .i64 2) (.int .i64 1) (.int .i64 3) (.int .i64 0) (.int .i64 0) (.int .i64 0) HX1.out HW1.out GE1.out
  rw [← hw2]
  have HC2 := Aside0.mk hXc
  have HB2 := Aside0.mk hB2
  clear hw2 hXc hB2 HX1 HW1 GE1 hz0 hf0 hz1 hf1 hz2 hf2 hz3 hf3 hz4 hf4 hz5 hf5 hz6 hf6 hz7 hf7 hz8 hf8 hz9 hf9
  go_upto_region 3 with fail
  obtain ⟨w3, hw3, hT3, hB3⟩ : ∃ w3, w3 = w2.alloc (Obj.cells #[Value.int IntKind.i64 3, Value.int IntKind.i64 0, Value.int IntKind.i64 3, Value.int IntKind.i64 0] 50) ∧ Kd.C kTsk w3 (some ⟨w2.heap.size, 0, none⟩) 2 ksS ∧ Below w2.heap.size w2 w3 := ⟨_, rfl, tsks_C w2 ksS _ rfl _ _ _ rfl (by decide), below_alloc (Below.refl _ _) _⟩
  rw [← hw3]
  obtain ⟨tb, htb⟩ : ∃ tb, tb = w2.heap.size := ⟨_, rfl⟩
  rw [← htb] at hT3 ⊢
  have HT3 := Aside0.mk hT3
  have HC3 := Aside0.mk ((hB3.block gc (lt' HC2.out)).trans HC2.out)
  have HB3 := Aside0.mk (below_step HB2.out hB3)
  clear hw3 hT3 hB3 htb
  go_upto_region 4 with (first | ((with_reducible refine gate_dst (N := 3) rfl ?_); (try (refine gate_guard (by rfl) ?_; dsimp only)); refine box_event ?hg (N := 3) ?hd (cs := #[.int .i64 0, .int .i64 0, .int .i64 0, .int .i64 0, .int .i64 0]) (t := 42) ?hr ?_; (case hd => rfl); (case hg => rfl); (case hr => first | (go_simp; done) | (go_simp; rfl)); intro ga hg w4 hbox hb; have hz0 : w4.cell? ⟨ga, 0, none⟩ = some (.int .i64 0) := (blk_cell hbox 0).trans rfl; have hz1 : w4.cell? ⟨ga, 1, none⟩ = some (.int .i64 0) := (blk_cell hbox 1).trans rfl; have hz2 : w4.cell? ⟨ga, 2, none⟩ = some (.int .i64 0) := (blk_cell hbox 2).trans rfl; have hz3 : w4.cell? ⟨ga, 3, none⟩ = some (.int .i64 0) := (blk_cell hbox 3).trans rfl; have hz4 : w4.cell? ⟨ga, 4, none⟩ = some (.int .i64 0) := (blk_cell hbox 4).trans rfl; have hf0 := blk_frozen hbox 0; have hf1 := blk_frozen hbox 1; have hf2 := blk_frozen hbox 2; have hf3 := blk_frozen hbox 3; have hf4 := blk_frozen hbox 4; have HX4 := Aside0.mk hbox; have HW4 := Aside0.mk hb; have GE4 := Aside0.mk (Nat.le_of_eq hg.symm); clear hbox hb hg))
  obtain ⟨w5, hw5, hXa, hB5⟩ := set5 (.int .i64 1) (.int .i64 0) (.int .i64 1) (.int .i64 1) (.int .i64 4) HX4.out HW4.out GE4.out
  rw [← hw5]
  have HA5 := Aside0.mk hXa
  have HT5 := Aside0.mk (Kd.C_below HT3.out hB5)
  have HC5 := Aside0.mk ((hB5.block gc (lt' HC3.out)).trans HC3.out)
  have HB5 := Aside0.mk (below_step HB3.out hB5)
  clear hw5 hXa hB5 HX4 HW4 GE4 hz0 hf0 hz1 hf1 hz2 hf2 hz3 hf3 hz4 hf4
  go_upto_region 5 with (first | ((with_reducible refine gate_dst (N := 4) rfl ?_); (try (refine gate_guard (by rfl) ?_; dsimp only)); refine box_event ?hg (N := 4) ?hd (cs := #[.int .i64 0, .int .i64 0, .int .i64 0, .int .i64 0, .int .i64 0]) (t := 42) ?hr ?_; (case hd => rfl); (case hg => rfl); (case hr => first | (go_simp; done) | (go_simp; rfl)); intro gb hg w6 hbox hb; have hz0 : w6.cell? ⟨gb, 0, none⟩ = some (.int .i64 0) := (blk_cell hbox 0).trans rfl; have hz1 : w6.cell? ⟨gb, 1, none⟩ = some (.int .i64 0) := (blk_cell hbox 1).trans rfl; have hz2 : w6.cell? ⟨gb, 2, none⟩ = some (.int .i64 0) := (blk_cell hbox 2).trans rfl; have hz3 : w6.cell? ⟨gb, 3, none⟩ = some (.int .i64 0) := (blk_cell hbox 3).trans rfl; have hz4 : w6.cell? ⟨gb, 4, none⟩ = some (.int .i64 0) := (blk_cell hbox 4).trans rfl; have hf0 := blk_frozen hbox 0; have hf1 := blk_frozen hbox 1; have hf2 := blk_frozen hbox 2; have hf3 := blk_frozen hbox 3; have hf4 := blk_frozen hbox 4; have HX6 := Aside0.mk hbox; have HW6 := Aside0.mk hb; have GE6 := Aside0.mk (Nat.le_of_eq hg.symm); clear hbox hb hg))
  obtain ⟨w7, hw7, hXb, hB7⟩ := set5 (.int .i64 2) (.int .i64 0) (.int .i64 1) (.int .i64 1) (.int .i64 5) HX6.out HW6.out GE6.out
  rw [← hw7]
  have HBb7 := Aside0.mk hXb
  have HA7 := Aside0.mk ((hB7.block ga (lt' HA5.out)).trans HA5.out)
  have HT7 := Aside0.mk (Kd.C_below HT5.out hB7)
  have HC7 := Aside0.mk ((hB7.block gc (lt' HC5.out)).trans HC5.out)
  have HB7 := Aside0.mk (below_step HB5.out hB7)
  clear hw7 hXb hB7 HX6 HW6 GE6 hz0 hf0 hz1 hf1 hz2 hf2 hz3 hf3 hz4 hf4
  have hc0 : w7.cell? ⟨gc, 0, none⟩ = some (.int .i64 5) := (blk_cell HC7.out 0).trans rfl
  have hc1 : w7.cell? ⟨gc, 1, none⟩ = some (.int .i64 2) := (blk_cell HC7.out 1).trans rfl
  have hc2 : w7.cell? ⟨gc, 2, none⟩ = some (.int .i64 0) := (blk_cell HC7.out 2).trans rfl
  have hc3 : w7.cell? ⟨gc, 3, none⟩ = some (.int .i64 0) := (blk_cell HC7.out 3).trans rfl
  have hc4 : w7.cell? ⟨gc, 4, none⟩ = some (.int .i64 2) := (blk_cell HC7.out 4).trans rfl
  have hc5 : w7.cell? ⟨gc, 5, none⟩ = some (.int .i64 1) := (blk_cell HC7.out 5).trans rfl
  have hc6 : w7.cell? ⟨gc, 6, none⟩ = some (.int .i64 3) := (blk_cell HC7.out 6).trans rfl
  have hc7 : w7.cell? ⟨gc, 7, none⟩ = some (.int .i64 0) := (blk_cell HC7.out 7).trans rfl
  have hc8 : w7.cell? ⟨gc, 8, none⟩ = some (.int .i64 0) := (blk_cell HC7.out 8).trans rfl
  have hc9 : w7.cell? ⟨gc, 9, none⟩ = some (.int .i64 0) := (blk_cell HC7.out 9).trans rfl
  have ha0 : w7.cell? ⟨ga, 0, none⟩ = some (.int .i64 1) := (blk_cell HA7.out 0).trans rfl
  have ha1 : w7.cell? ⟨ga, 1, none⟩ = some (.int .i64 0) := (blk_cell HA7.out 1).trans rfl
  have ha2 : w7.cell? ⟨ga, 2, none⟩ = some (.int .i64 1) := (blk_cell HA7.out 2).trans rfl
  have ha3 : w7.cell? ⟨ga, 3, none⟩ = some (.int .i64 1) := (blk_cell HA7.out 3).trans rfl
  have ha4 : w7.cell? ⟨ga, 4, none⟩ = some (.int .i64 4) := (blk_cell HA7.out 4).trans rfl
  have hb0 : w7.cell? ⟨gb, 0, none⟩ = some (.int .i64 2) := (blk_cell HBb7.out 0).trans rfl
  have hb1 : w7.cell? ⟨gb, 1, none⟩ = some (.int .i64 0) := (blk_cell HBb7.out 1).trans rfl
  have hb2 : w7.cell? ⟨gb, 2, none⟩ = some (.int .i64 1) := (blk_cell HBb7.out 2).trans rfl
  have hb3 : w7.cell? ⟨gb, 3, none⟩ = some (.int .i64 1) := (blk_cell HBb7.out 3).trans rfl
  have hb4 : w7.cell? ⟨gb, 4, none⟩ = some (.int .i64 5) := (blk_cell HBb7.out 4).trans rfl
  go_wp2_with fail
  refine (audit_b cS ksS [aS, bS, ⟨1, 1, 0, 0, 5⟩] _ _ _ _ _ (-1) 0 au1 _ _ rfl rfl (Kd.C_alloc HT7.out _) (evs_C w7 [aS, bS, ⟨1, 1, 0, 0, 5⟩] _ rfl _ _ _ rfl (by decide)) ((HE.out.below HB7.out).below (below_alloc (Below.refl _ _) _)) (by decide) (by decide)).mono ?_
  rintro e' w8 ⟨rfl, hbq⟩
  clear hc0 hc1 hc2 hc3 hc4 hc5 hc6 hc7 hc8 hc9 ha0 hb0 ha1 hb1 ha2 hb2 ha3 hb3 ha4 hb4
  have hbm_ := below_then (below_alloc (Below.refl _ _) _) (by simp) hbq
  have HBb8 := Aside0.mk ((hbm_.block gb (lt' HBb7.out)).trans HBb7.out)
  have HA8 := Aside0.mk ((hbm_.block ga (lt' HA7.out)).trans HA7.out)
  have HT8 := Aside0.mk (Kd.C_below HT7.out hbm_)
  have HC8 := Aside0.mk ((hbm_.block gc (lt' HC7.out)).trans HC7.out)
  have HB8 := Aside0.mk (below_step HB7.out hbm_)
  clear hbm_ hbq
  have hc0 : w8.cell? ⟨gc, 0, none⟩ = some (.int .i64 5) := (blk_cell HC8.out 0).trans rfl
  have hc1 : w8.cell? ⟨gc, 1, none⟩ = some (.int .i64 2) := (blk_cell HC8.out 1).trans rfl
  have hc2 : w8.cell? ⟨gc, 2, none⟩ = some (.int .i64 0) := (blk_cell HC8.out 2).trans rfl
  have hc3 : w8.cell? ⟨gc, 3, none⟩ = some (.int .i64 0) := (blk_cell HC8.out 3).trans rfl
  have hc4 : w8.cell? ⟨gc, 4, none⟩ = some (.int .i64 2) := (blk_cell HC8.out 4).trans rfl
  have hc5 : w8.cell? ⟨gc, 5, none⟩ = some (.int .i64 1) := (blk_cell HC8.out 5).trans rfl
  have hc6 : w8.cell? ⟨gc, 6, none⟩ = some (.int .i64 3) := (blk_cell HC8.out 6).trans rfl
  have hc7 : w8.cell? ⟨gc, 7, none⟩ = some (.int .i64 0) := (blk_cell HC8.out 7).trans rfl
  have hc8 : w8.cell? ⟨gc, 8, none⟩ = some (.int .i64 0) := (blk_cell HC8.out 8).trans rfl
  have hc9 : w8.cell? ⟨gc, 9, none⟩ = some (.int .i64 0) := (blk_cell HC8.out 9).trans rfl
  have ha0 : w8.cell? ⟨ga, 0, none⟩ = some (.int .i64 1) := (blk_cell HA8.out 0).trans rfl
  have ha1 : w8.cell? ⟨ga, 1, none⟩ = some (.int .i64 0) := (blk_cell HA8.out 1).trans rfl
  have ha2 : w8.cell? ⟨ga, 2, none⟩ = some (.int .i64 1) := (blk_cell HA8.out 2).trans rfl
  have ha3 : w8.cell? ⟨ga, 3, none⟩ = some (.int .i64 1) := (blk_cell HA8.out 3).trans rfl
  have ha4 : w8.cell? ⟨ga, 4, none⟩ = some (.int .i64 4) := (blk_cell HA8.out 4).trans rfl
  have hb0 : w8.cell? ⟨gb, 0, none⟩ = some (.int .i64 2) := (blk_cell HBb8.out 0).trans rfl
  have hb1 : w8.cell? ⟨gb, 1, none⟩ = some (.int .i64 0) := (blk_cell HBb8.out 1).trans rfl
  have hb2 : w8.cell? ⟨gb, 2, none⟩ = some (.int .i64 1) := (blk_cell HBb8.out 2).trans rfl
  have hb3 : w8.cell? ⟨gb, 3, none⟩ = some (.int .i64 1) := (blk_cell HBb8.out 3).trans rfl
  have hb4 : w8.cell? ⟨gb, 4, none⟩ = some (.int .i64 5) := (blk_cell HBb8.out 4).trans rfl
  go_wp2_with fail
  refine (audit_b cS ksS [aS, bS, ⟨1, 0, 0, 2, 5⟩] _ _ _ _ _ 2 8 au2 _ _ rfl rfl (Kd.C_alloc HT8.out _) (evs_C w8 [aS, bS, ⟨1, 0, 0, 2, 5⟩] _ rfl _ _ _ rfl (by decide)) ((HE.out.below HB8.out).below (below_alloc (Below.refl _ _) _)) (by decide) (by decide)).mono ?_
  rintro e' w9 ⟨rfl, hbq⟩
  clear hc0 hc1 hc2 hc3 hc4 hc5 hc6 hc7 hc8 hc9 ha0 hb0 ha1 hb1 ha2 hb2 ha3 hb3 ha4 hb4
  have hbm_ := below_then (below_alloc (Below.refl _ _) _) (by simp) hbq
  have HBb9 := Aside0.mk ((hbm_.block gb (lt' HBb8.out)).trans HBb8.out)
  have HA9 := Aside0.mk ((hbm_.block ga (lt' HA8.out)).trans HA8.out)
  have HT9 := Aside0.mk (Kd.C_below HT8.out hbm_)
  have HC9 := Aside0.mk ((hbm_.block gc (lt' HC8.out)).trans HC8.out)
  have HB9 := Aside0.mk (below_step HB8.out hbm_)
  clear hbm_ hbq
  have hc0 : w9.cell? ⟨gc, 0, none⟩ = some (.int .i64 5) := (blk_cell HC9.out 0).trans rfl
  have hc1 : w9.cell? ⟨gc, 1, none⟩ = some (.int .i64 2) := (blk_cell HC9.out 1).trans rfl
  have hc2 : w9.cell? ⟨gc, 2, none⟩ = some (.int .i64 0) := (blk_cell HC9.out 2).trans rfl
  have hc3 : w9.cell? ⟨gc, 3, none⟩ = some (.int .i64 0) := (blk_cell HC9.out 3).trans rfl
  have hc4 : w9.cell? ⟨gc, 4, none⟩ = some (.int .i64 2) := (blk_cell HC9.out 4).trans rfl
  have hc5 : w9.cell? ⟨gc, 5, none⟩ = some (.int .i64 1) := (blk_cell HC9.out 5).trans rfl
  have hc6 : w9.cell? ⟨gc, 6, none⟩ = some (.int .i64 3) := (blk_cell HC9.out 6).trans rfl
  have hc7 : w9.cell? ⟨gc, 7, none⟩ = some (.int .i64 0) := (blk_cell HC9.out 7).trans rfl
  have hc8 : w9.cell? ⟨gc, 8, none⟩ = some (.int .i64 0) := (blk_cell HC9.out 8).trans rfl
  have hc9 : w9.cell? ⟨gc, 9, none⟩ = some (.int .i64 0) := (blk_cell HC9.out 9).trans rfl
  have ha0 : w9.cell? ⟨ga, 0, none⟩ = some (.int .i64 1) := (blk_cell HA9.out 0).trans rfl
  have ha1 : w9.cell? ⟨ga, 1, none⟩ = some (.int .i64 0) := (blk_cell HA9.out 1).trans rfl
  have ha2 : w9.cell? ⟨ga, 2, none⟩ = some (.int .i64 1) := (blk_cell HA9.out 2).trans rfl
  have ha3 : w9.cell? ⟨ga, 3, none⟩ = some (.int .i64 1) := (blk_cell HA9.out 3).trans rfl
  have ha4 : w9.cell? ⟨ga, 4, none⟩ = some (.int .i64 4) := (blk_cell HA9.out 4).trans rfl
  have hb0 : w9.cell? ⟨gb, 0, none⟩ = some (.int .i64 2) := (blk_cell HBb9.out 0).trans rfl
  have hb1 : w9.cell? ⟨gb, 1, none⟩ = some (.int .i64 0) := (blk_cell HBb9.out 1).trans rfl
  have hb2 : w9.cell? ⟨gb, 2, none⟩ = some (.int .i64 1) := (blk_cell HBb9.out 2).trans rfl
  have hb3 : w9.cell? ⟨gb, 3, none⟩ = some (.int .i64 1) := (blk_cell HBb9.out 3).trans rfl
  have hb4 : w9.cell? ⟨gb, 4, none⟩ = some (.int .i64 5) := (blk_cell HBb9.out 4).trans rfl
  go_wp2_with fail
  refine (audit_b cS ksS [aS, ⟨1, 1, 0, 0, 5⟩] _ _ _ _ _ 1 5 au3 _ _ rfl rfl (Kd.C_alloc HT9.out _) (evs_C w9 [aS, ⟨1, 1, 0, 0, 5⟩] _ rfl _ _ _ rfl (by decide)) ((HE.out.below HB9.out).below (below_alloc (Below.refl _ _) _)) (by decide) (by decide)).mono ?_
  rintro e' w10 ⟨rfl, hbq⟩
  clear hc0 hc1 hc2 hc3 hc4 hc5 hc6 hc7 hc8 hc9 ha0 hb0 ha1 hb1 ha2 hb2 ha3 hb3 ha4 hb4
  have hbm_ := below_then (below_alloc (Below.refl _ _) _) (by simp) hbq
  have HBb10 := Aside0.mk ((hbm_.block gb (lt' HBb9.out)).trans HBb9.out)
  have HA10 := Aside0.mk ((hbm_.block ga (lt' HA9.out)).trans HA9.out)
  have HT10 := Aside0.mk (Kd.C_below HT9.out hbm_)
  have HC10 := Aside0.mk ((hbm_.block gc (lt' HC9.out)).trans HC9.out)
  have HB10 := Aside0.mk (below_step HB9.out hbm_)
  clear hbm_ hbq
  have ha0 : w10.cell? ⟨ga, 0, none⟩ = some (.int .i64 1) := (blk_cell HA10.out 0).trans rfl
  have ha1 : w10.cell? ⟨ga, 1, none⟩ = some (.int .i64 0) := (blk_cell HA10.out 1).trans rfl
  have ha2 : w10.cell? ⟨ga, 2, none⟩ = some (.int .i64 1) := (blk_cell HA10.out 2).trans rfl
  have ha3 : w10.cell? ⟨ga, 3, none⟩ = some (.int .i64 1) := (blk_cell HA10.out 3).trans rfl
  have ha4 : w10.cell? ⟨ga, 4, none⟩ = some (.int .i64 4) := (blk_cell HA10.out 4).trans rfl
  have hb0 : w10.cell? ⟨gb, 0, none⟩ = some (.int .i64 2) := (blk_cell HBb10.out 0).trans rfl
  have hb1 : w10.cell? ⟨gb, 1, none⟩ = some (.int .i64 0) := (blk_cell HBb10.out 1).trans rfl
  have hb2 : w10.cell? ⟨gb, 2, none⟩ = some (.int .i64 1) := (blk_cell HBb10.out 2).trans rfl
  have hb3 : w10.cell? ⟨gb, 3, none⟩ = some (.int .i64 1) := (blk_cell HBb10.out 3).trans rfl
  have hb4 : w10.cell? ⟨gb, 4, none⟩ = some (.int .i64 5) := (blk_cell HBb10.out 4).trans rfl
  go_wp2_with fail
  refine (text_b [aS, bS] _ _ _ txS tx1 _ rfl (evs_C w10 [aS, bS] _ rfl _ _ _ rfl (by decide)) ((HW.out.below HB10.out).below (below_alloc (Below.refl _ _) _)) ((HT.out.below HB10.out).below (below_alloc (Below.refl _ _) _)) evIn_S (by decide) (by decide)).mono ?_
  rintro e' w11 ⟨rfl, hbq⟩
  clear ha0 hb0 ha1 hb1 ha2 hb2 ha3 hb3 ha4 hb4
  have hbm_ := below_then (below_alloc (Below.refl _ _) _) (by simp) hbq
  have HBb11 := Aside0.mk ((hbm_.block gb (lt' HBb10.out)).trans HBb10.out)
  have HA11 := Aside0.mk ((hbm_.block ga (lt' HA10.out)).trans HA10.out)
  have HT11 := Aside0.mk (Kd.C_below HT10.out hbm_)
  have HC11 := Aside0.mk ((hbm_.block gc (lt' HC10.out)).trans HC10.out)
  have HB11 := Aside0.mk (below_step HB10.out hbm_)
  clear hbm_ hbq
  go_wp2_with fail
  refine (parse_b _ _ [aS, bS] 0 pa1 (HW.out.below HB11.out) (by decide)).mono ?_
  rintro e' w12 ⟨A, cp, rfl, hcp, ho, hbq⟩
  obtain ⟨pb, cap, hv, _, _, _⟩ := Kd.R_form ho (by decide)
  cases hv
  have HBz := Aside0.mk (below_step HB11.out hbq)
  have HBb12 := Aside0.mk ((hbq.block gb (lt' HBb11.out)).trans HBb11.out)
  have HA12 := Aside0.mk ((hbq.block ga (lt' HA11.out)).trans HA11.out)
  have HR12 := (Kd.R_reads' ho).2.2
  obtain ⟨hp00, hp01, hp02, hp03, hp04⟩ := ev_at HR12 0 (by decide)
  obtain ⟨hp10, hp11, hp12, hp13, hp14⟩ := ev_at HR12 1 (by decide)
  replace hp00 : w12.cell? ⟨pb, 0, none⟩ = some (.int .i64 1) := hp00
  replace hp01 : w12.cell? ⟨pb, 1, none⟩ = some (.int .i64 0) := hp01
  replace hp02 : w12.cell? ⟨pb, 2, none⟩ = some (.int .i64 1) := hp02
  replace hp03 : w12.cell? ⟨pb, 3, none⟩ = some (.int .i64 1) := hp03
  replace hp04 : w12.cell? ⟨pb, 4, none⟩ = some (.int .i64 4) := hp04
  replace hp10 : w12.cell? ⟨pb, 5, none⟩ = some (.int .i64 2) := hp10
  replace hp11 : w12.cell? ⟨pb, 6, none⟩ = some (.int .i64 0) := hp11
  replace hp12 : w12.cell? ⟨pb, 7, none⟩ = some (.int .i64 1) := hp12
  replace hp13 : w12.cell? ⟨pb, 8, none⟩ = some (.int .i64 1) := hp13
  replace hp14 : w12.cell? ⟨pb, 9, none⟩ = some (.int .i64 5) := hp14
  have ha0 : w12.cell? ⟨ga, 0, none⟩ = some (.int .i64 1) := (blk_cell HA12.out 0).trans rfl
  have ha1 : w12.cell? ⟨ga, 1, none⟩ = some (.int .i64 0) := (blk_cell HA12.out 1).trans rfl
  have ha2 : w12.cell? ⟨ga, 2, none⟩ = some (.int .i64 1) := (blk_cell HA12.out 2).trans rfl
  have ha3 : w12.cell? ⟨ga, 3, none⟩ = some (.int .i64 1) := (blk_cell HA12.out 3).trans rfl
  have ha4 : w12.cell? ⟨ga, 4, none⟩ = some (.int .i64 4) := (blk_cell HA12.out 4).trans rfl
  have hb0 : w12.cell? ⟨gb, 0, none⟩ = some (.int .i64 2) := (blk_cell HBb12.out 0).trans rfl
  have hb1 : w12.cell? ⟨gb, 1, none⟩ = some (.int .i64 0) := (blk_cell HBb12.out 1).trans rfl
  have hb2 : w12.cell? ⟨gb, 2, none⟩ = some (.int .i64 1) := (blk_cell HBb12.out 2).trans rfl
  have hb3 : w12.cell? ⟨gb, 3, none⟩ = some (.int .i64 1) := (blk_cell HBb12.out 3).trans rfl
  have hb4 : w12.cell? ⟨gb, 4, none⟩ = some (.int .i64 5) := (blk_cell HBb12.out 4).trans rfl
  clear hcp ho hbq HR12
  go_wp2
  repeat (go_quiet (fail); try go_wp2)
  go_ret
  exact ⟨rfl, pw_below_drewN HBz.out _⟩
end Go.Proofs.YtckcepmkfegkiaaDoor.TrSh
