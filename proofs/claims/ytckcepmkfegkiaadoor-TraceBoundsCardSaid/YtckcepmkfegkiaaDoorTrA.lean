/- What an audit is in memory; cells read and written. No condition. -/
import Derived.Test.YtckcepmkfegkiaaDoorTrSpec
import Derived.Test.YtckcepmkfegkiaaDoorBb
import Derived.Test.YtckcepmkfegkiaaDoorProg
import Derived.Deep.CutBlock
import Derived.Lib.Hide
namespace Go.Proofs.YtckcepmkfegkiaaDoor.TrA
open Go.RowKit Go.Proofs.YtckcepmkfegkiaaDoorW.PrintWords Go.Proofs.YtckcepmkfegkiaaDoorW.PrintLast TrS
set_option linter.unusedVariables false
set_option linter.unusedSimpArgs false
def evC (e : Ev) : List Value := [.int .i64 e.kind, .int .i64 e.task, .int .i64 e.slot, .int .i64 e.epoch, .int .i64 e.tick]
def tkC (t : Tk) : List Value := [.bool t.live, .bool t.begun, .bool t.done, .int .i64 t.start.kind, .int .i64 t.start.task, .int .i64 t.start.slot, .int .i64 t.start.epoch, .int .i64 t.start.tick, .int .i64 t.fails, .int .i64 t.stops]
theorem flat_get : ∀ (ts : List Tk) (i j : Nat), i < ts.length → j < 10 → (ts.flatMap tkC)[i * 10 + j]? = (tkC (ts.getD i tk0))[j]?
  | [], _, _, h, _ => absurd h (by simp)
  | t :: ts, 0, j, _, hj => by
    have : (tkC t).length = 10 := rfl
    rw [List.flatMap_cons, Nat.zero_mul, Nat.zero_add, List.getElem?_append_left (by omega)]
    rfl
  | t :: ts, i + 1, j, h, hj => by
    have hl : (tkC t).length = 10 := rfl
    rw [List.flatMap_cons, List.getElem?_append_right (by omega), hl, show (i + 1) * 10 + j - 10 = i * 10 + j from by omega, flat_get ts i j (by simpa using h) hj]
    rfl
theorem flat_set : ∀ (ts : List Tk) (i j : Nat) (v : Value) (t' : Tk), i < ts.length → j < 10 → (tkC (ts.getD i tk0)).set j v = tkC t' → (ts.flatMap tkC).set (i * 10 + j) v = (ts.set i t').flatMap tkC
  | [], _, _, _, _, h, _, _ => absurd h (by simp)
  | t :: ts, 0, j, v, t', _, hj, he => by
    have : (tkC t).length = 10 := rfl
    rw [List.flatMap_cons, Nat.zero_mul, Nat.zero_add, List.set_append_left _ _ (by omega), List.set_cons_zero, List.flatMap_cons]
    have he' : (tkC t).set j v = tkC t' := he
    rw [he']
  | t :: ts, i + 1, j, v, t', h, hj, he => by
    have hl : (tkC t).length = 10 := rfl
    rw [List.flatMap_cons, List.set_append_right _ _ (by omega), hl, show (i + 1) * 10 + j - 10 = i * 10 + j from by omega, flat_set ts i j v t' (by simpa using h) hj he, List.set_cons_succ, List.flatMap_cons]
def Aud (W : World) (g : Nat) (ad : Addr) (c : Cf) (kA : Option Addr) (kn kc : Nat) (ts : List Tk) (tick : Int) : Prop :=
  W.heap[g]? = some (.cells #[.int .i64 c.budget, .int .i64 c.slots, .int .i64 c.active, .int .i64 c.queue, .int .i64 c.tries, .int .i64 c.preempts, .int .i64 c.timeout, .int .i64 c.backoff, .int .i64 c.most, .int .i64 c.quantum, .slice kA kn kc, .slice (some ad) ts.length ts.length, .int .i64 tick] 63 (0, 0)) ∧
  ad.off = 0 ∧ ad.spot = none ∧ ad.block ≠ g ∧ W.heap[ad.block]? = some (.cells (ts.flatMap tkC).toArray 96 (0, 0)) ∧ ts.length ≤ 140737488355328
section
variable {W W1 : World} {g : Nat} {ad : Addr} {c : Cf} {kA : Option Addr} {kn kc : Nat} {ts : List Tk} {tick : Int}
theorem lt' {w : World} {b : Nat} {o : Obj} (h : w.heap[b]? = some o) : b < w.heap.size := (Array.getElem?_eq_some_iff.1 h).1
theorem Aud.below (h : Aud W g ad c kA kn kc ts tick) (hb : Below W.heap.size W W1) : Aud W1 g ad c kA kn kc ts tick := by
  obtain ⟨h1, h2, h3, h4, h5, h6⟩ := h
  exact ⟨(hb.block g (lt' h1)).trans h1, h2, h3, h4, (hb.block ad.block (lt' h5)).trans h5, h6⟩
theorem Aud.cells (h : Aud W g ad c kA kn kc ts tick) : W.cell? ⟨g, 0, none⟩ = some (.int .i64 c.budget) ∧ W.cell? ⟨g, 1, none⟩ = some (.int .i64 c.slots) ∧ W.cell? ⟨g, 4, none⟩ = some (.int .i64 c.tries) ∧ W.cell? ⟨g, 5, none⟩ = some (.int .i64 c.preempts) ∧ W.cell? ⟨g, 6, none⟩ = some (.int .i64 c.timeout) ∧ W.cell? ⟨g, 10, none⟩ = some (.slice kA kn kc) ∧ W.cell? ⟨g, 11, none⟩ = some (.slice (some ad) ts.length ts.length) ∧ W.cell? ⟨g, 12, none⟩ = some (.int .i64 tick) ∧ W.frozen? ⟨g, 12, none⟩ = false := by
  obtain ⟨h1, _⟩ := h
  exact ⟨(blk_cell h1 0).trans rfl, (blk_cell h1 1).trans rfl, (blk_cell h1 4).trans rfl, (blk_cell h1 5).trans rfl, (blk_cell h1 6).trans rfl, (blk_cell h1 10).trans rfl, (blk_cell h1 11).trans rfl, (blk_cell h1 12).trans rfl, blk_frozen h1 12⟩
theorem row_cell {w : World} {b k j : Nat} {cs : Array Value} {t : TypeId} (h : w.heap[b]? = some (.cells cs t (0, 0))) (ad : Addr) (h1 : ad.off = 0) (h2 : ad.spot = none) (h3 : ad.block = b) : w.cell? (ad.add k) = cs[k]? ∧ w.cell? ⟨(ad.add k).block, (ad.add k).off + j, none⟩ = cs[k + j]? ∧ w.frozen? (ad.add k) = false ∧ w.frozen? ⟨(ad.add k).block, (ad.add k).off + j, none⟩ = false := by
  obtain ⟨b', o, p⟩ := ad
  simp only at h1 h2 h3
  subst h1
  subst h2
  subst h3
  have e : (⟨b', 0, none⟩ : Addr).add k = ⟨b', k, none⟩ := by rw [add_plain]
  rw [e]
  exact ⟨blk_cell h k, blk_cell h (k + j), blk_frozen h k, blk_frozen h (k + j)⟩
theorem Aud.task (h : Aud W g ad c kA kn kc ts tick) (i : Int) (h0 : 0 ≤ i) (h1 : i < ts.length) :
    (W.cell? (ad.add (i.toNat * 10)) = some (.bool (getT ts i).live) ∧ W.frozen? (ad.add (i.toNat * 10)) = false) ∧ (W.cell? ⟨(ad.add (i.toNat * 10)).block, (ad.add (i.toNat * 10)).off + 1, none⟩ = some (.bool (getT ts i).begun) ∧ W.frozen? ⟨(ad.add (i.toNat * 10)).block, (ad.add (i.toNat * 10)).off + 1, none⟩ = false) ∧ (W.cell? ⟨(ad.add (i.toNat * 10)).block, (ad.add (i.toNat * 10)).off + 2, none⟩ = some (.bool (getT ts i).done) ∧ W.frozen? ⟨(ad.add (i.toNat * 10)).block, (ad.add (i.toNat * 10)).off + 2, none⟩ = false) ∧ (W.cell? ⟨(ad.add (i.toNat * 10)).block, (ad.add (i.toNat * 10)).off + 3, none⟩ = some (.int .i64 (getT ts i).start.kind) ∧ W.frozen? ⟨(ad.add (i.toNat * 10)).block, (ad.add (i.toNat * 10)).off + 3, none⟩ = false) ∧ (W.cell? ⟨(ad.add (i.toNat * 10)).block, (ad.add (i.toNat * 10)).off + 4, none⟩ = some (.int .i64 (getT ts i).start.task) ∧ W.frozen? ⟨(ad.add (i.toNat * 10)).block, (ad.add (i.toNat * 10)).off + 4, none⟩ = false) ∧ (W.cell? ⟨(ad.add (i.toNat * 10)).block, (ad.add (i.toNat * 10)).off + 5, none⟩ = some (.int .i64 (getT ts i).start.slot) ∧ W.frozen? ⟨(ad.add (i.toNat * 10)).block, (ad.add (i.toNat * 10)).off + 5, none⟩ = false) ∧ (W.cell? ⟨(ad.add (i.toNat * 10)).block, (ad.add (i.toNat * 10)).off + 6, none⟩ = some (.int .i64 (getT ts i).start.epoch) ∧ W.frozen? ⟨(ad.add (i.toNat * 10)).block, (ad.add (i.toNat * 10)).off + 6, none⟩ = false) ∧ (W.cell? ⟨(ad.add (i.toNat * 10)).block, (ad.add (i.toNat * 10)).off + 7, none⟩ = some (.int .i64 (getT ts i).start.tick) ∧ W.frozen? ⟨(ad.add (i.toNat * 10)).block, (ad.add (i.toNat * 10)).off + 7, none⟩ = false) ∧ (W.cell? ⟨(ad.add (i.toNat * 10)).block, (ad.add (i.toNat * 10)).off + 8, none⟩ = some (.int .i64 (getT ts i).fails) ∧ W.frozen? ⟨(ad.add (i.toNat * 10)).block, (ad.add (i.toNat * 10)).off + 8, none⟩ = false) ∧ (W.cell? ⟨(ad.add (i.toNat * 10)).block, (ad.add (i.toNat * 10)).off + 9, none⟩ = some (.int .i64 (getT ts i).stops) ∧ W.frozen? ⟨(ad.add (i.toNat * 10)).block, (ad.add (i.toNat * 10)).off + 9, none⟩ = false) := by
  obtain ⟨_, h2, h3, _, h5, _⟩ := h
  have hi : i.toNat < ts.length := by omega
  have key : ∀ j, j < 10 → (ts.flatMap tkC).toArray[i.toNat * 10 + j]? = (tkC (getT ts i))[j]? := fun j hj => by
    rw [List.getElem?_toArray]
    exact flat_get ts i.toNat j hi hj
  have r := fun j => row_cell (k := i.toNat * 10) (j := j) h5 ad h2 h3 rfl
  exact ⟨⟨(r 0).1.trans (key 0 (by omega)), (r 0).2.2.1⟩, ⟨(r 1).2.1.trans (key 1 (by omega)), (r 1).2.2.2⟩, ⟨(r 2).2.1.trans (key 2 (by omega)), (r 2).2.2.2⟩, ⟨(r 3).2.1.trans (key 3 (by omega)), (r 3).2.2.2⟩, ⟨(r 4).2.1.trans (key 4 (by omega)), (r 4).2.2.2⟩, ⟨(r 5).2.1.trans (key 5 (by omega)), (r 5).2.2.2⟩, ⟨(r 6).2.1.trans (key 6 (by omega)), (r 6).2.2.2⟩, ⟨(r 7).2.1.trans (key 7 (by omega)), (r 7).2.2.2⟩, ⟨(r 8).2.1.trans (key 8 (by omega)), (r 8).2.2.2⟩, ⟨(r 9).2.1.trans (key 9 (by omega)), (r 9).2.2.2⟩⟩
end
def Hold (w0 W : World) (gb : Nat) (e : Ev) (g : Nat) (ad : Addr) (c : Cf) (kA : Option Addr) (kn kc : Nat) (ts : List Tk) (tick : Int) : Prop :=
  W.heap[gb]? = some (.cells #[.int .i64 e.kind, .int .i64 e.task, .int .i64 e.slot, .int .i64 e.epoch, .int .i64 e.tick] 42 (0, 0)) ∧ Aud W g ad c kA kn kc ts tick ∧ Below w0.heap.size w0 W ∧ w0.heap.size ≤ gb
section
variable {w0 W W1 : World} {gb : Nat} {e : Ev} {g : Nat} {ad : Addr} {c : Cf} {kA : Option Addr} {kn kc : Nat} {ts : List Tk} {tick : Int}
theorem Hold.below (h : Hold w0 W gb e g ad c kA kn kc ts tick) (hb : Below W.heap.size W W1) : Hold w0 W1 gb e g ad c kA kn kc ts tick :=
  ⟨(hb.block gb (lt' h.1)).trans h.1, h.2.1.below hb, below_step h.2.2.1 hb, h.2.2.2⟩
theorem Hold.drew (h : Hold w0 W gb e g ad c kA kn kc ts tick) : Hold w0 W.drew gb e g ad c kA kn kc ts tick := ⟨h.1, h.2.1, below_drew h.2.2.1, h.2.2.2⟩
theorem Hold.drewN (h : Hold w0 W gb e g ad c kA kn kc ts tick) (n : Nat) : Hold w0 (W.drewN n) gb e g ad c kA kn kc ts tick := ⟨h.1, h.2.1, pw_below_drewN h.2.2.1 n, h.2.2.2⟩
theorem Hold.bel (h : Hold w0 W gb e g ad c kA kn kc ts tick) : Below w0.heap.size w0 W := h.2.2.1
theorem Hold.ev (h : Hold w0 W gb e g ad c kA kn kc ts tick) : W.cell? ⟨gb, 0, none⟩ = some (.int .i64 e.kind) ∧ W.cell? ⟨gb, 1, none⟩ = some (.int .i64 e.task) ∧ W.cell? ⟨gb, 2, none⟩ = some (.int .i64 e.slot) ∧ W.cell? ⟨gb, 3, none⟩ = some (.int .i64 e.epoch) ∧ W.cell? ⟨gb, 4, none⟩ = some (.int .i64 e.tick) :=
  ⟨(blk_cell h.1 0).trans rfl, (blk_cell h.1 1).trans rfl, (blk_cell h.1 2).trans rfl, (blk_cell h.1 3).trans rfl, (blk_cell h.1 4).trans rfl⟩
theorem Hold.c0 (h : Hold w0 W gb e g ad c kA kn kc ts tick) : W.cell? ⟨g, 0, none⟩ = some (.int .i64 c.budget) := (blk_cell h.2.1.1 0).trans rfl
theorem Hold.c1 (h : Hold w0 W gb e g ad c kA kn kc ts tick) : W.cell? ⟨g, 1, none⟩ = some (.int .i64 c.slots) := (blk_cell h.2.1.1 1).trans rfl
theorem Hold.c4 (h : Hold w0 W gb e g ad c kA kn kc ts tick) : W.cell? ⟨g, 4, none⟩ = some (.int .i64 c.tries) := (blk_cell h.2.1.1 4).trans rfl
theorem Hold.c5 (h : Hold w0 W gb e g ad c kA kn kc ts tick) : W.cell? ⟨g, 5, none⟩ = some (.int .i64 c.preempts) := (blk_cell h.2.1.1 5).trans rfl
theorem Hold.c6 (h : Hold w0 W gb e g ad c kA kn kc ts tick) : W.cell? ⟨g, 6, none⟩ = some (.int .i64 c.timeout) := (blk_cell h.2.1.1 6).trans rfl
theorem Hold.c10 (h : Hold w0 W gb e g ad c kA kn kc ts tick) : W.cell? ⟨g, 10, none⟩ = some (.slice kA kn kc) := (blk_cell h.2.1.1 10).trans rfl
theorem Hold.c11 (h : Hold w0 W gb e g ad c kA kn kc ts tick) : W.cell? ⟨g, 11, none⟩ = some (.slice (some ad) ts.length ts.length) := (blk_cell h.2.1.1 11).trans rfl
theorem Hold.c12 (h : Hold w0 W gb e g ad c kA kn kc ts tick) : W.cell? ⟨g, 12, none⟩ = some (.int .i64 tick) := (blk_cell h.2.1.1 12).trans rfl
end
end Go.Proofs.YtckcepmkfegkiaaDoor.TrA
