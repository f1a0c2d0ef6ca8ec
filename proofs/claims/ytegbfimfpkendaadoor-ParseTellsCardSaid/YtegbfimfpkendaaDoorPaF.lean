/- parse's op: an operation behind its word. Condition: the table answers is laid. -/
import Derived.Test.YtegbfimfpkendaaDoorPaE
import Derived.Deep.DeepCutAuto
namespace Go.Proofs.YtegbfimfpkendaaDoor.PaF
open Go.RowKit Go.Proofs.YtegbfimfpkendaaDoorW.PrintWords Go.Proofs.YtegbfimfpkendaaDoorW.PrintLast Go.Proofs.YtegbfimfpkendaaDoorW.PrintMore LexS LexB PaA LexBox PaC PaD PaB PaE
set_option linter.unusedVariables false
set_option linter.unusedSimpArgs false
def strB (l : List UInt8) : ByteArray := ⟨l.toArray⟩
def answersT : List Fm := [⟨strB [100, 105, 100], 1, 0⟩, ⟨strB [102, 97, 105, 108], 2, 0⟩, ⟨strB [110, 101, 101, 100], 3, 1⟩]
def AnswersIs (w : World) : Prop := 2 < w.heap.size ∧ Kd.C kFm w (some ⟨2, 0, none⟩) answersT.length answersT
theorem AnswersIs.below {w W : World} (h : AnswersIs w) (hb : Below w.heap.size w W) : AnswersIs W := ⟨Nat.lt_of_lt_of_le h.1 hb.size, Kd.C_below h.2 hb⟩
def numsF : Nat → Nat → List Int → List Tok → Rs (List Int)
  | 0, _, vs, ts => .ok vs ts
  | f + 1, k, vs, ts => match numP ts with
    | .bad e => .bad e
    | .ok n t => numsF f (k + 1) (vs.set k n) t
def opP (k : Int) (n : Nat) (ts : List Tok) : Rs (List Int) :=
  match numsF n 0 [0, 0, 0, 0] ts with
  | .bad e => .bad e
  | .ok vs t1 => if k = 5 then (match wordP t1 with
    | .bad e => .bad e
    | .ok s t2 => match findF s answersT with
      | none => .bad 2
      | some x => if 0 < x.n then (match numP t2 with
        | .bad e => .bad e
        | .ok d t3 => .ok ((vs.set 2 x.kind).set 3 d) t3) else .ok (vs.set 2 x.kind) t2) else .ok vs t1
def opV (k : Int) (vs : List Int) : Value := .agg ((k :: vs).map (.int .i64)).toArray
theorem slice_event {P : Program} {ops : Array Oper} {Q : Exit → Act → World → Prop} {a : Act} {o : Oper} {rest : List Oper} {W : World} (hgd : o.guard = none) {N : Tmp} (_hd : o.dst = some N) {cs : Array Value} {t : TypeId} {n : Nat}
    (hrun : (execOp a.eval o).run P W = .ok (.value (.slice (some ⟨W.heap.size, 0, none⟩) n n)) (W.alloc (.cells cs t (0, 0))))
    (h : ∀ g, g = W.heap.size → ∀ w1, w1.heap[g]? = some (.cells cs t (0, 0)) → Below W.heap.size W w1 → wpList P ops Q rest (a.put o.dst (.slice (some ⟨g, 0, none⟩) n n)) w1) : wpList P ops Q (o :: rest) a W :=
  Kd.event_run hgd hrun (h _ rfl _ (blk_new W _) (below_alloc (Below.refl _ _) _))
theorem cells5 {w : World} {o : Nat} {t : TypeId} {a0 a1 a2 a3 a4 : Value} (h : w.heap[o]? = some (.cells #[a0, a1, a2, a3, a4] t (0, 0))) :
    w.cell? ⟨o, 0, none⟩ = some a0 ∧ w.cell? ⟨o, 1, none⟩ = some a1 ∧ w.cell? ⟨o, 2, none⟩ = some a2 ∧ w.cell? ⟨o, 3, none⟩ = some a3 ∧ w.cell? ⟨o, 4, none⟩ = some a4 ∧ w.frozen? ⟨o, 0, none⟩ = false ∧ w.frozen? ⟨o, 1, none⟩ = false ∧ w.frozen? ⟨o, 2, none⟩ = false ∧ w.frozen? ⟨o, 3, none⟩ = false ∧ w.frozen? ⟨o, 4, none⟩ = false :=
  ⟨(blk_cell h 0).trans rfl, (blk_cell h 1).trans rfl, (blk_cell h 2).trans rfl, (blk_cell h 3).trans rfl, (blk_cell h 4).trans rfl, blk_frozen h 0, blk_frozen h 1, blk_frozen h 2, blk_frozen h 3, blk_frozen h 4⟩
theorem set5 {w : World} {o : Nat} {t : TypeId} {a0 a1 a2 a3 a4 : Value} (u0 u1 u2 u3 u4 : Value) (h : w.heap[o]? = some (.cells #[a0, a1, a2, a3, a4] t (0, 0))) :
    (((((w.setCell ⟨o, 0, none⟩ u0).setCell ⟨o, 1, none⟩ u1).setCell ⟨o, 2, none⟩ u2).setCell ⟨o, 3, none⟩ u3).setCell ⟨o, 4, none⟩ u4).heap[o]? = some (.cells #[u0, u1, u2, u3, u4] t (0, 0)) :=
  blk_put (blk_put (blk_put (blk_put (blk_put (h) 0 u0 (cs' := #[u0, a1, a2, a3, a4]) rfl) 1 u1 (cs' := #[u0, u1, a2, a3, a4]) rfl) 2 u2 (cs' := #[u0, u1, u2, a3, a4]) rfl) 3 u3 (cs' := #[u0, u1, u2, u3, a4]) rfl) 4 u4 (cs' := #[u0, u1, u2, u3, u4]) rfl
theorem farB5 {w : World} {o i : Nat} {t : TypeId} {cs : Array Value} (u0 u1 u2 u3 u4 : Value) (h : w.heap[i]? = some (.cells cs t (0, 0))) (hp : i ≠ o) :
    (((((w.setCell ⟨o, 0, none⟩ u0).setCell ⟨o, 1, none⟩ u1).setCell ⟨o, 2, none⟩ u2).setCell ⟨o, 3, none⟩ u3).setCell ⟨o, 4, none⟩ u4).heap[i]? = some (.cells cs t (0, 0)) :=
  blk_far (blk_far (blk_far (blk_far (blk_far (h) hp _) hp _) hp _) hp _) hp _
theorem far5 {w0 w : World} {g : Nat} {line : Int} {ts : List Tok} (h : RowAt w0 w g line ts) {ob : Nat} (hp : g ≠ ob) (hB : w0.heap.size ≤ ob) (u0 u1 u2 u3 u4 : Value) :
    RowAt w0 (((((w.setCell ⟨ob, 0, none⟩ u0).setCell ⟨ob, 1, none⟩ u1).setCell ⟨ob, 2, none⟩ u2).setCell ⟨ob, 3, none⟩ u3).setCell ⟨ob, 4, none⟩ u4) g line ts :=
  RowAt.far (RowAt.far (RowAt.far (RowAt.far (RowAt.far (h) hp hB _) hp hB _) hp hB _) hp hB _) hp hB _
theorem keep5 {w w1 : World} {g : Nat} (h : KeepBut w w1 g none) {ob : Nat} (hB : w.heap.size ≤ ob) (u0 u1 u2 u3 u4 : Value) :
    KeepBut w (((((w1.setCell ⟨ob, 0, none⟩ u0).setCell ⟨ob, 1, none⟩ u1).setCell ⟨ob, 2, none⟩ u2).setCell ⟨ob, 3, none⟩ u3).setCell ⟨ob, 4, none⟩ u4) g none :=
  keep_far (keep_far (keep_far (keep_far (keep_far (h) hB _) hB _) hB _) hB _) hB _
theorem setB3 {w : World} {o : Nat} {t : TypeId} {a0 a1 a2 : Value} (u0 u1 u2 : Value) (h : w.heap[o]? = some (.cells #[a0, a1, a2] t (0, 0))) :
    (((w.setCell ⟨o, 0, none⟩ u0).setCell ⟨o, 1, none⟩ u1).setCell ⟨o, 2, none⟩ u2).heap[o]? = some (.cells #[u0, u1, u2] t (0, 0)) :=
  blk_put (blk_put (blk_put (h) 0 u0 (cs' := #[u0, a1, a2]) rfl) 1 u1 (cs' := #[u0, u1, a2]) rfl) 2 u2 (cs' := #[u0, u1, u2]) rfl
theorem farB3 {w : World} {o i : Nat} {t : TypeId} {cs : Array Value} (u0 u1 u2 : Value) (h : w.heap[i]? = some (.cells cs t (0, 0))) (hp : i ≠ o) :
    (((w.setCell ⟨o, 0, none⟩ u0).setCell ⟨o, 1, none⟩ u1).setCell ⟨o, 2, none⟩ u2).heap[i]? = some (.cells cs t (0, 0)) :=
  blk_far (blk_far (blk_far (h) hp _) hp _) hp _
theorem far3 {w0 w : World} {g : Nat} {line : Int} {ts : List Tok} (h : RowAt w0 w g line ts) {ob : Nat} (hp : g ≠ ob) (hB : w0.heap.size ≤ ob) (u0 u1 u2 : Value) :
    RowAt w0 (((w.setCell ⟨ob, 0, none⟩ u0).setCell ⟨ob, 1, none⟩ u1).setCell ⟨ob, 2, none⟩ u2) g line ts :=
  RowAt.far (RowAt.far (RowAt.far (h) hp hB _) hp hB _) hp hB _
theorem keep3 {w w1 : World} {g : Nat} (h : KeepBut w w1 g none) {ob : Nat} (hB : w.heap.size ≤ ob) (u0 u1 u2 : Value) :
    KeepBut w (((w1.setCell ⟨ob, 0, none⟩ u0).setCell ⟨ob, 1, none⟩ u1).setCell ⟨ob, 2, none⟩ u2) g none :=
  keep_far (keep_far (keep_far (h) hB _) hB _) hB _
theorem bs_cell {w : World} {bs bo kk : Nat} {t : TypeId} (h : w.heap[bs]? = some (.cells #[.pointer (some ⟨bo, 1, none⟩), .pointer (some ⟨bo, 2, none⟩), .pointer (some ⟨bo, 3, none⟩)] t (0, 0))) (hk : kk < 3) : w.cell? ⟨bs, kk, none⟩ = some (.pointer (some ⟨bo, kk + 1, none⟩)) := by
  rw [blk_cell h kk]
  have : kk = 0 ∨ kk = 1 ∨ kk = 2 := by omega
  rcases this with rfl | rfl | rfl <;> rfl
theorem four {vs : List Int} (h : vs.length = 4) : ∃ a b c d : Int, vs = [a, b, c, d] := by
  match vs, h with
  | [a, b, c, d], _ => exact ⟨a, b, c, d, rfl⟩
theorem nums_bad {ts tl : List Tok} {vs : List Int} {n kk : Nat} {e : Int} {v0 : List Int} (h : numsF n 0 v0 ts = numsF (n - kk) kk vs tl) (hn : numP tl = .bad e) (hk : kk < n) : numsF n 0 v0 ts = .bad e := by
  rw [h, show n - kk = (n - (kk + 1)) + 1 from by omega, numsF, hn]
theorem nums_ok {ts tl t1 : List Tok} {vs : List Int} {n kk : Nat} {m : Int} {v0 : List Int} (h : numsF n 0 v0 ts = numsF (n - kk) kk vs tl) (hn : numP tl = .ok m t1) (hk : kk < n) : numsF n 0 v0 ts = numsF (n - (kk + 1)) (kk + 1) (vs.set kk m) t1 := by
  rw [h, show n - kk = (n - (kk + 1)) + 1 from by omega, numsF, hn]
theorem op_bad0 {k : Int} {n : Nat} {ts : List Tok} {e : Int} (h : numsF n 0 [0, 0, 0, 0] ts = .bad e) : opP k n ts = .bad e := by unfold opP; rw [h]
theorem op_other {k : Int} {n : Nat} {ts t1 : List Tok} {vs : List Int} (h : numsF n 0 [0, 0, 0, 0] ts = .ok vs t1) (hk : ¬ k = 5) : opP k n ts = .ok vs t1 := by unfold opP; rw [h]; simp only [hk, if_false]
theorem op_bad1 {n : Nat} {ts t1 : List Tok} {vs : List Int} {e : Int} (h : numsF n 0 [0, 0, 0, 0] ts = .ok vs t1) (hw : wordP t1 = .bad e) : opP 5 n ts = .bad e := by unfold opP; rw [h]; simp only [if_true, hw]
theorem op_bad2 {n : Nat} {ts t1 t2 : List Tok} {vs : List Int} {s : ByteArray} (h : numsF n 0 [0, 0, 0, 0] ts = .ok vs t1) (hw : wordP t1 = .ok s t2) (hf : findF s answersT = none) : opP 5 n ts = .bad 2 := by unfold opP; rw [h]; simp only [if_true, hw, hf]
theorem op_short {n : Nat} {ts t1 t2 : List Tok} {vs : List Int} {s : ByteArray} {x : Fm} (h : numsF n 0 [0, 0, 0, 0] ts = .ok vs t1) (hw : wordP t1 = .ok s t2) (hf : findF s answersT = some x) (hx : ¬ 0 < x.n) : opP 5 n ts = .ok (vs.set 2 x.kind) t2 := by unfold opP; rw [h]; simp only [if_true, hw, hf, hx, if_false]
theorem op_bad3 {n : Nat} {ts t1 t2 : List Tok} {vs : List Int} {s : ByteArray} {x : Fm} {e : Int} (h : numsF n 0 [0, 0, 0, 0] ts = .ok vs t1) (hw : wordP t1 = .ok s t2) (hf : findF s answersT = some x) (hx : 0 < x.n) (hn : numP t2 = .bad e) : opP 5 n ts = .bad e := by unfold opP; rw [h]; simp only [if_true, hw, hf, hx, hn]
theorem op_long {n : Nat} {ts t1 t2 t3 : List Tok} {vs : List Int} {s : ByteArray} {x : Fm} {d : Int} (h : numsF n 0 [0, 0, 0, 0] ts = .ok vs t1) (hw : wordP t1 = .ok s t2) (hf : findF s answersT = some x) (hx : 0 < x.n) (hn : numP t2 = .ok d t3) : opP 5 n ts = .ok ((vs.set 2 x.kind).set 3 d) t3 := by unfold opP; rw [h]; simp only [if_true, hw, hf, hx, hn]
structure OpSt (w0 w : World) (g : Nat) (line : Int) (bo : Nat) (k : Int) (vs : List Int) (tl : List Tok) (wr : World) : Prop where
  row : RowAt w0 wr g line tl
  keep : KeepBut w wr g none
  len : vs.length = 4
  box : wr.heap[bo]? = some (.cells ((k :: vs).map (.int .i64)).toArray 46 (0, 0))
  ne : g ≠ bo
  ge : w.heap.size ≤ bo
  ge0 : w0.heap.size ≤ bo
theorem OpSt.drew {w0 w : World} {g : Nat} {line : Int} {bo : Nat} {k : Int} {vs : List Int} {tl : List Tok} {wr : World} (h : OpSt w0 w g line bo k vs tl wr) : OpSt w0 w g line bo k vs tl wr.drew :=
  ⟨row_drew h.row, keep_drew h.keep, h.len, h.box, h.ne, h.ge, h.ge0⟩
theorem OpSt.below {w0 w : World} {g : Nat} {line : Int} {bo : Nat} {k : Int} {vs : List Int} {tl : List Tok} {wr w1 : World} (h : OpSt w0 w g line bo k vs tl wr) (hb : Below wr.heap.size wr w1) : OpSt w0 w g line bo k vs tl w1 :=
  ⟨row_below h.row hb, h.keep.trans (KeepBut.of_below hb g none) (.inl rfl), h.len, blk_below h.box hb, h.ne, h.ge, h.ge0⟩
theorem OpSt.alloc {w0 w : World} {g : Nat} {line : Int} {bo : Nat} {k : Int} {vs : List Int} {tl : List Tok} {wr : World} (h : OpSt w0 w g line bo k vs tl wr) (o : Obj) : OpSt w0 w g line bo k vs tl (wr.alloc o) := h.below (below_alloc (Below.refl _ _) o)
theorem OpSt.step {w0 w : World} {g : Nat} {line : Int} {bo : Nat} {k : Int} {vs : List Int} {tl t1 : List Tok} {wr w1 : World} (h : OpSt w0 w g line bo k vs tl wr) (hr : RowAt w0 w1 g line t1) (hk : KeepBut wr w1 g none) : OpSt w0 w g line bo k vs t1 w1 :=
  ⟨hr, h.keep.trans hk (.inl rfl), h.len, keep_blk hk h.box (Ne.symm h.ne), h.ne, h.ge, h.ge0⟩
theorem OpSt.put {w0 w : World} {g : Nat} {line : Int} {bo : Nat} {k : Int} {vs : List Int} {tl : List Tok} {wr : World} (h : OpSt w0 w g line bo k vs tl wr) (j : Nat) (m : Int) : OpSt w0 w g line bo k (vs.set j m) tl (wr.setCell ⟨bo, j + 1, none⟩ (.int .i64 m)) :=
  ⟨RowAt.far h.row h.ne h.ge0 _, keep_far h.keep h.ge _, by simp [h.len], blk_put h.box (j + 1) _ (by simp [List.map_set]), h.ne, h.ge, h.ge0⟩
def WordPost (w0 w : World) (g : Nat) (line : Int) (bo : Nat) (k : Int) (vs : List Int) (tl : List Tok) (W : World) (e : Ending) (w' : World) : Prop :=
  (∃ s t1, wordP tl = .ok s t1 ∧ e = .returned (.string s) ∧ OpSt w0 w g line bo k vs t1 w' ∧ KeepBut W w' g none) ∨ (∃ er, wordP tl = .bad er ∧ e = .panicked (wrongC line er) ∧ Below w0.heap.size w0 w')
theorem word_o {w0 w W : World} {g : Nat} {line : Int} {bo : Nat} {k : Int} {vs : List Int} {tl : List Tok} (h : OpSt w0 w g line bo k vs tl W) :
    Calls Tryd.prog 35 #[.pointer (some ⟨g, 0, none⟩)] W (WordPost w0 w g line bo k vs tl W) := by
  refine (word_r g line tl w0 W h.row).mono ?_
  intro e w' hp
  rcases RPost.elim hp with ⟨s, t1, h1, h2, h3, h4⟩ | ⟨er, h1, h2, h3⟩
  · exact .inl ⟨s, t1, h1, h2, h.step h3 h4, h4⟩
  · exact .inr ⟨er, h1, h2, h3⟩
def FindO (w0 w : World) (g : Nat) (line : Int) (bo : Nat) (k : Int) (vs : List Int) (tl : List Tok) (s : ByteArray) (W : World) (e : Ending) (w' : World) : Prop :=
  (∃ x, findF s answersT = some x ∧ e = .returned x.v ∧ OpSt w0 w g line bo k vs tl w' ∧ Below W.heap.size W w') ∨ (findF s answersT = none ∧ e = .panicked (wrongC line 2) ∧ Below w0.heap.size w0 w')
theorem find_o {w0 w W : World} {g : Nat} {line : Int} {bo : Nat} {k : Int} {vs : List Int} {tl : List Tok} (s : ByteArray) (hA : AnswersIs w0) (h : OpSt w0 w g line bo k vs tl W) :
    Calls Tryd.prog 39 #[.pointer (some ⟨g, 0, none⟩), .slice (some ⟨2, 0, none⟩) 3 3, .string s] W (FindO w0 w g line bo k vs tl s W) := by
  refine (find_calls g line answersT (some ⟨2, 0, none⟩) 3 s W (Kd.C_below hA.2 h.row.below) (by decide) (RowAt.line h.row) (RowAt.lt h.row)).mono ?_
  intro e w' ⟨hb, hp⟩
  cases hf : findF s answersT with
  | none => rw [hf] at hp; exact .inr ⟨hf, hp, below_step h.row.below hb⟩
  | some x => rw [hf] at hp; exact .inl ⟨x, hf, hp, h.below hb, hb⟩
theorem OpSt.far {w0 w : World} {g : Nat} {line : Int} {bo gb : Nat} {k : Int} {vs : List Int} {tl : List Tok} {wr : World} (h : OpSt w0 w g line bo k vs tl wr) (h1 : g ≠ gb) (h2 : bo ≠ gb) (h3 : w.heap.size ≤ gb) (h4 : w0.heap.size ≤ gb) (a b c : Value) : OpSt w0 w g line bo k vs tl (((wr.setCell ⟨gb, 0, none⟩ a).setCell ⟨gb, 1, none⟩ b).setCell ⟨gb, 2, none⟩ c) :=
  ⟨far3 h.row h1 h4 _ _ _, keep3 h.keep h3 _ _ _, h.len, farB3 _ _ _ h.box h2, h.ne, h.ge, h.ge0⟩
def FormAt (w0 w : World) (g : Nat) (line : Int) (bo : Nat) (vs : List Int) (tl : List Tok) (v : Value) (wx : World) : Prop :=
  ∃ (gb : Nat) (s : ByteArray) (t1 : List Tok) (x : Fm), v = .pointer (some ⟨gb, 0, none⟩) ∧ wordP tl = .ok s t1 ∧ findF s answersT = some x ∧ OpSt w0 w g line bo 5 vs t1 wx ∧ wx.heap[gb]? = some (.cells #[.string x.op, .int .i64 x.kind, .int .i64 x.n] 102 (0, 0)) ∧ bo ≠ gb ∧ g ≠ gb
set_option maxHeartbeats 4000000 in
set_option maxRecDepth 100000 in
theorem op_r (g : Nat) (line : Int) (fo : ByteArray) (fk : Int) (n : Nat) (ts : List Tok) (w0 w : World) (h : RowAt w0 w g line ts) (hA : AnswersIs w0) (hn3 : n ≤ 3) :
    Calls Tryd.prog 40 #[.pointer (some ⟨g, 0, none⟩), .agg #[.string fo, .int .i64 fk, .int .i64 n]] w (RPost (opV fk) w0 w g line (opP fk n ts)) := by
  have HR := Aside0.mk h
  have HA := Aside0.mk hA
  clear h hA
  go_enter Tryd.func40, Tryd.ntmps40
  go_upto_region 1 with (first
    | ((with_reducible refine gate_dst (N := 3) rfl ?_); (try (refine gate_guard (by rfl) ?_; dsimp only)); refine box_event ?hg (N := 3) ?hd (cs := #[.string fo, .int .i64 fk, .int .i64 n]) (t := 102) ?hr ?_; (case hd => rfl); (case hg => rfl); (case hr => first | (go_simp; done) | (go_simp; rfl)); intro bf hg w1 hbox hb; have FX := Aside0.mk hbox; have FB := Aside0.mk hb; have FG := Aside0.mk (Nat.le_of_eq hg.symm); clear hbox hb hg)
    | ((with_reducible refine gate_dst (N := 4) rfl ?_); (try (refine gate_guard (by rfl) ?_; dsimp only)); refine box_event ?hg (N := 4) ?hd (cs := #[.int .i64 0, .int .i64 0, .int .i64 0, .int .i64 0, .int .i64 0]) (t := 46) ?hr ?_; (case hd => rfl); (case hg => rfl); (case hr => first | (go_simp; done) | (go_simp; rfl)); intro bo hg w2 hbox hb; have OX := Aside0.mk hbox; have OB := Aside0.mk hb; have OG := Aside0.mk (Nat.le_of_eq hg.symm); clear hbox hb hg))
  have FX2 := Aside0.mk (blk_below FX.out OB.out)
  obtain ⟨a0, a1, a2, e0, e1, e2⟩ := cells3 FX2.out
  have hoc : w2.cell? ⟨bo, 0, none⟩ = some (.int .i64 0) := (blk_cell OX.out 0).trans rfl
  have hof := blk_frozen OX.out 0
  have hne : bf ≠ bo := by have := blk_lt FX.out; have := OG.out; omega
  have hb1 : w1.heap.size ≤ bo := OG.out
  go_upto_region 2 with (fail)
  obtain ⟨w3, hw3, hX3, hB3⟩ : ∃ W, W = w2.setCell ⟨bo, 0, none⟩ (.int .i64 fk) ∧ W.heap[bo]? = some (.cells (([fk, 0, 0, 0, 0] : List Int).map (.int .i64)).toArray 46 (0, 0)) ∧ Below w1.heap.size w1 W := ⟨_, rfl, blk_put OX.out 0 _ rfl, OB.out.setCell hb1 _⟩
  rw [← hw3]
  have FX3 := Aside0.mk (blk_below FX.out hB3)
  have OX3 := Aside0.mk hX3
  have OB3 := Aside0.mk (below_step FB.out hB3)
  clear a0 a1 a2 e0 e1 e2 hoc hof hw3 hX3
  obtain ⟨-, -, a2, -, -, -⟩ := cells3 FX3.out
  go_upto_region 3 with (first | ((with_reducible refine gate_dst (N := 14) rfl ?_); (try (refine gate_guard (by rfl) ?_; dsimp only)); refine slice_event ?hg (N := 14) ?hd (cs := #[.pointer (some ⟨bo, 1, none⟩), .pointer (some ⟨bo, 2, none⟩), .pointer (some ⟨bo, 3, none⟩)]) (t := 79) (n := 3) ?hr ?_; (case hd => rfl); (case hg => rfl); (case hr => first | (go_simp; done) | (go_simp; rfl)); intro bs hg w4 hbox hb; have SX := Aside0.mk hbox; have SB := Aside0.mk hb; have SG := Aside0.mk (Nat.le_of_eq hg.symm); clear hbox hb hg; have FX4 := Aside0.mk (blk_below FX3.out SB.out); obtain ⟨-, -, a2, -, -, -⟩ := cells3 FX4.out))
  have ST : Aside0 (OpSt w0 w g line bo fk [0, 0, 0, 0] ts w4) := by
    have hb4 := below_step OB3.out SB.out
    have h1 := RowAt.lt HR.out
    have h2 := FB.out.size
    exact ⟨⟨row_below HR.out hb4, KeepBut.of_below hb4 g none, rfl, blk_below OX3.out SB.out, by omega, by omega, by have := HR.out.below.size; omega⟩⟩
  have HBS := Aside0.mk (show bo < bs ∧ g < bs by have := blk_lt OX3.out; have := SG.out; have := RowAt.lt HR.out; have := OB3.out.size; omega)
  clear a2 hne hb1 hB3
  go_loopg [19] n (fun gg s19 wr => ∃ (kk : Nat) (vs : List Int) (tl : List Tok), kk ≤ n ∧ n - kk ≤ gg ∧ s19 = .int .i64 kk ∧ Aside0 (OpSt w0 w g line bo fk vs tl wr) ∧ Aside0 (wr.heap[bs]? = some (.cells #[.pointer (some ⟨bo, 1, none⟩), .pointer (some ⟨bo, 2, none⟩), .pointer (some ⟨bo, 3, none⟩)] 79 (0, 0))) ∧ Aside0 (numsF n 0 [0, 0, 0, 0] ts = numsF (n - kk) kk vs tl))
  case atStart => exact ⟨0, [0, 0, 0, 0], ts, by omega, by omega, rfl, ST, SX, ⟨rfl⟩⟩
  case round =>
    obtain ⟨kk, vs, tl, hkk, hg, rfl, RS, RB, C1⟩ := hrel
    by_cases hlt : kk < n
    · have hltz : (kk : Int) < (n : Int) := by omega
      have hk0 : (0 : Int) ≤ (kk : Int) := by omega
      have hcp : wr.cell? ⟨bs, kk, none⟩ = some (.pointer (some ⟨bo, kk + 1, none⟩)) := bs_cell RB.out (by omega)
      have p1 := eq_true hk0
      have q1 := eq_true hltz
      have Hlt := Aside0.mk hlt
      have Hg := Aside0.mk hg
      clear hk0 hltz hlt hg hkk
      go_wp2_with (first | (go_at_call 38; refine (number_r g line tl w0 _ RS.out.row).mono ?_; intro e' w5 hp; rcases RPost.elim hp with ⟨nv, t2, hnn, rfl, hr, hkp⟩ | ⟨e, hnn, rfl, hb⟩; rotate_left; (exact ⟨rfl, RPost.bad (op_bad0 (nums_bad C1.out hnn Hlt.out)) hb⟩); have N2 := Aside0.mk hnn; have S2 := Aside0.mk (RS.out.step hr hkp); have RB2 := Aside0.mk (keep_blk hkp RB.out (by have := HBS.out; omega)); clear hnn hr hkp; have hcz : w5.cell? ⟨bo, kk + 1, none⟩ = some (.int .i64 ((fk :: vs).getD (kk + 1) 0)) := ints_cell S2.out.box (by have := S2.out.len; have := Hlt.out; simp; omega); have hfz : w5.frozen? ⟨bo, kk + 1, none⟩ = false := blk_frozen S2.out.box (kk + 1)))
      go_roundg (n - (kk + 1))
      case measure => have := Hlt.out; have := Hg.out; omega
      case rel =>
        have hlt := Hlt.out
        have e : wrap64 ((kk : Int) + 1) = ((kk + 1 : Nat) : Int) := by unfold wrap64; omega
        refine ⟨kk + 1, vs.set kk nv, t2, by omega, by omega, by first | (rw [e]) | (simp [e]), ⟨S2.out.put kk nv⟩, ⟨blk_far RB2.out (by have := HBS.out; simp; omega) _⟩, ⟨nums_ok C1.out N2.out hlt⟩⟩
    · have hltz : ¬ (kk : Int) < (n : Int) := by omega
      obtain rfl : kk = n := by omega
      have hfin : numsF kk 0 [0, 0, 0, 0] ts = .ok vs tl := by have := C1.out; simpa [numsF] using this
      have HF := Aside0.mk hfin
      clear hg hkk hlt hfin C1
      obtain ⟨va, vb, vc, vd, rfl⟩ := four RS.out.len
      have VY := RS.out.box
      simp only [List.map_cons, List.map_nil] at VY
      obtain ⟨c0, c1, c2, c3, c4, f0, f1, f2, f3, f4⟩ := cells5 VY
      have VZ := Aside0.mk VY
      clear VY
      by_cases hk5 : fk = 5
      · have hk5b : (fk == 5) = true := beq_iff_eq.2 hk5
        subst hk5
        clear f0 c1 c2 c3 c4
        go_upto_region 8 with (fail)
        go_cut [7] (fun s7 wx => FormAt w0 w g line bo [va, vb, vc, vd] tl s7 wx)
        case first =>
          have HLT := Aside0.mk (show g ≠ wr.heap.size ∧ bo < wr.heap.size by have := RowAt.lt RS.out.row; have := blk_lt RS.out.box; omega)
          go_region_held2 (fun _ => True) (trivial)
            (first
              | (go_at_call 35; refine (word_o (w0 := w0) (w := w) (line := line) (bo := bo) (k := 5) (vs := [va, vb, vc, vd]) (tl := tl) ?hs).mono ?_; (case hs => first | exact RS.out.drew | exact RS.out.drew.alloc _); intro e' w5 hp; rcases hp with ⟨sv, t1, hw, rfl, hs5, hkp⟩ | ⟨er, hw, rfl, hb⟩; rotate_left; (exact ⟨rfl, RPost.bad (op_bad1 HF.out hw) hb⟩); have W5 := Aside0.mk hw; have S5 := Aside0.mk hs5; (first | (have HZ : Aside0 (w5.heap[wr.heap.size]? = some (.cells #[.string ⟨#[]⟩, .int .i64 0, .int .i64 0] 102 (0, 0))) := ⟨keep_blk hkp (blk_new wr.drew _) (Ne.symm HLT.out.1)⟩; obtain ⟨z0, z1, z2, y0, y1, y2⟩ := cells3 HZ.out) | skip); clear hw hs5 hkp)
              | (go_at_call 39; refine (find_o (w0 := w0) (w := w) (line := line) (bo := bo) (k := 5) (vs := [va, vb, vc, vd]) (tl := t1) sv HA.out ?hs).mono ?_; (case hs => first | exact S5.out | exact S5.out.alloc _); intro e' w6 hp; rcases hp with ⟨x, hf, rfl, hs6, hb⟩ | ⟨hf, rfl, hb⟩; rotate_left; (exact ⟨rfl, RPost.bad (op_bad2 HF.out W5.out hf) hb⟩); unfold Fm.v; have F6 := Aside0.mk hf; have S6 := Aside0.mk hs6; (first | (have HZ6 : Aside0 (w6.heap[wr.heap.size]? = some (.cells #[.string ⟨#[]⟩, .int .i64 0, .int .i64 0] 102 (0, 0))) := ⟨blk_below HZ.out hb⟩; obtain ⟨z0, z1, z2, y0, y1, y2⟩ := cells3 HZ6.out) | (have HZ6 : Aside0 (w6.heap[w5.heap.size]? = some (.cells #[.string ⟨#[]⟩, .int .i64 0, .int .i64 0] 102 (0, 0))) := ⟨blk_below (blk_new w5 _) hb⟩; obtain ⟨z0, z1, z2, y0, y1, y2⟩ := cells3 HZ6.out) | skip); clear hf hs6 hb))
          all_goals (go_wp2_with fail)
          all_goals go_meet
          all_goals first
            | exact ⟨w6.heap.size, sv, t1, x, rfl, W5.out, F6.out, S6.out.alloc _, blk_new _ _, Nat.ne_of_lt (blk_lt S6.out.box), Nat.ne_of_lt (RowAt.lt S6.out.row)⟩
            | exact ⟨wr.heap.size, sv, t1, x, rfl, W5.out, F6.out, S6.out.far HLT.out.1 (Nat.ne_of_lt HLT.out.2) RS.out.keep.1 RS.out.row.below.size _ _ _, setB3 _ _ _ HZ6.out, Nat.ne_of_lt HLT.out.2, HLT.out.1⟩
            | exact ⟨w5.heap.size, sv, t1, x, rfl, W5.out, F6.out, S6.out.far (Nat.ne_of_lt (RowAt.lt S5.out.row)) (Nat.ne_of_lt (blk_lt S5.out.box)) S5.out.keep.1 S5.out.row.below.size _ _ _, setB3 _ _ _ HZ6.out, Nat.ne_of_lt (blk_lt S5.out.box), Nat.ne_of_lt (RowAt.lt S5.out.row)⟩
        case rest =>
          obtain ⟨gb, sv, t1, x, rfl, hw, hf, hs, hx, hne1, hne2⟩ := hcut
          have W5 := Aside0.mk hw
          have F5 := Aside0.mk hf
          have S5 := Aside0.mk hs
          have X5 := Aside0.mk hx
          clear hw hf hs hx
          have VY := S5.out.box
          simp only [List.map_cons, List.map_nil] at VY
          obtain ⟨c0, c1, c2, c3, c4, f0, f1, f2, f3, f4⟩ := cells5 VY
          obtain ⟨x0, x1, x2, -, -, -⟩ := cells3 X5.out
          have hne1' : gb ≠ bo := Ne.symm hne1
          clear c0 c1 c2 c4 f0 f1 f2 f4 VY
          go_upto_region 10 with (fail)
          obtain ⟨w7, hw7, hS7, hX7⟩ : ∃ W, W = wc.setCell ⟨bo, 3, none⟩ (.int .i64 x.kind) ∧ OpSt w0 w g line bo 5 [va, vb, x.kind, vd] t1 W ∧ W.heap[gb]? = some (.cells #[.string x.op, .int .i64 x.kind, .int .i64 x.n] 102 (0, 0)) := ⟨_, rfl, S5.out.put 2 x.kind, blk_far X5.out hne1' _⟩
          rw [← hw7]
          have S7 := Aside0.mk hS7
          clear x0 x1 x2 c3 f3 hw7 hS7
          obtain ⟨-, -, x2, -, -, -⟩ := cells3 hX7
          have VY := S7.out.box
          simp only [List.map_cons, List.map_nil] at VY
          obtain ⟨c0, c1, c2, c3, c4, f0, f1, f2, f3, f4⟩ := cells5 VY
          have VZ7 := Aside0.mk VY
          clear hX7 VY
          by_cases hx : 0 < x.n
          · have HX := Aside0.mk hx
            have hxz : ¬ x.n ≤ 0 := by omega
            go_wp2_with (first | (go_at_call 38; refine (number_r g line t1 w0 _ S7.out.row).mono ?_; intro e' w8 hp; rcases RPost.elim hp with ⟨nv, t2, hnn, rfl, hr, hkp⟩ | ⟨e, hnn, rfl, hb⟩; rotate_left; (exact ⟨rfl, RPost.bad (op_bad3 HF.out W5.out F5.out HX.out hnn) hb⟩); have N2 := Aside0.mk hnn; have S8 := Aside0.mk (S7.out.step hr hkp); clear hnn hr hkp; have VY := S8.out.box; simp only [List.map_cons, List.map_nil] at VY; obtain ⟨c0, c1, c2, c3, c4, f0, f1, f2, f3, f4⟩ := cells5 VY; have VZ8 := Aside0.mk VY; clear VY))
            have S9 := S8.out.put 3 nv
            have VY := S9.box
            simp only [List.map_cons, List.map_nil, List.set_cons_succ, List.set_cons_zero] at VY
            have hq := set5 (.int .i64 5) (.int .i64 va) (.int .i64 vb) (.int .i64 x.kind) (.int .i64 nv) VY
            obtain ⟨z0, z1, z2, z3, z4, -, -, -, -, -⟩ := cells5 hq
            refine bodyPost_ret (v := opV 5 [va, vb, x.kind, nv]) ?_ rfl (RPost.ok (op_long HF.out W5.out F5.out HX.out N2.out) (far5 S9.row S9.ne S9.ge0 _ _ _ _ _) (keep5 S9.keep S9.ge _ _ _ _ _))
            simp [results, Tryd.results40, go_sem, z0, z1, z2, z3, z4, opV]
          · have hxz : x.n ≤ 0 := by omega
            have HX := Aside0.mk hx
            go_wp2
            have hq := set5 (.int .i64 5) (.int .i64 va) (.int .i64 vb) (.int .i64 x.kind) (.int .i64 vd) VZ7.out
            obtain ⟨z0, z1, z2, z3, z4, -, -, -, -, -⟩ := cells5 hq
            refine bodyPost_ret (v := opV 5 [va, vb, x.kind, vd]) ?_ rfl (RPost.ok (op_short HF.out W5.out F5.out (by have := HX.out; omega)) (far5 S7.out.row S7.out.ne S7.out.ge0 _ _ _ _ _) (keep5 S7.out.keep S7.out.ge _ _ _ _ _))
            simp [results, Tryd.results40, go_sem, z0, z1, z2, z3, z4, opV]
      · have hk5b : (fk == 5) = false := beq_eq_false_iff_ne.2 hk5
        have HK := Aside0.mk hk5
        clear hk5
        go_wp2
        have hq := set5 (.int .i64 fk) (.int .i64 va) (.int .i64 vb) (.int .i64 vc) (.int .i64 vd) VZ.out
        obtain ⟨z0, z1, z2, z3, z4, -, -, -, -, -⟩ := cells5 hq
        refine bodyPost_ret (v := opV fk [va, vb, vc, vd]) ?_ rfl (RPost.ok (op_other HF.out HK.out) (far5 RS.out.row RS.out.ne RS.out.ge0 _ _ _ _ _) (keep5 RS.out.keep RS.out.ge _ _ _ _ _))
        simp [results, Tryd.results40, go_sem, z0, z1, z2, z3, z4, opV]
end Go.Proofs.YtegbfimfpkendaaDoor.PaF
