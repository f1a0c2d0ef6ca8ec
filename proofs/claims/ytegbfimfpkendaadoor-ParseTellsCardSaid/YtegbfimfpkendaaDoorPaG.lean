/- parse's takes: what one line does to a file. Conditions: the tables names, forms and answers are laid. -/
import Derived.Test.YtegbfimfpkendaaDoorPaF
namespace Go.Proofs.YtegbfimfpkendaaDoor.PaG
open Go.RowKit Go.Proofs.YtegbfimfpkendaaDoorW.PrintWords Go.Proofs.YtegbfimfpkendaaDoorW.PrintLast Go.Proofs.YtegbfimfpkendaaDoorW.PrintMore LexS LexB PaA LexBox PaC PaD PaB PaE PaF
set_option linter.unusedVariables false
set_option linter.unusedSimpArgs false
theorem goesP_ {P : Program} {ops : Array Oper} {Q : Exit → Act → World → Prop} {oi : Oper} {N : Option Tmp} {a : Act} {w : World} {K : Act → World → Prop} {f : FuncId} {fn : Func} {ars : Array Operand} {ts : Array TypeId} (hf : P.funcs[f]? = some fn) (hname : (fn.name == "runtime.NumGoroutine") = false) (hb : fn.body.isSome = true) (args : Array Value)
    (hw : Region.wanted oi (yielded ops a.tmps) = true) (hN : oi.dst = N) (hop : oi.op = .call { callee := .value (.func f), args := ars, argTypes := ts }) (hargs : ars.map a.eval = args)
    (h : Calls P f args w fun e w' => (∃ v, e = .returned v ∧ K (a.put N v) w') ∨ (∃ c, e = .panicked c ∧ Q (.panic c) a w')) : if Region.wanted oi (yielded ops a.tmps) = true then Oper.wp P oi a w K Q else K (a.put N undef) w := by
  rw [if_pos hw]
  subst hN
  have he := enters_ hf hname hb args w
  have hrun : (execOp a.eval oi).run P w = .ok (.enter f args) w := by
    unfold execOp
    simp [hop, resolve, Deferred.ofValue, invoke, Act.eval, hargs, he]
  unfold Oper.wp
  rw [hrun, Oper.upon_enter]
  refine h.mono fun e w'' hh => ?_
  rcases hh with ⟨v, rfl, hk⟩ | ⟨c, rfl, hk⟩
  · exact hk
  · exact hk
theorem cells12 {w : World} {o : Nat} {t : TypeId} {a0 a1 a2 a3 a4 a5 a6 a7 a8 a9 a10 a11 : Value} (h : w.heap[o]? = some (.cells #[a0, a1, a2, a3, a4, a5, a6, a7, a8, a9, a10, a11] t (0, 0))) :
    w.cell? ⟨o, 0, none⟩ = some a0 ∧ w.cell? ⟨o, 1, none⟩ = some a1 ∧ w.cell? ⟨o, 2, none⟩ = some a2 ∧ w.cell? ⟨o, 3, none⟩ = some a3 ∧ w.cell? ⟨o, 4, none⟩ = some a4 ∧ w.cell? ⟨o, 5, none⟩ = some a5 ∧ w.cell? ⟨o, 6, none⟩ = some a6 ∧ w.cell? ⟨o, 7, none⟩ = some a7 ∧ w.cell? ⟨o, 8, none⟩ = some a8 ∧ w.cell? ⟨o, 9, none⟩ = some a9 ∧ w.cell? ⟨o, 10, none⟩ = some a10 ∧ w.cell? ⟨o, 11, none⟩ = some a11 ∧ w.frozen? ⟨o, 0, none⟩ = false ∧ w.frozen? ⟨o, 1, none⟩ = false ∧ w.frozen? ⟨o, 2, none⟩ = false ∧ w.frozen? ⟨o, 3, none⟩ = false ∧ w.frozen? ⟨o, 4, none⟩ = false ∧ w.frozen? ⟨o, 5, none⟩ = false ∧ w.frozen? ⟨o, 6, none⟩ = false ∧ w.frozen? ⟨o, 7, none⟩ = false ∧ w.frozen? ⟨o, 8, none⟩ = false ∧ w.frozen? ⟨o, 9, none⟩ = false ∧ w.frozen? ⟨o, 10, none⟩ = false ∧ w.frozen? ⟨o, 11, none⟩ = false :=
  ⟨(blk_cell h 0).trans rfl, (blk_cell h 1).trans rfl, (blk_cell h 2).trans rfl, (blk_cell h 3).trans rfl, (blk_cell h 4).trans rfl, (blk_cell h 5).trans rfl, (blk_cell h 6).trans rfl, (blk_cell h 7).trans rfl, (blk_cell h 8).trans rfl, (blk_cell h 9).trans rfl, (blk_cell h 10).trans rfl, (blk_cell h 11).trans rfl, blk_frozen h 0, blk_frozen h 1, blk_frozen h 2, blk_frozen h 3, blk_frozen h 4, blk_frozen h 5, blk_frozen h 6, blk_frozen h 7, blk_frozen h 8, blk_frozen h 9, blk_frozen h 10, blk_frozen h 11⟩
theorem set12 {w : World} {o : Nat} {t : TypeId} {a0 a1 a2 a3 a4 a5 a6 a7 a8 a9 a10 a11 : Value} (u0 u1 u2 u3 u4 u5 u6 u7 u8 u9 u10 u11 : Value) (h : w.heap[o]? = some (.cells #[a0, a1, a2, a3, a4, a5, a6, a7, a8, a9, a10, a11] t (0, 0))) :
    ((((((((((((w.setCell ⟨o, 0, none⟩ u0).setCell ⟨o, 1, none⟩ u1).setCell ⟨o, 2, none⟩ u2).setCell ⟨o, 3, none⟩ u3).setCell ⟨o, 4, none⟩ u4).setCell ⟨o, 5, none⟩ u5).setCell ⟨o, 6, none⟩ u6).setCell ⟨o, 7, none⟩ u7).setCell ⟨o, 8, none⟩ u8).setCell ⟨o, 9, none⟩ u9).setCell ⟨o, 10, none⟩ u10).setCell ⟨o, 11, none⟩ u11).heap[o]? = some (.cells #[u0, u1, u2, u3, u4, u5, u6, u7, u8, u9, u10, u11] t (0, 0)) :=
  blk_put (blk_put (blk_put (blk_put (blk_put (blk_put (blk_put (blk_put (blk_put (blk_put (blk_put (blk_put (h) 0 u0 (cs' := #[u0, a1, a2, a3, a4, a5, a6, a7, a8, a9, a10, a11]) rfl) 1 u1 (cs' := #[u0, u1, a2, a3, a4, a5, a6, a7, a8, a9, a10, a11]) rfl) 2 u2 (cs' := #[u0, u1, u2, a3, a4, a5, a6, a7, a8, a9, a10, a11]) rfl) 3 u3 (cs' := #[u0, u1, u2, u3, a4, a5, a6, a7, a8, a9, a10, a11]) rfl) 4 u4 (cs' := #[u0, u1, u2, u3, u4, a5, a6, a7, a8, a9, a10, a11]) rfl) 5 u5 (cs' := #[u0, u1, u2, u3, u4, u5, a6, a7, a8, a9, a10, a11]) rfl) 6 u6 (cs' := #[u0, u1, u2, u3, u4, u5, u6, a7, a8, a9, a10, a11]) rfl) 7 u7 (cs' := #[u0, u1, u2, u3, u4, u5, u6, u7, a8, a9, a10, a11]) rfl) 8 u8 (cs' := #[u0, u1, u2, u3, u4, u5, u6, u7, u8, a9, a10, a11]) rfl) 9 u9 (cs' := #[u0, u1, u2, u3, u4, u5, u6, u7, u8, u9, a10, a11]) rfl) 10 u10 (cs' := #[u0, u1, u2, u3, u4, u5, u6, u7, u8, u9, u10, a11]) rfl) 11 u11 (cs' := #[u0, u1, u2, u3, u4, u5, u6, u7, u8, u9, u10, u11]) rfl
theorem setP12 {w : World} {o : Nat} {t : TypeId} {a0 a1 a2 a3 a4 a5 a6 a7 a8 a9 a10 a11 : Value} (u0 u1 u2 u3 u4 u5 u6 u7 u8 u9 : Value) (h : w.heap[o]? = some (.cells #[a0, a1, a2, a3, a4, a5, a6, a7, a8, a9, a10, a11] t (0, 0))) :
    ((((((((((w.setCell ⟨o, 0, none⟩ u0).setCell ⟨o, 1, none⟩ u1).setCell ⟨o, 2, none⟩ u2).setCell ⟨o, 3, none⟩ u3).setCell ⟨o, 4, none⟩ u4).setCell ⟨o, 5, none⟩ u5).setCell ⟨o, 6, none⟩ u6).setCell ⟨o, 7, none⟩ u7).setCell ⟨o, 8, none⟩ u8).setCell ⟨o, 9, none⟩ u9).heap[o]? = some (.cells #[u0, u1, u2, u3, u4, u5, u6, u7, u8, u9, a10, a11] t (0, 0)) :=
  blk_put (blk_put (blk_put (blk_put (blk_put (blk_put (blk_put (blk_put (blk_put (blk_put (h) 0 u0 (cs' := #[u0, a1, a2, a3, a4, a5, a6, a7, a8, a9, a10, a11]) rfl) 1 u1 (cs' := #[u0, u1, a2, a3, a4, a5, a6, a7, a8, a9, a10, a11]) rfl) 2 u2 (cs' := #[u0, u1, u2, a3, a4, a5, a6, a7, a8, a9, a10, a11]) rfl) 3 u3 (cs' := #[u0, u1, u2, u3, a4, a5, a6, a7, a8, a9, a10, a11]) rfl) 4 u4 (cs' := #[u0, u1, u2, u3, u4, a5, a6, a7, a8, a9, a10, a11]) rfl) 5 u5 (cs' := #[u0, u1, u2, u3, u4, u5, a6, a7, a8, a9, a10, a11]) rfl) 6 u6 (cs' := #[u0, u1, u2, u3, u4, u5, u6, a7, a8, a9, a10, a11]) rfl) 7 u7 (cs' := #[u0, u1, u2, u3, u4, u5, u6, u7, a8, a9, a10, a11]) rfl) 8 u8 (cs' := #[u0, u1, u2, u3, u4, u5, u6, u7, u8, a9, a10, a11]) rfl) 9 u9 (cs' := #[u0, u1, u2, u3, u4, u5, u6, u7, u8, u9, a10, a11]) rfl
structure Tk where
  mem : Int
  cost : Int
  deriving DecidableEq
def kTk : Kd Tk := Kd.iso (Kd.pair (Kd.int .i64) (Kd.int .i64)) (fun x : Tk => (x.mem, x.cost))
theorem kTk_mkM (w : World) (base : Nat) (ok : Nat → Prop) (x : Tk) : kTk.M w base ok x [.int .i64 x.mem, .int .i64 x.cost] := ⟨[.int .i64 x.mem], [.int .i64 x.cost], rfl, rfl, rfl⟩
structure Opn where
  kind : Int
  a : Int
  b : Int
  c : Int
  d : Int
  deriving DecidableEq
def kOp : Kd Opn := Kd.iso (Kd.pair (Kd.int .i64) (Kd.pair (Kd.int .i64) (Kd.pair (Kd.int .i64) (Kd.pair (Kd.int .i64) (Kd.int .i64))))) (fun x : Opn => (x.kind, x.a, x.b, x.c, x.d))
theorem kOp_mkM (w : World) (base : Nat) (ok : Nat → Prop) (x : Opn) : kOp.M w base ok x [.int .i64 x.kind, .int .i64 x.a, .int .i64 x.b, .int .i64 x.c, .int .i64 x.d] :=
  ⟨[.int .i64 x.kind], _, rfl, rfl, ⟨[.int .i64 x.a], _, rfl, rfl, ⟨[.int .i64 x.b], _, rfl, rfl, ⟨[.int .i64 x.c], [.int .i64 x.d], rfl, rfl, rfl⟩⟩⟩⟩
theorem infoTk : (Tryd.prog.info? 51).map (fun i => (i.zero, i.size, i.bytes)) = some (some (.agg #[(.int .i64 0), (.int .i64 0)]), 2, 16) := by kernel_rfl
theorem infoOp : (Tryd.prog.info? 46).map (fun i => (i.zero, i.size, i.bytes)) = some (some (.agg #[(.int .i64 0), (.int .i64 0), (.int .i64 0), (.int .i64 0), (.int .i64 0)]), 5, 40) := by kernel_rfl
structure FileS where
  cfg : List Int
  tasks : List Tk
  ops : List Opn
inductive Rt where
  | ok (st : FileS)
  | bad (e : Int)
def configB : List UInt8 := [99, 111, 110, 102, 105, 103]
def taskB : List UInt8 := [116, 97, 115, 107]
def formsT : List Fm := [⟨strB [115, 117, 98, 109, 105, 116], 1, 3⟩, ⟨strB [99, 97, 110, 99, 101, 108], 2, 1⟩, ⟨strB [116, 105, 99, 107], 3, 0⟩, ⟨strB [100, 105, 115, 112, 97, 116, 99, 104], 4, 0⟩, ⟨strB [97, 110, 115, 119, 101, 114], 5, 2⟩, ⟨strB [113, 117, 101, 114, 121], 6, 1⟩]
def FormsIs (w : World) : Prop := 1 < w.heap.size ∧ Kd.C kFm w (some ⟨1, 0, none⟩) formsT.length formsT
theorem FormsIs.below {w W : World} (h : FormsIs w) (hb : Below w.heap.size w W) : FormsIs W := ⟨Nat.lt_of_lt_of_le h.1 hb.size, Kd.C_below h.2 hb⟩
def mkOp (k : Int) (vs : List Int) : Opn := ⟨k, vs.getD 0 0, vs.getD 1 0, vs.getD 2 0, vs.getD 3 0⟩
def finP (st : FileS) : List Tok → Rt
  | [] => .ok st
  | _ :: _ => .bad 2
def takesP (st : FileS) (first : Bool) (ts : List Tok) : Rt :=
  match wordP ts with
  | .bad e => .bad e
  | .ok s t1 =>
    if (first == (s.toList == configB)) = true then
      (if first = true then (match configP t1 with
        | .bad e => .bad e
        | .ok cfg t2 => finP { st with cfg := cfg } t2)
      else if s.toList = taskB then
        (if st.ops.length = 0 then (if st.tasks.length < 64 then (match numP t1 with
          | .bad e => .bad e
          | .ok m t2 => match numP t2 with
            | .bad e => .bad e
            | .ok c t3 => finP { st with tasks := st.tasks ++ [⟨m, c⟩] } t3) else .bad 4) else .bad 2)
      else match findF s formsT with
        | none => .bad 2
        | some x => if st.ops.length < 4096 then (match opP x.kind x.n.toNat t1 with
          | .bad e => .bad e
          | .ok vs t2 => finP { st with ops := st.ops ++ [mkOp x.kind vs] } t2) else .bad 4)
    else .bad 2
theorem numsF_len : ∀ (n k : Nat) (vs : List Int) (ts : List Tok) (us : List Int) (t : List Tok), numsF n k vs ts = .ok us t → us.length = vs.length
  | 0, _, _, _, _, _, h => by simp only [numsF, Rs.ok.injEq] at h; rw [h.1]
  | n + 1, k, vs, ts, us, t, h => by
    simp only [numsF] at h
    split at h
    · cases h
    · have := numsF_len n _ _ _ _ _ h
      simpa using this
theorem opP_len {k : Int} {n : Nat} {ts t : List Tok} {vs : List Int} (h : opP k n ts = .ok vs t) : vs.length = 4 := by
  unfold opP at h
  split at h
  · cases h
  · rename_i us t1 h1
    have := numsF_len _ _ _ _ _ _ h1
    split at h
    · split at h
      · cases h
      · split at h
        · cases h
        · split at h
          · split at h
            · cases h
            · simp only [Rs.ok.injEq] at h; rw [← h.1]; simpa using this
          · simp only [Rs.ok.injEq] at h; rw [← h.1]; simpa using this
    · simp only [Rs.ok.injEq] at h; rw [← h.1]; simpa using this
theorem findF_mem {s : ByteArray} {x : Fm} : ∀ {l : List Fm}, findF s l = some x → x ∈ l
  | [], h => by cases h
  | y :: l, h => by
    simp only [findF] at h
    split at h
    · cases h; exact List.mem_cons_self ..
    · exact List.mem_cons_of_mem _ (findF_mem h)
theorem forms_n {s : ByteArray} {x : Fm} (h : findF s formsT = some x) : ∃ n : Nat, x.n = n ∧ n ≤ 3 := by
  have hm := findF_mem h
  simp only [formsT, List.mem_cons, List.not_mem_nil, or_false] at hm
  rcases hm with rfl | rfl | rfl | rfl | rfl | rfl
  · exact ⟨3, rfl, by decide⟩
  · exact ⟨1, rfl, by decide⟩
  · exact ⟨0, rfl, by decide⟩
  · exact ⟨0, rfl, by decide⟩
  · exact ⟨2, rfl, by decide⟩
  · exact ⟨1, rfl, by decide⟩
structure ButF (w0 w : World) (F : Nat) : Prop where
  os : w.os = w0.os
  tape : w.tape = w0.tape
  output : w.output = w0.output
  size : w0.heap.size ≤ w.heap.size
  block : ∀ k, k < w0.heap.size → k ≠ F → w.heap[k]? = w0.heap[k]?
theorem ButF.of_below {w0 w : World} (h : Below w0.heap.size w0 w) (F : Nat) : ButF w0 w F := ⟨h.os, h.tape, h.output, h.size, fun k hk _ => h.block k hk⟩
theorem ButF.step {w0 w w' : World} {F : Nat} (h : ButF w0 w F) (hb : Below w.heap.size w w') : ButF w0 w' F :=
  ⟨hb.os.trans h.os, hb.tape.trans h.tape, hb.output.trans h.output, Nat.le_trans h.size hb.size, fun k hk hF => (hb.block k (Nat.lt_of_lt_of_le hk h.size)).trans (h.block k hk hF)⟩
theorem ButF.setF {w0 w : World} {F : Nat} (h : ButF w0 w F) (i : Nat) (v : Value) : ButF w0 (w.setCell ⟨F, i, none⟩ v) F :=
  ⟨h.os, h.tape, h.output, by simpa [World.setCell] using h.size, fun k hk hF => (Below.heap_setCell w ⟨F, i, none⟩ v k hF).trans (h.block k hk hF)⟩
theorem ButF.grown {w0 w w' : World} {F : Nat} (h : ButF w0 w F) {row : Option Nat} (hg : w.grownBy w' row) (hr : ∀ k, row = some k → w0.heap.size ≤ k) : ButF w0 w' F :=
  ⟨hg.os.trans h.os, hg.tape.trans h.tape, hg.output.trans h.output, Nat.le_trans h.size hg.size, fun k hk hF => (hg.block k (Nat.lt_of_lt_of_le hk h.size) (fun e => by have := hr k e.symm; omega)).trans (h.block k hk hF)⟩
structure KeepT (w w' : World) (g F : Nat) : Prop where
  size : w.heap.size ≤ w'.heap.size
  block : ∀ i cs q, i ≠ g → i ≠ F → q ≠ 51 → q ≠ 46 → w.heap[i]? = some (.cells cs q (0, 0)) → w'.heap[i]? = some (.cells cs q (0, 0))
theorem KeepT.refl (w : World) (g F : Nat) : KeepT w w g F := ⟨Nat.le_refl _, fun _ _ _ _ _ _ _ h => h⟩
theorem KeepT.of_keep {w w' : World} {g : Nat} (h : KeepBut w w' g none) (F : Nat) : KeepT w w' g F := ⟨h.1, fun i cs q h1 _ _ _ hb => keep_blk h hb h1⟩
theorem KeepT.of_below {w w' : World} (h : Below w.heap.size w w') (g F : Nat) : KeepT w w' g F := ⟨h.size, fun i cs q _ _ _ _ hb => blk_below hb h⟩
theorem KeepT.trans {w w1 w2 : World} {g F : Nat} (h : KeepT w w1 g F) (k : KeepT w1 w2 g F) : KeepT w w2 g F := ⟨Nat.le_trans h.size k.size, fun i cs q h1 h2 h3 h4 hb => k.block i cs q h1 h2 h3 h4 (h.block i cs q h1 h2 h3 h4 hb)⟩
theorem KeepT.setF {w w1 : World} {g F : Nat} (h : KeepT w w1 g F) (i : Nat) (v : Value) : KeepT w (w1.setCell ⟨F, i, none⟩ v) g F :=
  ⟨by simpa [World.setCell] using h.size, fun k cs q h1 h2 h3 h4 hb => blk_far (h.block k cs q h1 h2 h3 h4 hb) h2 v⟩
theorem KeepT.grown {w w1 : World} {g F e : Nat} {v : Value} {n sz base : Nat} {cs : List Value} (hg : w.grownBy w1 v.ownBlock) (ho : w.ownsRow base e sz v n cs) (he : e = 51 ∨ e = 46) : KeepT w w1 g F :=
  ⟨hg.size, fun i xs q h1 h2 h3 h4 hb => (hg.block i (blk_lt hb) (fun e1 => by
    obtain ⟨cells, hc⟩ := own_typed ho i e1.symm
    rw [hb] at hc
    simp only [Option.some.injEq, Obj.cells.injEq] at hc
    obtain ⟨_, hq, _⟩ := hc
    rcases he with he | he
    · exact h3 (hq.trans he)
    · exact h4 (hq.trans he))).trans hb⟩
structure FileAt (w0 w : World) (F : Nat) (st : FileS) : Prop where
  but : ButF w0 w F
  len : st.cfg.length = 10
  mem : ∃ vT vO, w.heap[F]? = some (.cells (st.cfg.map (Value.int .i64) ++ [vT, vO]).toArray 29 (0, 0)) ∧ kTk.R 51 w w0.heap.size (fun _ => True) vT st.tasks ∧ kOp.R 46 w w0.heap.size (fun _ => True) vO st.ops
def IsFile (w : World) (F : Nat) : Prop := ∃ cs : List Value, cs.length = 12 ∧ w.heap[F]? = some (.cells cs.toArray 29 (0, 0))
theorem FileAt.is {w0 w : World} {F : Nat} {st : FileS} (h : FileAt w0 w F st) : IsFile w F := by
  obtain ⟨vT, vO, hb, _⟩ := h.mem
  exact ⟨_, by simp [h.len], hb⟩
theorem FileAt.ne {w0 w : World} {F g : Nat} {st : FileS} (h : FileAt w0 w F st) (hg : ∃ cs, w.heap[g]? = some (.cells cs 97 (0, 0))) : F ≠ g := by
  obtain ⟨vT, vO, hb, _⟩ := h.mem
  obtain ⟨cs, hc⟩ := hg
  exact blk_ne hb hc (by decide)
theorem FileAt.keep {w0 w w' : World} {F g : Nat} {st : FileS} (h : FileAt w0 w F st) (hg : ∃ cs, w.heap[g]? = some (.cells cs 97 (0, 0))) (hk : KeepBut w w' g none) (hb : ButF w0 w' F) (hne : F ≠ g) : FileAt w0 w' F st := by
  obtain ⟨vT, vO, hc, h1, h2⟩ := h.mem
  obtain ⟨cs, hcs⟩ := hg
  exact ⟨hb, h.len, vT, vO, keep_blk hk hc hne, Kd.R_mono (Kd.R_keep (Kd.R_types h1 hcs (by decide)) hk (fun _ h => h.2)) (fun _ h => h.1), Kd.R_mono (Kd.R_keep (Kd.R_types h2 hcs (by decide)) hk (fun _ h => h.2)) (fun _ h => h.1)⟩
theorem FileAt.below {w0 w w' : World} {F : Nat} {st : FileS} (h : FileAt w0 w F st) (hb : Below w.heap.size w w') : FileAt w0 w' F st := by
  obtain ⟨vT, vO, hc, h1, h2⟩ := h.mem
  exact ⟨h.but.step hb, h.len, vT, vO, blk_below hc hb, Kd.R_below h1 hb, Kd.R_below h2 hb⟩
theorem RowAt.typed {w0 w : World} {g : Nat} {line : Int} {ts : List Tok} (h : RowAt w0 w g line ts) : ∃ cs, w.heap[g]? = some (.cells cs 97 (0, 0)) := by
  obtain ⟨_, _, _, A, c, _, _, h6⟩ := h
  exact ⟨_, h6⟩
theorem ButF.set10 {w0 w : World} {F : Nat} (h : ButF w0 w F) (u0 u1 u2 u3 u4 u5 u6 u7 u8 u9 : Value) : ButF w0 ((((((((((w.setCell ⟨F, 0, none⟩ u0).setCell ⟨F, 1, none⟩ u1).setCell ⟨F, 2, none⟩ u2).setCell ⟨F, 3, none⟩ u3).setCell ⟨F, 4, none⟩ u4).setCell ⟨F, 5, none⟩ u5).setCell ⟨F, 6, none⟩ u6).setCell ⟨F, 7, none⟩ u7).setCell ⟨F, 8, none⟩ u8).setCell ⟨F, 9, none⟩ u9) F :=
  ButF.setF (ButF.setF (ButF.setF (ButF.setF (ButF.setF (ButF.setF (ButF.setF (ButF.setF (ButF.setF (ButF.setF (h) _ _) _ _) _ _) _ _) _ _) _ _) _ _) _ _) _ _) _ _
theorem KeepT.set10 {w w1 : World} {g F : Nat} (h : KeepT w w1 g F) (u0 u1 u2 u3 u4 u5 u6 u7 u8 u9 : Value) : KeepT w ((((((((((w1.setCell ⟨F, 0, none⟩ u0).setCell ⟨F, 1, none⟩ u1).setCell ⟨F, 2, none⟩ u2).setCell ⟨F, 3, none⟩ u3).setCell ⟨F, 4, none⟩ u4).setCell ⟨F, 5, none⟩ u5).setCell ⟨F, 6, none⟩ u6).setCell ⟨F, 7, none⟩ u7).setCell ⟨F, 8, none⟩ u8).setCell ⟨F, 9, none⟩ u9) g F :=
  KeepT.setF (KeepT.setF (KeepT.setF (KeepT.setF (KeepT.setF (KeepT.setF (KeepT.setF (KeepT.setF (KeepT.setF (KeepT.setF (h) _ _) _ _) _ _) _ _) _ _) _ _) _ _) _ _) _ _) _ _
theorem R.set10 {α : Type} {d : Kd α} {e base : Nat} {w : World} {v : Value} {xs : List α} {F : Nat} (h : d.R e w base (fun k => True ∧ k ≠ F) v xs) (u0 u1 u2 u3 u4 u5 u6 u7 u8 u9 : Value) : d.R e ((((((((((w.setCell ⟨F, 0, none⟩ u0).setCell ⟨F, 1, none⟩ u1).setCell ⟨F, 2, none⟩ u2).setCell ⟨F, 3, none⟩ u3).setCell ⟨F, 4, none⟩ u4).setCell ⟨F, 5, none⟩ u5).setCell ⟨F, 6, none⟩ u6).setCell ⟨F, 7, none⟩ u7).setCell ⟨F, 8, none⟩ u8).setCell ⟨F, 9, none⟩ u9) base (fun k => True ∧ k ≠ F) v xs :=
  Kd.R_far (Kd.R_far (Kd.R_far (Kd.R_far (Kd.R_far (Kd.R_far (Kd.R_far (Kd.R_far (Kd.R_far (Kd.R_far (h) (fun k hk => hk.2) _) (fun k hk => hk.2) _) (fun k hk => hk.2) _) (fun k hk => hk.2) _) (fun k hk => hk.2) _) (fun k hk => hk.2) _) (fun k hk => hk.2) _) (fun k hk => hk.2) _) (fun k hk => hk.2) _) (fun k hk => hk.2) _
structure FileV (w0 w : World) (F : Nat) (cfg : List Int) (vT : Value) (tasks : List Tk) (vO : Value) (ops : List Opn) : Prop where
  but : ButF w0 w F
  len : cfg.length = 10
  box : w.heap[F]? = some (.cells (cfg.map (Value.int .i64) ++ [vT, vO]).toArray 29 (0, 0))
  rT : kTk.R 51 w w0.heap.size (fun _ => True) vT tasks
  rO : kOp.R 46 w w0.heap.size (fun _ => True) vO ops
section filev
variable {w0 w w' : World} {F g : Nat} {cfg : List Int} {vT vO : Value} {tasks : List Tk} {ops : List Opn}
theorem FileV.at (h : FileV w0 w F cfg vT tasks vO ops) : FileAt w0 w F ⟨cfg, tasks, ops⟩ := ⟨h.but, h.len, vT, vO, h.box, h.rT, h.rO⟩
theorem FileAt.vals {st : FileS} (h : FileAt w0 w F st) : ∃ vT vO, FileV w0 w F st.cfg vT st.tasks vO st.ops := by
  obtain ⟨vT, vO, h1, h2, h3⟩ := h.mem
  exact ⟨vT, vO, h.but, h.len, h1, h2, h3⟩
theorem FileV.keep (h : FileV w0 w F cfg vT tasks vO ops) (hg : ∃ cs, w.heap[g]? = some (.cells cs 97 (0, 0))) (hk : KeepBut w w' g none) (hb : ButF w0 w' F) (hne : F ≠ g) : FileV w0 w' F cfg vT tasks vO ops := by
  obtain ⟨cs, hcs⟩ := hg
  exact ⟨hb, h.len, keep_blk hk h.box hne, Kd.R_mono (Kd.R_keep (Kd.R_types h.rT hcs (by decide)) hk (fun _ h => h.2)) (fun _ h => h.1), Kd.R_mono (Kd.R_keep (Kd.R_types h.rO hcs (by decide)) hk (fun _ h => h.2)) (fun _ h => h.1)⟩
theorem FileV.below (h : FileV w0 w F cfg vT tasks vO ops) (hb : Below w.heap.size w w') : FileV w0 w' F cfg vT tasks vO ops :=
  ⟨h.but.step hb, h.len, blk_below h.box hb, Kd.R_below h.rT hb, Kd.R_below h.rO hb⟩
theorem R_ownAt {α : Type} {d : Kd α} {e base : Nat} {ok : Nat → Prop} {v : Value} {xs : List α} (h : d.R e w base ok v xs) (k : Nat) (hk : v.ownBlock = some k) : base ≤ k ∧ ∃ cells, w.heap[k]? = some (.cells cells e (0, 0)) := by
  obtain ⟨h1, h2, h3, q, hq, h4⟩ := (Kd.R_bound h).1 k hk
  obtain ⟨inner, ho⟩ := Kd.R_own h
  exact ⟨h2, own_typed ho k hk⟩
theorem FileV.cells (h : FileV w0 w F cfg vT tasks vO ops) : w.cell? ⟨F, 10, none⟩ = some vT ∧ w.cell? ⟨F, 11, none⟩ = some vO ∧ w.frozen? ⟨F, 10, none⟩ = false ∧ w.frozen? ⟨F, 11, none⟩ = false := by
  refine ⟨(blk_cell h.box 10).trans ?_, (blk_cell h.box 11).trans ?_, blk_frozen h.box 10, blk_frozen h.box 11⟩ <;> simp [List.getElem?_append, h.len]
theorem FileV.apart (h : FileV w0 w F cfg vT tasks vO ops) : some F ≠ vT.ownBlock ∧ some F ≠ vO.ownBlock := by
  refine ⟨fun e => ?_, fun e => ?_⟩
  · obtain ⟨_, cells, hc⟩ := R_ownAt h.rT F e.symm
    exact blk_ne h.box hc (by decide) rfl
  · obtain ⟨_, cells, hc⟩ := R_ownAt h.rO F e.symm
    exact blk_ne h.box hc (by decide) rfl
theorem FileV.grownT {v1 : Value} {tasks1 : List Tk} (h : FileV w0 w F cfg vT tasks vO ops) (hg : w.grownBy w' vT.ownBlock) (hR : kTk.R 51 w' w0.heap.size (fun _ => True) v1 tasks1) : FileV w0 (w'.setCell ⟨F, 10, none⟩ v1) F cfg v1 tasks1 vO ops ∧ w'.heap[F]? = some (.cells (cfg.map (Value.int .i64) ++ [vT, vO]).toArray 29 (0, 0)) := by
  have hbx := blk_grown h.box hg h.apart.1
  refine ⟨⟨(h.but.grown hg (fun k hk => (R_ownAt h.rT k hk).1)).setF _ _, h.len, ?_, ?_, ?_⟩, hbx⟩
  · exact blk_put hbx 10 _ (by simp [List.set_append, h.len])
  · exact Kd.R_mono (Kd.R_far (Kd.R_types hR hbx (by decide)) (fun _ h => h.2) _) (fun _ h => h.1)
  · have h1 : kOp.R 46 w' w0.heap.size (fun _ => True) vO ops := by
      cases hv : vT.ownBlock with
      | none => rw [hv] at hg; exact Kd.R_grown h.rO hg (fun _ _ e => by cases e)
      | some b =>
        rw [hv] at hg
        obtain ⟨_, cells, hc⟩ := R_ownAt h.rT b hv
        exact Kd.R_mono (Kd.R_grown (Kd.R_types h.rO hc (by decide)) hg (fun k hk e => hk.2 (Option.some.inj e))) (fun _ h => h.1)
    exact Kd.R_mono (Kd.R_far (Kd.R_types h1 hbx (by decide)) (fun _ h => h.2) _) (fun _ h => h.1)
theorem FileV.grownO {v1 : Value} {ops1 : List Opn} (h : FileV w0 w F cfg vT tasks vO ops) (hg : w.grownBy w' vO.ownBlock) (hR : kOp.R 46 w' w0.heap.size (fun _ => True) v1 ops1) : FileV w0 (w'.setCell ⟨F, 11, none⟩ v1) F cfg vT tasks v1 ops1 ∧ w'.heap[F]? = some (.cells (cfg.map (Value.int .i64) ++ [vT, vO]).toArray 29 (0, 0)) := by
  have hbx := blk_grown h.box hg h.apart.2
  refine ⟨⟨(h.but.grown hg (fun k hk => (R_ownAt h.rO k hk).1)).setF _ _, h.len, ?_, ?_, ?_⟩, hbx⟩
  · exact blk_put hbx 11 _ (by simp [List.set_append, h.len])
  · have h1 : kTk.R 51 w' w0.heap.size (fun _ => True) vT tasks := by
      cases hv : vO.ownBlock with
      | none => rw [hv] at hg; exact Kd.R_grown h.rT hg (fun _ _ e => by cases e)
      | some b =>
        rw [hv] at hg
        obtain ⟨_, cells, hc⟩ := R_ownAt h.rO b hv
        exact Kd.R_mono (Kd.R_grown (Kd.R_types h.rT hc (by decide)) hg (fun k hk e => hk.2 (Option.some.inj e))) (fun _ h => h.1)
    exact Kd.R_mono (Kd.R_far (Kd.R_types h1 hbx (by decide)) (fun _ h => h.2) _) (fun _ h => h.1)
  · exact Kd.R_mono (Kd.R_far (Kd.R_types hR hbx (by decide)) (fun _ h => h.2) _) (fun _ h => h.1)
theorem FileV.keepT (h : FileV w0 w F cfg vT tasks vO ops) (hg : w.grownBy w' vT.ownBlock) (g : Nat) : KeepT w w' g F := by
  obtain ⟨inner, ho⟩ := Kd.R_own h.rT
  exact KeepT.grown hg ho (.inl rfl)
theorem FileV.keepO (h : FileV w0 w F cfg vT tasks vO ops) (hg : w.grownBy w' vO.ownBlock) (g : Nat) : KeepT w w' g F := by
  obtain ⟨inner, ho⟩ := Kd.R_own h.rO
  exact KeepT.grown hg ho (.inr rfl)
end filev
def TakesPost (w0 w : World) (g : Nat) (line : Int) (F : Nat) (r : Rt) (x : Ending) (w' : World) : Prop :=
  match r with
  | .ok st' => x = .returned (.tuple #[]) ∧ FileAt w0 w' F st' ∧ KeepT w w' g F
  | .bad e => x = .panicked (wrongC line e) ∧ ButF w0 w' F ∧ IsFile w' F
theorem TakesPost.bad' {w0 w w' : World} {g : Nat} {line e : Int} {F : Nat} {r : Rt} (h : r = .bad e) (h1 : ButF w0 w' F) (h2 : IsFile w' F) : TakesPost w0 w g line F r (.panicked (wrongC line e)) w' := by
  subst h; exact ⟨rfl, h1, h2⟩
theorem bad_at {w0 w w' : World} {F : Nat} {st : FileS} (hF : F < w0.heap.size) (hW : w0.heap[F]? = w.heap[F]?) (h : FileAt w0 w F st) (hb : Below w0.heap.size w0 w') : ButF w0 w' F ∧ IsFile w' F := by
  refine ⟨ButF.of_below hb F, ?_⟩
  obtain ⟨cs, h1, h2⟩ := h.is
  exact ⟨cs, h1, (hb.block F hF).trans (hW.trans h2)⟩
theorem TakesPost.row {w0 w w1 w' : World} {g : Nat} {line e : Int} {F : Nat} {r : Rt} {st : FileS} (h : r = .bad e) (hF : F < w0.heap.size) (hW : w0.heap[F]? = w1.heap[F]?) (hf : FileAt w0 w1 F st) (hb : Below w0.heap.size w0 w') : TakesPost w0 w g line F r (.panicked (wrongC line e)) w' :=
  TakesPost.bad' h (bad_at hF hW hf hb).1 (bad_at hF hW hf hb).2
theorem TakesPost.must {w0 w w' : World} {g : Nat} {line e : Int} {F : Nat} {r : Rt} {st : FileS} (h : r = .bad e) (hf : FileAt w0 w' F st) : TakesPost w0 w g line F r (.panicked (wrongC line e)) w' :=
  TakesPost.bad' h hf.but hf.is
theorem TakesPost.ok {w0 w w' : World} {g : Nat} {line : Int} {F : Nat} {r : Rt} {st : FileS} (h : r = .ok st) (h1 : FileAt w0 w' F st) (h2 : KeepT w w' g F) : TakesPost w0 w g line F r (.returned (.tuple #[])) w' := by
  subst h; exact ⟨rfl, h1, h2⟩
section spec
variable {st : FileS} {first : Bool} {ts t1 t2 t3 : List Tok} {s : ByteArray} {e : Int}
theorem tk_bad0 (h : wordP ts = .bad e) : takesP st first ts = .bad e := by unfold takesP; rw [h]
theorem tk_bad1 (h : wordP ts = .ok s t1) (h1 : (first == (s.toList == configB)) = false) : takesP st first ts = .bad 2 := by unfold takesP; rw [h]; simp only [h1, Bool.false_eq_true, if_false]
theorem tk_cfgb (h : wordP ts = .ok s t1) (h1 : (true == (s.toList == configB)) = true) (h2 : configP t1 = .bad e) : takesP st true ts = .bad e := by unfold takesP; rw [h]; simp only [h1, if_true, h2]
theorem tk_cfg {cfg : List Int} (h : wordP ts = .ok s t1) (h1 : (true == (s.toList == configB)) = true) (h2 : configP t1 = .ok cfg t2) : takesP st true ts = finP { st with cfg := cfg } t2 := by unfold takesP; rw [h]; simp only [h1, if_true, h2]
theorem tk_task0 (h : wordP ts = .ok s t1) (h1 : (false == (s.toList == configB)) = true) (h2 : s.toList = taskB) : takesP st false ts = (if st.ops.length = 0 then (if st.tasks.length < 64 then (match numP t1 with
          | .bad e => .bad e
          | .ok m t2 => match numP t2 with
            | .bad e => .bad e
            | .ok c t3 => finP { st with tasks := st.tasks ++ [⟨m, c⟩] } t3) else .bad 4) else .bad 2) := by unfold takesP; rw [h]; simp only []; rw [if_pos h1, if_neg (by decide), if_pos h2]
theorem tk_op0 (h : wordP ts = .ok s t1) (h1 : (false == (s.toList == configB)) = true) (h2 : ¬ s.toList = taskB) : takesP st false ts = (match findF s formsT with
        | none => .bad 2
        | some x => if st.ops.length < 4096 then (match opP x.kind x.n.toNat t1 with
          | .bad e => .bad e
          | .ok vs t2 => finP { st with ops := st.ops ++ [mkOp x.kind vs] } t2) else .bad 4) := by unfold takesP; rw [h]; simp only []; rw [if_pos h1, if_neg (by decide), if_neg h2]
end spec
theorem fin_bad {st : FileS} {t : List Tok} (h : ¬ t.length = 0) : finP st t = .bad 2 := by
  cases t with
  | nil => exact absurd rfl h
  | cons a b => rfl
theorem fin_ok {st : FileS} {t : List Tok} (h : t.length = 0) : finP st t = .ok st := by
  cases t with
  | nil => rfl
  | cons a b => cases h
end Go.Proofs.YtegbfimfpkendaaDoor.PaG
