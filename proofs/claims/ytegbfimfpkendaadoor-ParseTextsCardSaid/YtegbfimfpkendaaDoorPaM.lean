/- parse's Parse: its end, with and without a panic. No condition. -/
import Derived.Test.YtegbfimfpkendaaDoorPaL
namespace Go.Proofs.YtegbfimfpkendaaDoor.PaM
open Go.RowKit Go.Proofs.YtegbfimfpkendaaDoorW.PrintWords Go.Proofs.YtegbfimfpkendaaDoorW.PrintLast Go.Proofs.YtegbfimfpkendaaDoorW.PrintMore LexS LexB PaA LexBox PaC PaD PaB PaE PaF PaG PaH PaJ PaK PaL
set_option linter.unusedVariables false
set_option linter.unusedSimpArgs false
set_option maxRecDepth 100000 in
theorem catch_idle (F L E : Nat) (w : World) :
    CallsD Tryd.prog 19 #[.pointer (some ⟨F, 0, none⟩), .pointer (some ⟨L, 0, none⟩), .pointer (some ⟨E, 0, none⟩)] .returning w fun e u' w' => e = .returned (.tuple #[]) ∧ u' = .returning ∧ w' = w := by
  refine callsD_of_wpS Tryd.func19 rfl fun c₀ cs hu => ?_
  apply wpS_seq
  apply wpS_region
  change wpOpsS _ _ _ [0, 1] _ _ _
  simp [wpOpsS, go_sem, recoverD, hu, Tryd.ntmps19, Exit.thenS]
  simp only [show Array.replicate 19 undef = #[undef, undef, undef, undef, undef, undef, undef, undef, undef, undef, undef, undef, undef, undef, undef, undef, undef, undef, undef] from rfl, List.setIfInBounds_toArray, List.set_cons_zero, List.set_cons_succ, List.append_toArray, List.cons_append, List.nil_append]
  refine wpS_of_wp (wp_mono (Q := fun e a' w' => e = .normal ∧ a'.defers = [] ∧ w' = w) ?_ ?_)
  rotate_left
  · rintro e a' w' ⟨rfl, hd, rfl⟩
    refine ⟨hd, .returning, ?_, .tuple #[], results_none rfl _ _ _, rfl, rfl, rfl⟩
    cases c₀
    simp_all
  go_wp2
def ParsePost (w : World) (r : FileS × Int × Int) (e : Ending) (w' : World) : Prop :=
  ∃ vT vO, e = .returned (.tuple #[.agg (r.1.cfg.map (Value.int .i64) ++ [vT, vO]).toArray, .int .i64 r.2.1, .int .i64 r.2.2]) ∧ kTk.R 51 w' w.heap.size (fun _ => True) vT r.1.tasks ∧ kOp.R 46 w' w.heap.size (fun _ => True) vO r.1.ops ∧ Below w.heap.size w w' ∧ r.1.cfg.length = 10
theorem res10 (t : Array Value) (F L E : Nat) (w : World) (cs : List Value) (line err : Int) (h2 : t[2]? = some (.pointer (some ⟨F, 0, none⟩))) (h3 : t[3]? = some (.pointer (some ⟨L, 0, none⟩))) (h4 : t[4]? = some (.pointer (some ⟨E, 0, none⟩))) (hF : w.heap[F]? = some (.cells cs.toArray 29 (0, 0))) (hn : cs.length = 12) (hL : w.heap[L]? = some (.cells #[.int .i64 line] 3 (0, 0))) (hE : w.heap[E]? = some (.cells #[.int .i64 err] 30 (0, 0))) :
    (results Tryd.f10 t).run Tryd.prog w = .ok (.tuple #[.agg cs.toArray, .int .i64 line, .int .i64 err]) w := by
  obtain ⟨a, b, c, d, e, f, g, i, j, k, l, m, rfl⟩ := twelve hn
  obtain ⟨c0, c1, c2, c3, c4, c5, c6, c7, c8, c9, c10, c11, -⟩ := cells12 hF
  have l0 : w.cell? ⟨L, 0, none⟩ = some (.int .i64 line) := (blk_cell hL 0).trans rfl
  have e0 : w.cell? ⟨E, 0, none⟩ = some (.int .i64 err) := (blk_cell hE 0).trans rfl
  simp [results, Tryd.results10, go_sem, h2, h3, h4, c0, c1, c2, c3, c4, c5, c6, c7, c8, c9, c10, c11, l0, e0]
theorem Caught.post {w wr w' : World} {F L E : Nat} {line err : Int} (hF : w.heap.size ≤ F) (hL : w.heap.size ≤ L) (hE : w.heap.size ≤ E) (hb : Below w.heap.size w wr) (h : Caught wr F L E line err w') : ParsePost w (zeroF, line, err) (.returned (.tuple #[.agg ([.int .i64 0, .int .i64 0, .int .i64 0, .int .i64 0, .int .i64 0, .int .i64 0, .int .i64 0, .int .i64 0, .int .i64 0, .int .i64 0, .slice none 0 0, .slice none 0 0] : List Value).toArray, .int .i64 line, .int .i64 err])) w' :=
  ⟨.slice none 0 0, .slice none 0 0, rfl, Kd.R_nil _ _ _ _ _, Kd.R_nil _ _ _ _ _, ⟨h.os.trans hb.os, h.tape.trans hb.tape, h.output.trans hb.output, Nat.le_trans hb.size h.size, fun k hk => (h.block k (Nat.lt_of_lt_of_le hk hb.size) (by omega) (by omega) (by omega)).trans (hb.block k hk)⟩, rfl⟩
def laidD (F L E : Nat) : Deferred := { target := Target.fn (Fn.func 19) #[.pointer (some ⟨F, 0, none⟩), .pointer (some ⟨L, 0, none⟩), .pointer (some ⟨E, 0, none⟩)], args := #[] }
theorem panics (t : Array Value) (F L E : Nat) (w wr : World) (line err : Int) (l0 e0 : Int) (h2 : t[2]? = some (.pointer (some ⟨F, 0, none⟩))) (h3 : t[3]? = some (.pointer (some ⟨L, 0, none⟩))) (h4 : t[4]? = some (.pointer (some ⟨E, 0, none⟩))) (hF : IsFile wr F) (hL : wr.heap[L]? = some (.cells #[.int .i64 l0] 3 (0, 0))) (hE : wr.heap[E]? = some (.cells #[.int .i64 e0] 30 (0, 0))) (gF : w.heap.size ≤ F) (gL : w.heap.size ≤ L) (gE : w.heap.size ≤ E) (hb : Below w.heap.size w wr) :
    bodyPostD Tryd.prog Tryd.f10 (ParsePost w (zeroF, line, err)) (Exit.panic (wrongC line err)) { tmps := t, defers := [laidD F L E] } wr := by
  obtain ⟨zs, hz, hF⟩ := hF
  refine leaves_cons (f := 19) (args := #[.pointer (some ⟨F, 0, none⟩), .pointer (some ⟨L, 0, none⟩), .pointer (some ⟨E, 0, none⟩)]) (by simp) (by simp [go_sem]) ?_
  refine (catch_panicking F L E line err zs l0 e0 wr hF hz hL hE).mono ?_
  rintro e u' w'' ⟨rfl, rfl, hc⟩
  show Leaves _ _ _ _ [] (settle _) _
  exact ⟨_, res10 t F L E w'' _ line err h2 h3 h4 hc.file rfl hc.line hc.err, Caught.post gF gL gE hb hc⟩
theorem door (t : Array Value) (F L E : Nat) (w wr : World) (r : FileS × Int × Int) (cs : List Value) (h2 : t[2]? = some (.pointer (some ⟨F, 0, none⟩))) (h3 : t[3]? = some (.pointer (some ⟨L, 0, none⟩))) (h4 : t[4]? = some (.pointer (some ⟨E, 0, none⟩))) (hF : wr.heap[F]? = some (.cells cs.toArray 29 (0, 0))) (hn : cs.length = 12) (hL : wr.heap[L]? = some (.cells #[.int .i64 r.2.1] 3 (0, 0))) (hE : wr.heap[E]? = some (.cells #[.int .i64 r.2.2] 30 (0, 0)))
    (hp : ParsePost w r (.returned (.tuple #[.agg cs.toArray, .int .i64 r.2.1, .int .i64 r.2.2])) wr) :
    bodyPostD Tryd.prog Tryd.f10 (ParsePost w r) Exit.ret { tmps := t, defers := [laidD F L E] } wr := by
  refine leaves_cons (f := 19) (args := #[.pointer (some ⟨F, 0, none⟩), .pointer (some ⟨L, 0, none⟩), .pointer (some ⟨E, 0, none⟩)]) (by simp) (by simp [go_sem]) ?_
  refine (catch_idle F L E wr).mono ?_
  rintro e u' w'' ⟨rfl, rfl, rfl⟩
  show Leaves _ _ _ _ [] (settle _) _
  exact ⟨_, res10 t F L E _ cs _ _ h2 h3 h4 hF hn hL hE, hp⟩
end Go.Proofs.YtegbfimfpkendaaDoor.PaM
