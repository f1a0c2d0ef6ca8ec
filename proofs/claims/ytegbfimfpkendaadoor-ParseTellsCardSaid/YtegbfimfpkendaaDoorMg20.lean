/- What Parse computes, and what stays while it runs. No condition. parse's Parse: its end, with and without a panic. No condition. -/
import Derived.Test.YtegbfimfpkendaaDoorPaK
import Derived.Test.YtegbfimfpkendaaDoorPaI
import Derived.Test.YtegbfimfpkendaaDoorMg19
import Derived.Test.YtegbfimfpkendaaDoorBb
namespace Go.Proofs.YtegbfimfpkendaaDoor.PaL
open Go.RowKit Go.Proofs.YtegbfimfpkendaaDoorW.PrintWords Go.Proofs.YtegbfimfpkendaaDoorW.PrintLast Go.Proofs.YtegbfimfpkendaaDoorW.PrintMore LexS LexB PaA LexBox PaC PaD PaB PaE PaF PaG PaH PaJ PaK
set_option linter.unusedVariables false
set_option linter.unusedSimpArgs false
def zeroF : FileS := ⟨[0, 0, 0, 0, 0, 0, 0, 0, 0, 0], [], []⟩
def runP : List (Int × List Tok) → Bool → FileS → FileS × Int × Int
  | [], _, st => (st, 0, 0)
  | (line, ts) :: rs, first, st => match takesP st first ts with
    | .bad e => (zeroF, line, e)
    | .ok st' => runP rs false st'
def parseP (bs : List Int) : FileS × Int × Int :=
  if (lexF bs).2.2 = 0 then (if (rowsF (lexF bs).1).length = 0 then (zeroF, 0, 2) else runP (rowsF (lexF bs).1) true zeroF) else (zeroF, (lexF bs).2.1, (lexF bs).2.2)
theorem endOf_text (line : Int) (begun : Bool) (acc : List Tok) (N : Nat) (h : ∀ t ∈ acc, t.text.length ≤ N) : ∀ t ∈ endOf line begun acc, t.text.length ≤ N := by
  unfold endOf
  split
  · intro t ht
    rcases List.mem_append.1 ht with ht | ht
    · exact h t ht
    · simp at ht; subst ht; simp
  · exact h
theorem takeW_len (p : Int → Bool) (l : List Int) : (l.takeWhile p).length ≤ l.length := (List.takeWhile_sublist _).length_le
theorem dropW_len (p : Int → Bool) (l : List Int) : (l.dropWhile p).length ≤ l.length := (List.dropWhile_sublist _).length_le
theorem lexB_text (N : Nat) : ∀ (n : Nat) (l : List Int) (line : Int) (begun : Bool) (acc : List Tok), (∀ t ∈ acc, t.text.length ≤ N) → l.length ≤ N → ∀ t ∈ (lexB n l line begun acc).1, t.text.length ≤ N
  | 0, _, _, _, _, _, _ => by simp [lexB]
  | n + 1, [], line, begun, acc, h, _ => by simpa [lexB] using endOf_text line begun acc N h
  | n + 1, c :: cs, line, begun, acc, h, hl => by
    have hs : ∀ (k : Int) (p : Int → Bool), ∀ t ∈ acc ++ [⟨k, (c :: cs).takeWhile p, line⟩], t.text.length ≤ N := fun k p t ht => by
      rcases List.mem_append.1 ht with ht | ht
      · exact h t ht
      · simp only [List.mem_cons, List.not_mem_nil, or_false] at ht
        subst ht
        exact Nat.le_trans (takeW_len p (c :: cs)) hl
    have hd : ∀ p : Int → Bool, ((c :: cs).dropWhile p).length ≤ N := fun p => Nat.le_trans (dropW_len p _) hl
    rw [lexB]
    split
    · exact lexB_text N n cs line begun acc h (by simp at hl; omega)
    · split
      · split
        · simp
        · exact lexB_text N n _ line true _ (hs 1 _) (hd _)
      · split
        · split
          · simp
          · exact lexB_text N n _ line true _ (hs 2 _) (hd _)
        · split
          · have h2 := hd notNl
            cases hx : (c :: cs).dropWhile notNl with
            | nil => exact endOf_text line begun acc N h
            | cons d r =>
              rw [hx] at h2
              exact lexB_text N n r (line + 1) false _ (endOf_text line begun acc N h) (by simp at h2; omega)
          · simp
theorem str_size (l : List Int) : (strOfNums l).size = l.length := by simp [strOfNums, ByteArray.size]
theorem lexF_ok (bs : List Int) : TokOk (lexF bs).1 := by
  unfold lexF
  split
  · intro t ht; cases ht
  · intro t ht
    have := lexB_text 65536 (bs.length + 1) bs 1 false [] (by simp) (by omega) t ht
    rw [str_size]
    omega
def cut (n : Nat) (w : World) : World := { w with heap := w.heap.extract 0 n }
theorem cut_size (n : Nat) (w : World) (h : n ≤ w.heap.size) : (cut n w).heap.size = n := by simp [cut]; omega
theorem cut_get (n : Nat) (w : World) (k : Nat) (hk : k < n) : (cut n w).heap[k]? = w.heap[k]? := by
  simp [cut, Array.getElem?_extract]
  omega
theorem cut_below (n : Nat) (w : World) (h : n ≤ w.heap.size) : Below (cut n w).heap.size (cut n w) w :=
  ⟨rfl, rfl, rfl, by rw [cut_size n w h]; exact h, fun k hk => by rw [cut_size n w h] at hk; exact (cut_get n w k hk).symm⟩
theorem tok_block {w : World} {A : Option Addr} {ts : List Tok} {F : Nat} {cs : Array Value} (h : kTok.C w A ts.length ts) (hF : w.heap[F]? = some (.cells cs 29 (0, 0))) (hc : ∀ (i : Nat) (s : ByteArray), cs[i]? ≠ some (.string s)) : ∀ ad, A = some ad → 0 < ts.length → ad.block ≠ F := by
  intro ad ea hp e
  obtain ⟨ad', e', h0, h1, h2⟩ := at_Tok h 0 (by omega) (by omega)
  rw [ea] at e'
  cases e'
  subst e
  have e0 : (ad.add ((0 : Int).toNat * 3)).block = ad.block := by simp [Addr.add]
  rw [e0, blk_cell hF] at h1
  exact hc _ _ h1
theorem kTok_flat {W W' : World} {x : Tok} {cs : List Value} (h : kTok.K W x cs) : kTok.K W' x cs := by
  obtain rfl := kTok_open' h
  exact ⟨[.int .i64 x.kind], [.string (strOfNums x.text), .int .i64 x.line], rfl, rfl, ⟨[.string (strOfNums x.text)], [.int .i64 x.line], rfl, rfl, rfl⟩⟩
structure PSt (w w1 w2 wr : World) (F : Nat) (bs : List Nat) (kk : Nat) (v : Value) (st : FileS) : Prop where
  below : Below w.heap.size w wr
  toks : ButF w1 wr F
  rows : ∀ i, kk ≤ i → i < bs.length → wr.heap[bs.getD i 0]? = w2.heap[bs.getD i 0]?
  ptr : kP.R 61 wr w1.heap.size (fun _ => True) v bs
  file : FileAt (cut w1.heap.size wr) wr F st
theorem KeepT.ptr {w w' : World} {g F base : Nat} {v : Value} {bs : List Nat} (hk : KeepT w w' g F) (h : kP.R 61 w base (fun _ => True) v bs) (hg : ∃ cs, w.heap[g]? = some (.cells cs 97 (0, 0))) (hF : ∃ cs, w.heap[F]? = some (.cells cs 29 (0, 0))) : kP.R 61 w' base (fun _ => True) v bs := by
  refine Kd.R_mono (Kd.R_step (Kd.R_bound h) (fun k hk' hlt => ?_)) (fun _ h => h.1)
  obtain ⟨_, _, _, q, hq, cells, hc⟩ := hk'
  have hq' : q = 61 := by simpa [kP, Kd.scalar] using hq
  subst hq'
  obtain ⟨c1, h1⟩ := hg
  obtain ⟨c2, h2⟩ := hF
  exact (hk.block k cells 61 (blk_ne hc h1 (by decide)) (blk_ne hc h2 (by decide)) (by decide) (by decide) hc).trans hc.symm
theorem FileAt.recut {w0 w : World} {F n : Nat} {st : FileS} (h : FileAt w0 w F st) (hn : w0.heap.size = n) (hs : n ≤ w.heap.size) : FileAt (cut n w) w F st := by
  obtain ⟨vT, vO, h1, h2, h3⟩ := h.mem
  exact ⟨ButF.of_below (cut_below n w hs) F, h.len, vT, vO, h1, by rw [cut_size n w hs, ← hn]; exact h2, by rw [cut_size n w hs, ← hn]; exact h3⟩
theorem PSt.row {w w1 w2 wr : World} {F : Nat} {bs : List Nat} {acc : List (Int × List Tok)} {kk : Nat} {v v2 : Value} {st : FileS} {cs : Array Value} (h : PSt w w1 w2 wr F bs kk v st) (h2 : RowsSt w1 w2 bs acc v2) (hk : kk < bs.length) (hF : w1.heap[F]? = some (.cells cs 29 (0, 0))) (hc : ∀ (i : Nat) (s : ByteArray), cs[i]? ≠ some (.string s)) :
    RowAt (cut w1.heap.size wr) wr (bs.getD kk 0) (acc.getD kk row0).1 (acc.getD kk row0).2 := by
  obtain ⟨a1, a2, a3, A, c, a4, a5, a6⟩ := h2.row kk hk
  have hs := h.toks.size
  refine ⟨by rw [cut_size _ _ hs]; exact a1, cut_below _ _ hs, a3, A, c, a4, ?_, (h.rows kk (Nat.le_refl _) hk).trans a6⟩
  refine Kd.C_foot_ne kTok_flat a5 (tok_block a5 hF hc) _ ⟨by rw [cut_size _ _ hs]; exact Nat.le_refl _, fun i hi hne _ => ?_⟩
  rw [cut_get _ _ _ hi]
  exact h.toks.block i hi hne
theorem PSt.next {w w1 w2 wr w' : World} {F : Nat} {bs : List Nat} {acc : List (Int × List Tok)} {kk : Nat} {v v2 : Value} {st st' : FileS} (h : PSt w w1 w2 wr F bs kk v st) (h2 : RowsSt w1 w2 bs acc v2) (hk : kk < bs.length) (hF : w.heap.size ≤ F) (hw : w.heap.size ≤ w1.heap.size) (hrow : ∃ cs, wr.heap[bs.getD kk 0]? = some (.cells cs 97 (0, 0))) (hf : FileAt (cut w1.heap.size wr) w' F st') (hkp : KeepT wr w' (bs.getD kk 0) F) : PSt w w1 w2 w' F bs (kk + 1) v st' := by
  have hs := h.toks.size
  have hcs := cut_size _ _ hs
  have hsz : w1.heap.size ≤ w'.heap.size := Nat.le_trans hs hkp.size
  have hFt : ∃ cs, wr.heap[F]? = some (.cells cs 29 (0, 0)) := by
    obtain ⟨cs, _, hc⟩ := h.file.is
    exact ⟨_, hc⟩
  refine ⟨⟨hf.but.os.trans h.below.os, hf.but.tape.trans h.below.tape, hf.but.output.trans h.below.output, Nat.le_trans h.below.size hkp.size, fun k hk => ?_⟩, ⟨hf.but.os.trans h.toks.os, hf.but.tape.trans h.toks.tape, hf.but.output.trans h.toks.output, hsz, fun k hk hne => ?_⟩, fun i hi hl => ?_, KeepT.ptr hkp h.ptr hrow hFt, FileAt.recut hf hcs hsz⟩
  · have h1 : k < w1.heap.size := Nat.lt_of_lt_of_le hk hw
    rw [hf.but.block k (by rw [hcs]; exact h1) (by omega), cut_get _ _ _ h1]
    exact h.below.block k hk
  · rw [hf.but.block k (by rw [hcs]; exact hk) hne, cut_get _ _ _ hk]
    exact h.toks.block k hk hne
  · have h3 := h.rows i (by omega) hl
    obtain ⟨_, _, _, A, c, _, _, a6⟩ := h2.row i hl
    have h4 := h3.trans a6
    have hne : bs.getD i 0 ≠ bs.getD kk 0 := by
      have hnd := h2.nodup
      simp only [List.getD_eq_getElem?_getD, List.getElem?_eq_getElem hl, List.getElem?_eq_getElem hk, Option.getD_some]
      intro e
      have := (List.getElem_inj hnd).1 e
      omega
    obtain ⟨c2, hF2⟩ := hFt
    exact (hkp.block _ _ 97 hne (blk_ne h4 hF2 (by decide)) (by decide) (by decide) h4).trans a6.symm
end Go.Proofs.YtegbfimfpkendaaDoor.PaL
namespace Go.Proofs.YtegbfimfpkendaaDoor.PaM
open Go.RowKit Go.Proofs.YtegbfimfpkendaaDoorW.PrintWords Go.Proofs.YtegbfimfpkendaaDoorW.PrintLast Go.Proofs.YtegbfimfpkendaaDoorW.PrintMore LexS LexB PaA LexBox PaC PaD PaB PaE PaF PaG PaH PaJ PaK PaL
set_option linter.unusedVariables false
set_option linter.unusedSimpArgs false
set_option maxRecDepth 100000 in
theorem catch_idle (F L E : Nat) (w : World) :
    CallsD Tryd.prog 19 #[.pointer (some ⟨F, 0, none⟩), .pointer (some ⟨L, 0, none⟩), .pointer (some ⟨E, 0, none⟩)] .returning w fun e u' w' => e = .returned (.tuple #[]) ∧ u' = .returning ∧ w' = w := by
  refine callsD_of_wpS Tryd.func19 rfl fun c₀ cs hu => ?_
  apply wpS_seq
  apply wpS_region
  change wpOpsS _ _ _ [0, 1] _ _ _
  simp [wpOpsS, go_sem, recoverD, hu, Tryd.ntmps19, Exit.thenS]
  simp only [show Array.replicate 19 undef = #[undef, undef, undef, undef, undef, undef, undef, undef, undef, undef, undef, undef, undef, undef, undef, undef, undef, undef, undef] from rfl, List.setIfInBounds_toArray, List.set_cons_zero, List.set_cons_succ, List.append_toArray, List.cons_append, List.nil_append]
  refine wpS_of_wp (wp_mono (Q := fun e a' w' => e = .normal ∧ a'.defers = [] ∧ w' = w) ?_ ?_)
  rotate_left
  · rintro e a' w' ⟨rfl, hd, rfl⟩
    refine ⟨hd, .returning, ?_, .tuple #[], results_none rfl _ _ _, rfl, rfl, rfl⟩
    cases c₀
    simp_all
  go_wp2
def ParsePost (w : World) (r : FileS × Int × Int) (e : Ending) (w' : World) : Prop :=
  ∃ vT vO, e = .returned (.tuple #[.agg (r.1.cfg.map (Value.int .i64) ++ [vT, vO]).toArray, .int .i64 r.2.1, .int .i64 r.2.2]) ∧ kTk.R 51 w' w.heap.size (fun _ => True) vT r.1.tasks ∧ kOp.R 46 w' w.heap.size (fun _ => True) vO r.1.ops ∧ Below w.heap.size w w' ∧ r.1.cfg.length = 10
theorem res10 (t : Array Value) (F L E : Nat) (w : World) (cs : List Value) (line err : Int) (h2 : t[2]? = some (.pointer (some ⟨F, 0, none⟩))) (h3 : t[3]? = some (.pointer (some ⟨L, 0, none⟩))) (h4 : t[4]? = some (.pointer (some ⟨E, 0, none⟩))) (hF : w.heap[F]? = some (.cells cs.toArray 29 (0, 0))) (hn : cs.length = 12) (hL : w.heap[L]? = some (.cells #[.int .i64 line] 3 (0, 0))) (hE : w.heap[E]? = some (.cells #[.int .i64 err] 30 (0, 0))) :
    (results Tryd.f10 t).run Tryd.prog w = .ok (.tuple #[.agg cs.toArray, .int .i64 line, .int .i64 err]) w := by
  obtain ⟨a, b, c, d, e, f, g, i, j, k, l, m, rfl⟩ := twelve hn
  obtain ⟨c0, c1, c2, c3, c4, c5, c6, c7, c8, c9, c10, c11, -⟩ := cells12 hF
  have l0 : w.cell? ⟨L, 0, none⟩ = some (.int .i64 line) := (blk_cell hL 0).trans rfl
  have e0 : w.cell? ⟨E, 0, none⟩ = some (.int .i64 err) := (blk_cell hE 0).trans rfl
  simp [results, Tryd.results10, go_sem, h2, h3, h4, c0, c1, c2, c3, c4, c5, c6, c7, c8, c9, c10, c11, l0, e0]
theorem Caught.post {w wr w' : World} {F L E : Nat} {line err : Int} (hF : w.heap.size ≤ F) (hL : w.heap.size ≤ L) (hE : w.heap.size ≤ E) (hb : Below w.heap.size w wr) (h : Caught wr F L E line err w') : ParsePost w (zeroF, line, err) (.returned (.tuple #[.agg ([.int .i64 0, .int .i64 0, .int .i64 0, .int .i64 0, .int .i64 0, .int .i64 0, .int .i64 0, .int .i64 0, .int .i64 0, .int .i64 0, .slice none 0 0, .slice none 0 0] : List Value).toArray, .int .i64 line, .int .i64 err])) w' :=
  ⟨.slice none 0 0, .slice none 0 0, rfl, Kd.R_nil _ _ _ _ _, Kd.R_nil _ _ _ _ _, ⟨h.os.trans hb.os, h.tape.trans hb.tape, h.output.trans hb.output, Nat.le_trans hb.size h.size, fun k hk => (h.block k (Nat.lt_of_lt_of_le hk hb.size) (by omega) (by omega) (by omega)).trans (hb.block k hk)⟩, rfl⟩
def laidD (F L E : Nat) : Deferred := { target := Target.fn (Fn.func 19) #[.pointer (some ⟨F, 0, none⟩), .pointer (some ⟨L, 0, none⟩), .pointer (some ⟨E, 0, none⟩)], args := #[] }
theorem panics (t : Array Value) (F L E : Nat) (w wr : World) (line err : Int) (l0 e0 : Int) (h2 : t[2]? = some (.pointer (some ⟨F, 0, none⟩))) (h3 : t[3]? = some (.pointer (some ⟨L, 0, none⟩))) (h4 : t[4]? = some (.pointer (some ⟨E, 0, none⟩))) (hF : IsFile wr F) (hL : wr.heap[L]? = some (.cells #[.int .i64 l0] 3 (0, 0))) (hE : wr.heap[E]? = some (.cells #[.int .i64 e0] 30 (0, 0))) (gF : w.heap.size ≤ F) (gL : w.heap.size ≤ L) (gE : w.heap.size ≤ E) (hb : Below w.heap.size w wr) :
    bodyPostD Tryd.prog Tryd.f10 (ParsePost w (zeroF, line, err)) (Exit.panic (wrongC line err)) { tmps := t, defers := [laidD F L E] } wr := by
  obtain ⟨zs, hz, hF⟩ := hF
  refine leaves_cons (f := 19) (args := #[.pointer (some ⟨F, 0, none⟩), .pointer (some ⟨L, 0, none⟩), .pointer (some ⟨E, 0, none⟩)]) (by simp) (by simp [go_sem]) ?_
  refine (catch_panicking F L E line err zs l0 e0 wr hF hz hL hE).mono ?_
  rintro e u' w'' ⟨rfl, rfl, hc⟩
  show Leaves _ _ _ _ [] (settle _) _
  exact ⟨_, res10 t F L E w'' _ line err h2 h3 h4 hc.file rfl hc.line hc.err, Caught.post gF gL gE hb hc⟩
theorem door (t : Array Value) (F L E : Nat) (w wr : World) (r : FileS × Int × Int) (cs : List Value) (h2 : t[2]? = some (.pointer (some ⟨F, 0, none⟩))) (h3 : t[3]? = some (.pointer (some ⟨L, 0, none⟩))) (h4 : t[4]? = some (.pointer (some ⟨E, 0, none⟩))) (hF : wr.heap[F]? = some (.cells cs.toArray 29 (0, 0))) (hn : cs.length = 12) (hL : wr.heap[L]? = some (.cells #[.int .i64 r.2.1] 3 (0, 0))) (hE : wr.heap[E]? = some (.cells #[.int .i64 r.2.2] 30 (0, 0)))
    (hp : ParsePost w r (.returned (.tuple #[.agg cs.toArray, .int .i64 r.2.1, .int .i64 r.2.2])) wr) :
    bodyPostD Tryd.prog Tryd.f10 (ParsePost w r) Exit.ret { tmps := t, defers := [laidD F L E] } wr := by
  refine leaves_cons (f := 19) (args := #[.pointer (some ⟨F, 0, none⟩), .pointer (some ⟨L, 0, none⟩), .pointer (some ⟨E, 0, none⟩)]) (by simp) (by simp [go_sem]) ?_
  refine (catch_idle F L E wr).mono ?_
  rintro e u' w'' ⟨rfl, rfl, rfl⟩
  show Leaves _ _ _ _ [] (settle _) _
  exact ⟨_, res10 t F L E _ cs _ _ h2 h3 h4 hF hn hL hE, hp⟩
end Go.Proofs.YtegbfimfpkendaaDoor.PaM
