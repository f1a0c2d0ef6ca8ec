/- The walk of (*text).number. Condition: the table uint64pow10 is laid. What (*text).op writes, and what stays while it runs. No condition. -/
import Derived.Test.YtegbfimfpkendaaDoorPaO
import Derived.Lib.ItoaLen
namespace Go.Proofs.YtegbfimfpkendaaDoor.PaP
open Go.RowKit Go.Proofs.YtegbfimfpkendaaDoorW.PrintWords Go.Proofs.YtegbfimfpkendaaDoorW.PrintLast Go.Proofs.YtegbfimfpkendaaDoorW.PrintMore LexS LexB PaA LexBox PaC PaD PaB PaE PaF PaG PaH PaO
set_option linter.unusedVariables false
set_option linter.unusedSimpArgs false
def badN (bad : Bool) (n : Int) : Bool := bad || (decide (n < 0) || decide (1048576 < n))
def numB (n : Int) : List UInt8 := 32 :: Lib.itoa n
def inI (n : Int) : Prop := -9223372036854775808 ≤ n ∧ n ≤ 9223372036854775807
def WPost (w0 : World) (b : Nat) (out : List UInt8) (bad : Bool) (w : World) (e : Ending) (w' : World) : Prop :=
  e = .returned (.tuple #[]) ∧ TextAt w0.heap.size b out bad w' ∧ Below w0.heap.size w0 w' ∧ KeepU w w' b
theorem str_cat (l : List UInt8) : (⟨#[32]⟩ : ByteArray) ++ (⟨l.toArray⟩ : ByteArray) = ⟨(32 :: l).toArray⟩ := by
  apply ByteArray.ext
  simp
theorem below_undrew {w w' : World} (h : Below w.drew.heap.size w.drew w') : Below w.heap.size w w' := ⟨h.os, h.tape, h.output, h.size, h.block⟩
theorem below_weak {w0 w1 w2 : World} (h : Below w0.heap.size w0 w1) (k : Below w0.heap.size w1 w2) : Below w0.heap.size w0 w2 := h.trans k
set_option maxHeartbeats 1000000 in
set_option maxRecDepth 100000 in
theorem number_t (w0 w : World) (b : Nat) (out : List UInt8) (bad : Bool) (n : Int) (h : TextAt w0.heap.size b out bad w) (hb : Below w0.heap.size w0 w) (hT : NumA.Tab w0) (hn : inI n) (hlen : (out ++ numB n).length ≤ 140737488355328) :
    Calls Tryd.prog 26 #[.pointer (some ⟨b, 0, none⟩), .int .i64 n] w (WPost w0 b (out ++ numB n) (badN bad n) w) := by
  have H := Aside0.mk h
  have HB := Aside0.mk hb
  have HT := Aside0.mk hT
  have HN := Aside0.mk hn
  have HL := Aside0.mk hlen
  obtain ⟨z0, f0⟩ := h.bads
  have key : ∃ W : World, W = w.setCell ⟨b, 2, none⟩ (.bool (badN bad n)) ∧ Aside0 (TextAt w0.heap.size b out (badN bad n) W) ∧ Aside0 (Below w0.heap.size w0 W) ∧ Aside0 (KeepU w W b) := by
    obtain ⟨p, v, hp, hv⟩ := H.out
    exact ⟨_, rfl, ⟨h.setBad _⟩, ⟨hb.setCell hv.ge _⟩, ⟨(KeepU.refl w b).set _ _⟩⟩
  have KEY := Aside0.mk key
  clear h hb hT hn hlen key
  have four : (bad = true ∧ badN bad n = true) ∨ (bad = false ∧ n < 0 ∧ badN bad n = true) ∨ (bad = false ∧ ¬ n < 0 ∧ 1048576 < n ∧ badN bad n = true) ∨ (bad = false ∧ ¬ n < 0 ∧ ¬ 1048576 < n ∧ badN bad n = false) := by
    unfold badN
    cases bad with
    | true => exact .inl ⟨rfl, rfl⟩
    | false =>
      by_cases h1 : n < 0
      · exact .inr (.inl ⟨rfl, h1, by simp [h1]⟩)
      · by_cases h2 : 1048576 < n
        · exact .inr (.inr (.inl ⟨rfl, h1, h2, by simp [h2]⟩))
        · exact .inr (.inr (.inr ⟨rfl, h1, h2, by simp [h1, h2]⟩))
  rcases four with ⟨rfl, hx⟩ | ⟨rfl, h1, hx⟩ | ⟨rfl, h1, h2, hx⟩ | ⟨rfl, h1, h2, hx⟩
  all_goals
    rw [hx] at KEY
    try (have d1 := decide_eq_true h1)
    try (have d1 := decide_eq_false h1)
    try (have d2 := decide_eq_true h2)
    try (have d2 := decide_eq_false h2)
    try (have e1 : ¬ (1048576 : Int) < n := by omega)
    have hadd : ∀ W : World, (Op.stringOp .add (⟨#[32]⟩ : ByteArray) (⟨(Lib.itoa n).toArray⟩ : ByteArray)).run Tryd.prog W = .ok (.string ⟨(32 :: Lib.itoa n).toArray⟩) W := fun W => by
      rw [run_string_add_sum W _ _ (by have := HL.out; simp [numB, ByteArray.size] at this ⊢; omega), str_cat]
    have HX := Aside0.mk hx
    clear hx
    go_enter Tryd.func26, Tryd.ntmps26
    go_upto_region 1 with (fail)
    obtain ⟨w1, hw1, T1, B1, U1⟩ := KEY.out
    rw [← hw1]
    clear hw1 z0 f0
    go_region_held2 (fun _ => True) (trivial)
      (first
        | (go_at_call 47; refine (NumA.text_calls n HN.out.1 HN.out.2 _ (NumA.Tab.below HT.out (below_drew B1.out)).out).mono ?_; rintro e' w2 ⟨rfl, hb⟩; have T2 := Aside0.mk (T1.out.below (below_undrew hb)); have B2 := Aside0.mk (below_step B1.out (below_undrew hb)); have U2 := Aside0.mk (U1.out.trans (KeepU.of_below (below_undrew hb) b)); clear hb)
        | (go_at_call 24; refine (write_calls w0.heap.size b out _ ⟨(32 :: Lib.itoa n).toArray⟩ _ T2.out (by have := HL.out; simpa [numB, ByteArray.size] using this) B2.out.size).mono ?_; rintro e' w3 ⟨rfl, ht, hb3, hu⟩; have T3 := Aside0.mk ht; have B3 := Aside0.mk (below_weak B2.out hb3); have U3 := Aside0.mk (U2.out.trans hu); clear ht hb3 hu))
    go_wp2
    first | go_end0 | ((try simp only [Exit.inBlock, Exit.then]); refine bodyPost_ret (results_none rfl _ _ _) rfl ?_)
    refine ⟨rfl, ?_, B3.out, U3.out⟩
    rw [HX.out]
    exact T3.out
end Go.Proofs.YtegbfimfpkendaaDoor.PaP
namespace Go.Proofs.YtegbfimfpkendaaDoor.PaQ
open Go.RowKit Go.Proofs.YtegbfimfpkendaaDoorW.PrintWords Go.Proofs.YtegbfimfpkendaaDoorW.PrintLast Go.Proofs.YtegbfimfpkendaaDoorW.PrintMore LexS LexB PaA LexBox PaC PaD PaB PaE PaF PaG PaH PaO PaP
set_option linter.unusedVariables false
set_option linter.unusedSimpArgs false
def fmCells (f : Fm) : List Value := [.string f.op, .int .i64 f.kind, .int .i64 f.n]
def formsA : Array Value := (formsT.flatMap fmCells).toArray
def answersA : Array Value := (answersT.flatMap fmCells).toArray
def Blocks (w : World) : Prop := (∃ t fr, w.heap[1]? = some (.cells formsA t fr)) ∧ (∃ t fr, w.heap[2]? = some (.cells answersA t fr))
theorem Blocks.below {w W : World} (h : Blocks w) (hb : Below w.heap.size w W) : Blocks W := by
  obtain ⟨⟨t, fr, h1⟩, ⟨t', fr', h2⟩⟩ := h
  exact ⟨⟨t, fr, (hb.block 1 (Array.getElem?_eq_some_iff.1 h1).1).trans h1⟩, ⟨t', fr', (hb.block 2 (Array.getElem?_eq_some_iff.1 h2).1).trans h2⟩⟩
set_option maxRecDepth 100000 in
theorem form_at (k : Nat) (hk : k < 6) (W : World) : (Instr.index 105 (.agg formsA) (.int .i64 k)).run Tryd.prog W = .ok (getFm formsT k).v W := by
  have : k = 0 ∨ k = 1 ∨ k = 2 ∨ k = 3 ∨ k = 4 ∨ k = 5 := by omega
  rcases this with rfl | rfl | rfl | rfl | rfl | rfl <;> rfl
set_option maxRecDepth 100000 in
theorem answer_at (k : Nat) (hk : k < 3) (W : World) : (Instr.index 116 (.agg answersA) (.int .i64 k)).run Tryd.prog W = .ok (getFm answersT k).v W := by
  have : k = 0 ∨ k = 1 ∨ k = 2 := by omega
  rcases this with rfl | rfl | rfl <;> rfl
theorem form_ok (k : Nat) (hk : k < 6) : (getFm formsT k).op.size ≤ 20 ∧ ∃ n : Nat, (getFm formsT k).n = n ∧ n ≤ 3 := by
  have : k = 0 ∨ k = 1 ∨ k = 2 ∨ k = 3 ∨ k = 4 ∨ k = 5 := by omega
  rcases this with rfl | rfl | rfl | rfl | rfl | rfl
  · exact ⟨by decide, 3, rfl, by decide⟩
  · exact ⟨by decide, 1, rfl, by decide⟩
  · exact ⟨by decide, 0, rfl, by decide⟩
  · exact ⟨by decide, 0, rfl, by decide⟩
  · exact ⟨by decide, 2, rfl, by decide⟩
  · exact ⟨by decide, 1, rfl, by decide⟩
theorem answer_ok (k : Nat) (hk : k < 3) : (getFm answersT k).op.size ≤ 20 := by
  have : k = 0 ∨ k = 1 ∨ k = 2 := by omega
  rcases this with rfl | rfl | rfl <;> decide
structure TS where
  out : List UInt8
  bad : Bool
  left : List Int
  known : Bool
def numW1 (j : Nat) (s : TS) : TS := { s with out := s.out ++ numB (s.left.getD (j + 1) 0), bad := badN s.bad (s.left.getD (j + 1) 0), left := s.left.set (j + 1) 0 }
def numsW : Nat → Nat → TS → TS
  | 0, _, s => s
  | m + 1, j, s => numsW m (j + 1) (numW1 j s)
def formW (k : Int) (s : TS) (f : Fm) : TS :=
  if f.kind = k then { numsW f.n.toNat 0 { s with out := s.out ++ f.op.data.toList } with left := (numsW f.n.toNat 0 { s with out := s.out ++ f.op.data.toList }).left.set 0 0, known := true } else s
def ansW (k c d : Int) (s : TS) (a : Fm) : TS :=
  if k = 5 then (if a.kind = c then (if 0 < a.n then { s with out := s.out ++ (32 :: a.op.data.toList) ++ numB d, bad := badN s.bad d, left := (s.left.set 3 0).set 4 0 } else { s with out := s.out ++ (32 :: a.op.data.toList), left := s.left.set 3 0 }) else s) else s
def formsW (k a b c d : Int) (out : List UInt8) (bad : Bool) : TS := formsT.foldl (formW k) ⟨out, bad, [k, a, b, c, d], false⟩
def answersW (k a b c d : Int) (out : List UInt8) (bad : Bool) : TS := answersT.foldl (ansW k c d) (formsW k a b c d out bad)
def lastB (k c : Int) (s : TS) : Bool := s.bad || (!s.known || (decide (s.left ≠ [0, 0, 0, 0, 0]) || (decide (k = 5) && decide (c = 0))))
structure TOk (s : TS) (N : Nat) : Prop where
  len : s.out.length ≤ N
  five : s.left.length = 5
  ints : ∀ j, inI (s.left.getD j 0)
theorem inI_zero : inI 0 := ⟨by decide, by decide⟩
theorem set_ints {l : List Int} (h : ∀ j, inI (l.getD j 0)) (i : Nat) : ∀ j, inI ((l.set i 0).getD j 0) := by
  intro j
  by_cases hj : j < l.length
  · by_cases hi : i = j
    · subst hi
      have : (l.set i 0).getD i 0 = 0 := by simp [List.getD_eq_getElem?_getD, hj]
      rw [this]; exact inI_zero
    · have : (l.set i 0).getD j 0 = l.getD j 0 := by simp [List.getD_eq_getElem?_getD, hi]
      rw [this]; exact h j
  · have : (l.set i 0).getD j 0 = 0 := by simp [List.getD_eq_getElem?_getD, List.getElem?_eq_none (show (l.set i 0).length ≤ j by simp; omega)]
    rw [this]; exact inI_zero
theorem numB_len {n : Int} (h : inI n) : (numB n).length ≤ 22 := by
  have := Lib.itoa_length_le n h.1 h.2
  simp [numB]; omega
theorem TOk.num1 {s : TS} {N : Nat} (h : TOk s N) (j : Nat) : TOk (numW1 j s) (N + 22) :=
  ⟨by have := numB_len (h.ints (j + 1)); have := h.len; simp only [numW1, List.length_append]; omega, by simp [numW1, h.five], set_ints h.ints _⟩
theorem TOk.nums : ∀ (m j : Nat) {s : TS} {N : Nat}, TOk s N → TOk (numsW m j s) (N + 22 * m)
  | 0, _, _, _, h => by simpa [numsW] using h
  | m + 1, j, s, N, h => by
    have := TOk.nums m (j + 1) (h.num1 j)
    rw [show N + 22 * (m + 1) = N + 22 + 22 * m from by omega]
    exact this
theorem TOk.form {s : TS} {N : Nat} (h : TOk s N) (k : Int) (i : Nat) (hi : i < 6) : TOk (formW k s (getFm formsT i)) (N + 100) := by
  obtain ⟨h1, n, h2, h3⟩ := form_ok i hi
  have h4 : (getFm formsT i).op.data.toList.length ≤ 20 := by rw [Array.length_toList]; exact h1
  unfold formW
  split
  · have h0 : TOk { s with out := s.out ++ (getFm formsT i).op.data.toList } (N + 20) := ⟨by have := h.len; rw [List.length_append]; omega, h.five, h.ints⟩
    have h5 := TOk.nums (getFm formsT i).n.toNat 0 h0
    exact ⟨by have := h5.len; have : (getFm formsT i).n.toNat ≤ 3 := by omega
              simp only; omega, by simp [h5.five], set_ints h5.ints _⟩
  · exact ⟨by have := h.len; omega, h.five, h.ints⟩
theorem TOk.ans {s : TS} {N : Nat} (h : TOk s N) (k c d : Int) (hd : inI d) (i : Nat) (hi : i < 3) : TOk (ansW k c d s (getFm answersT i)) (N + 100) := by
  have h4 : (getFm answersT i).op.data.toList.length ≤ 20 := by rw [Array.length_toList]; exact answer_ok i hi
  have h5 := numB_len hd
  have := h.len
  unfold ansW
  split
  · split
    · split
      · exact ⟨by simp only [List.length_append, List.length_cons]; omega, by simp [h.five], set_ints (set_ints h.ints _) _⟩
      · exact ⟨by simp only [List.length_append, List.length_cons]; omega, by simp [h.five], set_ints h.ints _⟩
    · exact ⟨by omega, h.five, h.ints⟩
  · exact ⟨by omega, h.five, h.ints⟩
theorem fold_snoc {α : Type} (f : TS → α → TS) (l : List α) (s : TS) (k : Nat) (x : α) (hk : k < l.length) (hx : l[k]? = some x) : (l.take (k + 1)).foldl f s = f ((l.take k).foldl f s) x := by
  rw [List.take_add_one, hx, List.foldl_append]; rfl
theorem getFm_at (l : List Fm) (k : Nat) (hk : k < l.length) : l[k]? = some (getFm l k) := by simp [getFm, List.getD_eq_getElem?_getD, hk]
theorem TOk.formsT {s : TS} {N : Nat} (h : TOk s N) (k : Int) : ∀ i, i ≤ 6 → TOk ((PaG.formsT.take i).foldl (formW k) s) (N + 100 * i)
  | 0, _ => by simpa using h
  | i + 1, hi => by
    rw [fold_snoc _ _ _ _ _ (by simp [PaG.formsT]; omega) (getFm_at PaG.formsT i (by simp [PaG.formsT]; omega))]
    exact (TOk.formsT h k i (by omega)).form k i (by omega)
theorem TOk.answersT {s : TS} {N : Nat} (h : TOk s N) (k c d : Int) (hd : inI d) : ∀ i, i ≤ 3 → TOk ((PaF.answersT.take i).foldl (ansW k c d) s) (N + 100 * i)
  | 0, _ => by simpa using h
  | i + 1, hi => by
    rw [fold_snoc _ _ _ _ _ (by simp [PaF.answersT]; omega) (getFm_at PaF.answersT i (by simp [PaF.answersT]; omega))]
    exact (TOk.answersT h k c d hd i (by omega)).ans k c d hd i (by omega)
structure OSt (w0 w : World) (b bo lo : Nat) (o : List Int) (s : TS) (wr : World) : Prop where
  text : TextAt w0.heap.size b s.out s.bad wr
  below : Below w0.heap.size w0 wr
  keep : KeepU w wr b
  five : s.left.length = 5
  left : wr.heap[lo]? = some (.cells (s.left.map (.int .i64)).toArray 46 (0, 0))
  obox : wr.heap[bo]? = some (.cells (o.map (.int .i64)).toArray 46 (0, 0))
  gl : w.heap.size ≤ lo
  go : w.heap.size ≤ bo
  ne : lo ≠ bo
  nb : lo ≠ b
  nbo : bo ≠ b
  g0 : w0.heap.size ≤ w.heap.size
section ost
variable {w0 w wr w' : World} {b bo lo : Nat} {o : List Int} {s : TS}
theorem OSt.step (h : OSt w0 w b bo lo o s wr) (hb : Below wr.heap.size wr w') : OSt w0 w b bo lo o s w' :=
  ⟨h.text.below hb, below_step h.below hb, h.keep.trans (KeepU.of_below hb b), h.five, blk_below h.left hb, blk_below h.obox hb, h.gl, h.go, h.ne, h.nb, h.nbo, h.g0⟩
theorem OSt.wrote (h : OSt w0 w b bo lo o s wr) {out : List UInt8} {bad : Bool} (ht : TextAt w0.heap.size b out bad w') (hb : Below w0.heap.size w0 w') (hk : KeepU wr w' b) : OSt w0 w b bo lo o { s with out := out, bad := bad } w' :=
  ⟨ht, hb, h.keep.trans hk, h.five, hk.block _ _ _ h.nb (by decide) h.left, hk.block _ _ _ h.nbo (by decide) h.obox, h.gl, h.go, h.ne, h.nb, h.nbo, h.g0⟩
theorem KeepU.far {w W : World} {b g j : Nat} (h : KeepU w W b) (hg : w.heap.size ≤ g) (x : Value) : KeepU w (W.setCell ⟨g, j, none⟩ x) b :=
  ⟨by simpa [World.setCell] using h.size, fun k cs t h1 h2 hb => blk_far (h.block k cs t h1 h2 hb) (by have := blk_lt hb; simp; omega) x⟩
theorem OSt.put (h : OSt w0 w b bo lo o s wr) (j : Nat) (m : Int) : OSt w0 w b bo lo o { s with left := s.left.set j m } (wr.setCell ⟨lo, j, none⟩ (.int .i64 m)) :=
  ⟨h.text.far h.nb ⟨_, _, h.left, by decide⟩ _, h.below.setCell (Nat.le_trans h.g0 h.gl) _, KeepU.far h.keep h.gl _, by simp [h.five], blk_put h.left j _ (by simp [List.map_set]), blk_far h.obox (Ne.symm h.ne) _, h.gl, h.go, h.ne, h.nb, h.nbo, h.g0⟩
theorem OSt.known (h : OSt w0 w b bo lo o s wr) (x : Bool) : OSt w0 w b bo lo o { s with known := x } wr := ⟨h.text, h.below, h.keep, h.five, h.left, h.obox, h.gl, h.go, h.ne, h.nb, h.nbo, h.g0⟩
end ost
end Go.Proofs.YtegbfimfpkendaaDoor.PaQ
