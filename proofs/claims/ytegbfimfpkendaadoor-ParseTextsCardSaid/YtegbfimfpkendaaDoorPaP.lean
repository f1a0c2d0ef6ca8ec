/- The walk of (*text).number. Condition: the table uint64pow10 is laid. -/
import Derived.Test.YtegbfimfpkendaaDoorPaO
namespace Go.Proofs.YtegbfimfpkendaaDoor.PaP
open Go.RowKit Go.Proofs.YtegbfimfpkendaaDoorW.PrintWords Go.Proofs.YtegbfimfpkendaaDoorW.PrintLast Go.Proofs.YtegbfimfpkendaaDoorW.PrintMore LexS LexB PaA LexBox PaC PaD PaB PaE PaF PaG PaH PaO
set_option linter.unusedVariables false
set_option linter.unusedSimpArgs false
def badN (bad : Bool) (n : Int) : Bool := bad || (decide (n < 0) || decide (1048576 < n))
def numB (n : Int) : List UInt8 := 32 :: Lib.itoa n
def inI (n : Int) : Prop := -9223372036854775808 ≤ n ∧ n ≤ 9223372036854775807
def WPost (w0 : World) (b : Nat) (out : List UInt8) (bad : Bool) (w : World) (e : Ending) (w' : World) : Prop :=
  e = .returned (.tuple #[]) ∧ TextAt w0.heap.size b out bad w' ∧ Below w0.heap.size w0 w' ∧ KeepU w w' b
theorem str_cat (l : List UInt8) : (⟨#[32]⟩ : ByteArray) ++ (⟨l.toArray⟩ : ByteArray) = ⟨(32 :: l).toArray⟩ := by
  apply ByteArray.ext
  simp
theorem below_undrew {w w' : World} (h : Below w.drew.heap.size w.drew w') : Below w.heap.size w w' := ⟨h.os, h.tape, h.output, h.size, h.block⟩
theorem below_weak {w0 w1 w2 : World} (h : Below w0.heap.size w0 w1) (k : Below w0.heap.size w1 w2) : Below w0.heap.size w0 w2 := h.trans k
set_option maxHeartbeats 1000000 in
set_option maxRecDepth 100000 in
theorem number_t (w0 w : World) (b : Nat) (out : List UInt8) (bad : Bool) (n : Int) (h : TextAt w0.heap.size b out bad w) (hb : Below w0.heap.size w0 w) (hT : NumA.Tab w0) (hn : inI n) (hlen : (out ++ numB n).length ≤ 140737488355328) :
    Calls Tryd.prog 26 #[.pointer (some ⟨b, 0, none⟩), .int .i64 n] w (WPost w0 b (out ++ numB n) (badN bad n) w) := by
  have H := Aside0.mk h
  have HB := Aside0.mk hb
  have HT := Aside0.mk hT
  have HN := Aside0.mk hn
  have HL := Aside0.mk hlen
  obtain ⟨z0, f0⟩ := h.bads
  have key : ∃ W : World, W = w.setCell ⟨b, 2, none⟩ (.bool (badN bad n)) ∧ Aside0 (TextAt w0.heap.size b out (badN bad n) W) ∧ Aside0 (Below w0.heap.size w0 W) ∧ Aside0 (KeepU w W b) := by
    obtain ⟨p, v, hp, hv⟩ := H.out
    exact ⟨_, rfl, ⟨h.setBad _⟩, ⟨hb.setCell hv.ge _⟩, ⟨(KeepU.refl w b).set _ _⟩⟩
  have KEY := Aside0.mk key
  clear h hb hT hn hlen key
  have four : (bad = true ∧ badN bad n = true) ∨ (bad = false ∧ n < 0 ∧ badN bad n = true) ∨ (bad = false ∧ ¬ n < 0 ∧ 1048576 < n ∧ badN bad n = true) ∨ (bad = false ∧ ¬ n < 0 ∧ ¬ 1048576 < n ∧ badN bad n = false) := by
    unfold badN
    cases bad with
    | true => exact .inl ⟨rfl, rfl⟩
    | false =>
      by_cases h1 : n < 0
      · exact .inr (.inl ⟨rfl, h1, by simp [h1]⟩)
      · by_cases h2 : 1048576 < n
        · exact .inr (.inr (.inl ⟨rfl, h1, h2, by simp [h2]⟩))
        · exact .inr (.inr (.inr ⟨rfl, h1, h2, by simp [h1, h2]⟩))
  rcases four with ⟨rfl, hx⟩ | ⟨rfl, h1, hx⟩ | ⟨rfl, h1, h2, hx⟩ | ⟨rfl, h1, h2, hx⟩
  all_goals
    rw [hx] at KEY
    try (have d1 := decide_eq_true h1)
    try (have d1 := decide_eq_false h1)
    try (have d2 := decide_eq_true h2)
    try (have d2 := decide_eq_false h2)
    try (have e1 : ¬ (1048576 : Int) < n := by omega)
    have hadd : ∀ W : World, (Op.stringOp .add (⟨#[32]⟩ : ByteArray) (⟨(Lib.itoa n).toArray⟩ : ByteArray)).run Tryd.prog W = .ok (.string ⟨(32 :: Lib.itoa n).toArray⟩) W := fun W => by
      rw [run_string_add_sum W _ _ (by have := HL.out; simp [numB, ByteArray.size] at this ⊢; omega), str_cat]
    have HX := Aside0.mk hx
    clear hx
    go_enter Tryd.func26, Tryd.ntmps26
    go_upto_region 1 with (fail)
    obtain ⟨w1, hw1, T1, B1, U1⟩ := KEY.out
    rw [← hw1]
    clear hw1 z0 f0
    go_region_held2 (fun _ => True) (trivial)
      (first
        | (go_at_call 47; refine (NumA.text_calls n HN.out.1 HN.out.2 _ (NumA.Tab.below HT.out (below_drew B1.out)).out).mono ?_; rintro e' w2 ⟨rfl, hb⟩; have T2 := Aside0.mk (T1.out.below (below_undrew hb)); have B2 := Aside0.mk (below_step B1.out (below_undrew hb)); have U2 := Aside0.mk (U1.out.trans (KeepU.of_below (below_undrew hb) b)); clear hb)
        | (go_at_call 24; refine (write_calls w0.heap.size b out _ ⟨(32 :: Lib.itoa n).toArray⟩ _ T2.out (by have := HL.out; simpa [numB, ByteArray.size] using this) B2.out.size).mono ?_; rintro e' w3 ⟨rfl, ht, hb3, hu⟩; have T3 := Aside0.mk ht; have B3 := Aside0.mk (below_weak B2.out hb3); have U3 := Aside0.mk (U2.out.trans hu); clear ht hb3 hu))
    go_wp2
    first | go_end0 | ((try simp only [Exit.inBlock, Exit.then]); refine bodyPost_ret (results_none rfl _ _ _) rfl ?_)
    refine ⟨rfl, ?_, B3.out, U3.out⟩
    rw [HX.out]
    exact T3.out
end Go.Proofs.YtegbfimfpkendaaDoor.PaP
