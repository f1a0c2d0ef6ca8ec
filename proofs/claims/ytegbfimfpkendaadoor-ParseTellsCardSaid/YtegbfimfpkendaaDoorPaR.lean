/- The walk of (*text).op: its loop over the forms. Conditions: the tables forms, answers and uint64pow10 are laid. -/
import Derived.Test.YtegbfimfpkendaaDoorMg23
import Derived.Laws.Rows
import Derived.Test.YtegbfimfpkendaaDoorBb
namespace Go.Proofs.YtegbfimfpkendaaDoor.PaR
open Go.RowKit Go.Proofs.YtegbfimfpkendaaDoorW.PrintWords Go.Proofs.YtegbfimfpkendaaDoorW.PrintLast Go.Proofs.YtegbfimfpkendaaDoorW.PrintMore LexS LexB PaA LexBox PaC PaD PaB PaE PaF PaG PaH PaO PaP PaQ
set_option linter.unusedVariables false
set_option linter.unusedSimpArgs false
theorem eqA46 (d : Nat) (w : World) (x0 y0 : Int) (x1 y1 : Int) (x2 y2 : Int) (x3 y3 : Int) (x4 y4 : Int) :
    (Op.equalIn (d + 2) 46 (.agg #[.int .i64 x0, .int .i64 x1, .int .i64 x2, .int .i64 x3, .int .i64 x4]) (.agg #[.int .i64 y0, .int .i64 y1, .int .i64 y2, .int .i64 y3, .int .i64 y4])).run Tryd.prog w = .ok (x0 == y0 && (x1 == y1 && (x2 == y2 && (x3 == y3 && (x4 == y4))))) w := by
  refine eqA_of Tryd.underlying46 (by kernel_rfl) ?_
  refine eqf_cons (by rfl) (by go_simp; rfl) (by go_simp; rfl) (by go_simp) ?_
  refine eqf_cons (by rfl) (by go_simp; rfl) (by go_simp; rfl) (by go_simp) ?_
  refine eqf_cons (by rfl) (by go_simp; rfl) (by go_simp; rfl) (by go_simp) ?_
  refine eqf_cons (by rfl) (by go_simp; rfl) (by go_simp; rfl) (by go_simp) ?_
  exact eqf_last (by rfl) (by go_simp; rfl) (by go_simp; rfl) (by go_simp)
theorem zeros_iff (l0 l1 l2 l3 l4 : Int) : (l0 == 0 && (l1 == 0 && (l2 == 0 && (l3 == 0 && (l4 == 0))))) = decide ([l0, l1, l2, l3, l4] = [0, 0, 0, 0, 0]) := by
  rw [Bool.eq_iff_iff]
  simp
theorem lastB_cases (k c : Int) (sbad sknown : Bool) (out : List UInt8) (l : List Int) : (sbad = true ∧ lastB k c ⟨out, sbad, l, sknown⟩ = true) ∨ (sbad = false ∧ sknown = false ∧ lastB k c ⟨out, sbad, l, sknown⟩ = true) ∨ (sbad = false ∧ sknown = true ∧ ¬ l = [0, 0, 0, 0, 0] ∧ lastB k c ⟨out, sbad, l, sknown⟩ = true) ∨ (sbad = false ∧ sknown = true ∧ l = [0, 0, 0, 0, 0] ∧ k = 5 ∧ c = 0 ∧ lastB k c ⟨out, sbad, l, sknown⟩ = true) ∨ (sbad = false ∧ sknown = true ∧ l = [0, 0, 0, 0, 0] ∧ k = 5 ∧ ¬ c = 0 ∧ lastB k c ⟨out, sbad, l, sknown⟩ = false) ∨ (sbad = false ∧ sknown = true ∧ l = [0, 0, 0, 0, 0] ∧ ¬ k = 5 ∧ lastB k c ⟨out, sbad, l, sknown⟩ = false) := by
  unfold lastB
  cases sbad
  · cases sknown
    · exact .inr (.inl ⟨rfl, rfl, by simp⟩)
    · by_cases hl : l = [0, 0, 0, 0, 0]
      · by_cases hk : k = 5
        · by_cases hc : c = 0
          · exact .inr (.inr (.inr (.inl ⟨rfl, rfl, hl, hk, hc, by simp [hk, hc]⟩)))
          · exact .inr (.inr (.inr (.inr (.inl ⟨rfl, rfl, hl, hk, hc, by simp [hl, hc]⟩))))
        · exact .inr (.inr (.inr (.inr (.inr ⟨rfl, rfl, hl, hk, by simp [hl, hk]⟩))))
      · exact .inr (.inr (.inl ⟨rfl, rfl, hl, by simp [hl]⟩))
  · exact .inl ⟨rfl, by simp⟩
theorem answers_known (k c d : Int) : ∀ (l : List Fm) (s : TS), (l.foldl (ansW k c d) s).known = s.known
  | [], _ => rfl
  | a :: l, s => by
    rw [List.foldl_cons, answers_known k c d l]
    unfold ansW
    (repeat' split) <;> rfl
theorem info105 : (Tryd.prog.info? 105).map (·.size) = some formsA.size := by kernel_rfl
theorem info116 : (Tryd.prog.info? 116).map (·.size) = some answersA.size := by kernel_rfl
theorem form_open (k : Nat) (hk : k < 6) : ∃ (fop : ByteArray) (fkd : Int) (n : Nat), getFm formsT k = ⟨fop, fkd, n⟩ ∧ fop.size ≤ 20 ∧ n ≤ 3 := by
  obtain ⟨h1, n, h2, h3⟩ := form_ok k hk
  exact ⟨(getFm formsT k).op, (getFm formsT k).kind, n, by rw [← h2], h1, h3⟩
theorem five {vs : List Int} (h : vs.length = 5) : ∃ a b c d e : Int, vs = [a, b, c, d, e] := by
  match vs, h with
  | [a, b, c, d, e], _ => exact ⟨a, b, c, d, e, rfl⟩
theorem nums_step {n j : Nat} {s6 s : TS} (h : numsW n 0 s6 = numsW (n - j) j s) (hj : j < n) : numsW n 0 s6 = numsW (n - (j + 1)) (j + 1) (numW1 j s) := by
  rw [h, show n - j = (n - (j + 1)) + 1 from by omega, numsW]
theorem size_cons32 (s : ByteArray) : (⟨(32 :: s.data.toList).toArray⟩ : ByteArray).size = s.size + 1 := by
  show (32 :: s.data.toList).toArray.size = _
  rw [List.size_toArray, List.length_cons, Array.length_toList]
  rfl
set_option maxHeartbeats 2000000 in
set_option maxRecDepth 100000 in
theorem op_t (w0 w : World) (b : Nat) (out : List UInt8) (bad : Bool) (ok oa ob oc od : Int) (h : TextAt w0.heap.size b out bad w) (hb : Below w0.heap.size w0 w) (hT : NumA.Tab w0) (hM : Blocks w0) (hI : inI ok ∧ inI oa ∧ inI ob ∧ inI oc ∧ inI od) (hlen : out.length + 2000 ≤ 140737488355328) :
    Calls Tryd.prog 27 #[.pointer (some ⟨b, 0, none⟩), .agg #[.int .i64 ok, .int .i64 oa, .int .i64 ob, .int .i64 oc, .int .i64 od]] w (WPost w0 b ((answersW ok oa ob oc od out bad).out ++ [10]) (lastB ok oc (answersW ok oa ob oc od out bad)) w) := by
  have H := Aside0.mk h
  have HB := Aside0.mk hb
  have HT := Aside0.mk hT
  have HM := Aside0.mk hM
  have HI := Aside0.mk hI
  have HL := Aside0.mk hlen
  have HTO : Aside0 (TOk (⟨out, bad, [ok, oa, ob, oc, od], false⟩ : TS) out.length) := ⟨⟨Nat.le_refl _, rfl, fun j => by
    match j with
    | 0 => exact hI.1
    | 1 => exact hI.2.1
    | 2 => exact hI.2.2.1
    | 3 => exact hI.2.2.2.1
    | 4 => exact hI.2.2.2.2
    | j + 5 => exact inI_zero⟩⟩
  clear h hb hT hM hI hlen
  go_enter Tryd.func27, Tryd.ntmps27
  go_upto_region 1 with (first
    | ((with_reducible refine gate_dst (N := 3) rfl ?_); (try (refine gate_guard (by rfl) ?_; dsimp only)); refine box_event ?hg (N := 3) ?hd (cs := #[.int .i64 ok, .int .i64 oa, .int .i64 ob, .int .i64 oc, .int .i64 od]) (t := 46) ?hr ?_; (case hd => rfl); (case hg => rfl); (case hr => first | (go_simp; done) | (go_simp; rfl)); intro bo hg w1 hbox hb; have OX := Aside0.mk hbox; have OB := Aside0.mk hb; have OG := Aside0.mk (Nat.le_of_eq hg.symm); clear hbox hb hg))
  obtain ⟨q0, q1, q2, q3, q4, -, -, -, -, -⟩ := cells5 OX.out
  go_upto_region 2 with (first
    | ((with_reducible refine gate_dst (N := 4) rfl ?_); (try (refine gate_guard (by rfl) ?_; dsimp only)); refine box_event ?hg (N := 4) ?hd (cs := #[.int .i64 0, .int .i64 0, .int .i64 0, .int .i64 0, .int .i64 0]) (t := 46) ?hr ?_; (case hd => rfl); (case hg => rfl); (case hr => first | (go_simp; done) | (go_simp; rfl)); intro lo hg w2 hbox hb; have LX := Aside0.mk hbox; have LB := Aside0.mk hb; have LG := Aside0.mk (Nat.le_of_eq hg.symm); have OX2 := Aside0.mk (blk_below OX.out hb); obtain ⟨q0, q1, q2, q3, q4, -, -, -, -, -⟩ := cells5 OX2.out; obtain ⟨l0, l1, l2, l3, l4, g0, g1, g2, g3, g4⟩ := cells5 hbox; clear hbox hb hg))
  have hgl := LG.out
  have hol : bo < w1.heap.size := blk_lt OX.out
  obtain ⟨w3, hw3, hO⟩ : ∃ W, W = ((((w2.setCell ⟨lo, 0, none⟩ (.int .i64 ok)).setCell ⟨lo, 1, none⟩ (.int .i64 oa)).setCell ⟨lo, 2, none⟩ (.int .i64 ob)).setCell ⟨lo, 3, none⟩ (.int .i64 oc)).setCell ⟨lo, 4, none⟩ (.int .i64 od) ∧ OSt w0 w b bo lo [ok, oa, ob, oc, od] (⟨out, bad, [ok, oa, ob, oc, od], false⟩ : TS) W := by
    have hw0 := HB.out.size
    have hbl := TextAt.lt H.out
    have hob := OB.out.size
    have hog := OG.out
    have hB2 := below_step OB.out LB.out
    refine ⟨_, rfl, ?_, ?_, ?_, rfl, set5 _ _ _ _ _ LX.out, farB5 _ _ _ _ _ OX2.out (by omega), by omega, by omega, by omega, by omega, by omega, by omega⟩
    · have h1 := H.out.below hB2
      have hne : lo ≠ b := by omega
      have f1 := h1.far (j := 0) hne ⟨_, _, LX.out, by decide⟩ (.int .i64 ok)
      have f2 := f1.far (j := 1) hne ⟨_, _, blk_put LX.out 0 (.int .i64 ok) rfl, by decide⟩ (.int .i64 oa)
      have f3 := f2.far (j := 2) hne ⟨_, _, blk_put (blk_put LX.out 0 (.int .i64 ok) rfl) 1 (.int .i64 oa) rfl, by decide⟩ (.int .i64 ob)
      have f4 := f3.far (j := 3) hne ⟨_, _, blk_put (blk_put (blk_put LX.out 0 (.int .i64 ok) rfl) 1 (.int .i64 oa) rfl) 2 (.int .i64 ob) rfl, by decide⟩ (.int .i64 oc)
      exact f4.far (j := 4) hne ⟨_, _, blk_put (blk_put (blk_put (blk_put LX.out 0 (.int .i64 ok) rfl) 1 (.int .i64 oa) rfl) 2 (.int .i64 ob) rfl) 3 (.int .i64 oc) rfl, by decide⟩ (.int .i64 od)
    · exact (((((below_step HB.out hB2).setCell (p := ⟨lo, 0, none⟩) (by show w0.heap.size ≤ lo; omega) _).setCell (p := ⟨lo, 1, none⟩) (by show w0.heap.size ≤ lo; omega) _).setCell (p := ⟨lo, 2, none⟩) (by show w0.heap.size ≤ lo; omega) _).setCell (p := ⟨lo, 3, none⟩) (by show w0.heap.size ≤ lo; omega) _).setCell (p := ⟨lo, 4, none⟩) (by show w0.heap.size ≤ lo; omega) _
    · have hl : w.heap.size ≤ lo := by omega
      exact KeepU.far (KeepU.far (KeepU.far (KeepU.far (KeepU.far (KeepU.of_below hB2 b) hl _) hl _) hl _) hl _) hl _
  rw [← hw3]
  have OS := Aside0.mk hO
  have MB := Aside0.mk (HM.out.below hO.below)
  obtain ⟨⟨ft, ffr, hft⟩, -⟩ := HM.out.below hO.below
  have HFT := Aside0.mk hft
  clear hw3 hO q0 q1 q2 q3 q4 l0 l1 l2 l3 l4 g0 g1 g2 g3 g4 hgl hol hft
  go_upto_region 3 with (first | ((with_reducible refine gate_dst (N := 13) rfl ?_); refine wpList_load_row rfl 105 (.global 1) rfl 1 rfl ft formsA ffr _ HFT.out Tryd.underlying105 rfl info105 ?_))
  go_loopg [5, 14] 6 (fun gg s5 s14 wr => ∃ kk : Nat, kk ≤ 6 ∧ 6 - kk ≤ gg ∧ s14 = .int .i64 kk ∧ s5 = .bool ((formsT.take kk).foldl (formW ok) (⟨out, bad, [ok, oa, ob, oc, od], false⟩ : TS)).known ∧ Aside0 (OSt w0 w b bo lo [ok, oa, ob, oc, od] ((formsT.take kk).foldl (formW ok) (⟨out, bad, [ok, oa, ob, oc, od], false⟩ : TS)) wr))
  case atStart => exact ⟨0, by omega, by omega, rfl, rfl, OS⟩
  case round =>
    obtain ⟨kk, hkk, hg, rfl, rfl, RS⟩ := hrel
    obtain ⟨s, hs⟩ : ∃ s, s = ((formsT.take kk).foldl (formW ok) (⟨out, bad, [ok, oa, ob, oc, od], false⟩ : TS)) := ⟨_, rfl⟩
    rw [← hs] at RS
    rw [← hs]
    have HS := Aside0.mk hs
    have TS0 : Aside0 (TOk s (out.length + 100 * kk)) := ⟨by rw [hs]; exact TOk.formsT HTO.out ok kk hkk⟩
    clear hs
    by_cases hlt : kk < 6
    · have hltz : (kk : Int) < 6 := by omega
      have hk0 : (0 : Int) ≤ (kk : Int) := by omega
      obtain ⟨fop, fkd, n, hff, hfo, hfn⟩ := form_open kk hlt
      have hidx : ∀ W : World, (Instr.index 105 (.agg formsA) (.int .i64 kk)).run Tryd.prog W = .ok (.agg #[.string fop, .int .i64 fkd, .int .i64 (n : Int)]) W := fun W => by
        have := form_at kk hlt W
        rw [hff] at this
        exact this
      have HFF := Aside0.mk hff
      have HFO := Aside0.mk hfo
      have HFN := Aside0.mk hfn
      have p1 := eq_true hk0
      have q1 := eq_true hltz
      have Hlt := Aside0.mk hlt
      have Hg := Aside0.mk hg
      have hnx : ((formsT.take (kk + 1)).foldl (formW ok) (⟨out, bad, [ok, oa, ob, oc, od], false⟩ : TS)) = formW ok s ⟨fop, fkd, n⟩ := by
        rw [fold_snoc _ _ _ _ _ (by simp [formsT]; omega) (getFm_at formsT kk (by simp [formsT]; omega)), HS.out, hff]
      have HNX := Aside0.mk hnx
      clear hk0 hltz hlt hg hkk hff hfo hfn hnx
      go_upto_region 5 with (first | ((with_reducible refine gate_dst (N := 7) rfl ?_); (try (refine gate_guard (by rfl) ?_; dsimp only)); refine box_event ?hg (N := 7) ?hd (cs := #[.string ⟨#[]⟩, .int .i64 0, .int .i64 0]) (t := 102) ?hr ?_; (case hd => rfl); (case hg => rfl); (case hr => first | (go_simp; done) | (go_simp; rfl)); intro fb hg wy hbox hb; have BX := Aside0.mk hbox; have BB := Aside0.mk hb; have BG := Aside0.mk (Nat.le_of_eq hg.symm); obtain ⟨z0, z1, z2, y0, y1, y2⟩ := cells3 hbox; clear hbox hb hg))
      obtain ⟨w4, hw4, hX, hW⟩ := set3 (.string fop) (.int .i64 fkd) (.int .i64 (n : Int)) BX.out BB.out BG.out
      rw [← hw4]
      have FX := Aside0.mk hX
      have OS4 := Aside0.mk (RS.out.step hW)
      have NFB := Aside0.mk (show fb ≠ b ∧ fb ≠ lo ∧ fb ≠ bo by have := TextAt.lt RS.out.text; have := blk_lt RS.out.left; have := blk_lt RS.out.obox; have := BG.out; omega)
      clear hw4 hX hW z0 z1 z2 y0 y1 y2
      obtain ⟨x0, x1, x2, -, -, -⟩ := cells3 FX.out
      have o0 : w4.cell? ⟨bo, 0, none⟩ = some (.int .i64 ok) := (blk_cell OS4.out.obox 0).trans rfl
      by_cases hk : fkd = ok
      · have hkb : (fkd != ok) = false := by simp [hk]
        have HK := Aside0.mk hk
        clear hk
        go_upto_region 6 with (fail)
        go_region_held2 (fun W => W.cell? ⟨fb, 0, none⟩ = some (.string fop)) (first | assumption | exact x0)
          (first
            | (go_at_call 24; refine (write_calls w0.heap.size b s.out s.bad fop _ (OS4.out.step (below_drew (Below.refl _ _))).text (by have := HL.out; have := TS0.out.len; have := HFO.out; have := Hlt.out; omega) (OS4.out.step (below_drew (Below.refl _ _))).below.size).mono ?_; rintro e' w5 ⟨rfl, ht, hb3, hu⟩; have OS5 := Aside0.mk ((OS4.out.step (below_drew (Below.refl _ _))).wrote ht (below_weak (OS4.out.step (below_drew (Below.refl _ _))).below hb3) hu); have FX5 := Aside0.mk (hu.block _ _ _ NFB.out.1 (by decide) (blk_drew FX.out)); clear ht hb3 hu; have x5 : w5.cell? ⟨fb, 0, none⟩ = some (.string fop) := (cells3 FX5.out).1))
        clear x5 x0 x1 x2 o0
        obtain ⟨-, -, x2, -, -, -⟩ := cells3 FX5.out
        have hn3z : (n : Int) ≤ 3 := by have := HFN.out; omega
        have hn0z : (0 : Int) ≤ (n : Int) := by omega
        go_upto_region 8 with (first | ((with_reducible refine gate_dst (N := 31) rfl ?_); (try (refine gate_guard (by rfl) ?_; dsimp only)); refine slice_event ?hg (N := 31) ?hd (cs := #[.pointer (some ⟨lo, 1, none⟩), .pointer (some ⟨lo, 2, none⟩), .pointer (some ⟨lo, 3, none⟩)]) (t := 79) (n := 3) ?hr ?_; (case hd => rfl); (case hg => rfl); (case hr => first | (go_simp; done) | (go_simp; rfl)); intro bs hg w6 hbox hb; have SX := Aside0.mk hbox; have SB := Aside0.mk hb; have SG := Aside0.mk (Nat.le_of_eq hg.symm); have FX6 := Aside0.mk (blk_below FX5.out hb); obtain ⟨-, -, x2, -, -, -⟩ := cells3 FX6.out; clear hbox hb hg))
        have OS6 := Aside0.mk (OS5.out.step SB.out)
        have NBS := Aside0.mk (show bs ≠ b ∧ bs ≠ lo ∧ bs ≠ bo by have := TextAt.lt OS5.out.text; have := blk_lt OS5.out.left; have := blk_lt OS5.out.obox; have := SG.out; omega)
        clear hn3z hn0z x2
        obtain ⟨s6, hs6⟩ : ∃ s6 : TS, s6 = { s with out := s.out ++ fop.data.toList } := ⟨_, rfl⟩
        have OS6' : Aside0 (OSt w0 w b bo lo [ok, oa, ob, oc, od] s6 w6) := ⟨by rw [hs6]; exact OS6.out⟩
        have TS6 : Aside0 (TOk s6 (out.length + 700)) := ⟨by
          rw [hs6]
          have h1 := TS0.out
          have h2 := HFO.out
          have h3 := Hlt.out
          refine ⟨?_, h1.five, h1.ints⟩
          have h4 := h1.len
          have h5 : fop.data.toList.length ≤ 20 := by rw [Array.length_toList]; exact h2
          simp only [List.length_append]
          omega⟩
        have HS6 := Aside0.mk hs6
        clear hs6
        go_loopg [36] n (fun gg s36 wr => ∃ (j : Nat) (s : TS), j ≤ n ∧ n - j ≤ gg ∧ s36 = .int .i64 j ∧ Aside0 (OSt w0 w b bo lo [ok, oa, ob, oc, od] s wr) ∧ Aside0 (wr.heap[bs]? = some (.cells #[.pointer (some ⟨lo, 1, none⟩), .pointer (some ⟨lo, 2, none⟩), .pointer (some ⟨lo, 3, none⟩)] 79 (0, 0))) ∧ Aside0 (numsW n 0 s6 = numsW (n - j) j s) ∧ Aside0 (TOk s (out.length + 700 + 22 * j)))
        case atStart => exact ⟨0, s6, by omega, by omega, rfl, OS6', SX, ⟨rfl⟩, ⟨by simpa using TS6.out⟩⟩
        case round =>
          obtain ⟨j, s7, hj, hg, rfl, JS, JB, A1, TJ⟩ := hrel
          by_cases hlt : j < n
          · have hltz : (j : Int) < (n : Int) := by omega
            have hk0 : (0 : Int) ≤ (j : Int) := by omega
            have hj3 : j < 3 := by have := HFN.out; omega
            have hcp : wr.cell? ⟨bs, j, none⟩ = some (.pointer (some ⟨lo, j + 1, none⟩)) := bs_cell JB.out hj3
            have hcv : wr.cell? ⟨lo, j + 1, none⟩ = some (.int .i64 (s7.left.getD (j + 1) 0)) := ints_cell JS.out.left (by rw [JS.out.five]; omega)
            have p3 := eq_true hk0
            have q3 := eq_true hltz
            have HltJ := Aside0.mk hlt
            have HgJ := Aside0.mk hg
            have HJ3 := Aside0.mk hj3
            clear hk0 hltz hlt hg hj hj3
            go_wp2_with (first
              | (go_at_call 26; refine (number_t w0 wr b s7.out s7.bad (s7.left.getD (j + 1) 0) JS.out.text JS.out.below HT.out (TJ.out.ints (j + 1)) (by have h1 := TJ.out.len; have h2 := numB_len (TJ.out.ints (j + 1)); have h3 := HL.out; have h4 := HJ3.out; rw [List.length_append]; omega)).mono ?_; rintro e' w8 ⟨rfl, ht, hb8, hu⟩; have JS8 := Aside0.mk (JS.out.wrote ht hb8 hu); have JB8 := Aside0.mk (hu.block _ _ _ NBS.out.1 (by decide) JB.out); clear ht hb8 hu hcp hcv; have hcz : w8.cell? ⟨lo, j + 1, none⟩ = some (.int .i64 (s7.left.getD (j + 1) 0)) := ints_cell JS8.out.left (by rw [JS8.out.five]; have := HJ3.out; omega); have hfz : w8.frozen? ⟨lo, j + 1, none⟩ = false := blk_frozen JS8.out.left (j + 1)))
            go_roundg (n - (j + 1))
            case measure => have := HltJ.out; have := HgJ.out; omega
            case rel =>
              have hlt := HltJ.out
              have e : wrap64 ((j : Int) + 1) = ((j + 1 : Nat) : Int) := by have := HJ3.out; unfold wrap64; omega
              exact ⟨j + 1, numW1 j s7, by omega, by omega, by first | (rw [e]) | (simp [e]), ⟨JS8.out.put (j + 1) 0⟩, ⟨blk_far JB8.out (by simp; exact NBS.out.2.1) _⟩, ⟨nums_step A1.out hlt⟩, ⟨by have := TJ.out.num1 j; rw [show out.length + 700 + 22 * (j + 1) = out.length + 700 + 22 * j + 22 from by omega]; exact this⟩⟩
          · have hltz : ¬ (j : Int) < (n : Int) := by omega
            obtain rfl : j = n := by omega
            have hfin : numsW j 0 s6 = s7 := by rw [A1.out, Nat.sub_self]; rfl
            have HFIN := Aside0.mk hfin
            clear hg hj hlt hfin
            have hcv : wr.cell? ⟨lo, 0, none⟩ = some (.int .i64 (s7.left.getD 0 0)) := ints_cell JS.out.left (by rw [JS.out.five]; omega)
            have hfv : wr.frozen? ⟨lo, 0, none⟩ = false := blk_frozen JS.out.left 0
            go_wp2
            go_roundg (6 - (kk + 1))
            case measure => have := Hlt.out; have := Hg.out; omega
            case rel =>
              have hlt := Hlt.out
              have e : wrap64 ((kk : Int) + 1) = ((kk + 1 : Nat) : Int) := by unfold wrap64; omega
              have hst : ((formsT.take (kk + 1)).foldl (formW ok) (⟨out, bad, [ok, oa, ob, oc, od], false⟩ : TS)) = { s7 with left := s7.left.set 0 0, known := true } := by
                rw [HNX.out]
                unfold formW
                simp only [if_pos HK.out, Int.toNat_natCast, ← HS6.out, HFIN.out]
              exact ⟨kk + 1, by omega, by omega, by first | (rw [e]) | (simp [e]), by rw [hst], by rw [hst]; exact ⟨(JS.out.put 0 0).known true⟩⟩
      · have hkb : (fkd != ok) = true := by simpa using hk
        have HK := Aside0.mk hk
        clear hk
        go_wp2
        go_roundg (6 - (kk + 1))
        case measure => have := Hlt.out; have := Hg.out; omega
        case rel =>
          have hlt := Hlt.out
          have e : wrap64 ((kk : Int) + 1) = ((kk + 1 : Nat) : Int) := by unfold wrap64; omega
          have hst : ((formsT.take (kk + 1)).foldl (formW ok) (⟨out, bad, [ok, oa, ob, oc, od], false⟩ : TS)) = s := by rw [HNX.out]; unfold formW; exact if_neg HK.out
          exact ⟨kk + 1, by omega, by omega, by first | (rw [e]) | (simp [e]), by rw [hst], by rw [hst]; exact OS4⟩
    · have hltz : ¬ (kk : Int) < 6 := by omega
      obtain rfl : kk = 6 := by omega
      have hfin : formsW ok oa ob oc od out bad = s := HS.out.symm
      have HFW := Aside0.mk hfin
      clear hg hkk hlt hfin
      obtain ⟨-, ⟨at_, afr, hat⟩⟩ := HM.out.below RS.out.below
      have HAT := Aside0.mk hat
      clear hat
      go_upto_region 16 with (first | ((with_reducible refine gate_dst (N := 50) rfl ?_); refine wpList_load_row rfl 116 (.global 2) rfl 2 rfl at_ answersA afr _ HAT.out Tryd.underlying116 rfl info116 ?_))
      go_loopg [51] 3 (fun gg s51 wr => ∃ j : Nat, j ≤ 3 ∧ 3 - j ≤ gg ∧ s51 = .int .i64 j ∧ Aside0 (OSt w0 w b bo lo [ok, oa, ob, oc, od] ((answersT.take j).foldl (ansW ok oc od) s) wr))
      case atStart => exact ⟨0, by omega, by omega, rfl, RS⟩
      case round =>
        obtain ⟨j, hj, hg, rfl, JS0⟩ := hrel
        obtain ⟨s8, hs8⟩ : ∃ s8, s8 = ((answersT.take j).foldl (ansW ok oc od) s) := ⟨_, rfl⟩
        rw [← hs8] at JS0
        have JS := Aside0.mk JS0.out
        have HS8 := Aside0.mk hs8
        have TS8 : Aside0 (TOk s8 (out.length + 600 + 100 * j)) := ⟨by rw [hs8]; exact TOk.answersT TS0.out ok oc od HI.out.2.2.2.2 j hj⟩
        clear hs8 JS0
        by_cases hlt : j < 3
        · have hltz : (j : Int) < 3 := by omega
          have hk0 : (0 : Int) ≤ (j : Int) := by omega
          obtain ⟨aop, akd, an, hff⟩ : ∃ aop akd an, getFm answersT j = ⟨aop, akd, an⟩ := ⟨_, _, _, rfl⟩
          have hidx : ∀ W : World, (Instr.index 116 (.agg answersA) (.int .i64 j)).run Tryd.prog W = .ok (.agg #[.string aop, .int .i64 akd, .int .i64 an]) W := fun W => by
            have := answer_at j hlt W
            rw [hff] at this
            exact this
          have hao : aop.size ≤ 20 := by have := answer_ok j hlt; rw [hff] at this; exact this
          have HAO := Aside0.mk hao
          have p1 := eq_true hk0
          have q1 := eq_true hltz
          have HltJ := Aside0.mk hlt
          have HgJ := Aside0.mk hg
          have hnx : ((answersT.take (j + 1)).foldl (ansW ok oc od) s) = ansW ok oc od s8 ⟨aop, akd, an⟩ := by
            rw [fold_snoc _ _ _ _ _ (by simp [answersT]; omega) (getFm_at answersT j (by simp [answersT]; omega)), HS8.out, hff]
          have HNX := Aside0.mk hnx
          clear hk0 hltz hlt hg hj hff hao hnx
          go_upto_region 18 with (first | ((with_reducible refine gate_dst (N := 11) rfl ?_); (try (refine gate_guard (by rfl) ?_; dsimp only)); refine box_event ?hg (N := 11) ?hd (cs := #[.string ⟨#[]⟩, .int .i64 0, .int .i64 0]) (t := 102) ?hr ?_; (case hd => rfl); (case hg => rfl); (case hr => first | (go_simp; done) | (go_simp; rfl)); intro fb hg wy hbox hb; have BX := Aside0.mk hbox; have BB := Aside0.mk hb; have BG := Aside0.mk (Nat.le_of_eq hg.symm); obtain ⟨z0, z1, z2, y0, y1, y2⟩ := cells3 hbox; clear hbox hb hg))
          obtain ⟨w4, hw4, hX, hW⟩ := set3 (.string aop) (.int .i64 akd) (.int .i64 an) BX.out BB.out BG.out
          rw [← hw4]
          have FX := Aside0.mk hX
          have OS4 := Aside0.mk (JS.out.step hW)
          have NFB := Aside0.mk (show fb ≠ b ∧ fb ≠ lo ∧ fb ≠ bo by have := TextAt.lt JS.out.text; have := blk_lt JS.out.left; have := blk_lt JS.out.obox; have := BG.out; omega)
          clear hw4 hX hW z0 z1 z2 y0 y1 y2
          obtain ⟨x0, x1, x2, -, -, -⟩ := cells3 FX.out
          have o0 : w4.cell? ⟨bo, 0, none⟩ = some (.int .i64 ok) := (blk_cell OS4.out.obox 0).trans rfl
          have o3 : w4.cell? ⟨bo, 3, none⟩ = some (.int .i64 oc) := (blk_cell OS4.out.obox 3).trans rfl
          have skip : ∀ (hst : ((answersT.take (j + 1)).foldl (ansW ok oc od) s) = s8), True := fun _ => trivial
          clear skip
          by_cases hk : ok = 5
          · have hkb : (ok == 5) = true := beq_iff_eq.2 hk
            have HK := Aside0.mk hk
            clear hk
            by_cases ha : akd = oc
            · have hab : (akd == oc) = true := beq_iff_eq.2 ha
              have HA := Aside0.mk ha
              clear ha
              have hadd : ∀ W : World, (Op.stringOp .add (⟨#[32]⟩ : ByteArray) aop).run Tryd.prog W = .ok (.string ⟨(32 :: aop.data.toList).toArray⟩) W := fun W => by
                rw [run_string_add_sum W _ _ (by have h9 := HAO.out; have h8 : (⟨#[32]⟩ : ByteArray).size = 1 := rfl; omega), show (⟨#[32]⟩ : ByteArray) ++ aop = ⟨(32 :: aop.data.toList).toArray⟩ from by apply ByteArray.ext; simp]
              go_upto_region 19 with (fail)
              go_region_held2 (fun W => W.cell? ⟨fb, 0, none⟩ = some (.string aop)) (first | assumption | exact x0)
                (first
                  | (go_at_call 24; refine (write_calls w0.heap.size b s8.out s8.bad ⟨(32 :: aop.data.toList).toArray⟩ _ (OS4.out.step (below_drew (Below.refl _ _))).text (by have := HL.out; have := TS8.out.len; have h9 := HAO.out; have := HltJ.out; rw [size_cons32]; omega) (OS4.out.step (below_drew (Below.refl _ _))).below.size).mono ?_; rintro e' w5 ⟨rfl, ht, hb3, hu⟩; have OS5 := Aside0.mk ((OS4.out.step (below_drew (Below.refl _ _))).wrote ht (below_weak (OS4.out.step (below_drew (Below.refl _ _))).below hb3) hu); have FX5 := Aside0.mk (hu.block _ _ _ NFB.out.1 (by decide) (blk_drew FX.out)); clear ht hb3 hu; have x5 : w5.cell? ⟨fb, 0, none⟩ = some (.string aop) := (cells3 FX5.out).1))
              clear x5 x0 x1 x2 o0 o3 hadd
              have l3 : w5.cell? ⟨lo, 3, none⟩ = some (.int .i64 (s8.left.getD 3 0)) := ints_cell OS5.out.left (by rw [OS5.out.five]; omega)
              have g3 : w5.frozen? ⟨lo, 3, none⟩ = false := blk_frozen OS5.out.left 3
              go_upto_region 21 with (fail)
              obtain ⟨w6, hw6, hO6, hF6⟩ : ∃ W, W = w5.setCell ⟨lo, 3, none⟩ (.int .i64 0) ∧ OSt w0 w b bo lo [ok, oa, ob, oc, od] { s8 with out := s8.out ++ (32 :: aop.data.toList), left := s8.left.set 3 0 } W ∧ W.heap[fb]? = some (.cells #[.string aop, .int .i64 akd, .int .i64 an] 102 (0, 0)) := ⟨_, rfl, OS5.out.put 3 0, blk_far (p := ⟨lo, 3, none⟩) FX5.out NFB.out.2.1 (.int .i64 0)⟩
              rw [← hw6]
              have OS6 := Aside0.mk hO6
              have FX6 := Aside0.mk hF6
              clear hw6 hO6 hF6 l3 g3
              obtain ⟨-, -, x2, -, -, -⟩ := cells3 FX6.out
              have d4 : w6.cell? ⟨bo, 4, none⟩ = some (.int .i64 od) := (blk_cell OS6.out.obox 4).trans rfl
              by_cases hx : 0 < an
              · have HX := Aside0.mk hx
                have hxz : ¬ an ≤ 0 := by omega
                clear hx
                go_wp2_with (first
                  | (go_at_call 26; refine (number_t w0 w6 b _ _ od OS6.out.text OS6.out.below HT.out HI.out.2.2.2.2 (by have h1 := TS8.out.len; have h2 := numB_len HI.out.2.2.2.2; have h3 := HL.out; have h4 := HltJ.out; have h5 := HAO.out; have h6 : aop.data.toList.length = aop.size := Array.length_toList; simp only [List.length_append, List.length_cons]; omega)).mono ?_; rintro e' w8 ⟨rfl, ht, hb8, hu⟩; have OS8 := Aside0.mk (OS6.out.wrote ht hb8 hu); clear ht hb8 hu d4 x2; have hcz : w8.cell? ⟨lo, 4, none⟩ = some (.int .i64 ((s8.left.set 3 0).getD 4 0)) := ints_cell OS8.out.left (by rw [OS8.out.five]; omega); have hfz : w8.frozen? ⟨lo, 4, none⟩ = false := blk_frozen OS8.out.left 4))
                go_roundg (3 - (j + 1))
                case measure => have := HltJ.out; have := HgJ.out; omega
                case rel =>
                  have hlt := HltJ.out
                  have e : wrap64 ((j : Int) + 1) = ((j + 1 : Nat) : Int) := by unfold wrap64; omega
                  have hst : ((answersT.take (j + 1)).foldl (ansW ok oc od) s) = { s8 with out := s8.out ++ (32 :: aop.data.toList) ++ numB od, bad := badN s8.bad od, left := (s8.left.set 3 0).set 4 0 } := by rw [HNX.out]; unfold ansW; rw [if_pos HK.out, if_pos HA.out, if_pos HX.out]
                  exact ⟨j + 1, by omega, by omega, by first | (rw [e]) | (simp [e]), by rw [hst]; exact ⟨OS8.out.put 4 0⟩⟩
              · have HX := Aside0.mk hx
                have hxz : an ≤ 0 := by omega
                clear hx
                go_wp2
                go_roundg (3 - (j + 1))
                case measure => have := HltJ.out; have := HgJ.out; omega
                case rel =>
                  have hlt := HltJ.out
                  have e : wrap64 ((j : Int) + 1) = ((j + 1 : Nat) : Int) := by unfold wrap64; omega
                  have hst : ((answersT.take (j + 1)).foldl (ansW ok oc od) s) = { s8 with out := s8.out ++ (32 :: aop.data.toList), left := s8.left.set 3 0 } := by rw [HNX.out]; unfold ansW; rw [if_pos HK.out, if_pos HA.out, if_neg (show ¬ 0 < an by have := HX.out; omega)]
                  exact ⟨j + 1, by omega, by omega, by first | (rw [e]) | (simp [e]), by rw [hst]; exact OS6⟩
            · have hab : (akd == oc) = false := beq_eq_false_iff_ne.2 ha
              have HA := Aside0.mk ha
              clear ha
              go_wp2
              go_roundg (3 - (j + 1))
              case measure => have := HltJ.out; have := HgJ.out; omega
              case rel =>
                have hlt := HltJ.out
                have e : wrap64 ((j : Int) + 1) = ((j + 1 : Nat) : Int) := by unfold wrap64; omega
                have hst : ((answersT.take (j + 1)).foldl (ansW ok oc od) s) = s8 := by rw [HNX.out]; unfold ansW; rw [if_pos HK.out, if_neg HA.out]
                exact ⟨j + 1, by omega, by omega, by first | (rw [e]) | (simp [e]), by rw [hst]; exact OS4⟩
          · have hkb : (ok == 5) = false := beq_eq_false_iff_ne.2 hk
            have HK := Aside0.mk hk
            clear hk
            go_wp2
            go_roundg (3 - (j + 1))
            case measure => have := HltJ.out; have := HgJ.out; omega
            case rel =>
              have hlt := HltJ.out
              have e : wrap64 ((j : Int) + 1) = ((j + 1 : Nat) : Int) := by unfold wrap64; omega
              have hst : ((answersT.take (j + 1)).foldl (ansW ok oc od) s) = s8 := by rw [HNX.out]; unfold ansW; rw [if_neg HK.out]
              exact ⟨j + 1, by omega, by omega, by first | (rw [e]) | (simp [e]), by rw [hst]; exact OS4⟩
        · have hltz : ¬ (j : Int) < 3 := by omega
          obtain rfl : j = 3 := by omega
          have hfin : answersW ok oa ob oc od out bad = s8 := by unfold answersW; rw [HFW.out]; exact HS8.out.symm
          have HAW := Aside0.mk hfin
          clear hg hj hlt hfin
          have hkn : s.known = s8.known := by rw [HS8.out, answers_known]
          obtain ⟨sout, sbad, sleft, sknown⟩ := s8
          dsimp only at hkn
          obtain ⟨b0, bf⟩ := TextAt.bads JS.out.text
          have o0 : wr.cell? ⟨bo, 0, none⟩ = some (.int .i64 ok) := (blk_cell JS.out.obox 0).trans rfl
          have o3 : wr.cell? ⟨bo, 3, none⟩ = some (.int .i64 oc) := (blk_cell JS.out.obox 3).trans rfl
          obtain ⟨l0, l1, l2, l3, l4, rfl⟩ := PaR.five JS.out.five
          have hbx := JS.out.left
          simp only [List.map_cons, List.map_nil] at hbx
          obtain ⟨z0, z1, z2, z3, z4, -, -, -, -, -⟩ := cells5 hbx
          clear hbx
          dsimp only at b0
          have heq : ∀ W : World, (Op.equalIn 10000 46 (.agg #[.int .i64 l0, .int .i64 l1, .int .i64 l2, .int .i64 l3, .int .i64 l4]) (.agg #[.int .i64 0, .int .i64 0, .int .i64 0, .int .i64 0, .int .i64 0])).run Tryd.prog W = .ok (decide ([l0, l1, l2, l3, l4] = [0, 0, 0, 0, 0])) W := fun W => by
            have := eqA46 9998 W l0 0 l1 0 l2 0 l3 0 l4 0
            rw [zeros_iff] at this
            exact this
          have key : ∀ x : Bool, ∃ W : World, W = wr.setCell ⟨b, 2, none⟩ (.bool x) ∧ Aside0 (TextAt w0.heap.size b sout x W) ∧ Aside0 (Below w0.heap.size w0 W) ∧ Aside0 (KeepU w W b) := fun x => by
            have ht := JS.out.text
            obtain ⟨p, v, hp, hv⟩ := JS.out.text
            exact ⟨_, rfl, ⟨ht.setBad _⟩, ⟨JS.out.below.setCell hv.ge _⟩, ⟨JS.out.keep.set _ _⟩⟩
          have KEY := Aside0.mk key
          clear key
          rcases lastB_cases ok oc sbad sknown sout [l0, l1, l2, l3, l4] with ⟨rfl, hx⟩ | ⟨rfl, rfl, hx⟩ | ⟨rfl, rfl, hl, hx⟩ | ⟨rfl, rfl, hl, hk, hc, hx⟩ | ⟨rfl, rfl, hl, hk, hc, hx⟩ | ⟨rfl, rfl, hl, hk, hx⟩
          all_goals
            try (rw [decide_eq_false hl] at heq)
            try (rw [decide_eq_true hl] at heq)
            try (have k1 : (ok == 5) = true := beq_iff_eq.2 hk)
            try (have k1 : (ok == 5) = false := beq_eq_false_iff_ne.2 hk)
            try (have k2 : (oc == 0) = true := beq_iff_eq.2 hc)
            try (have k2 : (oc == 0) = false := beq_eq_false_iff_ne.2 hc)
            try clear hl
            try clear hk
            try clear hc
            rw [← HAW.out] at hx
            have HX := Aside0.mk hx
            clear hx
            go_upto_region 26 with (fail)
            obtain ⟨w1, hw1, T1, B1, U1⟩ := KEY.out _
            rw [← hw1]
            clear hw1 z0 z1 z2 z3 z4 b0 bf o0 o3 heq
            go_wp2_with (first
              | (go_at_call 24; refine (write_calls w0.heap.size b sout _ ⟨#[10]⟩ _ T1.out (by have := HL.out; have h1 := TS8.out.len; dsimp only at h1; have h8 : (⟨#[10]⟩ : ByteArray).size = 1 := rfl; omega) B1.out.size).mono ?_; rintro e' w5 ⟨rfl, ht, hb3, hu⟩; have T5 := Aside0.mk ht; have B5 := Aside0.mk (below_weak B1.out hb3); have U5 := Aside0.mk (U1.out.trans hu); clear ht hb3 hu))
            first | go_end0 | ((try simp only [Exit.inBlock, Exit.then]); refine bodyPost_ret (results_none rfl _ _ _) rfl ?_)
            refine ⟨rfl, ?_, B5.out, U5.out⟩
            rw [HX.out, HAW.out]
            exact T5.out
end Go.Proofs.YtegbfimfpkendaaDoor.PaR
