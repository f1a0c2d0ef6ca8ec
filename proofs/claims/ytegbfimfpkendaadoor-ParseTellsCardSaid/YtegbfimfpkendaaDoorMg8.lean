/- parse.numbers: the places of a config's numbers. No condition. Stores into a box of three cells that a call has made. No condition. parse's find: the form of a word among some. No condition. What a row's functions do, told at once: of what is left of a row, a value and what is left behind it, or what is wrong. No condition. -/
import Derived.Test.YtegbfimfpkendaaDoorMg7
import Derived.BigQuiet
import Derived.Deep.QuietTactic
import Derived.StillTailTactics
import Derived.Test.YtegbfimfpkendaaDoorBa
import Derived.Deep.LoopGhost
namespace Go.Proofs.YtegbfimfpkendaaDoor.PaB
open Go.RowKit Go.Proofs.YtegbfimfpkendaaDoorW.PrintWords Go.Proofs.YtegbfimfpkendaaDoorW.PrintLast Go.Proofs.YtegbfimfpkendaaDoorW.PrintMore
set_option linter.unusedVariables false
def placesV (g : Nat) : Value := .agg #[.pointer (some ⟨g, 0, none⟩), .pointer (some ⟨g, 1, none⟩), .pointer (some ⟨g, 2, none⟩), .pointer (some ⟨g, 3, none⟩), .pointer (some ⟨g, 4, none⟩), .pointer (some ⟨g, 5, none⟩), .pointer (some ⟨g, 6, none⟩), .pointer (some ⟨g, 7, none⟩), .pointer (some ⟨g, 8, none⟩), .pointer (some ⟨g, 9, none⟩)]
set_option maxHeartbeats 4000000 in
set_option maxRecDepth 100000 in
theorem numbers_calls (g : Nat) (w : World) : Calls Tryd.prog 25 #[.pointer (some ⟨g, 0, none⟩)] w fun x w' => x = .returned (placesV g) ∧ Below w.heap.size w w' := by
  unfold placesV
  go_enter Tryd.func25, Tryd.ntmps25
  go_wp2
  go_still_tail 31, (by kernel_rfl)
  change wpList _ _ _ _ _ (World.drew _)
  go_wp2
  refine bodyPost_ret (v := placesV g) ?_ rfl ⟨rfl, ?_⟩
  · unfold placesV
    simp [results, Tryd.results25, go_sem]
  · exact ((Below.refl _ _).alloc (Nat.le_refl _) _).drew
end Go.Proofs.YtegbfimfpkendaaDoor.PaB
namespace Go.Proofs.YtegbfimfpkendaaDoor.LexBox
open Go.RowKit Go.Proofs.YtegbfimfpkendaaDoorW.PrintWords
theorem set3 {w0 w : World} {g : Nat} {t : TypeId} {a b c : Value} (u v x : Value) (h : w.heap[g]? = some (.cells #[a, b, c] t (0, 0))) (hB : Below w0.heap.size w0 w) (hg : w0.heap.size ≤ g) :
    ∃ W, W = ((w.setCell ⟨g, 0, none⟩ u).setCell ⟨g, 1, none⟩ v).setCell ⟨g, 2, none⟩ x ∧ W.heap[g]? = some (.cells #[u, v, x] t (0, 0)) ∧ Below w0.heap.size w0 W :=
  ⟨_, rfl, blk_put (blk_put (blk_put h 0 u (cs' := #[u, b, c]) rfl) 1 v (cs' := #[u, v, c]) rfl) 2 x (cs' := #[u, v, x]) rfl, below_set (below_set (below_set hB hg) hg) hg⟩
theorem set2 {w0 w : World} {g : Nat} {t : TypeId} {a b c : Value} (x : Value) (h : w.heap[g]? = some (.cells #[a, b, c] t (0, 0))) (hB : Below w0.heap.size w0 w) (hg : w0.heap.size ≤ g) :
    ∃ W, W = w.setCell ⟨g, 2, none⟩ x ∧ W.heap[g]? = some (.cells #[a, b, x] t (0, 0)) ∧ Below w0.heap.size w0 W :=
  ⟨_, rfl, blk_put h 2 x (cs' := #[a, b, x]) rfl, below_set hB hg⟩
theorem cells3 {w : World} {g : Nat} {t : TypeId} {a b c : Value} (h : w.heap[g]? = some (.cells #[a, b, c] t (0, 0))) :
    w.cell? ⟨g, 0, none⟩ = some a ∧ w.cell? ⟨g, 1, none⟩ = some b ∧ w.cell? ⟨g, 2, none⟩ = some c ∧ w.frozen? ⟨g, 0, none⟩ = false ∧ w.frozen? ⟨g, 1, none⟩ = false ∧ w.frozen? ⟨g, 2, none⟩ = false :=
  ⟨(blk_cell h 0).trans rfl, (blk_cell h 1).trans rfl, (blk_cell h 2).trans rfl, blk_frozen h 0, blk_frozen h 1, blk_frozen h 2⟩
end Go.Proofs.YtegbfimfpkendaaDoor.LexBox
namespace Go.Proofs.YtegbfimfpkendaaDoor.PaC
open Go.RowKit Go.Proofs.YtegbfimfpkendaaDoorW.PrintWords Go.Proofs.YtegbfimfpkendaaDoorW.PrintLast Go.Proofs.YtegbfimfpkendaaDoorW.PrintMore LexS LexB PaA LexBox
set_option linter.unusedVariables false
set_option linter.unusedSimpArgs false
structure Fm where
  op : ByteArray
  kind : Int
  n : Int
def kFm : Kd Fm := Kd.iso (Kd.pair Kd.string (Kd.pair (Kd.int .i64) (Kd.int .i64))) (fun x : Fm => (x.op, x.kind, x.n))
def fm0 : Fm := ⟨⟨#[]⟩, 0, 0⟩
def getFm (ts : List Fm) (i : Int) : Fm := ts.getD i.toNat fm0
def Fm.v (x : Fm) : Value := .agg #[.string x.op, .int .i64 x.kind, .int .i64 x.n]
theorem kFm_open {w : World} {x : Fm} {cs : List Value} (h : kFm.K w x cs) : cs = [.string x.op, .int .i64 x.kind, .int .i64 x.n] := by
  obtain ⟨_, _, rfl, rfl, ⟨_, _, rfl, rfl, rfl⟩⟩ := h
  exact rfl
theorem at_Fm {w : World} {A : Option Addr} {n : Nat} {xs : List Fm} (h : Kd.C kFm w A n xs) (i : Int) (h0 : 0 ≤ i) (h1 : i < n) : ∃ ad , A = some ad ∧ w.cell? (ad.add (i.toNat * 3)) = some (.string (getFm xs i).op) ∧ w.cell? ⟨(ad.add (i.toNat * 3)).block, (ad.add (i.toNat * 3)).off + 1, none⟩ = some (.int .i64 (getFm xs i).kind) ∧ w.cell? ⟨(ad.add (i.toNat * 3)).block, (ad.add (i.toNat * 3)).off + 2, none⟩ = some (.int .i64 (getFm xs i).n) := by
  obtain ⟨ad, c, e, _, hK, hc0⟩ := Kd.C_get h fm0 i h0 h1
  have hc : ∀ j u, c[j]? = some u → w.cell? (ad.add (i.toNat * 3 + j)) = some u := hc0
  obtain rfl := kFm_open hK
  exact ⟨ad, e, hc 0 _ rfl, by rw [← add_field _ _ 1 (by omega)]; exact hc 1 _ rfl, by rw [← add_field _ _ 2 (by omega)]; exact hc 2 _ rfl⟩
def findF (s : ByteArray) : List Fm → Option Fm
  | [] => none
  | x :: xs => if x.op.toList = s.toList then some x else findF s xs
def FindPost (w : World) (line : Int) (r : Option Fm) (x : Ending) (w' : World) : Prop := Below w.heap.size w w' ∧ match r with | some f => x = .returned f.v | none => x = .panicked (wrongC line 2)
set_option maxHeartbeats 4000000 in
theorem find_calls (g : Nat) (line : Int) (fs : List Fm) (A : Option Addr) (cp : Nat) (s : ByteArray) (w : World) (hC : Kd.C kFm w A fs.length fs) (hn : fs.length ≤ 1000) (hl : w.cell? ⟨g, 0, none⟩ = some (.int .i64 line)) (hg : g < w.heap.size) :
    Calls Tryd.prog 39 #[.pointer (some ⟨g, 0, none⟩), .slice A fs.length cp, .string s] w (FindPost w line (findF s fs)) := by
  have HC := Aside0.mk hC
  have HN := Aside0.mk hn
  have HL := Aside0.mk hl
  have HG := Aside0.mk hg
  clear hC hn hl hg
  go_enter Tryd.func39, Tryd.ntmps39
  go_upto_region 1 with (first | ((with_reducible refine gate_dst (N := 6) rfl ?_); (try (refine gate_guard (by rfl) ?_; dsimp only)); refine box_event ?hg (N := 6) ?hd (cs := #[.string ⟨#[]⟩, .int .i64 0, .int .i64 0]) (t := 102) ?hr ?_; (case hd => rfl); (case hg => rfl); (case hr => first | (go_simp; done) | (go_simp; rfl)); intro ob hg w1 hbox hb; have OX := Aside0.mk hbox; have OB := Aside0.mk hb; have OG := Aside0.mk (Nat.le_of_eq hg.symm); clear hbox hb hg))
  go_wp2
  go_loopg [11] fs.length (fun gg s11 wr => ∃ (kk : Nat), kk ≤ fs.length ∧ fs.length - kk ≤ gg ∧ s11 = .int .i64 kk ∧ Aside0 (Below w.heap.size w wr) ∧ Aside0 (Below w1.heap.size w1 wr) ∧ Aside0 (findF s fs = findF s (fs.drop kk)))
  case atStart => exact ⟨0, Nat.zero_le _, by omega, rfl, OB, ⟨Below.refl _ _⟩, ⟨rfl⟩⟩
  case round =>
    obtain ⟨kk, hkk, hg, rfl, BW, B1, A1⟩ := hrel
    by_cases hlt : kk < fs.length
    · have hltz : (kk : Int) < (fs.length : Int) := by omega
      have hk0 : (0 : Int) ≤ (kk : Int) := by omega
      have hd : fs.drop kk = getFm fs kk :: fs.drop (kk + 1) := by
        rw [List.drop_eq_getElem_cons hlt]
        simp [getFm, List.getD_eq_getElem?_getD, hlt]
      obtain ⟨ld, el, hx0, hx1, hx2⟩ := at_Fm (Kd.C_below HC.out BW.out) (kk : Int) hk0 hltz
      simp only [Int.toNat_natCast] at hx0 hx1 hx2
      subst el
      have p1 := eq_true hk0
      have q1 := eq_true hltz
      have Hlt := Aside0.mk hlt
      have Hg := Aside0.mk hg
      have Hd := Aside0.mk hd
      clear hk0 hlt hltz hg hkk hd
      go_upto_region 4 with (first | ((with_reducible refine gate_dst (N := 8) rfl ?_); (try (refine gate_guard (by rfl) ?_; dsimp only)); refine box_event ?hg (N := 8) ?hd (cs := #[.string ⟨#[]⟩, .int .i64 0, .int .i64 0]) (t := 102) ?hr ?_; (case hd => rfl); (case hg => rfl); (case hr => first | (go_simp; done) | (go_simp; rfl)); intro gb hg w2 hbox hb; obtain ⟨hz0, hz1, hz2, hf0, hf1, hf2⟩ := cells3 hbox; have HX2 := Aside0.mk hbox; have HW2 := Aside0.mk hb; have GE2 := Aside0.mk (Nat.le_of_eq hg.symm); clear hbox hb hg))
      obtain ⟨w3, hw3, hX, hW⟩ := set3 (.string (getFm fs kk).op) (.int .i64 (getFm fs kk).kind) (.int .i64 (getFm fs kk).n) HX2.out HW2.out GE2.out
      rw [← hw3]
      have BW3 := Aside0.mk (below_step BW.out hW)
      have B13 := Aside0.mk (below_step B1.out hW)
      obtain ⟨hy0, hy1, hy2, hg0, hg1, hg2⟩ := cells3 hX
      have OX3 := Aside0.mk ((B13.out.block ob (by have := blk_lt OX.out; omega)).trans OX.out)
      obtain ⟨ho0, ho1, ho2, hp0, hp1, hp2⟩ := cells3 OX3.out
      clear hX hW hw3 HX2 HW2 GE2 hz0 hz1 hz2 hf0 hf1 hf2 hx0 hx1 hx2 p1 q1
      by_cases c1 : (getFm fs kk).op.toList = s.toList
      · have c1b : ((getFm fs kk).op.toList == s.toList) = true := beq_iff_eq.mpr c1
        have C1 := Aside0.mk c1
        clear c1
        have F1 : findF s fs = some (getFm fs kk) := by rw [A1.out, Hd.out, findF, if_pos C1.out]
        go_wp2
        obtain ⟨w4, hw4, hX, hW⟩ := set3 (.string (getFm fs kk).op) (.int .i64 (getFm fs kk).kind) (.int .i64 (getFm fs kk).n) OX3.out BW3.out OG.out
        rw [← hw4, F1]
        obtain ⟨hq0, hq1, hq2, -, -, -⟩ := cells3 hX
        refine bodyPost_ret (v := (getFm fs kk).v) ?_ rfl ⟨hW, rfl⟩
        simp [results, Tryd.results39, go_sem, hq0, hq1, hq2, Fm.v]
      · have c1b : ((getFm fs kk).op.toList == s.toList) = false := beq_eq_false_iff_ne.mpr c1
        have C1 := Aside0.mk c1
        clear c1
        go_wp2
        go_roundg (fs.length - (kk + 1))
        case measure => have := Hlt.out; have := Hg.out; omega
        case rel =>
          have hlt := Hlt.out
          have hn := HN.out
          have e : wrap64 ((kk : Int) + 1) = ((kk + 1 : Nat) : Int) := by unfold wrap64; omega
          refine ⟨kk + 1, by omega, by omega, by first | (rw [e]) | (simp [e]), BW3, B13, ⟨?_⟩⟩
          rw [A1.out, Hd.out, findF, if_neg C1.out]
    · have hltz : ¬ (kk : Int) < (fs.length : Int) := by omega
      obtain rfl : kk = fs.length := by omega
      have hnf : findF s fs = none := by rw [A1.out, List.drop_length]; rfl
      have hcz : wr.cell? ⟨g, 0, none⟩ = some (.int .i64 line) := (BW.out.cell HG.out).trans HL.out
      clear hg hkk hlt
      go_wp2_with (first | (go_at_call 36; refine (must_no _ line _ _ hcz rfl).mono ?_; rintro e w' ⟨rfl, rfl⟩))
      exact ⟨rfl, BW.out, rfl⟩
end Go.Proofs.YtegbfimfpkendaaDoor.PaC
namespace Go.Proofs.YtegbfimfpkendaaDoor.PaD
open Go.RowKit Go.Proofs.YtegbfimfpkendaaDoorW.PrintWords Go.Proofs.YtegbfimfpkendaaDoorW.PrintLast Go.Proofs.YtegbfimfpkendaaDoorW.PrintMore LexS LexB PaA LexBox PaC
set_option linter.unusedVariables false
set_option linter.unusedSimpArgs false
def TokOk (ts : List Tok) : Prop := ∀ t ∈ ts, (strOfNums t.text).size < 4294967281
structure RowAt (w0 w : World) (g : Nat) (line : Int) (ts : List Tok) : Prop where
  above : w0.heap.size ≤ g
  below : Below w0.heap.size w0 w
  ok : TokOk ts
  row : ∃ (A : Option Addr) (c : Nat), ts.length ≤ c ∧ kTok.C w0 A ts.length ts ∧ RowIs w g line A ts.length c
inductive Rs (α : Type) where
  | ok (a : α) (ts : List Tok)
  | bad (e : Int)
def wordP : List Tok → Rs ByteArray
  | [] => .bad 2
  | t :: ts => if t.kind = 1 then .ok (strOfNums t.text) ts else .bad 2
def numP : List Tok → Rs Int
  | [] => .bad 2
  | t :: ts => if t.kind = 2 then (if (NumS.parseF (strOfNums t.text)).2 = 0 then .ok (NumS.parseF (strOfNums t.text)).1 ts else .bad (NumS.parseF (strOfNums t.text)).2) else .bad 2
def RPost {α : Type} (val : α → Value) (w0 w : World) (g : Nat) (line : Int) (r : Rs α) (x : Ending) (w' : World) : Prop :=
  match r with
  | .ok a ts => x = .returned (val a) ∧ RowAt w0 w' g line ts ∧ KeepBut w w' g none
  | .bad e => x = .panicked (wrongC line e) ∧ Below w0.heap.size w0 w'
theorem TokOk.tail {t : Tok} {ts : List Tok} (h : TokOk (t :: ts)) : TokOk ts := fun x hx => h x (List.mem_cons_of_mem _ hx)
theorem RowAt.took {w0 w w' : World} {g : Nat} {line : Int} {ts ts' : List Tok} (h : RowAt w0 w g line ts) (hk : Took w0 w g line ts' w') (ho : TokOk ts') : RowAt w0 w' g line ts' := by
  obtain ⟨A', c', h1, h2, h3, h4, _⟩ := hk
  exact ⟨h.above, h4, ho, A', c', h1, h2, h3⟩
theorem Took.keep {w0 w w' : World} {g : Nat} {line : Int} {ts : List Tok} (h : Took w0 w g line ts w') : KeepBut w w' g none := by
  obtain ⟨_, _, _, _, _, _, h5⟩ := h
  exact h5
theorem word_r (g : Nat) (line : Int) (ts : List Tok) (w0 w : World) (h : RowAt w0 w g line ts) :
    Calls Tryd.prog 35 #[.pointer (some ⟨g, 0, none⟩)] w (RPost .string w0 w g line (wordP ts)) := by
  obtain ⟨A, c, hl, hC, hR⟩ := h.row
  cases ts with
  | nil =>
    refine (word_no g line A _ c [] w0 w hR hC h.below (fun t r e => by cases e)).mono ?_
    rintro x w' ⟨rfl, hb⟩
    exact ⟨rfl, below_step h.below hb⟩
  | cons t ts =>
    by_cases ht : t.kind = 1
    · refine (word_yes g line A c t ts w0 w hR hC h.below hl h.above ht).mono ?_
      rintro x w' ⟨rfl, hk⟩
      simp only [wordP, if_pos ht]
      exact ⟨rfl, h.took hk h.ok.tail, Took.keep hk⟩
    · refine (word_no g line A _ c (t :: ts) w0 w hR hC h.below (fun t' r e => by cases e; exact ht)).mono ?_
      rintro x w' ⟨rfl, hb⟩
      simp only [wordP, if_neg ht]
      exact ⟨rfl, below_step h.below hb⟩
theorem number_r (g : Nat) (line : Int) (ts : List Tok) (w0 w : World) (h : RowAt w0 w g line ts) :
    Calls Tryd.prog 38 #[.pointer (some ⟨g, 0, none⟩)] w (RPost (.int .i64) w0 w g line (numP ts)) := by
  obtain ⟨A, c, hl, hC, hR⟩ := h.row
  cases ts with
  | nil =>
    refine (number_no g line A _ c [] w0 w hR hC h.below (fun t r e => by cases e)).mono ?_
    rintro x w' ⟨rfl, hb⟩
    exact ⟨rfl, below_step h.below hb⟩
  | cons t ts =>
    by_cases ht : t.kind = 2
    · by_cases he : (NumS.parseF (strOfNums t.text)).2 = 0
      · refine (number_yes g line A c t ts (NumS.parseF (strOfNums t.text)).1 w0 w hR hC h.below hl h.above ht (h.ok t (List.mem_cons_self ..)) (by rw [← he])).mono ?_
        rintro x w' ⟨rfl, hk⟩
        simp only [numP, if_pos ht, if_pos he]
        exact ⟨rfl, h.took hk h.ok.tail, Took.keep hk⟩
      · refine (number_err g line A c t ts _ _ w0 w hR hC h.below ht (h.ok t (List.mem_cons_self ..)) rfl he).mono ?_
        rintro x w' ⟨rfl, hb⟩
        simp only [numP, if_pos ht, if_neg he]
        exact ⟨rfl, below_step h.below hb⟩
    · refine (number_no g line A _ c (t :: ts) w0 w hR hC h.below (fun t' r e => by cases e; exact ht)).mono ?_
      rintro x w' ⟨rfl, hb⟩
      simp only [numP, if_neg ht]
      exact ⟨rfl, below_step h.below hb⟩
end Go.Proofs.YtegbfimfpkendaaDoor.PaD
