/- What package parse does to one line of tokens: must, word, number, find. No condition. -/
import Derived.Test.YtegbfimfpkendaaDoorLexB
import Derived.Test.YtegbfimfpkendaaDoorNumA
import Derived.Test.YtegbfimfpkendaaDoorBb
import Derived.WalkKit
import Derived.WalkLawsBesides
import Derived.Below
namespace Go.Proofs.YtegbfimfpkendaaDoor.PaA
open Go.RowKit Go.Proofs.YtegbfimfpkendaaDoorW.PrintWords Go.Proofs.YtegbfimfpkendaaDoorW.PrintLast Go.Proofs.YtegbfimfpkendaaDoorW.PrintMore LexS LexB
set_option linter.unusedVariables false
theorem must_yes (p : Addr) (e : Int) (w : World) : Calls Tryd.prog 36 #[.pointer (some p), .bool true, .int .i64 e] w fun x w' => x = .returned (.tuple #[]) ∧ w' = w := by
  go_enter Tryd.func36, Tryd.ntmps36
  go_wp2
  first | go_end0 | ((try simp only [Exit.inBlock, Exit.then]); refine bodyPost_ret (results_none rfl _ _ _) rfl ?_)
  exact ⟨rfl, rfl⟩
def wrongV (line e : Int) : Value := .iface 57 (.agg #[.int .i64 line, .int .i64 e])
def wrongC (line e : Int) : List PanicEntry := [{ v := wrongV line e, recovered := false }]
theorem must_no (p : Addr) (line e : Int) (w : World) (hl : w.cell? p = some (.int .i64 line)) (hp : p.spot = none) : Calls Tryd.prog 36 #[.pointer (some p), .bool false, .int .i64 e] w fun x w' => x = .panicked (wrongC line e) ∧ w' = w := by
  unfold wrongC wrongV
  go_enter Tryd.func36, Tryd.ntmps36
  go_wp2
  exact ⟨rfl, rfl, rfl⟩
def tok0 : Tok := ⟨0, [], 0⟩
def getTok (ts : List Tok) (i : Int) : Tok := ts.getD i.toNat tok0
theorem kTok_open' {w : World} {x : Tok} {cs : List Value} (h : kTok.K w x cs) : cs = [.int .i64 x.kind, .string (strOfNums x.text), .int .i64 x.line] := by
  obtain ⟨_, _, rfl, rfl, ⟨_, _, rfl, rfl, rfl⟩⟩ := h
  exact rfl
theorem at_Tok {w : World} {A : Option Addr} {n : Nat} {xs : List Tok} (h : Kd.C kTok w A n xs) (i : Int) (h0 : 0 ≤ i) (h1 : i < n) : ∃ ad , A = some ad ∧ w.cell? (ad.add (i.toNat * 3)) = some (.int .i64 (getTok xs i).kind) ∧ w.cell? ⟨(ad.add (i.toNat * 3)).block, (ad.add (i.toNat * 3)).off + 1, none⟩ = some (.string (strOfNums (getTok xs i).text)) ∧ w.cell? ⟨(ad.add (i.toNat * 3)).block, (ad.add (i.toNat * 3)).off + 2, none⟩ = some (.int .i64 (getTok xs i).line) := by
  obtain ⟨ad, c, e, _, hK, hc0⟩ := Kd.C_get h tok0 i h0 h1
  have hc : ∀ j u, c[j]? = some u → w.cell? (ad.add (i.toNat * 3 + j)) = some u := hc0
  obtain rfl := kTok_open' hK
  exact ⟨ad, e, hc 0 _ rfl, by rw [← add_field _ _ 1 (by omega)]; exact hc 1 _ rfl, by rw [← add_field _ _ 2 (by omega)]; exact hc 2 _ rfl⟩
theorem drop1 (t : Tok) (ts : List Tok) (A : Option Addr) (cp : Nat) (hcp : ts.length + 1 ≤ cp) : ∃ A' : Option Addr, (∀ W : World, (Instr.slice 53 (.slice A (ts.length + 1) cp) (some (.int .i64 1)) none none).run Tryd.prog W = .ok (.slice A' ts.length (cp - 1)) W) ∧ (∀ w, Kd.C kTok w A (ts.length + 1) (t :: ts) → Kd.C kTok w A' ts.length ts) ∧ ts.length ≤ cp - 1 := by
  obtain ⟨i0, hi, hz0, hz1, hz2⟩ := info_parts infoTok
  refine ⟨_, fun W => cut_from 53 95 .i64 Tryd.underlying53 hi 3 hz1 A (ts.length + 1) cp 1 (by omega) (by omega) W, fun w h => ?_, by omega⟩
  exact Kd.C_drop (m := 1) (c := cp) h (by simp) hcp
theorem tok0_text {w : World} {ld : Addr} {t : Tok} {ts : List Tok} (h : Kd.C kTok w (some ld) (ts.length + 1) (t :: ts)) : w.cell? ⟨ld.block, ld.off + 1, none⟩ = some (.string (strOfNums t.text)) := by
  obtain ⟨ad, e, h0, h1, h2⟩ := at_Tok h 0 (by omega) (by omega)
  cases e
  have e0 : ld.add ((0 : Int).toNat * 3) = ld := by simp [Addr.add]
  rw [e0] at h1
  exact h1
theorem tok0_kind {w : World} {ld : Addr} {t : Tok} {ts : List Tok} (h : Kd.C kTok w (some ld) (ts.length + 1) (t :: ts)) : w.cell? ld = some (.int .i64 t.kind) := by
  obtain ⟨ad, e, h0, h1, h2⟩ := at_Tok h 0 (by omega) (by omega)
  cases e
  have e0 : ld.add ((0 : Int).toNat * 3) = ld := by simp [Addr.add]
  rw [e0] at h0
  exact h0
abbrev RowIs (w : World) (g : Nat) (line : Int) (A : Option Addr) (n c : Nat) : Prop := w.heap[g]? = some (.cells #[.int .i64 line, .slice A n c] 97 (0, 0))
def Took (w0 w : World) (g : Nat) (line : Int) (ts : List Tok) (w' : World) : Prop :=
  ∃ (A' : Option Addr) (c' : Nat), ts.length ≤ c' ∧ kTok.C w0 A' ts.length ts ∧ RowIs w' g line A' ts.length c' ∧ Below w0.heap.size w0 w' ∧ KeepBut w w' g none
def WordPost (w0 w : World) (g : Nat) (line : Int) (s : ByteArray) (ts : List Tok) (x : Ending) (w' : World) : Prop := x = .returned (.string s) ∧ Took w0 w g line ts w'
def NumPost (w0 w : World) (g : Nat) (line : Int) (n : Int) (ts : List Tok) (x : Ending) (w' : World) : Prop := x = .returned (.int .i64 n) ∧ Took w0 w g line ts w'
def WrongPost (w : World) (line e : Int) (x : Ending) (w' : World) : Prop := x = .panicked (wrongC line e) ∧ Below w.heap.size w w'
theorem keep_set {w w1 : World} {g j : Nat} {v : Value} (h : Below w.heap.size w w1) : KeepBut w (w1.setCell ⟨g, j, none⟩ v) g none :=
  ⟨by rw [show (w1.setCell ⟨g, j, none⟩ v).heap.size = w1.heap.size from by simp [World.setCell]]; exact h.size, fun i hi hg _ => (Below.heap_setCell w1 ⟨g, j, none⟩ v i hg).trans (h.block i hi)⟩
theorem took_of {w0 w w1 : World} {g : Nat} {line : Int} {A A' : Option Addr} {n c c' : Nat} {ts : List Tok} (hB : Below w0.heap.size w0 w) (hb : Below w.heap.size w w1) (hg : w0.heap.size ≤ g) (hR : RowIs w g line A n c) (hl : ts.length ≤ c') (hC : kTok.C w0 A' ts.length ts) :
    Took w0 w g line ts (w1.setCell ⟨g, 1, none⟩ (.slice A' ts.length c')) :=
  ⟨A', c', hl, hC, blk_put (blk_below hR hb) 1 _ rfl, below_set (below_step hB hb) hg, keep_set hb⟩
theorem word_yes (g : Nat) (line : Int) (A : Option Addr) (c : Nat) (t : Tok) (ts : List Tok) (w0 w : World) (hR : RowIs w g line A (ts.length + 1) c) (hC : kTok.C w0 A (ts.length + 1) (t :: ts)) (hB : Below w0.heap.size w0 w) (hc : ts.length + 1 ≤ c) (hg : w0.heap.size ≤ g) (ht : t.kind = 1) :
    Calls Tryd.prog 35 #[.pointer (some ⟨g, 0, none⟩)] w (WordPost w0 w g line (strOfNums t.text) ts) := by
  obtain ⟨ld, ea, _, _, _⟩ := at_Tok hC 0 (by omega) (by omega)
  subst ea
  have k0 := tok0_kind hC
  have k1 := tok0_text hC
  rw [ht] at k0
  replace k0 := (hB.cell (World.block_lt_of_cell? w0 _ k0)).trans k0
  replace k1 := (hB.cell (World.block_lt_of_cell? w0 _ k1)).trans k1
  obtain ⟨A', hcut, hdrop, hle⟩ := drop1 t ts (some ld) c hc
  have hcz0 : w.cell? ⟨g, 0, none⟩ = some (.int .i64 line) := (blk_cell hR 0).trans rfl
  have hcz1 : w.cell? ⟨g, 1, none⟩ = some (.slice (some ld) (ts.length + 1) c) := (blk_cell hR 1).trans rfl
  have hfz1 := blk_frozen hR 1
  have HC := Aside0.mk (hdrop w0 hC)
  have HLE := Aside0.mk hle
  have HR := Aside0.mk hR
  have HB := Aside0.mk hB
  have HG := Aside0.mk hg
  clear hC hdrop hle hR ht hc hB hg
  go_enter Tryd.func35, Tryd.ntmps35
  go_wp2_with (first | (go_at_call 36; refine (must_yes _ _ _).mono ?_; rintro e w' ⟨rfl, rfl⟩))
  go_ret
  exact ⟨rfl, took_of HB.out (Below.refl _ _) HG.out HR.out HLE.out HC.out⟩
theorem word_no (g : Nat) (line : Int) (A : Option Addr) (n c : Nat) (ts : List Tok) (w0 w : World) (hR : RowIs w g line A n c) (hC : kTok.C w0 A n ts) (hB : Below w0.heap.size w0 w) (hk : ∀ t r, ts = t :: r → t.kind ≠ 1) :
    Calls Tryd.prog 35 #[.pointer (some ⟨g, 0, none⟩)] w (WrongPost w line 2) := by
  have hcz0 : w.cell? ⟨g, 0, none⟩ = some (.int .i64 line) := (blk_cell hR 0).trans rfl
  have hcz1 : w.cell? ⟨g, 1, none⟩ = some (.slice A n c) := (blk_cell hR 1).trans rfl
  have hn : ts.length = n := hC.1
  cases ts with
  | nil =>
    simp only [List.length_nil] at hn
    subst hn
    clear hC hk hR
    go_enter Tryd.func35, Tryd.ntmps35
    go_wp2_with (first | (go_at_call 36; refine (must_no _ line _ _ hcz0 rfl).mono ?_; rintro e w' ⟨rfl, rfl⟩))
    exact ⟨rfl, rfl, Below.refl _ _⟩
  | cons t r =>
    simp only [List.length_cons] at hn
    subst hn
    obtain ⟨ld, ea, _, _, _⟩ := at_Tok hC 0 (by omega) (by omega)
    subst ea
    have k0 := tok0_kind hC
    replace k0 := (hB.cell (World.block_lt_of_cell? w0 _ k0)).trans k0
    have hd : (t.kind == 1) = false := beq_eq_false_iff_ne.2 (hk t r rfl)
    clear hC hk hR hB
    go_enter Tryd.func35, Tryd.ntmps35
    go_wp2_with (first | (go_at_call 36; refine (must_no _ line _ _ hcz0 rfl).mono ?_; rintro e w' ⟨rfl, rfl⟩))
    exact ⟨rfl, rfl, Below.refl _ _⟩
theorem number_yes (g : Nat) (line : Int) (A : Option Addr) (c : Nat) (t : Tok) (ts : List Tok) (n : Int) (w0 w : World) (hR : RowIs w g line A (ts.length + 1) c) (hC : kTok.C w0 A (ts.length + 1) (t :: ts)) (hB : Below w0.heap.size w0 w) (hc : ts.length + 1 ≤ c) (hg : w0.heap.size ≤ g) (ht : t.kind = 2) (hs : (strOfNums t.text).size < 4294967281) (hn : NumS.parseF (strOfNums t.text) = (n, 0)) :
    Calls Tryd.prog 38 #[.pointer (some ⟨g, 0, none⟩)] w (NumPost w0 w g line n ts) := by
  obtain ⟨ld, ea, _, _, _⟩ := at_Tok hC 0 (by omega) (by omega)
  subst ea
  have k0 := tok0_kind hC
  have k1 := tok0_text hC
  rw [ht] at k0
  replace k0 := (hB.cell (World.block_lt_of_cell? w0 _ k0)).trans k0
  replace k1 := (hB.cell (World.block_lt_of_cell? w0 _ k1)).trans k1
  obtain ⟨A', hcut, hdrop, hle⟩ := drop1 t ts (some ld) c hc
  have hcz0 : w.cell? ⟨g, 0, none⟩ = some (.int .i64 line) := (blk_cell hR 0).trans rfl
  have hcz1 : w.cell? ⟨g, 1, none⟩ = some (.slice (some ld) (ts.length + 1) c) := (blk_cell hR 1).trans rfl
  have HP := NumA.parse_calls (strOfNums t.text) w hs
  rw [hn] at HP
  have HC := Aside0.mk (hdrop w0 hC)
  have HLE := Aside0.mk hle
  have HR := Aside0.mk hR
  have HB := Aside0.mk hB
  have HG := Aside0.mk hg
  have HPP := Aside0.mk HP
  clear hC hdrop hle hR ht hc hB hg hs hn HP
  go_enter Tryd.func38, Tryd.ntmps38
  go_wp2_with (first | (go_at_call 36; refine (must_yes _ _ _).mono ?_; rintro e w' ⟨rfl, rfl⟩) | (go_at_call 49; refine HPP.out.mono ?_; rintro e w1 ⟨rfl, hb⟩; have HR1 := Aside0.mk (blk_below HR.out hb); have hcy1 : w1.cell? ⟨g, 1, none⟩ = some (.slice (some ld) (ts.length + 1) c) := (blk_cell HR1.out 1).trans rfl; have hfy1 := blk_frozen HR1.out 1; have HB1 := Aside0.mk hb; clear hb))
  go_ret
  exact ⟨rfl, took_of HB.out HB1.out HG.out HR.out HLE.out HC.out⟩
theorem number_no (g : Nat) (line : Int) (A : Option Addr) (n c : Nat) (ts : List Tok) (w0 w : World) (hR : RowIs w g line A n c) (hC : kTok.C w0 A n ts) (hB : Below w0.heap.size w0 w) (hk : ∀ t r, ts = t :: r → t.kind ≠ 2) :
    Calls Tryd.prog 38 #[.pointer (some ⟨g, 0, none⟩)] w (WrongPost w line 2) := by
  have hcz0 : w.cell? ⟨g, 0, none⟩ = some (.int .i64 line) := (blk_cell hR 0).trans rfl
  have hcz1 : w.cell? ⟨g, 1, none⟩ = some (.slice A n c) := (blk_cell hR 1).trans rfl
  have hn : ts.length = n := hC.1
  cases ts with
  | nil =>
    simp only [List.length_nil] at hn
    subst hn
    clear hC hk hR
    go_enter Tryd.func38, Tryd.ntmps38
    go_wp2_with (first | (go_at_call 36; refine (must_no _ line _ _ hcz0 rfl).mono ?_; rintro e w' ⟨rfl, rfl⟩))
    exact ⟨rfl, rfl, Below.refl _ _⟩
  | cons t r =>
    simp only [List.length_cons] at hn
    subst hn
    obtain ⟨ld, ea, _, _, _⟩ := at_Tok hC 0 (by omega) (by omega)
    subst ea
    have k0 := tok0_kind hC
    replace k0 := (hB.cell (World.block_lt_of_cell? w0 _ k0)).trans k0
    have hd : (t.kind == 2) = false := beq_eq_false_iff_ne.2 (hk t r rfl)
    clear hC hk hR hB
    go_enter Tryd.func38, Tryd.ntmps38
    go_wp2_with (first | (go_at_call 36; refine (must_no _ line _ _ hcz0 rfl).mono ?_; rintro e w' ⟨rfl, rfl⟩))
    exact ⟨rfl, rfl, Below.refl _ _⟩
theorem number_err (g : Nat) (line : Int) (A : Option Addr) (c : Nat) (t : Tok) (ts : List Tok) (n er : Int) (w0 w : World) (hR : RowIs w g line A (ts.length + 1) c) (hC : kTok.C w0 A (ts.length + 1) (t :: ts)) (hB : Below w0.heap.size w0 w) (ht : t.kind = 2) (hs : (strOfNums t.text).size < 4294967281) (hn : NumS.parseF (strOfNums t.text) = (n, er)) (her : er ≠ 0) :
    Calls Tryd.prog 38 #[.pointer (some ⟨g, 0, none⟩)] w (WrongPost w line er) := by
  obtain ⟨ld, ea, _, _, _⟩ := at_Tok hC 0 (by omega) (by omega)
  subst ea
  have k0 := tok0_kind hC
  have k1 := tok0_text hC
  rw [ht] at k0
  replace k0 := (hB.cell (World.block_lt_of_cell? w0 _ k0)).trans k0
  replace k1 := (hB.cell (World.block_lt_of_cell? w0 _ k1)).trans k1
  have hcz0 : w.cell? ⟨g, 0, none⟩ = some (.int .i64 line) := (blk_cell hR 0).trans rfl
  have hcz1 : w.cell? ⟨g, 1, none⟩ = some (.slice (some ld) (ts.length + 1) c) := (blk_cell hR 1).trans rfl
  have HP := NumA.parse_calls (strOfNums t.text) w hs
  rw [hn] at HP
  have hd : (er == 0) = false := beq_eq_false_iff_ne.2 her
  have HR := Aside0.mk hR
  have HPP := Aside0.mk HP
  clear hC hR ht hB hs hn HP her
  go_enter Tryd.func38, Tryd.ntmps38
  go_wp2_with (first | (go_at_call 49; refine HPP.out.mono ?_; rintro e w1 ⟨rfl, hb⟩; have HR1 := Aside0.mk (blk_below HR.out hb); have hcy0 : w1.cell? ⟨g, 0, none⟩ = some (.int .i64 line) := (blk_cell HR1.out 0).trans rfl; have HB1 := Aside0.mk hb; clear hb) | (go_at_call 36; refine (must_no _ line _ _ hcy0 rfl).mono ?_; rintro e w' ⟨rfl, rfl⟩) | (go_at_call 36; refine (must_yes _ _ _).mono ?_; rintro e w' ⟨rfl, rfl⟩))
  exact ⟨rfl, rfl, HB1.out⟩
end Go.Proofs.YtegbfimfpkendaaDoor.PaA
