/- What num.Parse answers, in plain words (no program in sight). No condition. The walks of num.Parse and num.Text. Condition for Text: the table uint64pow10 is laid. What package parse does to one line of tokens: must, word, number, find. No condition. -/
import Derived.Lib.Strings
import Derived.Lib.IndexBytes
import Derived.Laws.RangeAny
import Derived.Test.YtegbfimfpkendaaDoorShelf
import Derived.Below
import Derived.WalkKit
import Derived.Tactics
import Derived.Lib.Walk
import Derived.Deep.LoopGhost
import Derived.RowKit3
import Derived.Lib.SmallJoins
import Derived.Test.YtegbfimfpkendaaDoorBa
import Derived.Test.YtegbfimfpkendaaDoorBb
import Derived.Test.YtegbfimfpkendaaDoorMg5
import Derived.WalkLawsBesides
namespace Go.Proofs.YtegbfimfpkendaaDoor.NumS
def parseL : List UInt8 → Int → Int × Int
  | [], n => if n > 1048576 then (0, 3) else (n, 0)
  | c :: l, n => if c.toNat < 48 ∨ 57 < c.toNat then (0, 2) else parseL l (min (10 * n + ((c.toNat : Int) - 48)) 1048577)
def parseF (s : ByteArray) : Int × Int :=
  if s.data.toList = [] ∨ (s.data.toList.head? = some 48 ∧ s.data.toList ≠ [48]) then (0, 2) else parseL s.data.toList 0
theorem drop_cons (s : ByteArray) (i : Nat) (hi : i < s.size) : s.data.toList.drop i = (s[i]'hi) :: s.data.toList.drop (i + 1) := by
  have h := Lib.data_getElem? s i hi
  have hl : i < s.data.toList.length := (List.getElem?_eq_some_iff.mp h).1
  rw [List.drop_eq_getElem_cons hl]
  congr 1
theorem drop_all (s : ByteArray) : s.data.toList.drop s.size = [] := by
  apply List.drop_eq_nil_of_le
  exact Nat.le_refl _
end Go.Proofs.YtegbfimfpkendaaDoor.NumS
namespace Go.Proofs.YtegbfimfpkendaaDoor.NumA
open Go.RowKit NumS Go.Proofs.YtegbfimfpkendaaDoorW.PrintWords Go.Proofs.YtegbfimfpkendaaDoorW.PrintMore
set_option linter.unusedVariables false
set_option linter.unusedSimpArgs false
structure Tab (w : World) : Prop where
  out : Lib.TabIs Tryd.prog w "internal/strconv.uint64pow10" .u64 Lib.pow10Tab
theorem Tab.below {w w' : World} (h : Tab w) (hb : Below w.heap.size w w') : Tab w' := ⟨Go.Joins.tab_stays (g := 3) (by kernel_rfl) h.out hb (Nat.le_refl _)⟩
theorem below_iter (w : World) (s : ByteArray) (i : Nat) : Below w.heap.size w (w.iter s i) := (Below.refl _ w).alloc (Nat.le_refl _) _
open Go.Sort in
theorem below_grow {B : Nat} {a w : World} (h : Below B a w) (hB : B ≤ w.heap.size) (k : Nat) (os : Array Obj) : Below B a (grow (w.drewN k) os) := by
  exact h.trans ⟨rfl, rfl, rfl, by rw [size_grow]; exact Nat.le_add_right _ _, fun i hi => by
    show ((w.drewN k).heap ++ os)[i]? = _
    have := h.size
    exact Array.getElem?_append_left (Nat.lt_of_lt_of_le hi hB)⟩
set_option maxHeartbeats 4000000 in
set_option maxRecDepth 100000 in
theorem text_calls (n : Int) (h0 : -9223372036854775808 ≤ n) (h1 : n ≤ 9223372036854775807) (w : World) (htab : Lib.TabIs Tryd.prog w "internal/strconv.uint64pow10" .u64 Lib.pow10Tab) :
    Calls Tryd.prog 47 #[.int .i64 n] w fun e w' => e = .returned (.string ⟨(Lib.itoa n).toArray⟩) ∧ Below w.heap.size w w' := by
  go_enter Tryd.func47, Tryd.ntmps47
  go_wp2_with (go_at_call 53; refine (Tryd.strconv_Itoa n h0 h1 _ htab).mono ?_; rintro e w' ⟨rfl, k, os, rfl⟩)
  go_ret
  exact ⟨rfl, below_grow (Below.refl _ w) (Nat.le_refl _) k os⟩
set_option maxHeartbeats 8000000 in
set_option maxRecDepth 100000 in
theorem parse_calls (s : ByteArray) (w : World) (hs : s.size < 4294967281) :
    Calls Tryd.prog 49 #[.string s] w fun e w' => e = .returned (.tuple #[.int .i64 (parseF s).1, .int .i64 (parseF s).2]) ∧ Below w.heap.size w w' := by
  have hw := Aside0.mk (Below.refl w.heap.size w)
  have hbi := fun i => below_iter w s i
  by_cases h0 : s.data.toList = []
  · have e0 : s = ⟨#[]⟩ := by cases s; rename_i d; congr 1; exact Array.toList_inj.mp h0
    subst e0
    go_enter Tryd.func49, Tryd.ntmps49
    go_wp2
    go_ret2
    exact ⟨rfl, hw.out⟩
  have hne : 0 < s.size := by
    rcases Nat.eq_zero_or_pos s.size with h | h
    · exact absurd (List.length_eq_zero_iff.mp h) h0
    · exact h
  have hd : s.data.toList = (s[0]'hne) :: s.data.toList.drop 1 := by have := drop_cons s 0 hne; simpa using this
  have he0 : s.toList.isEmpty = false := by rw [ByteArray.toList_eq, hd]; rfl
  by_cases h1 : (s[0]'hne).toNat = 48 ∧ s.data.toList ≠ [48]
  · have hf : parseF s = (0, 2) := by
      unfold parseF
      rw [if_pos (Or.inr ⟨by rw [hd]; exact congrArg some (UInt8.toNat_inj.mp h1.1), h1.2⟩)]
    have h1a := h1.1
    have he1 : (s.toList == [48]) = false := by rw [ByteArray.toList_eq]; exact beq_eq_false_iff_ne.mpr h1.2
    rw [hf]
    clear hd h1 h0
    go_enter Tryd.func49, Tryd.ntmps49
    go_wp2
    go_ret2
    exact ⟨rfl, hw.out⟩
  have hf : parseF s = parseL s.data.toList 0 := by
    unfold parseF
    rw [if_neg]
    rintro (h | ⟨h2, h3⟩)
    · exact h0 h
    · rw [hd] at h2
      exact h1 ⟨by rw [Option.some.inj h2]; rfl, h3⟩
  rw [hf]
  generalize hres : parseL s.data.toList 0 = res
  have hR := Aside0.mk hres
  have hc : (s[0]'hne).toNat ≠ 48 ∨ ((s[0]'hne).toNat = 48 ∧ (s.toList == [48]) = true) := by
    by_cases h : (s[0]'hne).toNat = 48
    · refine Or.inr ⟨h, ?_⟩
      rw [ByteArray.toList_eq, beq_iff_eq]
      exact Classical.byContradiction fun e => h1 ⟨h, e⟩
    · exact Or.inl h
  clear hres h1 h0 hf hd
  go_enter Tryd.func49, Tryd.ntmps49
  rcases hc with hc | ⟨hc, hc1⟩
  all_goals
    go_wp2
    go_loopg [4] s.size (fun g v4 wx => ∃ (i : Nat) (n : Int), i + g = s.size ∧ 0 ≤ n ∧ n ≤ 1048577 ∧ v4 = .int .i64 n ∧ wx = w.iter s i ∧ Aside0 (parseL (s.data.toList.drop i) n = res))
    case atStart => exact ⟨0, 0, by omega, by omega, by omega, rfl, rfl, ⟨by rw [List.drop_zero]; exact hR.out⟩⟩
    case round =>
      obtain ⟨i, n, hig, hn0, hn1, rfl, rfl, hP⟩ := hrel
      clear hc
      try clear hc1
      try clear hrel0
      cases gk with
      | zero =>
        obtain rfl : i = s.size := by omega
        have hnx := fun ty => run_next_end (P := Tryd.prog) w s s.size ty (by omega)
        have hP1 := hP.out
        rw [drop_all, parseL] at hP1
        by_cases hm : n > 1048576
        · rw [if_pos hm] at hP1
          subst hP1
          go_wp2
          go_ret2
          exact ⟨rfl, hbi _⟩
        · rw [if_neg hm] at hP1
          subst hP1
          go_wp2
          go_ret2
          exact ⟨rfl, hbi _⟩
      | succ g =>
        have hi : i < s.size := by omega
        have hP1 := hP.out
        rw [drop_cons s i hi, parseL] at hP1
        by_cases ha : (s[i]'hi).toNat < 128
        · have hnx := fun ty => run_next_ascii (P := Tryd.prog) w s i ty hi ha
          by_cases hb : (s[i]'hi).toNat < 48 ∨ 57 < (s[i]'hi).toNat
          · rw [if_pos hb] at hP1
            subst hP1
            generalize (s[i]'hi).toNat = c at *
            rcases hb with hb | hb
            · go_wp2
              go_ret2
              exact ⟨rfl, hbi _⟩
            · have hb2 : ¬ c < 48 := by omega
              go_wp2
              go_ret2
              exact ⟨rfl, hbi _⟩
          · rw [if_neg hb] at hP1
            have hP2 := Aside0.mk hP1
            generalize (s[i]'hi).toNat = c at *
            clear hP1
            have hb1 : ¬ c < 48 := by omega
            have hb2 : ¬ 57 < c := by omega
            clear hb
            go_wp2
            go_roundg g
            case measure => omega
            case rel => exact ⟨i + 1, _, by omega, by omega, by omega, rfl, rfl, hP2⟩
        · have hh := decode_high s i hi (by omega)
          have hl := decode_le s i
          have hnx := fun ty => run_next_any (P := Tryd.prog) w s i ty hi
          rw [if_pos (by omega)] at hP1
          subst hP1
          generalize (Utf8.decode s i).1 = c at *
          have hb2 : ¬ c < 48 := by omega
          have hb3 : 57 < c := by omega
          go_wp2
          go_ret2
          exact ⟨rfl, hbi _⟩
end Go.Proofs.YtegbfimfpkendaaDoor.NumA
namespace Go.Proofs.YtegbfimfpkendaaDoor.PaA
open Go.RowKit Go.Proofs.YtegbfimfpkendaaDoorW.PrintWords Go.Proofs.YtegbfimfpkendaaDoorW.PrintLast Go.Proofs.YtegbfimfpkendaaDoorW.PrintMore LexS LexB
set_option linter.unusedVariables false
theorem must_yes (p : Addr) (e : Int) (w : World) : Calls Tryd.prog 36 #[.pointer (some p), .bool true, .int .i64 e] w fun x w' => x = .returned (.tuple #[]) ∧ w' = w := by
  go_enter Tryd.func36, Tryd.ntmps36
  go_wp2
  first | go_end0 | ((try simp only [Exit.inBlock, Exit.then]); refine bodyPost_ret (results_none rfl _ _ _) rfl ?_)
  exact ⟨rfl, rfl⟩
def wrongV (line e : Int) : Value := .iface 57 (.agg #[.int .i64 line, .int .i64 e])
def wrongC (line e : Int) : List PanicEntry := [{ v := wrongV line e, recovered := false }]
theorem must_no (p : Addr) (line e : Int) (w : World) (hl : w.cell? p = some (.int .i64 line)) (hp : p.spot = none) : Calls Tryd.prog 36 #[.pointer (some p), .bool false, .int .i64 e] w fun x w' => x = .panicked (wrongC line e) ∧ w' = w := by
  unfold wrongC wrongV
  go_enter Tryd.func36, Tryd.ntmps36
  go_wp2
  exact ⟨rfl, rfl, rfl⟩
def tok0 : Tok := ⟨0, [], 0⟩
def getTok (ts : List Tok) (i : Int) : Tok := ts.getD i.toNat tok0
theorem kTok_open' {w : World} {x : Tok} {cs : List Value} (h : kTok.K w x cs) : cs = [.int .i64 x.kind, .string (strOfNums x.text), .int .i64 x.line] := by
  obtain ⟨_, _, rfl, rfl, ⟨_, _, rfl, rfl, rfl⟩⟩ := h
  exact rfl
theorem at_Tok {w : World} {A : Option Addr} {n : Nat} {xs : List Tok} (h : Kd.C kTok w A n xs) (i : Int) (h0 : 0 ≤ i) (h1 : i < n) : ∃ ad , A = some ad ∧ w.cell? (ad.add (i.toNat * 3)) = some (.int .i64 (getTok xs i).kind) ∧ w.cell? ⟨(ad.add (i.toNat * 3)).block, (ad.add (i.toNat * 3)).off + 1, none⟩ = some (.string (strOfNums (getTok xs i).text)) ∧ w.cell? ⟨(ad.add (i.toNat * 3)).block, (ad.add (i.toNat * 3)).off + 2, none⟩ = some (.int .i64 (getTok xs i).line) := by
  obtain ⟨ad, c, e, _, hK, hc0⟩ := Kd.C_get h tok0 i h0 h1
  have hc : ∀ j u, c[j]? = some u → w.cell? (ad.add (i.toNat * 3 + j)) = some u := hc0
  obtain rfl := kTok_open' hK
  exact ⟨ad, e, hc 0 _ rfl, by rw [← add_field _ _ 1 (by omega)]; exact hc 1 _ rfl, by rw [← add_field _ _ 2 (by omega)]; exact hc 2 _ rfl⟩
theorem drop1 (t : Tok) (ts : List Tok) (A : Option Addr) (cp : Nat) (hcp : ts.length + 1 ≤ cp) : ∃ A' : Option Addr, (∀ W : World, (Instr.slice 53 (.slice A (ts.length + 1) cp) (some (.int .i64 1)) none none).run Tryd.prog W = .ok (.slice A' ts.length (cp - 1)) W) ∧ (∀ w, Kd.C kTok w A (ts.length + 1) (t :: ts) → Kd.C kTok w A' ts.length ts) ∧ ts.length ≤ cp - 1 := by
  obtain ⟨i0, hi, hz0, hz1, hz2⟩ := info_parts infoTok
  refine ⟨_, fun W => cut_from 53 95 .i64 Tryd.underlying53 hi 3 hz1 A (ts.length + 1) cp 1 (by omega) (by omega) W, fun w h => ?_, by omega⟩
  exact Kd.C_drop (m := 1) (c := cp) h (by simp) hcp
theorem tok0_text {w : World} {ld : Addr} {t : Tok} {ts : List Tok} (h : Kd.C kTok w (some ld) (ts.length + 1) (t :: ts)) : w.cell? ⟨ld.block, ld.off + 1, none⟩ = some (.string (strOfNums t.text)) := by
  obtain ⟨ad, e, h0, h1, h2⟩ := at_Tok h 0 (by omega) (by omega)
  cases e
  have e0 : ld.add ((0 : Int).toNat * 3) = ld := by simp [Addr.add]
  rw [e0] at h1
  exact h1
theorem tok0_kind {w : World} {ld : Addr} {t : Tok} {ts : List Tok} (h : Kd.C kTok w (some ld) (ts.length + 1) (t :: ts)) : w.cell? ld = some (.int .i64 t.kind) := by
  obtain ⟨ad, e, h0, h1, h2⟩ := at_Tok h 0 (by omega) (by omega)
  cases e
  have e0 : ld.add ((0 : Int).toNat * 3) = ld := by simp [Addr.add]
  rw [e0] at h0
  exact h0
abbrev RowIs (w : World) (g : Nat) (line : Int) (A : Option Addr) (n c : Nat) : Prop := w.heap[g]? = some (.cells #[.int .i64 line, .slice A n c] 97 (0, 0))
def Took (w0 w : World) (g : Nat) (line : Int) (ts : List Tok) (w' : World) : Prop :=
  ∃ (A' : Option Addr) (c' : Nat), ts.length ≤ c' ∧ kTok.C w0 A' ts.length ts ∧ RowIs w' g line A' ts.length c' ∧ Below w0.heap.size w0 w' ∧ KeepBut w w' g none
def WordPost (w0 w : World) (g : Nat) (line : Int) (s : ByteArray) (ts : List Tok) (x : Ending) (w' : World) : Prop := x = .returned (.string s) ∧ Took w0 w g line ts w'
def NumPost (w0 w : World) (g : Nat) (line : Int) (n : Int) (ts : List Tok) (x : Ending) (w' : World) : Prop := x = .returned (.int .i64 n) ∧ Took w0 w g line ts w'
def WrongPost (w : World) (line e : Int) (x : Ending) (w' : World) : Prop := x = .panicked (wrongC line e) ∧ Below w.heap.size w w'
theorem keep_set {w w1 : World} {g j : Nat} {v : Value} (h : Below w.heap.size w w1) : KeepBut w (w1.setCell ⟨g, j, none⟩ v) g none :=
  ⟨by rw [show (w1.setCell ⟨g, j, none⟩ v).heap.size = w1.heap.size from by simp [World.setCell]]; exact h.size, fun i hi hg _ => (Below.heap_setCell w1 ⟨g, j, none⟩ v i hg).trans (h.block i hi)⟩
theorem took_of {w0 w w1 : World} {g : Nat} {line : Int} {A A' : Option Addr} {n c c' : Nat} {ts : List Tok} (hB : Below w0.heap.size w0 w) (hb : Below w.heap.size w w1) (hg : w0.heap.size ≤ g) (hR : RowIs w g line A n c) (hl : ts.length ≤ c') (hC : kTok.C w0 A' ts.length ts) :
    Took w0 w g line ts (w1.setCell ⟨g, 1, none⟩ (.slice A' ts.length c')) :=
  ⟨A', c', hl, hC, blk_put (blk_below hR hb) 1 _ rfl, below_set (below_step hB hb) hg, keep_set hb⟩
theorem word_yes (g : Nat) (line : Int) (A : Option Addr) (c : Nat) (t : Tok) (ts : List Tok) (w0 w : World) (hR : RowIs w g line A (ts.length + 1) c) (hC : kTok.C w0 A (ts.length + 1) (t :: ts)) (hB : Below w0.heap.size w0 w) (hc : ts.length + 1 ≤ c) (hg : w0.heap.size ≤ g) (ht : t.kind = 1) :
    Calls Tryd.prog 35 #[.pointer (some ⟨g, 0, none⟩)] w (WordPost w0 w g line (strOfNums t.text) ts) := by
  obtain ⟨ld, ea, _, _, _⟩ := at_Tok hC 0 (by omega) (by omega)
  subst ea
  have k0 := tok0_kind hC
  have k1 := tok0_text hC
  rw [ht] at k0
  replace k0 := (hB.cell (World.block_lt_of_cell? w0 _ k0)).trans k0
  replace k1 := (hB.cell (World.block_lt_of_cell? w0 _ k1)).trans k1
  obtain ⟨A', hcut, hdrop, hle⟩ := drop1 t ts (some ld) c hc
  have hcz0 : w.cell? ⟨g, 0, none⟩ = some (.int .i64 line) := (blk_cell hR 0).trans rfl
  have hcz1 : w.cell? ⟨g, 1, none⟩ = some (.slice (some ld) (ts.length + 1) c) := (blk_cell hR 1).trans rfl
  have hfz1 := blk_frozen hR 1
  have HC := Aside0.mk (hdrop w0 hC)
  have HLE := Aside0.mk hle
  have HR := Aside0.mk hR
  have HB := Aside0.mk hB
  have HG := Aside0.mk hg
  clear hC hdrop hle hR ht hc hB hg
  go_enter Tryd.func35, Tryd.ntmps35
  go_wp2_with (first | (go_at_call 36; refine (must_yes _ _ _).mono ?_; rintro e w' ⟨rfl, rfl⟩))
  go_ret
  exact ⟨rfl, took_of HB.out (Below.refl _ _) HG.out HR.out HLE.out HC.out⟩
theorem word_no (g : Nat) (line : Int) (A : Option Addr) (n c : Nat) (ts : List Tok) (w0 w : World) (hR : RowIs w g line A n c) (hC : kTok.C w0 A n ts) (hB : Below w0.heap.size w0 w) (hk : ∀ t r, ts = t :: r → t.kind ≠ 1) :
    Calls Tryd.prog 35 #[.pointer (some ⟨g, 0, none⟩)] w (WrongPost w line 2) := by
  have hcz0 : w.cell? ⟨g, 0, none⟩ = some (.int .i64 line) := (blk_cell hR 0).trans rfl
  have hcz1 : w.cell? ⟨g, 1, none⟩ = some (.slice A n c) := (blk_cell hR 1).trans rfl
  have hn : ts.length = n := hC.1
  cases ts with
  | nil =>
    simp only [List.length_nil] at hn
    subst hn
    clear hC hk hR
    go_enter Tryd.func35, Tryd.ntmps35
    go_wp2_with (first | (go_at_call 36; refine (must_no _ line _ _ hcz0 rfl).mono ?_; rintro e w' ⟨rfl, rfl⟩))
    exact ⟨rfl, rfl, Below.refl _ _⟩
  | cons t r =>
    simp only [List.length_cons] at hn
    subst hn
    obtain ⟨ld, ea, _, _, _⟩ := at_Tok hC 0 (by omega) (by omega)
    subst ea
    have k0 := tok0_kind hC
    replace k0 := (hB.cell (World.block_lt_of_cell? w0 _ k0)).trans k0
    have hd : (t.kind == 1) = false := beq_eq_false_iff_ne.2 (hk t r rfl)
    clear hC hk hR hB
    go_enter Tryd.func35, Tryd.ntmps35
    go_wp2_with (first | (go_at_call 36; refine (must_no _ line _ _ hcz0 rfl).mono ?_; rintro e w' ⟨rfl, rfl⟩))
    exact ⟨rfl, rfl, Below.refl _ _⟩
theorem number_yes (g : Nat) (line : Int) (A : Option Addr) (c : Nat) (t : Tok) (ts : List Tok) (n : Int) (w0 w : World) (hR : RowIs w g line A (ts.length + 1) c) (hC : kTok.C w0 A (ts.length + 1) (t :: ts)) (hB : Below w0.heap.size w0 w) (hc : ts.length + 1 ≤ c) (hg : w0.heap.size ≤ g) (ht : t.kind = 2) (hs : (strOfNums t.text).size < 4294967281) (hn : NumS.parseF (strOfNums t.text) = (n, 0)) :
    Calls Tryd.prog 38 #[.pointer (some ⟨g, 0, none⟩)] w (NumPost w0 w g line n ts) := by
  obtain ⟨ld, ea, _, _, _⟩ := at_Tok hC 0 (by omega) (by omega)
  subst ea
  have k0 := tok0_kind hC
  have k1 := tok0_text hC
  rw [ht] at k0
  replace k0 := (hB.cell (World.block_lt_of_cell? w0 _ k0)).trans k0
  replace k1 := (hB.cell (World.block_lt_of_cell? w0 _ k1)).trans k1
  obtain ⟨A', hcut, hdrop, hle⟩ := drop1 t ts (some ld) c hc
  have hcz0 : w.cell? ⟨g, 0, none⟩ = some (.int .i64 line) := (blk_cell hR 0).trans rfl
  have hcz1 : w.cell? ⟨g, 1, none⟩ = some (.slice (some ld) (ts.length + 1) c) := (blk_cell hR 1).trans rfl
  have HP := NumA.parse_calls (strOfNums t.text) w hs
  rw [hn] at HP
  have HC := Aside0.mk (hdrop w0 hC)
  have HLE := Aside0.mk hle
  have HR := Aside0.mk hR
  have HB := Aside0.mk hB
  have HG := Aside0.mk hg
  have HPP := Aside0.mk HP
  clear hC hdrop hle hR ht hc hB hg hs hn HP
  go_enter Tryd.func38, Tryd.ntmps38
  go_wp2_with (first | (go_at_call 36; refine (must_yes _ _ _).mono ?_; rintro e w' ⟨rfl, rfl⟩) | (go_at_call 49; refine HPP.out.mono ?_; rintro e w1 ⟨rfl, hb⟩; have HR1 := Aside0.mk (blk_below HR.out hb); have hcy1 : w1.cell? ⟨g, 1, none⟩ = some (.slice (some ld) (ts.length + 1) c) := (blk_cell HR1.out 1).trans rfl; have hfy1 := blk_frozen HR1.out 1; have HB1 := Aside0.mk hb; clear hb))
  go_ret
  exact ⟨rfl, took_of HB.out HB1.out HG.out HR.out HLE.out HC.out⟩
theorem number_no (g : Nat) (line : Int) (A : Option Addr) (n c : Nat) (ts : List Tok) (w0 w : World) (hR : RowIs w g line A n c) (hC : kTok.C w0 A n ts) (hB : Below w0.heap.size w0 w) (hk : ∀ t r, ts = t :: r → t.kind ≠ 2) :
    Calls Tryd.prog 38 #[.pointer (some ⟨g, 0, none⟩)] w (WrongPost w line 2) := by
  have hcz0 : w.cell? ⟨g, 0, none⟩ = some (.int .i64 line) := (blk_cell hR 0).trans rfl
  have hcz1 : w.cell? ⟨g, 1, none⟩ = some (.slice A n c) := (blk_cell hR 1).trans rfl
  have hn : ts.length = n := hC.1
  cases ts with
  | nil =>
    simp only [List.length_nil] at hn
    subst hn
    clear hC hk hR
    go_enter Tryd.func38, Tryd.ntmps38
    go_wp2_with (first | (go_at_call 36; refine (must_no _ line _ _ hcz0 rfl).mono ?_; rintro e w' ⟨rfl, rfl⟩))
    exact ⟨rfl, rfl, Below.refl _ _⟩
  | cons t r =>
    simp only [List.length_cons] at hn
    subst hn
    obtain ⟨ld, ea, _, _, _⟩ := at_Tok hC 0 (by omega) (by omega)
    subst ea
    have k0 := tok0_kind hC
    replace k0 := (hB.cell (World.block_lt_of_cell? w0 _ k0)).trans k0
    have hd : (t.kind == 2) = false := beq_eq_false_iff_ne.2 (hk t r rfl)
    clear hC hk hR hB
    go_enter Tryd.func38, Tryd.ntmps38
    go_wp2_with (first | (go_at_call 36; refine (must_no _ line _ _ hcz0 rfl).mono ?_; rintro e w' ⟨rfl, rfl⟩))
    exact ⟨rfl, rfl, Below.refl _ _⟩
theorem number_err (g : Nat) (line : Int) (A : Option Addr) (c : Nat) (t : Tok) (ts : List Tok) (n er : Int) (w0 w : World) (hR : RowIs w g line A (ts.length + 1) c) (hC : kTok.C w0 A (ts.length + 1) (t :: ts)) (hB : Below w0.heap.size w0 w) (ht : t.kind = 2) (hs : (strOfNums t.text).size < 4294967281) (hn : NumS.parseF (strOfNums t.text) = (n, er)) (her : er ≠ 0) :
    Calls Tryd.prog 38 #[.pointer (some ⟨g, 0, none⟩)] w (WrongPost w line er) := by
  obtain ⟨ld, ea, _, _, _⟩ := at_Tok hC 0 (by omega) (by omega)
  subst ea
  have k0 := tok0_kind hC
  have k1 := tok0_text hC
  rw [ht] at k0
  replace k0 := (hB.cell (World.block_lt_of_cell? w0 _ k0)).trans k0
  replace k1 := (hB.cell (World.block_lt_of_cell? w0 _ k1)).trans k1
  have hcz0 : w.cell? ⟨g, 0, none⟩ = some (.int .i64 line) := (blk_cell hR 0).trans rfl
  have hcz1 : w.cell? ⟨g, 1, none⟩ = some (.slice (some ld) (ts.length + 1) c) := (blk_cell hR 1).trans rfl
  have HP := NumA.parse_calls (strOfNums t.text) w hs
  rw [hn] at HP
  have hd : (er == 0) = false := beq_eq_false_iff_ne.2 her
  have HR := Aside0.mk hR
  have HPP := Aside0.mk HP
  clear hC hR ht hB hs hn HP her
  go_enter Tryd.func38, Tryd.ntmps38
  go_wp2_with (first | (go_at_call 49; refine HPP.out.mono ?_; rintro e w1 ⟨rfl, hb⟩; have HR1 := Aside0.mk (blk_below HR.out hb); have hcy0 : w1.cell? ⟨g, 0, none⟩ = some (.int .i64 line) := (blk_cell HR1.out 0).trans rfl; have HB1 := Aside0.mk hb; clear hb) | (go_at_call 36; refine (must_no _ line _ _ hcy0 rfl).mono ?_; rintro e w' ⟨rfl, rfl⟩) | (go_at_call 36; refine (must_yes _ _ _).mono ?_; rintro e w' ⟨rfl, rfl⟩))
  exact ⟨rfl, rfl, HB1.out⟩
end Go.Proofs.YtegbfimfpkendaaDoor.PaA
