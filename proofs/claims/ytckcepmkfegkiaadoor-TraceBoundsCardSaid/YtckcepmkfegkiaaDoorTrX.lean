/- The walk of Text. Conditions: the table of words and the powers of ten are laid. -/
import Derived.Test.YtckcepmkfegkiaaDoorTrW
import Derived.Test.YtckcepmkfegkiaaDoorTrH
import Derived.Test.YtckcepmkfegkiaaDoorNumA
import Derived.Test.YtckcepmkfegkiaaDoorTrIx
namespace Go.Proofs.YtckcepmkfegkiaaDoor.TrX
open Go.RowKit Go.Proofs.YtckcepmkfegkiaaDoorW.PrintWords Go.Proofs.YtckcepmkfegkiaaDoorW.PrintLast Go.Proofs.YtckcepmkfegkiaaDoorW.PrintMore TrS TrA TrB TrC TrD TrE TrF TrG TrH TrW
set_option linter.unusedVariables false
set_option linter.unusedSimpArgs false
def wordsT : List (List UInt8) := [[111, 116, 104, 101, 114], [115, 116, 97, 114, 116], [100, 105, 100], [102, 97, 105, 108], [110, 101, 101, 100], [108, 97, 116, 101], [115, 116, 111, 112]]
def kindT (e : Ev) : Int := if known e = true then e.kind else 0
def wordOf (e : Ev) : List UInt8 := wordsT.getD (kindT e).toNat []
def fld (e : Ev) (j : Nat) : Int := [e.task, e.slot, e.epoch, e.tick].getD j 0
def numsT (e : Ev) : Nat → List UInt8
  | 0 => []
  | j + 1 => numsT e j ++ (32 :: Lib.itoa (fld e j))
def rowT (e : Ev) : List UInt8 := wordOf e ++ (numsT e 4 ++ [10])
def textL : List Ev → List UInt8
  | [] => []
  | e :: l => rowT e ++ textL l
theorem textL_append : ∀ a b : List Ev, textL (a ++ b) = textL a ++ textL b
  | [], _ => rfl
  | e :: a, b => by rw [List.cons_append, textL, textL, textL_append a b, List.append_assoc]
def WordsIs (w : World) : Prop := 0 < w.heap.size ∧ ∀ k : Nat, k < 7 → w.cell? ⟨0, k, none⟩ = some (.string ⟨(wordsT.getD k []).toArray⟩)
theorem WordsIs.below {w W : World} (h : WordsIs w) (hb : Below w.heap.size w W) : WordsIs W :=
  ⟨Nat.lt_of_lt_of_le h.1 hb.size, fun k hk => (hb.cell (p := ⟨0, k, none⟩) h.1).trans (h.2 k hk)⟩
theorem kindT_lt (e : Ev) : 0 ≤ kindT e ∧ kindT e < 7 := by
  unfold kindT known
  split
  · rename_i h
    simp only [Bool.and_eq_true, decide_eq_true_eq] at h
    omega
  · omega
def inI (n : Int) : Prop := -9223372036854775808 ≤ n ∧ n ≤ 9223372036854775807
def EvIn (e : Ev) : Prop := inI e.task ∧ inI e.slot ∧ inI e.epoch ∧ inI e.tick
theorem str_app (a b : List UInt8) : (⟨a.toArray⟩ : ByteArray) ++ (⟨b.toArray⟩ : ByteArray) = ⟨(a ++ b).toArray⟩ := by
  apply ByteArray.ext
  simp
theorem cells_str (l : List UInt8) : Lib.strCells (⟨l.toArray⟩ : ByteArray) = Lib.byteCells l := rfl
theorem numsT_le (e : Ev) : ∀ j, j ≤ 4 → (numsT e j).length ≤ (numsT e 4).length := by
  intro j hj
  have h : ∀ j, (numsT e j).length ≤ (numsT e (j + 1)).length := fun j => by rw [numsT, List.length_append]; omega
  match j, hj with
  | 0, _ => exact Nat.zero_le _
  | 1, _ => exact Nat.le_trans (h 1) (Nat.le_trans (h 2) (h 3))
  | 2, _ => exact Nat.le_trans (h 2) (h 3)
  | 3, _ => exact h 3
  | 4, _ => exact Nat.le_refl _
theorem text1_calls (n : Int) (hn : inI n) (w : World) (hT : NumA.Tab w) (s : ByteArray) (hs : (⟨(Lib.itoa n).toArray⟩ : ByteArray) = s) : Calls Tryd.prog 33 #[.int .i64 n] w fun e w' => e = .returned (.string s) ∧ Below w.heap.size w w' := hs ▸ NumA.text_calls n hn.1 hn.2 w hT.out
set_option maxHeartbeats 16000000 in
set_option maxRecDepth 100000 in
theorem text_calls (l : List Ev) (lA : Option Addr) (lc : Nat) (w : World) (hL : Kd.C kEv w lA l.length l) (hW : WordsIs w) (hT : NumA.Tab w) (hin : ∀ e ∈ l, EvIn e) (hl : l.length ≤ 4398046511104) (hsz : (textL l).length ≤ 140737488355328) : Calls Tryd.prog 20 #[.slice lA l.length lc] w fun x w' => x = .returned (.string ⟨(textL l).toArray⟩) ∧ Below w.heap.size w w' := by
  have HLs := Aside0.mk hL
  have HW := Aside0.mk hW
  have HT := Aside0.mk hT
  have HIN := Aside0.mk hin
  have HM := Aside0.mk hl
  have HSZ := Aside0.mk hsz
  clear hL hW hT hin hl hsz
  go_enter Tryd.func20, Tryd.ntmps20
  go_upto_region 2 with (first | ((with_reducible refine gate_dst (N := 3) rfl ?_); (try (refine gate_guard (by rfl) ?_; dsimp only)); refine box_event ?hg (N := 3) ?hd (cs := #[.pointer none, .slice none 0 0]) (t := 83) ?hr ?_; (case hd => rfl); (case hg => rfl); (case hr => first | (go_simp; done) | (go_simp; rfl)); intro sb hg w1 hbox hb; have HB := Aside0.mk hb; have HS : Aside0 (Lib.IsBuilder 83 5 w.heap.size sb (Lib.byteCells (textL (l.take 0))) w1) := ⟨.inl ⟨Nat.le_of_eq hg.symm, .slice none 0 0, hbox, ⟨rfl, .inl ⟨rfl, rfl⟩⟩, by simp [Value.ownBlock]⟩⟩; clear hbox hb hg))
  go_wp2
  go_loopg [11] l.length (fun gg s11 wr => ∃ (kk : Nat), kk ≤ l.length ∧ l.length - kk ≤ gg ∧ s11 = .int .i64 kk ∧ Aside0 (Below w.heap.size w wr) ∧ Aside0 (Lib.IsBuilder 83 5 w.heap.size sb (Lib.byteCells (textL (l.take kk))) wr))
  case atStart => exact ⟨0, Nat.zero_le _, by omega, rfl, HB, HS⟩
  case round =>
    obtain ⟨kk, hkk, hg, rfl, BW, BS⟩ := hrel
    by_cases hlt : kk < l.length
    · have hltz : (kk : Int) < (l.length : Int) := by omega
      have hk0 : (0 : Int) ≤ (kk : Int) := by omega
      have htk : l.take (kk + 1) = l.take kk ++ [getE l kk] := by
        rw [List.take_succ_eq_append_getElem hlt]
        simp [getE, List.getD_eq_getElem?_getD, hlt]
      have hmem : getE l kk ∈ l := by
        have : getE l kk = l[kk] := by simp [getE, List.getD_eq_getElem?_getD, hlt]
        rw [this]
        exact List.getElem_mem hlt
      have hpre : (textL (l.take kk)).length + (rowT (getE l kk)).length ≤ 140737488355328 := by
        have h1 : textL l = textL (l.take kk) ++ (rowT (getE l kk) ++ textL (l.drop (kk + 1))) := by
          have h2 : l = l.take (kk + 1) ++ l.drop (kk + 1) := (List.take_append_drop _ _).symm
          conv => lhs; rw [h2]
          rw [textL_append, htk, textL_append]
          simp [textL]
        have h3 := HSZ.out
        rw [h1, List.length_append, List.length_append] at h3
        omega
      obtain ⟨ld, el, hx0, hx1, hx2, hx3, hx4⟩ := at_Ev (Kd.C_below HLs.out BW.out) (kk : Int) hk0 hltz
      simp only [Int.toNat_natCast] at hx0 hx1 hx2 hx3 hx4
      subst el
      have p1 := eq_true hk0
      have q1 := eq_true hltz
      have Hlt := Aside0.mk hlt
      have Hg := Aside0.mk hg
      have HTK := Aside0.mk htk
      have HME := Aside0.mk (HIN.out _ hmem)
      have HPRE := Aside0.mk hpre
      clear hk0 hlt hltz hg hkk htk hmem hpre
      go_upto_region 5 with (first | ((with_reducible refine gate_dst (N := 5) rfl ?_); (try (refine gate_guard (by rfl) ?_; dsimp only)); refine box_event ?hg (N := 5) ?hd (cs := #[.int .i64 0, .int .i64 0, .int .i64 0, .int .i64 0, .int .i64 0]) (t := 42) ?hr ?_; (case hd => rfl); (case hg => rfl); (case hr => first | (go_simp; done) | (go_simp; rfl)); intro gb hg w2 hbox hb; have hz0 : w2.cell? ⟨gb, 0, none⟩ = some (.int .i64 0) := (blk_cell hbox 0).trans rfl; have hz1 : w2.cell? ⟨gb, 1, none⟩ = some (.int .i64 0) := (blk_cell hbox 1).trans rfl; have hz2 : w2.cell? ⟨gb, 2, none⟩ = some (.int .i64 0) := (blk_cell hbox 2).trans rfl; have hz3 : w2.cell? ⟨gb, 3, none⟩ = some (.int .i64 0) := (blk_cell hbox 3).trans rfl; have hz4 : w2.cell? ⟨gb, 4, none⟩ = some (.int .i64 0) := (blk_cell hbox 4).trans rfl; have hf0 := blk_frozen hbox 0; have hf1 := blk_frozen hbox 1; have hf2 := blk_frozen hbox 2; have hf3 := blk_frozen hbox 3; have hf4 := blk_frozen hbox 4; have HX2 := Aside0.mk hbox; have HW2 := Aside0.mk hb; have GE2 := Aside0.mk (Nat.le_of_eq hg.symm); clear hbox hb hg))
      obtain ⟨w3, hw3, hX, hW⟩ := set5 (.int .i64 (getE l kk).kind) (.int .i64 (getE l kk).task) (.int .i64 (getE l kk).slot) (.int .i64 (getE l kk).epoch) (.int .i64 (getE l kk).tick) HX2.out HW2.out GE2.out
      rw [← hw3]
      have BW3 := Aside0.mk (below_step BW.out hW)
      have BS3 := Aside0.mk (IsB.below BS.out hW)
      have HX3 := Aside0.mk hX
      have hy0 : w3.cell? ⟨gb, 0, none⟩ = some (.int .i64 (getE l kk).kind) := (blk_cell HX3.out 0).trans rfl
      have hy1 : w3.cell? ⟨gb, 1, none⟩ = some (.int .i64 (getE l kk).task) := (blk_cell HX3.out 1).trans rfl
      have hy2 : w3.cell? ⟨gb, 2, none⟩ = some (.int .i64 (getE l kk).slot) := (blk_cell HX3.out 2).trans rfl
      have hy3 : w3.cell? ⟨gb, 3, none⟩ = some (.int .i64 (getE l kk).epoch) := (blk_cell HX3.out 3).trans rfl
      have hy4 : w3.cell? ⟨gb, 4, none⟩ = some (.int .i64 (getE l kk).tick) := (blk_cell HX3.out 4).trans rfl
      have hne : gb ≠ sb := by
        have h1 := GE2.out
        have h2 := IsB.block BS.out
        omega
      clear hX hW hw3 HX2 HW2 GE2 hz0 hz1 hz2 hz3 hz4 hf0 hf1 hf2 hf3 hf4 hx0 hx1 hx2 hx3 hx4 p1 q1
      cases hkn : known (getE l kk) with
      | true =>
        go_wp2_with fail
        refine (known_calls_b _ _ true hkn).mono ?_
        rintro e' w4 ⟨rfl, hb4⟩
        have BW4 := Aside0.mk (below_step BW3.out hb4)
        have BS4 := Aside0.mk (IsB.below BS3.out hb4)
        have HX4 := Aside0.mk ((hb4.block gb (lt' HX3.out)).trans HX3.out)
        clear hy0 hy1 hy2 hy3 hy4 hb4
        have hy0 : w4.cell? ⟨gb, 0, none⟩ = some (.int .i64 (getE l kk).kind) := (blk_cell HX4.out 0).trans rfl
        have hy1 : w4.cell? ⟨gb, 1, none⟩ = some (.int .i64 (getE l kk).task) := (blk_cell HX4.out 1).trans rfl
        have hy2 : w4.cell? ⟨gb, 2, none⟩ = some (.int .i64 (getE l kk).slot) := (blk_cell HX4.out 2).trans rfl
        have hy3 : w4.cell? ⟨gb, 3, none⟩ = some (.int .i64 (getE l kk).epoch) := (blk_cell HX4.out 3).trans rfl
        have hy4 : w4.cell? ⟨gb, 4, none⟩ = some (.int .i64 (getE l kk).tick) := (blk_cell HX4.out 4).trans rfl
        have hkt : kindT (getE l kk) = (getE l kk).kind := by unfold kindT; rw [hkn]; rfl
        obtain ⟨hkl, hku⟩ := kindT_lt (getE l kk)
        have hwd : w4.cell? ⟨0, (kindT (getE l kk)).toNat, none⟩ = some (.string ⟨(wordOf (getE l kk)).toArray⟩) := (HW.out.below BW4.out).2 (kindT (getE l kk)).toNat (by omega)
        rw [hkt] at hkl hku hwd
        have p1 := eq_true hkl
        have q1 := eq_true hku
        clear hkt hkl hku
        go_wp2_with fail
        refine (write_calls w.heap.size sb _ _ _ BS4.out (by have h1 := HPRE.out; unfold rowT at h1; rw [List.length_append] at h1; rw [Lib.byteCells_length]; simp [ByteArray.size]; omega) (below_size BW4.out)).mono ?_
        rintro e' w5 ⟨rfl, HB5, hb5, hkp5⟩
        have BW5 := Aside0.mk (BW4.out.trans hb5)
        have BS5 : Aside0 (Lib.IsBuilder 83 5 w.heap.size sb (Lib.byteCells (textL (l.take kk) ++ (wordOf (getE l kk) ++ numsT (getE l kk) 0))) w5) := ⟨by
          have e1 : Lib.byteCells (textL (l.take kk) ++ (wordOf (getE l kk) ++ numsT (getE l kk) 0)) = Lib.byteCells (textL (l.take kk)) ++ Lib.strCells (⟨(wordOf (getE l kk)).toArray⟩ : ByteArray) := by
            rw [cells_str, ← Lib.byteCells_append]
            show Lib.byteCells (textL (l.take kk) ++ (wordOf (getE l kk) ++ [])) = _
            rw [List.append_nil]
          rw [e1]
          exact .inr HB5⟩
        have HX5 := Aside0.mk (hkp5 gb _ _ _ HX4.out (by decide) hne)
        clear hy0 hy1 hy2 hy3 hy4 hb5 hkp5 HB5 hwd p1 q1
        have hy0 : w5.cell? ⟨gb, 0, none⟩ = some (.int .i64 (getE l kk).kind) := (blk_cell HX5.out 0).trans rfl
        have hy1 : w5.cell? ⟨gb, 1, none⟩ = some (.int .i64 (getE l kk).task) := (blk_cell HX5.out 1).trans rfl
        have hy2 : w5.cell? ⟨gb, 2, none⟩ = some (.int .i64 (getE l kk).slot) := (blk_cell HX5.out 2).trans rfl
        have hy3 : w5.cell? ⟨gb, 3, none⟩ = some (.int .i64 (getE l kk).epoch) := (blk_cell HX5.out 3).trans rfl
        have hy4 : w5.cell? ⟨gb, 4, none⟩ = some (.int .i64 (getE l kk).tick) := (blk_cell HX5.out 4).trans rfl
        go_wp2
        clear hy0 hy1 hy2 hy3 hy4
        go_loopg [32] 4 (fun gg s32 wi => ∃ (j : Nat), j ≤ 4 ∧ 4 - j ≤ gg ∧ s32 = .int .i64 j ∧ Aside0 (Below w.heap.size w wi) ∧ Aside0 (Lib.IsBuilder 83 5 w.heap.size sb (Lib.byteCells (textL (l.take kk) ++ (wordOf (getE l kk) ++ numsT (getE l kk) j))) wi))
        case atStart => exact ⟨0, by omega, by omega, rfl, BW5, BS5⟩
        case round =>
          obtain ⟨j, hj, hgi, hs32, BWi, BSi⟩ := hrel
          have HGI := Aside0.mk hgi
          clear hgi
          rcases (show j = 0 ∨ j = 1 ∨ j = 2 ∨ j = 3 ∨ j = 4 by omega) with rfl | rfl | rfl | rfl | rfl
          · replace hs32 : _ = Value.int .i64 0 := hs32
            subst hs32
            obtain ⟨s, hs⟩ : ∃ s, (⟨(Lib.itoa (getE l kk).task).toArray⟩ : ByteArray) = s := ⟨_, rfl⟩
            have hsl : s.size = (Lib.itoa (getE l kk).task).length := by rw [← hs]; simp [ByteArray.size]
            have hfull : (textL (l.take kk)).length + ((wordOf (getE l kk)).length + ((numsT (getE l kk) 0).length + (1 + s.size))) ≤ 140737488355328 := by
              have h1 := HPRE.out
              have h2 := numsT_le (getE l kk) 1 (by omega)
              have h3 : (numsT (getE l kk) 1).length = (numsT (getE l kk) 0).length + (1 + (Lib.itoa (getE l kk).task).length) := by
                show (numsT (getE l kk) 0 ++ (32 :: Lib.itoa (getE l kk).task)).length = _
                rw [List.length_append, List.length_cons]
                omega
              unfold rowT at h1
              rw [List.length_append, List.length_append] at h1
              omega
            have z1 : (1 + s.size ≤ 9223372036854775807) = True := eq_true (by omega)
            have z2 : (9223372036854775807 < 1 + s.size) = False := eq_false (by omega)
            have z3 : (s.size + 1 ≤ 9223372036854775807) = True := eq_true (by omega)
            have z4 : (9223372036854775807 < s.size + 1) = False := eq_false (by omega)
            have kix := fun (W : World) => TrIx.ix0 (getE l kk).task (getE l kk).slot (getE l kk).epoch (getE l kk).tick W
            have HFULL := Aside0.mk hfull
            have HSS := Aside0.mk hs
            clear hfull hsl hs
            go_wp2_with fail
            refine (text1_calls (getE l kk).task HME.out.1 _ (HT.out.below BWi.out) s HSS.out).mono ?_
            rintro e' w6 ⟨rfl, hb6⟩
            have BW6 := Aside0.mk (below_step BWi.out hb6)
            have BS6 := Aside0.mk (IsB.below BSi.out hb6)
            clear hb6
            go_wp2_with fail
            have hlen1 : (Lib.byteCells (textL (l.take kk) ++ (wordOf (getE l kk) ++ numsT (getE l kk) 0))).length + ((⟨#[32]⟩ : ByteArray) ++ s).size ≤ 140737488355328 := by
              have h1 := HFULL.out
              have e1 : ((⟨#[32]⟩ : ByteArray) ++ s).size = 1 + s.size := by rw [ByteArray.size_append]; rfl
              rw [e1, Lib.byteCells_length, List.length_append, List.length_append]
              omega
            refine (write_calls w.heap.size sb _ _ _ BS6.out hlen1 (below_size BW6.out)).mono ?_
            rintro e' w7 ⟨rfl, HB7, hb7, _⟩
            have BW7 := Aside0.mk (BW6.out.trans hb7)
            have BS7 : Aside0 (Lib.IsBuilder 83 5 w.heap.size sb (Lib.byteCells (textL (l.take kk) ++ (wordOf (getE l kk) ++ numsT (getE l kk) 1))) w7) := ⟨by
              have e1 : Lib.byteCells (textL (l.take kk) ++ (wordOf (getE l kk) ++ numsT (getE l kk) 1)) = Lib.byteCells (textL (l.take kk) ++ (wordOf (getE l kk) ++ numsT (getE l kk) 0)) ++ Lib.strCells ((⟨#[32]⟩ : ByteArray) ++ s) := by
                have e2 : (⟨#[32]⟩ : ByteArray) ++ s = ⟨(32 :: Lib.itoa (getE l kk).task).toArray⟩ := by rw [← HSS.out]; exact str_app [32] _
                rw [e2, cells_str, ← Lib.byteCells_append, List.append_assoc, List.append_assoc]
                rfl
              rw [e1]
              exact .inr HB7⟩
            clear hb7 HB7 z1 z2 z3 z4 hlen1 kix
            go_wp2
            go_roundg (4 - 1)
            case measure => have := HGI.out; omega
            case rel => exact ⟨1, by omega, by omega, by first | rfl | (simp; done), BW7, BS7⟩
          · replace hs32 : _ = Value.int .i64 1 := hs32
            subst hs32
            obtain ⟨s, hs⟩ : ∃ s, (⟨(Lib.itoa (getE l kk).slot).toArray⟩ : ByteArray) = s := ⟨_, rfl⟩
            have hsl : s.size = (Lib.itoa (getE l kk).slot).length := by rw [← hs]; simp [ByteArray.size]
            have hfull : (textL (l.take kk)).length + ((wordOf (getE l kk)).length + ((numsT (getE l kk) 1).length + (1 + s.size))) ≤ 140737488355328 := by
              have h1 := HPRE.out
              have h2 := numsT_le (getE l kk) 2 (by omega)
              have h3 : (numsT (getE l kk) 2).length = (numsT (getE l kk) 1).length + (1 + (Lib.itoa (getE l kk).slot).length) := by
                show (numsT (getE l kk) 1 ++ (32 :: Lib.itoa (getE l kk).slot)).length = _
                rw [List.length_append, List.length_cons]
                omega
              unfold rowT at h1
              rw [List.length_append, List.length_append] at h1
              omega
            have z1 : (1 + s.size ≤ 9223372036854775807) = True := eq_true (by omega)
            have z2 : (9223372036854775807 < 1 + s.size) = False := eq_false (by omega)
            have z3 : (s.size + 1 ≤ 9223372036854775807) = True := eq_true (by omega)
            have z4 : (9223372036854775807 < s.size + 1) = False := eq_false (by omega)
            have kix := fun (W : World) => TrIx.ix1 (getE l kk).task (getE l kk).slot (getE l kk).epoch (getE l kk).tick W
            have HFULL := Aside0.mk hfull
            have HSS := Aside0.mk hs
            clear hfull hsl hs
            go_wp2_with fail
            refine (text1_calls (getE l kk).slot HME.out.2.1 _ (HT.out.below BWi.out) s HSS.out).mono ?_
            rintro e' w6 ⟨rfl, hb6⟩
            have BW6 := Aside0.mk (below_step BWi.out hb6)
            have BS6 := Aside0.mk (IsB.below BSi.out hb6)
            clear hb6
            go_wp2_with fail
            have hlen1 : (Lib.byteCells (textL (l.take kk) ++ (wordOf (getE l kk) ++ numsT (getE l kk) 1))).length + ((⟨#[32]⟩ : ByteArray) ++ s).size ≤ 140737488355328 := by
              have h1 := HFULL.out
              have e1 : ((⟨#[32]⟩ : ByteArray) ++ s).size = 1 + s.size := by rw [ByteArray.size_append]; rfl
              rw [e1, Lib.byteCells_length, List.length_append, List.length_append]
              omega
            refine (write_calls w.heap.size sb _ _ _ BS6.out hlen1 (below_size BW6.out)).mono ?_
            rintro e' w7 ⟨rfl, HB7, hb7, _⟩
            have BW7 := Aside0.mk (BW6.out.trans hb7)
            have BS7 : Aside0 (Lib.IsBuilder 83 5 w.heap.size sb (Lib.byteCells (textL (l.take kk) ++ (wordOf (getE l kk) ++ numsT (getE l kk) 2))) w7) := ⟨by
              have e1 : Lib.byteCells (textL (l.take kk) ++ (wordOf (getE l kk) ++ numsT (getE l kk) 2)) = Lib.byteCells (textL (l.take kk) ++ (wordOf (getE l kk) ++ numsT (getE l kk) 1)) ++ Lib.strCells ((⟨#[32]⟩ : ByteArray) ++ s) := by
                have e2 : (⟨#[32]⟩ : ByteArray) ++ s = ⟨(32 :: Lib.itoa (getE l kk).slot).toArray⟩ := by rw [← HSS.out]; exact str_app [32] _
                rw [e2, cells_str, ← Lib.byteCells_append, List.append_assoc, List.append_assoc]
                rfl
              rw [e1]
              exact .inr HB7⟩
            clear hb7 HB7 z1 z2 z3 z4 hlen1 kix
            go_wp2
            go_roundg (4 - 2)
            case measure => have := HGI.out; omega
            case rel => exact ⟨2, by omega, by omega, by first | rfl | (simp; done), BW7, BS7⟩
          · replace hs32 : _ = Value.int .i64 2 := hs32
            subst hs32
            obtain ⟨s, hs⟩ : ∃ s, (⟨(Lib.itoa (getE l kk).epoch).toArray⟩ : ByteArray) = s := ⟨_, rfl⟩
            have hsl : s.size = (Lib.itoa (getE l kk).epoch).length := by rw [← hs]; simp [ByteArray.size]
            have hfull : (textL (l.take kk)).length + ((wordOf (getE l kk)).length + ((numsT (getE l kk) 2).length + (1 + s.size))) ≤ 140737488355328 := by
              have h1 := HPRE.out
              have h2 := numsT_le (getE l kk) 3 (by omega)
              have h3 : (numsT (getE l kk) 3).length = (numsT (getE l kk) 2).length + (1 + (Lib.itoa (getE l kk).epoch).length) := by
                show (numsT (getE l kk) 2 ++ (32 :: Lib.itoa (getE l kk).epoch)).length = _
                rw [List.length_append, List.length_cons]
                omega
              unfold rowT at h1
              rw [List.length_append, List.length_append] at h1
              omega
            have z1 : (1 + s.size ≤ 9223372036854775807) = True := eq_true (by omega)
            have z2 : (9223372036854775807 < 1 + s.size) = False := eq_false (by omega)
            have z3 : (s.size + 1 ≤ 9223372036854775807) = True := eq_true (by omega)
            have z4 : (9223372036854775807 < s.size + 1) = False := eq_false (by omega)
            have kix := fun (W : World) => TrIx.ix2 (getE l kk).task (getE l kk).slot (getE l kk).epoch (getE l kk).tick W
            have HFULL := Aside0.mk hfull
            have HSS := Aside0.mk hs
            clear hfull hsl hs
            go_wp2_with fail
            refine (text1_calls (getE l kk).epoch HME.out.2.2.1 _ (HT.out.below BWi.out) s HSS.out).mono ?_
            rintro e' w6 ⟨rfl, hb6⟩
            have BW6 := Aside0.mk (below_step BWi.out hb6)
            have BS6 := Aside0.mk (IsB.below BSi.out hb6)
            clear hb6
            go_wp2_with fail
            have hlen1 : (Lib.byteCells (textL (l.take kk) ++ (wordOf (getE l kk) ++ numsT (getE l kk) 2))).length + ((⟨#[32]⟩ : ByteArray) ++ s).size ≤ 140737488355328 := by
              have h1 := HFULL.out
              have e1 : ((⟨#[32]⟩ : ByteArray) ++ s).size = 1 + s.size := by rw [ByteArray.size_append]; rfl
              rw [e1, Lib.byteCells_length, List.length_append, List.length_append]
              omega
            refine (write_calls w.heap.size sb _ _ _ BS6.out hlen1 (below_size BW6.out)).mono ?_
            rintro e' w7 ⟨rfl, HB7, hb7, _⟩
            have BW7 := Aside0.mk (BW6.out.trans hb7)
            have BS7 : Aside0 (Lib.IsBuilder 83 5 w.heap.size sb (Lib.byteCells (textL (l.take kk) ++ (wordOf (getE l kk) ++ numsT (getE l kk) 3))) w7) := ⟨by
              have e1 : Lib.byteCells (textL (l.take kk) ++ (wordOf (getE l kk) ++ numsT (getE l kk) 3)) = Lib.byteCells (textL (l.take kk) ++ (wordOf (getE l kk) ++ numsT (getE l kk) 2)) ++ Lib.strCells ((⟨#[32]⟩ : ByteArray) ++ s) := by
                have e2 : (⟨#[32]⟩ : ByteArray) ++ s = ⟨(32 :: Lib.itoa (getE l kk).epoch).toArray⟩ := by rw [← HSS.out]; exact str_app [32] _
                rw [e2, cells_str, ← Lib.byteCells_append, List.append_assoc, List.append_assoc]
                rfl
              rw [e1]
              exact .inr HB7⟩
            clear hb7 HB7 z1 z2 z3 z4 hlen1 kix
            go_wp2
            go_roundg (4 - 3)
            case measure => have := HGI.out; omega
            case rel => exact ⟨3, by omega, by omega, by first | rfl | (simp; done), BW7, BS7⟩
          · replace hs32 : _ = Value.int .i64 3 := hs32
            subst hs32
            obtain ⟨s, hs⟩ : ∃ s, (⟨(Lib.itoa (getE l kk).tick).toArray⟩ : ByteArray) = s := ⟨_, rfl⟩
            have hsl : s.size = (Lib.itoa (getE l kk).tick).length := by rw [← hs]; simp [ByteArray.size]
            have hfull : (textL (l.take kk)).length + ((wordOf (getE l kk)).length + ((numsT (getE l kk) 3).length + (1 + s.size))) ≤ 140737488355328 := by
              have h1 := HPRE.out
              have h2 := numsT_le (getE l kk) 4 (by omega)
              have h3 : (numsT (getE l kk) 4).length = (numsT (getE l kk) 3).length + (1 + (Lib.itoa (getE l kk).tick).length) := by
                show (numsT (getE l kk) 3 ++ (32 :: Lib.itoa (getE l kk).tick)).length = _
                rw [List.length_append, List.length_cons]
                omega
              unfold rowT at h1
              rw [List.length_append, List.length_append] at h1
              omega
            have z1 : (1 + s.size ≤ 9223372036854775807) = True := eq_true (by omega)
            have z2 : (9223372036854775807 < 1 + s.size) = False := eq_false (by omega)
            have z3 : (s.size + 1 ≤ 9223372036854775807) = True := eq_true (by omega)
            have z4 : (9223372036854775807 < s.size + 1) = False := eq_false (by omega)
            have kix := fun (W : World) => TrIx.ix3 (getE l kk).task (getE l kk).slot (getE l kk).epoch (getE l kk).tick W
            have HFULL := Aside0.mk hfull
            have HSS := Aside0.mk hs
            clear hfull hsl hs
            go_wp2_with fail
            refine (text1_calls (getE l kk).tick HME.out.2.2.2 _ (HT.out.below BWi.out) s HSS.out).mono ?_
            rintro e' w6 ⟨rfl, hb6⟩
            have BW6 := Aside0.mk (below_step BWi.out hb6)
            have BS6 := Aside0.mk (IsB.below BSi.out hb6)
            clear hb6
            go_wp2_with fail
            have hlen1 : (Lib.byteCells (textL (l.take kk) ++ (wordOf (getE l kk) ++ numsT (getE l kk) 3))).length + ((⟨#[32]⟩ : ByteArray) ++ s).size ≤ 140737488355328 := by
              have h1 := HFULL.out
              have e1 : ((⟨#[32]⟩ : ByteArray) ++ s).size = 1 + s.size := by rw [ByteArray.size_append]; rfl
              rw [e1, Lib.byteCells_length, List.length_append, List.length_append]
              omega
            refine (write_calls w.heap.size sb _ _ _ BS6.out hlen1 (below_size BW6.out)).mono ?_
            rintro e' w7 ⟨rfl, HB7, hb7, _⟩
            have BW7 := Aside0.mk (BW6.out.trans hb7)
            have BS7 : Aside0 (Lib.IsBuilder 83 5 w.heap.size sb (Lib.byteCells (textL (l.take kk) ++ (wordOf (getE l kk) ++ numsT (getE l kk) 4))) w7) := ⟨by
              have e1 : Lib.byteCells (textL (l.take kk) ++ (wordOf (getE l kk) ++ numsT (getE l kk) 4)) = Lib.byteCells (textL (l.take kk) ++ (wordOf (getE l kk) ++ numsT (getE l kk) 3)) ++ Lib.strCells ((⟨#[32]⟩ : ByteArray) ++ s) := by
                have e2 : (⟨#[32]⟩ : ByteArray) ++ s = ⟨(32 :: Lib.itoa (getE l kk).tick).toArray⟩ := by rw [← HSS.out]; exact str_app [32] _
                rw [e2, cells_str, ← Lib.byteCells_append, List.append_assoc, List.append_assoc]
                rfl
              rw [e1]
              exact .inr HB7⟩
            clear hb7 HB7 z1 z2 z3 z4 hlen1 kix
            go_wp2
            go_roundg (4 - 4)
            case measure => have := HGI.out; omega
            case rel => exact ⟨4, by omega, by omega, by first | rfl | (simp; done), BW7, BS7⟩
          · replace hs32 : _ = Value.int .i64 4 := hs32
            subst hs32
            clear hj
            go_wp2_with fail
            refine (write_calls w.heap.size sb _ _ _ BSi.out (by have h1 := HPRE.out; unfold rowT at h1; rw [List.length_append, List.length_append] at h1; rw [Lib.byteCells_length, List.length_append, List.length_append]; simp [ByteArray.size] at h1 ⊢; omega) (below_size BWi.out)).mono ?_
            rintro e' w7 ⟨rfl, HB7, hb7, _⟩
            have BW7 := Aside0.mk (BWi.out.trans hb7)
            have BS7 : Aside0 (Lib.IsBuilder 83 5 w.heap.size sb (Lib.byteCells (textL (l.take (kk + 1)))) w7) := ⟨by
              have e1 : Lib.byteCells (textL (l.take (kk + 1))) = Lib.byteCells (textL (l.take kk) ++ (wordOf (getE l kk) ++ numsT (getE l kk) 4)) ++ Lib.strCells (⟨#[10]⟩ : ByteArray) := by
                have e2 : (⟨#[10]⟩ : ByteArray) = ⟨([10] : List UInt8).toArray⟩ := rfl
                rw [e2, cells_str, ← Lib.byteCells_append, HTK.out, textL_append]
                simp [textL, rowT]
              rw [e1]
              exact .inr HB7⟩
            clear hb7 HB7
            go_wp2
            go_roundg (l.length - (kk + 1))
            case measure => have := Hlt.out; have := Hg.out; omega
            case rel =>
              have hlt := Hlt.out
              have hm := HM.out
              have e : wrap64 ((kk : Int) + 1) = ((kk + 1 : Nat) : Int) := by unfold wrap64; omega
              exact ⟨kk + 1, by omega, by omega, by first | (rw [e]) | (simp [e]), BW7, BS7⟩
      | false =>
        go_wp2_with fail
        refine (known_calls_b _ _ false hkn).mono ?_
        rintro e' w4 ⟨rfl, hb4⟩
        have BW4 := Aside0.mk (below_step BW3.out hb4)
        have BS4 := Aside0.mk (IsB.below BS3.out hb4)
        have HX4 := Aside0.mk ((hb4.block gb (lt' HX3.out)).trans HX3.out)
        clear hy0 hy1 hy2 hy3 hy4 hb4
        have hy0 : w4.cell? ⟨gb, 0, none⟩ = some (.int .i64 (getE l kk).kind) := (blk_cell HX4.out 0).trans rfl
        have hy1 : w4.cell? ⟨gb, 1, none⟩ = some (.int .i64 (getE l kk).task) := (blk_cell HX4.out 1).trans rfl
        have hy2 : w4.cell? ⟨gb, 2, none⟩ = some (.int .i64 (getE l kk).slot) := (blk_cell HX4.out 2).trans rfl
        have hy3 : w4.cell? ⟨gb, 3, none⟩ = some (.int .i64 (getE l kk).epoch) := (blk_cell HX4.out 3).trans rfl
        have hy4 : w4.cell? ⟨gb, 4, none⟩ = some (.int .i64 (getE l kk).tick) := (blk_cell HX4.out 4).trans rfl
        have hkt : kindT (getE l kk) = 0 := by unfold kindT; rw [hkn]; rfl
        obtain ⟨hkl, hku⟩ := kindT_lt (getE l kk)
        have hwd : w4.cell? ⟨0, (kindT (getE l kk)).toNat, none⟩ = some (.string ⟨(wordOf (getE l kk)).toArray⟩) := (HW.out.below BW4.out).2 (kindT (getE l kk)).toNat (by omega)
        rw [hkt] at hkl hku hwd
        replace hwd : w4.cell? ⟨0, 0, none⟩ = some (.string ⟨(wordOf (getE l kk)).toArray⟩) := hwd
        have p1 := eq_true hkl
        have q1 := eq_true hku
        clear hkt hkl hku
        go_wp2_with fail
        refine (write_calls w.heap.size sb _ _ _ BS4.out (by have h1 := HPRE.out; unfold rowT at h1; rw [List.length_append] at h1; rw [Lib.byteCells_length]; simp [ByteArray.size]; omega) (below_size BW4.out)).mono ?_
        rintro e' w5 ⟨rfl, HB5, hb5, hkp5⟩
        have BW5 := Aside0.mk (BW4.out.trans hb5)
        have BS5 : Aside0 (Lib.IsBuilder 83 5 w.heap.size sb (Lib.byteCells (textL (l.take kk) ++ (wordOf (getE l kk) ++ numsT (getE l kk) 0))) w5) := ⟨by
          have e1 : Lib.byteCells (textL (l.take kk) ++ (wordOf (getE l kk) ++ numsT (getE l kk) 0)) = Lib.byteCells (textL (l.take kk)) ++ Lib.strCells (⟨(wordOf (getE l kk)).toArray⟩ : ByteArray) := by
            rw [cells_str, ← Lib.byteCells_append]
            show Lib.byteCells (textL (l.take kk) ++ (wordOf (getE l kk) ++ [])) = _
            rw [List.append_nil]
          rw [e1]
          exact .inr HB5⟩
        have HX5 := Aside0.mk (hkp5 gb _ _ _ HX4.out (by decide) hne)
        clear hy0 hy1 hy2 hy3 hy4 hb5 hkp5 HB5 hwd p1 q1
        have hy0 : w5.cell? ⟨gb, 0, none⟩ = some (.int .i64 (getE l kk).kind) := (blk_cell HX5.out 0).trans rfl
        have hy1 : w5.cell? ⟨gb, 1, none⟩ = some (.int .i64 (getE l kk).task) := (blk_cell HX5.out 1).trans rfl
        have hy2 : w5.cell? ⟨gb, 2, none⟩ = some (.int .i64 (getE l kk).slot) := (blk_cell HX5.out 2).trans rfl
        have hy3 : w5.cell? ⟨gb, 3, none⟩ = some (.int .i64 (getE l kk).epoch) := (blk_cell HX5.out 3).trans rfl
        have hy4 : w5.cell? ⟨gb, 4, none⟩ = some (.int .i64 (getE l kk).tick) := (blk_cell HX5.out 4).trans rfl
        go_wp2
        clear hy0 hy1 hy2 hy3 hy4
        go_loopg [32] 4 (fun gg s32 wi => ∃ (j : Nat), j ≤ 4 ∧ 4 - j ≤ gg ∧ s32 = .int .i64 j ∧ Aside0 (Below w.heap.size w wi) ∧ Aside0 (Lib.IsBuilder 83 5 w.heap.size sb (Lib.byteCells (textL (l.take kk) ++ (wordOf (getE l kk) ++ numsT (getE l kk) j))) wi))
        case atStart => exact ⟨0, by omega, by omega, rfl, BW5, BS5⟩
        case round =>
          obtain ⟨j, hj, hgi, hs32, BWi, BSi⟩ := hrel
          have HGI := Aside0.mk hgi
          clear hgi
          rcases (show j = 0 ∨ j = 1 ∨ j = 2 ∨ j = 3 ∨ j = 4 by omega) with rfl | rfl | rfl | rfl | rfl
          · replace hs32 : _ = Value.int .i64 0 := hs32
            subst hs32
            obtain ⟨s, hs⟩ : ∃ s, (⟨(Lib.itoa (getE l kk).task).toArray⟩ : ByteArray) = s := ⟨_, rfl⟩
            have hsl : s.size = (Lib.itoa (getE l kk).task).length := by rw [← hs]; simp [ByteArray.size]
            have hfull : (textL (l.take kk)).length + ((wordOf (getE l kk)).length + ((numsT (getE l kk) 0).length + (1 + s.size))) ≤ 140737488355328 := by
              have h1 := HPRE.out
              have h2 := numsT_le (getE l kk) 1 (by omega)
              have h3 : (numsT (getE l kk) 1).length = (numsT (getE l kk) 0).length + (1 + (Lib.itoa (getE l kk).task).length) := by
                show (numsT (getE l kk) 0 ++ (32 :: Lib.itoa (getE l kk).task)).length = _
                rw [List.length_append, List.length_cons]
                omega
              unfold rowT at h1
              rw [List.length_append, List.length_append] at h1
              omega
            have z1 : (1 + s.size ≤ 9223372036854775807) = True := eq_true (by omega)
            have z2 : (9223372036854775807 < 1 + s.size) = False := eq_false (by omega)
            have z3 : (s.size + 1 ≤ 9223372036854775807) = True := eq_true (by omega)
            have z4 : (9223372036854775807 < s.size + 1) = False := eq_false (by omega)
            have kix := fun (W : World) => TrIx.ix0 (getE l kk).task (getE l kk).slot (getE l kk).epoch (getE l kk).tick W
            have HFULL := Aside0.mk hfull
            have HSS := Aside0.mk hs
            clear hfull hsl hs
            go_wp2_with fail
            refine (text1_calls (getE l kk).task HME.out.1 _ (HT.out.below BWi.out) s HSS.out).mono ?_
            rintro e' w6 ⟨rfl, hb6⟩
            have BW6 := Aside0.mk (below_step BWi.out hb6)
            have BS6 := Aside0.mk (IsB.below BSi.out hb6)
            clear hb6
            go_wp2_with fail
            have hlen1 : (Lib.byteCells (textL (l.take kk) ++ (wordOf (getE l kk) ++ numsT (getE l kk) 0))).length + ((⟨#[32]⟩ : ByteArray) ++ s).size ≤ 140737488355328 := by
              have h1 := HFULL.out
              have e1 : ((⟨#[32]⟩ : ByteArray) ++ s).size = 1 + s.size := by rw [ByteArray.size_append]; rfl
              rw [e1, Lib.byteCells_length, List.length_append, List.length_append]
              omega
            refine (write_calls w.heap.size sb _ _ _ BS6.out hlen1 (below_size BW6.out)).mono ?_
            rintro e' w7 ⟨rfl, HB7, hb7, _⟩
            have BW7 := Aside0.mk (BW6.out.trans hb7)
            have BS7 : Aside0 (Lib.IsBuilder 83 5 w.heap.size sb (Lib.byteCells (textL (l.take kk) ++ (wordOf (getE l kk) ++ numsT (getE l kk) 1))) w7) := ⟨by
              have e1 : Lib.byteCells (textL (l.take kk) ++ (wordOf (getE l kk) ++ numsT (getE l kk) 1)) = Lib.byteCells (textL (l.take kk) ++ (wordOf (getE l kk) ++ numsT (getE l kk) 0)) ++ Lib.strCells ((⟨#[32]⟩ : ByteArray) ++ s) := by
                have e2 : (⟨#[32]⟩ : ByteArray) ++ s = ⟨(32 :: Lib.itoa (getE l kk).task).toArray⟩ := by rw [← HSS.out]; exact str_app [32] _
                rw [e2, cells_str, ← Lib.byteCells_append, List.append_assoc, List.append_assoc]
                rfl
              rw [e1]
              exact .inr HB7⟩
            clear hb7 HB7 z1 z2 z3 z4 hlen1 kix
            go_wp2
            go_roundg (4 - 1)
            case measure => have := HGI.out; omega
            case rel => exact ⟨1, by omega, by omega, by first | rfl | (simp; done), BW7, BS7⟩
          · replace hs32 : _ = Value.int .i64 1 := hs32
            subst hs32
            obtain ⟨s, hs⟩ : ∃ s, (⟨(Lib.itoa (getE l kk).slot).toArray⟩ : ByteArray) = s := ⟨_, rfl⟩
            have hsl : s.size = (Lib.itoa (getE l kk).slot).length := by rw [← hs]; simp [ByteArray.size]
            have hfull : (textL (l.take kk)).length + ((wordOf (getE l kk)).length + ((numsT (getE l kk) 1).length + (1 + s.size))) ≤ 140737488355328 := by
              have h1 := HPRE.out
              have h2 := numsT_le (getE l kk) 2 (by omega)
              have h3 : (numsT (getE l kk) 2).length = (numsT (getE l kk) 1).length + (1 + (Lib.itoa (getE l kk).slot).length) := by
                show (numsT (getE l kk) 1 ++ (32 :: Lib.itoa (getE l kk).slot)).length = _
                rw [List.length_append, List.length_cons]
                omega
              unfold rowT at h1
              rw [List.length_append, List.length_append] at h1
              omega
            have z1 : (1 + s.size ≤ 9223372036854775807) = True := eq_true (by omega)
            have z2 : (9223372036854775807 < 1 + s.size) = False := eq_false (by omega)
            have z3 : (s.size + 1 ≤ 9223372036854775807) = True := eq_true (by omega)
            have z4 : (9223372036854775807 < s.size + 1) = False := eq_false (by omega)
            have kix := fun (W : World) => TrIx.ix1 (getE l kk).task (getE l kk).slot (getE l kk).epoch (getE l kk).tick W
            have HFULL := Aside0.mk hfull
            have HSS := Aside0.mk hs
            clear hfull hsl hs
            go_wp2_with fail
            refine (text1_calls (getE l kk).slot HME.out.2.1 _ (HT.out.below BWi.out) s HSS.out).mono ?_
            rintro e' w6 ⟨rfl, hb6⟩
            have BW6 := Aside0.mk (below_step BWi.out hb6)
            have BS6 := Aside0.mk (IsB.below BSi.out hb6)
            clear hb6
            go_wp2_with fail
            have hlen1 : (Lib.byteCells (textL (l.take kk) ++ (wordOf (getE l kk) ++ numsT (getE l kk) 1))).length + ((⟨#[32]⟩ : ByteArray) ++ s).size ≤ 140737488355328 := by
              have h1 := HFULL.out
              have e1 : ((⟨#[32]⟩ : ByteArray) ++ s).size = 1 + s.size := by rw [ByteArray.size_append]; rfl
              rw [e1, Lib.byteCells_length, List.length_append, List.length_append]
              omega
            refine (write_calls w.heap.size sb _ _ _ BS6.out hlen1 (below_size BW6.out)).mono ?_
            rintro e' w7 ⟨rfl, HB7, hb7, _⟩
            have BW7 := Aside0.mk (BW6.out.trans hb7)
            have BS7 : Aside0 (Lib.IsBuilder 83 5 w.heap.size sb (Lib.byteCells (textL (l.take kk) ++ (wordOf (getE l kk) ++ numsT (getE l kk) 2))) w7) := ⟨by
              have e1 : Lib.byteCells (textL (l.take kk) ++ (wordOf (getE l kk) ++ numsT (getE l kk) 2)) = Lib.byteCells (textL (l.take kk) ++ (wordOf (getE l kk) ++ numsT (getE l kk) 1)) ++ Lib.strCells ((⟨#[32]⟩ : ByteArray) ++ s) := by
                have e2 : (⟨#[32]⟩ : ByteArray) ++ s = ⟨(32 :: Lib.itoa (getE l kk).slot).toArray⟩ := by rw [← HSS.out]; exact str_app [32] _
                rw [e2, cells_str, ← Lib.byteCells_append, List.append_assoc, List.append_assoc]
                rfl
              rw [e1]
              exact .inr HB7⟩
            clear hb7 HB7 z1 z2 z3 z4 hlen1 kix
            go_wp2
            go_roundg (4 - 2)
            case measure => have := HGI.out; omega
            case rel => exact ⟨2, by omega, by omega, by first | rfl | (simp; done), BW7, BS7⟩
          · replace hs32 : _ = Value.int .i64 2 := hs32
            subst hs32
            obtain ⟨s, hs⟩ : ∃ s, (⟨(Lib.itoa (getE l kk).epoch).toArray⟩ : ByteArray) = s := ⟨_, rfl⟩
            have hsl : s.size = (Lib.itoa (getE l kk).epoch).length := by rw [← hs]; simp [ByteArray.size]
            have hfull : (textL (l.take kk)).length + ((wordOf (getE l kk)).length + ((numsT (getE l kk) 2).length + (1 + s.size))) ≤ 140737488355328 := by
              have h1 := HPRE.out
              have h2 := numsT_le (getE l kk) 3 (by omega)
              have h3 : (numsT (getE l kk) 3).length = (numsT (getE l kk) 2).length + (1 + (Lib.itoa (getE l kk).epoch).length) := by
                show (numsT (getE l kk) 2 ++ (32 :: Lib.itoa (getE l kk).epoch)).length = _
                rw [List.length_append, List.length_cons]
                omega
              unfold rowT at h1
              rw [List.length_append, List.length_append] at h1
              omega
            have z1 : (1 + s.size ≤ 9223372036854775807) = True := eq_true (by omega)
            have z2 : (9223372036854775807 < 1 + s.size) = False := eq_false (by omega)
            have z3 : (s.size + 1 ≤ 9223372036854775807) = True := eq_true (by omega)
            have z4 : (9223372036854775807 < s.size + 1) = False := eq_false (by omega)
            have kix := fun (W : World) => TrIx.ix2 (getE l kk).task (getE l kk).slot (getE l kk).epoch (getE l kk).tick W
            have HFULL := Aside0.mk hfull
            have HSS := Aside0.mk hs
            clear hfull hsl hs
            go_wp2_with fail
            refine (text1_calls (getE l kk).epoch HME.out.2.2.1 _ (HT.out.below BWi.out) s HSS.out).mono ?_
            rintro e' w6 ⟨rfl, hb6⟩
            have BW6 := Aside0.mk (below_step BWi.out hb6)
            have BS6 := Aside0.mk (IsB.below BSi.out hb6)
            clear hb6
            go_wp2_with fail
            have hlen1 : (Lib.byteCells (textL (l.take kk) ++ (wordOf (getE l kk) ++ numsT (getE l kk) 2))).length + ((⟨#[32]⟩ : ByteArray) ++ s).size ≤ 140737488355328 := by
              have h1 := HFULL.out
              have e1 : ((⟨#[32]⟩ : ByteArray) ++ s).size = 1 + s.size := by rw [ByteArray.size_append]; rfl
              rw [e1, Lib.byteCells_length, List.length_append, List.length_append]
              omega
            refine (write_calls w.heap.size sb _ _ _ BS6.out hlen1 (below_size BW6.out)).mono ?_
            rintro e' w7 ⟨rfl, HB7, hb7, _⟩
            have BW7 := Aside0.mk (BW6.out.trans hb7)
            have BS7 : Aside0 (Lib.IsBuilder 83 5 w.heap.size sb (Lib.byteCells (textL (l.take kk) ++ (wordOf (getE l kk) ++ numsT (getE l kk) 3))) w7) := ⟨by
              have e1 : Lib.byteCells (textL (l.take kk) ++ (wordOf (getE l kk) ++ numsT (getE l kk) 3)) = Lib.byteCells (textL (l.take kk) ++ (wordOf (getE l kk) ++ numsT (getE l kk) 2)) ++ Lib.strCells ((⟨#[32]⟩ : ByteArray) ++ s) := by
                have e2 : (⟨#[32]⟩ : ByteArray) ++ s = ⟨(32 :: Lib.itoa (getE l kk).epoch).toArray⟩ := by rw [← HSS.out]; exact str_app [32] _
                rw [e2, cells_str, ← Lib.byteCells_append, List.append_assoc, List.append_assoc]
                rfl
              rw [e1]
              exact .inr HB7⟩
            clear hb7 HB7 z1 z2 z3 z4 hlen1 kix
            go_wp2
            go_roundg (4 - 3)
            case measure => have := HGI.out; omega
            case rel => exact ⟨3, by omega, by omega, by first | rfl | (simp; done), BW7, BS7⟩
          · replace hs32 : _ = Value.int .i64 3 := hs32
            subst hs32
            obtain ⟨s, hs⟩ : ∃ s, (⟨(Lib.itoa (getE l kk).tick).toArray⟩ : ByteArray) = s := ⟨_, rfl⟩
            have hsl : s.size = (Lib.itoa (getE l kk).tick).length := by rw [← hs]; simp [ByteArray.size]
            have hfull : (textL (l.take kk)).length + ((wordOf (getE l kk)).length + ((numsT (getE l kk) 3).length + (1 + s.size))) ≤ 140737488355328 := by
              have h1 := HPRE.out
              have h2 := numsT_le (getE l kk) 4 (by omega)
              have h3 : (numsT (getE l kk) 4).length = (numsT (getE l kk) 3).length + (1 + (Lib.itoa (getE l kk).tick).length) := by
                show (numsT (getE l kk) 3 ++ (32 :: Lib.itoa (getE l kk).tick)).length = _
                rw [List.length_append, List.length_cons]
                omega
              unfold rowT at h1
              rw [List.length_append, List.length_append] at h1
              omega
            have z1 : (1 + s.size ≤ 9223372036854775807) = True := eq_true (by omega)
            have z2 : (9223372036854775807 < 1 + s.size) = False := eq_false (by omega)
            have z3 : (s.size + 1 ≤ 9223372036854775807) = True := eq_true (by omega)
            have z4 : (9223372036854775807 < s.size + 1) = False := eq_false (by omega)
            have kix := fun (W : World) => TrIx.ix3 (getE l kk).task (getE l kk).slot (getE l kk).epoch (getE l kk).tick W
            have HFULL := Aside0.mk hfull
            have HSS := Aside0.mk hs
            clear hfull hsl hs
            go_wp2_with fail
            refine (text1_calls (getE l kk).tick HME.out.2.2.2 _ (HT.out.below BWi.out) s HSS.out).mono ?_
            rintro e' w6 ⟨rfl, hb6⟩
            have BW6 := Aside0.mk (below_step BWi.out hb6)
            have BS6 := Aside0.mk (IsB.below BSi.out hb6)
            clear hb6
            go_wp2_with fail
            have hlen1 : (Lib.byteCells (textL (l.take kk) ++ (wordOf (getE l kk) ++ numsT (getE l kk) 3))).length + ((⟨#[32]⟩ : ByteArray) ++ s).size ≤ 140737488355328 := by
              have h1 := HFULL.out
              have e1 : ((⟨#[32]⟩ : ByteArray) ++ s).size = 1 + s.size := by rw [ByteArray.size_append]; rfl
              rw [e1, Lib.byteCells_length, List.length_append, List.length_append]
              omega
            refine (write_calls w.heap.size sb _ _ _ BS6.out hlen1 (below_size BW6.out)).mono ?_
            rintro e' w7 ⟨rfl, HB7, hb7, _⟩
            have BW7 := Aside0.mk (BW6.out.trans hb7)
            have BS7 : Aside0 (Lib.IsBuilder 83 5 w.heap.size sb (Lib.byteCells (textL (l.take kk) ++ (wordOf (getE l kk) ++ numsT (getE l kk) 4))) w7) := ⟨by
              have e1 : Lib.byteCells (textL (l.take kk) ++ (wordOf (getE l kk) ++ numsT (getE l kk) 4)) = Lib.byteCells (textL (l.take kk) ++ (wordOf (getE l kk) ++ numsT (getE l kk) 3)) ++ Lib.strCells ((⟨#[32]⟩ : ByteArray) ++ s) := by
                have e2 : (⟨#[32]⟩ : ByteArray) ++ s = ⟨(32 :: Lib.itoa (getE l kk).tick).toArray⟩ := by rw [← HSS.out]; exact str_app [32] _
                rw [e2, cells_str, ← Lib.byteCells_append, List.append_assoc, List.append_assoc]
                rfl
              rw [e1]
              exact .inr HB7⟩
            clear hb7 HB7 z1 z2 z3 z4 hlen1 kix
            go_wp2
            go_roundg (4 - 4)
            case measure => have := HGI.out; omega
            case rel => exact ⟨4, by omega, by omega, by first | rfl | (simp; done), BW7, BS7⟩
          · replace hs32 : _ = Value.int .i64 4 := hs32
            subst hs32
            clear hj
            go_wp2_with fail
            refine (write_calls w.heap.size sb _ _ _ BSi.out (by have h1 := HPRE.out; unfold rowT at h1; rw [List.length_append, List.length_append] at h1; rw [Lib.byteCells_length, List.length_append, List.length_append]; simp [ByteArray.size] at h1 ⊢; omega) (below_size BWi.out)).mono ?_
            rintro e' w7 ⟨rfl, HB7, hb7, _⟩
            have BW7 := Aside0.mk (BWi.out.trans hb7)
            have BS7 : Aside0 (Lib.IsBuilder 83 5 w.heap.size sb (Lib.byteCells (textL (l.take (kk + 1)))) w7) := ⟨by
              have e1 : Lib.byteCells (textL (l.take (kk + 1))) = Lib.byteCells (textL (l.take kk) ++ (wordOf (getE l kk) ++ numsT (getE l kk) 4)) ++ Lib.strCells (⟨#[10]⟩ : ByteArray) := by
                have e2 : (⟨#[10]⟩ : ByteArray) = ⟨([10] : List UInt8).toArray⟩ := rfl
                rw [e2, cells_str, ← Lib.byteCells_append, HTK.out, textL_append]
                simp [textL, rowT]
              rw [e1]
              exact .inr HB7⟩
            clear hb7 HB7
            go_wp2
            go_roundg (l.length - (kk + 1))
            case measure => have := Hlt.out; have := Hg.out; omega
            case rel =>
              have hlt := Hlt.out
              have hm := HM.out
              have e : wrap64 ((kk : Int) + 1) = ((kk + 1 : Nat) : Int) := by unfold wrap64; omega
              exact ⟨kk + 1, by omega, by omega, by first | (rw [e]) | (simp [e]), BW7, BS7⟩
    · obtain rfl : kk = l.length := by omega
      rw [List.take_length] at BS
      have hlz : ((l.length : Int) < (l.length : Int)) = False := eq_false (by omega)
      clear hlt hg hkk
      go_wp2_with fail
      refine (Tryd.Builder_String_any w.heap.size sb (textL l) _ BS.out (below_size BW.out)).mono ?_
      rintro e' w2 ⟨rfl, hb2⟩
      go_wp2
      go_ret
      exact ⟨rfl, BW.out.trans hb2⟩
end Go.Proofs.YtckcepmkfegkiaaDoor.TrX
