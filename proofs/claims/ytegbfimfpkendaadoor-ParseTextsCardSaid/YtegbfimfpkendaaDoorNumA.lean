/- The walks of num.Parse and num.Text. Condition for Text: the table uint64pow10 is laid. -/
import Derived.Test.YtegbfimfpkendaaDoorShelf
import Derived.Test.YtegbfimfpkendaaDoorNumS
import Derived.Below
import Derived.WalkKit
import Derived.Tactics
import Derived.Lib.Walk
import Derived.Deep.LoopGhost
import Derived.RowKit3
import Derived.Lib.SmallJoins
import Derived.Test.YtegbfimfpkendaaDoorBa
import Derived.Test.YtegbfimfpkendaaDoorBb
namespace Go.Proofs.YtegbfimfpkendaaDoor.NumA
open Go.RowKit NumS Go.Proofs.YtegbfimfpkendaaDoorW.PrintWords Go.Proofs.YtegbfimfpkendaaDoorW.PrintMore
set_option linter.unusedVariables false
set_option linter.unusedSimpArgs false
structure Tab (w : World) : Prop where
  out : Lib.TabIs Tryd.prog w "internal/strconv.uint64pow10" .u64 Lib.pow10Tab
theorem Tab.below {w w' : World} (h : Tab w) (hb : Below w.heap.size w w') : Tab w' := ⟨Go.Joins.tab_stays (g := 3) (by kernel_rfl) h.out hb (Nat.le_refl _)⟩
theorem below_iter (w : World) (s : ByteArray) (i : Nat) : Below w.heap.size w (w.iter s i) := (Below.refl _ w).alloc (Nat.le_refl _) _
open Go.Sort in
theorem below_grow {B : Nat} {a w : World} (h : Below B a w) (hB : B ≤ w.heap.size) (k : Nat) (os : Array Obj) : Below B a (grow (w.drewN k) os) := by
  exact h.trans ⟨rfl, rfl, rfl, by rw [size_grow]; exact Nat.le_add_right _ _, fun i hi => by
    show ((w.drewN k).heap ++ os)[i]? = _
    have := h.size
    exact Array.getElem?_append_left (Nat.lt_of_lt_of_le hi hB)⟩
set_option maxHeartbeats 4000000 in
set_option maxRecDepth 100000 in
theorem text_calls (n : Int) (h0 : -9223372036854775808 ≤ n) (h1 : n ≤ 9223372036854775807) (w : World) (htab : Lib.TabIs Tryd.prog w "internal/strconv.uint64pow10" .u64 Lib.pow10Tab) :
    Calls Tryd.prog 47 #[.int .i64 n] w fun e w' => e = .returned (.string ⟨(Lib.itoa n).toArray⟩) ∧ Below w.heap.size w w' := by
  go_enter Tryd.func47, Tryd.ntmps47
  go_wp2_with (go_at_call 53; refine (Tryd.strconv_Itoa n h0 h1 _ htab).mono ?_; rintro e w' ⟨rfl, k, os, rfl⟩)
  go_ret
  exact ⟨rfl, below_grow (Below.refl _ w) (Nat.le_refl _) k os⟩
set_option maxHeartbeats 8000000 in
set_option maxRecDepth 100000 in
theorem parse_calls (s : ByteArray) (w : World) (hs : s.size < 4294967281) :
    Calls Tryd.prog 49 #[.string s] w fun e w' => e = .returned (.tuple #[.int .i64 (parseF s).1, .int .i64 (parseF s).2]) ∧ Below w.heap.size w w' := by
  have hw := Aside0.mk (Below.refl w.heap.size w)
  have hbi := fun i => below_iter w s i
  by_cases h0 : s.data.toList = []
  · have e0 : s = ⟨#[]⟩ := by cases s; rename_i d; congr 1; exact Array.toList_inj.mp h0
    subst e0
    go_enter Tryd.func49, Tryd.ntmps49
    go_wp2
    go_ret2
    exact ⟨rfl, hw.out⟩
  have hne : 0 < s.size := by
    rcases Nat.eq_zero_or_pos s.size with h | h
    · exact absurd (List.length_eq_zero_iff.mp h) h0
    · exact h
  have hd : s.data.toList = (s[0]'hne) :: s.data.toList.drop 1 := by have := drop_cons s 0 hne; simpa using this
  have he0 : s.toList.isEmpty = false := by rw [ByteArray.toList_eq, hd]; rfl
  by_cases h1 : (s[0]'hne).toNat = 48 ∧ s.data.toList ≠ [48]
  · have hf : parseF s = (0, 2) := by
      unfold parseF
      rw [if_pos (Or.inr ⟨by rw [hd]; exact congrArg some (UInt8.toNat_inj.mp h1.1), h1.2⟩)]
    have h1a := h1.1
    have he1 : (s.toList == [48]) = false := by rw [ByteArray.toList_eq]; exact beq_eq_false_iff_ne.mpr h1.2
    rw [hf]
    clear hd h1 h0
    go_enter Tryd.func49, Tryd.ntmps49
    go_wp2
    go_ret2
    exact ⟨rfl, hw.out⟩
  have hf : parseF s = parseL s.data.toList 0 := by
    unfold parseF
    rw [if_neg]
    rintro (h | ⟨h2, h3⟩)
    · exact h0 h
    · rw [hd] at h2
      exact h1 ⟨by rw [Option.some.inj h2]; rfl, h3⟩
  rw [hf]
  generalize hres : parseL s.data.toList 0 = res
  have hR := Aside0.mk hres
  have hc : (s[0]'hne).toNat ≠ 48 ∨ ((s[0]'hne).toNat = 48 ∧ (s.toList == [48]) = true) := by
    by_cases h : (s[0]'hne).toNat = 48
    · refine Or.inr ⟨h, ?_⟩
      rw [ByteArray.toList_eq, beq_iff_eq]
      exact Classical.byContradiction fun e => h1 ⟨h, e⟩
    · exact Or.inl h
  clear hres h1 h0 hf hd
  go_enter Tryd.func49, Tryd.ntmps49
  rcases hc with hc | ⟨hc, hc1⟩
  all_goals
    go_wp2
    go_loopg [4] s.size (fun g v4 wx => ∃ (i : Nat) (n : Int), i + g = s.size ∧ 0 ≤ n ∧ n ≤ 1048577 ∧ v4 = .int .i64 n ∧ wx = w.iter s i ∧ Aside0 (parseL (s.data.toList.drop i) n = res))
    case atStart => exact ⟨0, 0, by omega, by omega, by omega, rfl, rfl, ⟨by rw [List.drop_zero]; exact hR.out⟩⟩
    case round =>
      obtain ⟨i, n, hig, hn0, hn1, rfl, rfl, hP⟩ := hrel
      clear hc
      try clear hc1
      try clear hrel0
      cases gk with
      | zero =>
        obtain rfl : i = s.size := by omega
        have hnx := fun ty => run_next_end (P := Tryd.prog) w s s.size ty (by omega)
        have hP1 := hP.out
        rw [drop_all, parseL] at hP1
        by_cases hm : n > 1048576
        · rw [if_pos hm] at hP1
          subst hP1
          go_wp2
          go_ret2
          exact ⟨rfl, hbi _⟩
        · rw [if_neg hm] at hP1
          subst hP1
          go_wp2
          go_ret2
          exact ⟨rfl, hbi _⟩
      | succ g =>
        have hi : i < s.size := by omega
        have hP1 := hP.out
        rw [drop_cons s i hi, parseL] at hP1
        by_cases ha : (s[i]'hi).toNat < 128
        · have hnx := fun ty => run_next_ascii (P := Tryd.prog) w s i ty hi ha
          by_cases hb : (s[i]'hi).toNat < 48 ∨ 57 < (s[i]'hi).toNat
          · rw [if_pos hb] at hP1
            subst hP1
            generalize (s[i]'hi).toNat = c at *
            rcases hb with hb | hb
            · go_wp2
              go_ret2
              exact ⟨rfl, hbi _⟩
            · have hb2 : ¬ c < 48 := by omega
              go_wp2
              go_ret2
              exact ⟨rfl, hbi _⟩
          · rw [if_neg hb] at hP1
            have hP2 := Aside0.mk hP1
            generalize (s[i]'hi).toNat = c at *
            clear hP1
            have hb1 : ¬ c < 48 := by omega
            have hb2 : ¬ 57 < c := by omega
            clear hb
            go_wp2
            go_roundg g
            case measure => omega
            case rel => exact ⟨i + 1, _, by omega, by omega, by omega, rfl, rfl, hP2⟩
        · have hh := decode_high s i hi (by omega)
          have hl := decode_le s i
          have hnx := fun ty => run_next_any (P := Tryd.prog) w s i ty hi
          rw [if_pos (by omega)] at hP1
          subst hP1
          generalize (Utf8.decode s i).1 = c at *
          have hb2 : ¬ c < 48 := by omega
          have hb3 : 57 < c := by omega
          go_wp2
          go_ret2
          exact ⟨rfl, hbi _⟩
end Go.Proofs.YtegbfimfpkendaaDoor.NumA
