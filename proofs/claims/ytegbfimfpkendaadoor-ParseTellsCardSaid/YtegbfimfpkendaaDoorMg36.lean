/- millwrightref01.Text: its walk, and what it answers: a number's digits. No condition. Plain lemmas on strings made of lists of bytes. No condition. Plain lemmas: how many blanks part tokens does not matter; comments; lines one behind the other. No condition. -/
import Derived.Test.YtegbfimfpkendaaDoorBb
import Derived.Test.YtegbfimfpkendaaDoorNumT
import Derived.Test.YtegbfimfpkendaaDoorMg5
import Derived.Laws.BitsLemmas
import Derived.WalkKit
import Derived.Test.YtegbfimfpkendaaDoorBa
import Derived.Test.YtegbfimfpkendaaDoorMg19
namespace Go.Proofs.YtegbfimfpkendaaDoor.Bits
open Go Go.RowKit
theorem wrap64_in {n : Int} (h0 : -9223372036854775808 ≤ n) (h1 : n ≤ 9223372036854775807) : wrap64 n = n := by unfold wrap64; omega
end Go.Proofs.YtegbfimfpkendaaDoor.Bits
namespace Go.Proofs.YtegbfimfpkendaaDoor.PbH
open Go.RowKit Go.Proofs.YtegbfimfpkendaaDoorW.PrintWords Go.Proofs.YtegbfimfpkendaaDoorW.PrintLast Go.Proofs.YtegbfimfpkendaaDoorW.PrintMore NumT NumS
attribute [local go_sem] max2_int min2_int max_two min_two max_three min_three max_four min_four
set_option linter.unusedVariables false
set_option linter.unusedSimpArgs false
def millwrightref01_Text.l0 : Nat → Int → ByteArray → Option (ByteArray)
  | 0, _, _ => none
  | k + 1, x0, x3 => if x0 > 9 then ((some (([(wrap64 (48 + (Int.tmod x0 10))) % 256] : List Int) : List Int)).bind fun y101 => (if (strOfNums y101).size + x3.size ≤ 9223372036854775807 then (millwrightref01_Text.l0 k (wrap64 (Int.tdiv x0 10)) ((strOfNums y101) ++ x3)) else (none))) else ((some (([(wrap64 (48 + x0)) % 256] : List Int) : List Int)).bind fun y104 => (if (strOfNums y104).size + x3.size ≤ 9223372036854775807 then (some ((strOfNums y104) ++ x3)) else (none)))
def millwrightref01_Text.f (k : Nat) (a0 : Int) : Option (ByteArray) := millwrightref01_Text.l0 k a0 (⟨#[]⟩ : ByteArray)
theorem millwrightref01_Text.mono_l : ∀ k, (∀ y0 y1, LeO (millwrightref01_Text.l0 k y0 y1) (millwrightref01_Text.l0 (k + 1) y0 y1))
  | 0 => fun _ _ r h => by simp [millwrightref01_Text.l0] at h
  | k + 1 => by
    have ih0 := millwrightref01_Text.mono_l k
    · intro y0 y1
      unfold millwrightref01_Text.l0
      repeat' first
      | (with_reducible exact ih0 _ _)
      | (with_reducible exact LeO.refl _)
      | (with_reducible exact LeO.none _)
      | (with_reducible refine LeO.ite ?_ ?_)
      | (with_reducible refine LeO.bind ?_ (fun _ => ?_))
      | exact ih0 _ _
      | exact LeO.none _
      | refine LeO.ite ?_ ?_
      | refine LeO.bind ?_ (fun _ => ?_)
theorem millwrightref01_Text.mono : ∀ a0 k, LeO (millwrightref01_Text.f k a0) (millwrightref01_Text.f (k + 1) a0) := by
  intro a0 k
  have ih0 := millwrightref01_Text.mono_l k
  unfold millwrightref01_Text.f
  repeat' first
      | (with_reducible exact ih0 _ _)
      | (with_reducible exact LeO.refl _)
      | (with_reducible exact LeO.none _)
      | (with_reducible refine LeO.ite ?_ ?_)
      | (with_reducible refine LeO.bind ?_ (fun _ => ?_))
      | exact ih0 _ _
      | exact LeO.none _
      | refine LeO.ite ?_ ?_
      | refine LeO.bind ?_ (fun _ => ?_)
set_option maxHeartbeats 8000000 in
set_option maxRecDepth 100000 in
theorem millwrightref01_Text.calls (k : Nat) (a0 : Int) (r : ByteArray) (w : World) (h : millwrightref01_Text.f k a0 = some r) :
    Calls Tryd.prog 17 #[.int .i64 a0] w fun e w' => e = .returned (.string r) ∧ Below w.heap.size w w' := by
  have HB := Aside0.mk (Below.refl w.heap.size w)
  have H : (millwrightref01_Text.l0 k a0 (⟨#[]⟩ : ByteArray)) = some r := h
  clear h
  have H' := Aside0.mk H
  clear H
  go_enter Tryd.func17, Tryd.ntmps17
  go_wp2
  go_loopg [0, 3] k (fun kq v0 v3 w' => ∃ (x0_1 : Int) (x3_1 : ByteArray), v0 = .int .i64 x0_1 ∧ v3 = .string x3_1 ∧ Aside0 (millwrightref01_Text.l0 kq x0_1 x3_1 = some r) ∧ Aside0 (kq ≤ k) ∧ Aside0 (Below w.heap.size w w'))
  case atStart => exact ⟨(a0), ((⟨#[]⟩ : ByteArray)), (by first | rfl | (simp; done) | (simp [*]; done)), (by first | rfl | (simp; done) | (simp [*]; done)), H', ⟨Nat.le_refl _⟩, ⟨by repeat (first | (with_reducible first | exact HB.out | apply below_alloc | apply pw_below_drewN | apply below_drew1) | exact HB.out)⟩⟩
  case round =>
    clear H'
    try clear c1
    obtain ⟨x0_1, x3_1, rfl, rfl, HA, HK1, HB⟩ := hrel
    cases gk with
    | zero => exact absurd HA.out (by simp [millwrightref01_Text.l0])
    | succ k1 =>
      have H := HA.out
      clear HA
      simp only [millwrightref01_Text.l0] at H
      by_cases c2 : x0_1 > 9
      · rw [if_pos c2] at H
        have c2b0 : decide (9 < x0_1) = true := decide_eq_true c2
        clear c2
        obtain ⟨y101, hy101⟩ : ∃ y_ : List Int, y_ = (([(wrap64 (48 + (Int.tmod x0_1 10))) % 256] : List Int)) := ⟨_, rfl⟩
        replace H : (if (strOfNums y101).size + x3_1.size ≤ 9223372036854775807 then (millwrightref01_Text.l0 k1 (wrap64 (Int.tdiv x0_1 10)) ((strOfNums y101) ++ x3_1)) else (none)) = some r := by first | (rw [hy101]; with_reducible exact H) | (have H2_ := (Option.bind_some _ _).symm.trans H; rw [hy101]; with_reducible exact H2_) | (have H2_ := (Option.bind_some _ _).symm.trans H; with_reducible exact H2_) | with_reducible exact H | (rw [hy101]; exact H) | exact H
        have Ny101 := Aside0.mk hy101
        clear hy101
        by_cases c3 : (strOfNums y101).size + x3_1.size ≤ 9223372036854775807
        · rw [if_pos c3] at H
          have c3b0 := eq_true c3
          have c3b1 : decide ((strOfNums y101).size + x3_1.size ≤ 9223372036854775807) = true := decide_eq_true c3
          try have c3b2 : (9223372036854775807 < (strOfNums y101).size + x3_1.size) = False := eq_false (Nat.not_lt.2 c3)
          have H' := Aside0.mk H
          clear H
          go_wp2_with (first | ((with_reducible refine gate_dst (N := 10) rfl ?_); refine Kd.R_lit (Kd.int .u8) _ 5 ?hg (N := 10) ?hd (xs := ([(wrap64 (48 + (Int.tmod x0_1 10))) % 256] : List Int)) (inner := [.int .u8 ((wrap64 (48 + (Int.tmod x0_1 10))) % 256)]) (ok := fun _ => True) (okp := fun _ => True) ?hr ?hp (fun _ hk => hk) trivial (Below.refl _ _) (Nat.le_refl _) (by simp) ?_; (case hd => rfl); (case hg => rfl); (case hr => first | (go_simp; done) | (go_simp; rfl)); (case hp => exact (Reps.one (show Kd.M (Kd.int .u8) _ _ _ ((wrap64 (48 + (Int.tmod x0_1 10))) % 256) [.int .u8 ((wrap64 (48 + (Int.tmod x0_1 10))) % 256)] from rfl) (Reps.none _ _))); intro v102 w4 ho5 hb hg_ hnew_; clear hg_ hnew_; (first | rw [← Ny101.out] at ho5 | (simp only [Int.reduceToNat] at ho5; rw [← Ny101.out] at ho5)); have n0_ := Aside0.mk (Kd.R_lower ho5 (below_size (by repeat (first | (with_reducible first | exact HB.out | apply below_alloc | apply pw_below_drewN | apply below_drew1) | exact HB.out)))); have n1_ := Aside0.mk (below_step (by repeat (first | (with_reducible first | exact HB.out | apply below_alloc | apply pw_below_drewN | apply below_drew1) | exact HB.out)) hb); clear HB; have HO103 := n0_; have HB := n1_; clear n0_ n1_; clear hb ho5; have hcv6 := own_string (P := Tryd.prog) Tryd.underlying22 Tryd.underlying5 Tryd.underlying9 (Kd.own_of_R HO103.out)))
          go_roundg k1
          case measure => have := HK1.out; omega
          case rel => exact ⟨(wrap64 (Int.tdiv x0_1 10)), ((strOfNums y101) ++ x3_1), (by first | rfl | (simp; done) | (simp [*]; done)), (by first | rfl | (simp; done) | (simp [*]; done)), H', ⟨by have := HK1.out; omega⟩, ⟨by repeat (first | (with_reducible first | exact HB.out | apply below_alloc | apply pw_below_drewN | apply below_drew1) | exact HB.out)⟩⟩
        · rw [if_neg c3] at H
          exact absurd H (by simp)
      · rw [if_neg c2] at H
        have c2b0 : decide (9 < x0_1) = false := decide_eq_false c2
        clear c2
        obtain ⟨y104, hy104⟩ : ∃ y_ : List Int, y_ = (([(wrap64 (48 + x0_1)) % 256] : List Int)) := ⟨_, rfl⟩
        replace H : (if (strOfNums y104).size + x3_1.size ≤ 9223372036854775807 then (some ((strOfNums y104) ++ x3_1)) else (none)) = some r := by first | (rw [hy104]; with_reducible exact H) | (have H2_ := (Option.bind_some _ _).symm.trans H; rw [hy104]; with_reducible exact H2_) | (have H2_ := (Option.bind_some _ _).symm.trans H; with_reducible exact H2_) | with_reducible exact H | (rw [hy104]; exact H) | exact H
        have Ny104 := Aside0.mk hy104
        clear hy104
        by_cases c7 : (strOfNums y104).size + x3_1.size ≤ 9223372036854775807
        · rw [if_pos c7] at H
          have c7b0 := eq_true c7
          have c7b1 : decide ((strOfNums y104).size + x3_1.size ≤ 9223372036854775807) = true := decide_eq_true c7
          try have c7b2 : (9223372036854775807 < (strOfNums y104).size + x3_1.size) = False := eq_false (Nat.not_lt.2 c7)
          obtain rfl := Option.some.inj H
          go_wp2_with (first | ((with_reducible refine gate_dst (N := 19) rfl ?_); refine Kd.R_lit (Kd.int .u8) _ 5 ?hg (N := 19) ?hd (xs := ([(wrap64 (48 + x0_1)) % 256] : List Int)) (inner := [.int .u8 ((wrap64 (48 + x0_1)) % 256)]) (ok := fun _ => True) (okp := fun _ => True) ?hr ?hp (fun _ hk => hk) trivial (Below.refl _ _) (Nat.le_refl _) (by simp) ?_; (case hd => rfl); (case hg => rfl); (case hr => first | (go_simp; done) | (go_simp; rfl)); (case hp => exact (Reps.one (show Kd.M (Kd.int .u8) _ _ _ ((wrap64 (48 + x0_1)) % 256) [.int .u8 ((wrap64 (48 + x0_1)) % 256)] from rfl) (Reps.none _ _))); intro v105 w8 ho9 hb hg_ hnew_; clear hg_ hnew_; (first | rw [← Ny104.out] at ho9 | (simp only [Int.reduceToNat] at ho9; rw [← Ny104.out] at ho9)); have n0_ := Aside0.mk (Kd.R_lower ho9 (below_size (by repeat (first | (with_reducible first | exact HB.out | apply below_alloc | apply pw_below_drewN | apply below_drew1) | exact HB.out)))); have n1_ := Aside0.mk (below_step (by repeat (first | (with_reducible first | exact HB.out | apply below_alloc | apply pw_below_drewN | apply below_drew1) | exact HB.out)) hb); clear HB; have HO106 := n0_; have HB := n1_; clear n0_ n1_; clear hb ho9; have hcv10 := own_string (P := Tryd.prog) Tryd.underlying22 Tryd.underlying5 Tryd.underlying9 (Kd.own_of_R HO106.out)))
          go_ret
          exact ⟨by first | rfl | (simp [errW_none, errW_some] <;> rfl) | (simp [*, errW_none, errW_some] <;> rfl), by repeat (first | (with_reducible first | exact HB.out | apply below_alloc | apply pw_below_drewN | apply below_drew1) | exact HB.out)⟩
        · rw [if_neg c7] at H
          exact absurd H (by simp)
theorem size_list (l : List UInt8) : (⟨l.toArray⟩ : ByteArray).size = l.length := by simp [ByteArray.size]
theorem one_byte (d : Nat) (h : d < 10) (x : Int) (hx : x = 48 + (d : Int)) : strOfNums [x] = ⟨[UInt8.ofNat (48 + d)].toArray⟩ := by
  subst hx
  show (⟨([UInt8.ofNat (48 + (d : Int)).toNat]).toArray⟩ : ByteArray) = _
  rw [show (48 + (d : Int)).toNat = 48 + d by omega]
theorem app_list (a b : List UInt8) : (⟨a.toArray⟩ : ByteArray) ++ ⟨b.toArray⟩ = ⟨(a ++ b).toArray⟩ := by
  apply ByteArray.ext
  apply Array.ext'
  simp
theorem ref_loop (f : Nat) : ∀ (u : Nat) (l : List UInt8), u < 10 ^ (f + 1) → u ≤ 9223372036854775807 → l.length + f ≤ 100 → millwrightref01_Text.l0 (f + 1) (u : Int) ⟨l.toArray⟩ = some ⟨(Lib.decDigits u ++ l).toArray⟩ := by
  induction f with
  | zero =>
    intro u l h hu hl
    rw [millwrightref01_Text.l0, if_neg (by omega), digits_small u (by omega)]
    rw [Option.bind_some, one_byte u (by omega) _ (by unfold wrap64; omega), size_list, size_list, if_pos (by simp; omega), app_list]
  | succ f ih =>
    intro u l h hu hl
    rw [millwrightref01_Text.l0]
    by_cases h10 : u < 10
    · rw [if_neg (by omega), digits_small u h10]
      rw [Option.bind_some, one_byte u h10 _ (by unfold wrap64; omega), size_list, size_list, if_pos (by simp; omega), app_list]
    · have e1 : Int.tmod (u : Int) 10 = ((u % 10 : Nat) : Int) := by rw [Int.tmod_eq_emod_of_nonneg (by omega)]; omega
      have e2 : wrap64 (Int.tdiv (u : Int) 10) = ((u / 10 : Nat) : Int) := by rw [Int.tdiv_eq_ediv_of_nonneg (by omega)]; unfold wrap64; omega
      rw [if_pos (by omega), e1, e2]
      rw [Option.bind_some, one_byte (u % 10) (by omega) _ (by unfold wrap64; omega), size_list, size_list, if_pos (by simp; omega), app_list]
      rw [ih (u / 10) _ (by rw [Nat.pow_succ] at h; omega) (by omega) (by simp; omega), digits_step u h10, List.append_assoc]
end Go.Proofs.YtegbfimfpkendaaDoor.PbH
namespace Go.Proofs.YtegbfimfpkendaaDoor.Str
open Go Go.RowKit Go.Proofs.YtegbfimfpkendaaDoorW.PrintWords
def Bytes (X : List Int) : Prop := ∀ x ∈ X, 0 ≤ x ∧ x ≤ 255
theorem Bytes.take {X : List Int} (h : Bytes X) (n : Nat) : Bytes (X.take n) := fun x hx => h x (List.mem_of_mem_take hx)
theorem Bytes.drop {X : List Int} (h : Bytes X) (n : Nat) : Bytes (X.drop n) := fun x hx => h x (List.mem_of_mem_drop hx)
theorem size_str (X : List Int) : (strOfNums X).size = X.length := by simp [strOfNums, ByteArray.size]
theorem bt_str {X : List Int} (hX : Bytes X) {i : Nat} (h : i < X.length) : bt (strOfNums X) (i : Int) = X[i] := by
  have hs : i < (strOfNums X).size := by rw [size_str]; exact h
  have hb := hX X[i] (List.getElem_mem h)
  unfold bt
  rw [Int.toNat_natCast, dif_pos hs]
  have e : (strOfNums X)[i]'hs = UInt8.ofNat (X[i]).toNat := by
    show (strOfNums X).data[i]'hs = _
    simp [strOfNums]
  rw [e, UInt8.toNat_ofNat']
  omega
theorem ext_str (X : List Int) (a b : Nat) : (strOfNums X).extract a b = strOfNums ((X.drop a).take (b - a)) := by
  apply ByteArray.ext
  apply Array.ext'
  simp [strOfNums, ByteArray.data_extract]
theorem ext_to (X : List Int) (b : Nat) : (strOfNums X).extract 0 b = strOfNums (X.take b) := by
  rw [ext_str]
  simp
theorem app_str (X Y : List Int) : strOfNums X ++ strOfNums Y = strOfNums (X ++ Y) := by
  apply ByteArray.ext
  apply Array.ext'
  simp [strOfNums]
theorem nil_str : (⟨#[]⟩ : ByteArray) = strOfNums [] := rfl
theorem drop_take_one {X : List Int} {i : Nat} (h : i < X.length) : (X.drop i).take (i + 1 - i) = [X[i]] := by
  rw [List.drop_eq_getElem_cons h, show i + 1 - i = 1 from by omega]
  rfl
theorem ext_one {X : List Int} {i : Nat} (h : i < X.length) : (strOfNums X).extract i (i + 1) = strOfNums [X[i]] := by
  rw [ext_str, drop_take_one h]
end Go.Proofs.YtegbfimfpkendaaDoor.Str
namespace Go.Proofs.YtegbfimfpkendaaDoor.LexQ
open LexS LexR
def isBlank (c : Int) : Prop := c = 32 ∨ c = 9 ∨ c = 13
instance (c : Int) : Decidable (isBlank c) := by unfold isBlank; infer_instance
inductive Bl : List Int → List Int → Prop
  | nil : Bl [] []
  | other (c : Int) (b o : List Int) : ¬ isBlank c → Bl b o → Bl (c :: b) (c :: o)
  | more (c : Int) (ws b o : List Int) : isBlank c → (∀ x ∈ ws, isBlank x) → Bl b o → Bl (c :: b) (c :: (ws ++ o))
theorem Bl.append {b o b' o' : List Int} (h : Bl b o) (h' : Bl b' o') : Bl (b ++ b') (o ++ o') := by
  induction h with
  | nil => exact h'
  | other c b o hc _ ih => exact .other c _ _ hc ih
  | more c ws b o hc hw _ ih =>
    have := Bl.more c ws (b ++ b') (o ++ o') hc hw ih
    simpa using this
theorem Bl.refl : ∀ l : List Int, Bl l l
  | [] => .nil
  | c :: l => by
    by_cases h : isBlank c
    · exact .more c [] l l h (by simp) (Bl.refl l)
    · exact .other c l l h (Bl.refl l)
end Go.Proofs.YtegbfimfpkendaaDoor.LexQ
