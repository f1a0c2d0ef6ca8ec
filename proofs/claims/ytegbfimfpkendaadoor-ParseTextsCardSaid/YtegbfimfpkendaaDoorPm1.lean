/- Plain lemmas: one operation more is one line more. No condition. Plain lemmas: a number in the place of one of a line's. No condition. millwrightref01.Text: its walk, and what it answers: a number's digits. No condition. -/
import Derived.Test.YtegbfimfpkendaaDoorPbB
import Derived.Test.YtegbfimfpkendaaDoorBb
import Derived.Test.YtegbfimfpkendaaDoorNumT
import Derived.Test.YtegbfimfpkendaaDoorLexB
import Derived.Laws.BitsLemmas
import Derived.WalkKit
namespace Go.Proofs.YtegbfimfpkendaaDoor.PbF
open Go.Proofs.YtegbfimfpkendaaDoorW.PrintWords LexS LexR LexQ LexT PaC PaD PaE PaF PaG PaJ PaL PaP PaQ PaS PaY PaZ PbA PbB PaV
set_option linter.unusedVariables false
set_option linter.unusedSimpArgs false
theorem ints_inj : ∀ {a b : List UInt8}, ints a = ints b → a = b
  | [], [], _ => rfl
  | [], _ :: _, h => by simp [ints] at h
  | _ :: _, [], h => by simp [ints] at h
  | x :: a, y :: b, h => by
    rw [ints_cons, ints_cons, List.cons.injEq] at h
    obtain ⟨h1, h2⟩ := h
    rw [ints_inj h2]
    have : x = y := by
      apply UInt8.toNat_inj.1
      omega
    rw [this]
theorem one_more {f : FileS} {o : Opn} {s t : List UInt8} (hl : f.cfg.length = 10) (h1 : textP f = (s, 0)) (h2 : textP ⟨f.cfg, f.tasks, f.ops ++ [o]⟩ = (t, 0)) (ho : f.ops.length ≤ 200) :
    ∃ q : List UInt8, t = s ++ (q ++ [10]) ∧ (∀ c ∈ q, ¬ c = 10) ∧ parseP (bytesOf ⟨t.toArray⟩) = (⟨f.cfg, f.tasks, f.ops ++ [o]⟩, 0, 0) ∧ t.length ≤ 30000 := by
  obtain ⟨g1, t1, o1, i1⟩ := text_ok h1 hl
  obtain ⟨g2, t2, o2, i2⟩ := text_ok h2 hl
  have hw : words ⟨f.cfg, f.tasks, f.ops ++ [o]⟩ = words f ++ [opL o] := by simp [words]
  have hgo := good_op o (g2.ops o (by simp))
  have hlen := words_len _ g2 t2 (by simp; omega)
  have hi : ints t = ints s ++ (joinW (opL o) ++ [10]) := by
    rw [i2, i1, hw, docB_append]
    simp [docB]
  have hs : t.take s.length = s := by
    apply ints_inj
    have : ints (t.take s.length) = (ints t).take s.length := by simp [ints, List.map_take]
    rw [this, hi]
    exact List.take_left' (ints_len s)
  have hr : ints (t.drop s.length) = joinW (opL o) ++ [10] := by
    have : ints (t.drop s.length) = (ints t).drop s.length := by simp [ints, List.map_drop]
    rw [this, hi]
    exact List.drop_left' (ints_len s)
  obtain ⟨q, hq⟩ : ∃ q, q = (t.drop s.length).dropLast := ⟨_, rfl⟩
  have hne : t.drop s.length ≠ [] := by
    intro h0
    rw [h0] at hr
    simp [ints] at hr
  have hlast : (t.drop s.length).getLast hne = 10 := by
    have h3 : ((ints (t.drop s.length)).getLast? ) = some 10 := by rw [hr]; simp
    have h4 : ((ints (t.drop s.length)).getLast? ) = some (((t.drop s.length).getLast hne).toNat : Int) := by
      unfold ints
      rw [List.getLast?_map, List.getLast?_eq_some_getLast hne]
      rfl
    rw [h4] at h3
    simp only [Option.some.injEq] at h3
    apply UInt8.toNat_inj.1
    show _ = 10
    omega
  have hsplit : t.drop s.length = q ++ [10] := by
    rw [hq, ← hlast]
    exact (List.dropLast_concat_getLast hne).symm
  have hqi : ints q = joinW (opL o) := by
    rw [hsplit, ints_append] at hr
    exact List.append_cancel_right (show ints q ++ [10] = _ from hr)
  refine ⟨q, ?_, fun c hc he => ?_, ?_, ?_⟩
  · rw [← hsplit]
    conv => lhs; rw [← List.take_append_drop s.length t]
    rw [hs]
  · have h5 : ((c.toNat : Nat) : Int) ∈ joinW (opL o) := by
      rw [← hqi]
      exact List.mem_map.2 ⟨c, hc, rfl⟩
    have := (joinW_in _ hgo _ h5).2.1
    rw [he] at this
    exact this rfl
  · rw [bytes_ints, i2]
    exact read_back _ g2 t2 o2 (by omega)
  · rw [← ints_len, i2]
    exact hlen
end Go.Proofs.YtegbfimfpkendaaDoor.PbF
namespace Go.Proofs.YtegbfimfpkendaaDoor.PbG
open Go.Proofs.YtegbfimfpkendaaDoorW.PrintWords LexS LexR LexQ LexT PaC PaD PaE PaF PaG PaJ PaL PaP PaQ PaS PaY PaZ PbA PbB PaV
set_option linter.unusedVariables false
set_option linter.unusedSimpArgs false
def X (D : List UInt8) : Tok := ⟨2, ints D, 0⟩
theorem num_x (n : Int) (D : List UInt8) (ts : List Tok) : numP (lin n (X D :: ts)) = if (NumS.parseF ⟨D.toArray⟩).2 = 0 then .ok (NumS.parseF ⟨D.toArray⟩).1 (lin n ts) else .bad (NumS.parseF ⟨D.toArray⟩).2 := by
  show (if (2 : Int) = 2 then (if (NumS.parseF (strOfNums (ints D))).2 = 0 then Rs.ok (NumS.parseF (strOfNums (ints D))).1 (lin n ts) else .bad (NumS.parseF (strOfNums (ints D))).2) else .bad 2) = _
  rw [if_pos rfl, str_ints]
theorem num_y (n v e : Int) (D : List UInt8) (ts : List Tok) (h : NumS.parseF ⟨D.toArray⟩ = (v, e)) : numP (lin n (X D :: ts)) = if e = 0 then .ok v (lin n ts) else .bad e := by
  rw [num_x, h]
def toks (j : Nat) (D : List UInt8) : List Tok :=
  match j with
  | 0 => [W taskB, X D, Nm 5]
  | 1 => [W taskB, Nm 5, X D]
  | 2 => [W submitB, X D, Nm 2, Nm 3]
  | 3 => [W submitB, Nm 1, X D, Nm 3]
  | 4 => [W submitB, Nm 1, Nm 2, X D]
  | 5 => [W cancelB, X D]
  | 6 => [W queryB, X D]
  | _ => [W answerB, Nm 0, Nm 1, W needB, X D]
def ahead (j : Nat) : List UInt8 :=
  match j with
  | 0 => taskB ++ [32]
  | 1 => taskB ++ [32, 53, 32]
  | 2 => submitB ++ [32]
  | 3 => submitB ++ [32, 49, 32]
  | 4 => submitB ++ [32, 49, 32, 50, 32]
  | 5 => cancelB ++ [32]
  | 6 => queryB ++ [32]
  | _ => answerB ++ [32, 48, 32, 49, 32] ++ needB ++ [32]
def behind (j : Nat) : List UInt8 :=
  match j with
  | 0 => [32, 53]
  | 1 => []
  | 2 => [32, 50, 32, 51]
  | 3 => [32, 51]
  | _ => []
def hf : FileS := ⟨[10, 2, 3, 4, 2, 1, 5, 2, 8, 7], [], []⟩
def fileJ (j : Nat) (v : Int) : FileS :=
  match j with
  | 0 => { hf with tasks := [⟨v, 5⟩] }
  | 1 => { hf with tasks := [⟨5, v⟩] }
  | 2 => { hf with ops := [⟨1, v, 2, 3, 0⟩] }
  | 3 => { hf with ops := [⟨1, 1, v, 3, 0⟩] }
  | 4 => { hf with ops := [⟨1, 1, 2, v, 0⟩] }
  | 5 => { hf with ops := [⟨2, v, 0, 0, 0⟩] }
  | 6 => { hf with ops := [⟨6, v, 0, 0, 0⟩] }
  | _ => { hf with ops := [⟨5, 0, 1, 3, v⟩] }
theorem line_join (j : Nat) (D : List UInt8) : joinW (toks j D) = ints (ahead j ++ D ++ behind j) := by
  have e5 : (Nm 5).text = [53] := by kernel_rfl
  have e1 : (Nm 1).text = [49] := by kernel_rfl
  have e2 : (Nm 2).text = [50] := by kernel_rfl
  have e3 : (Nm 3).text = [51] := by kernel_rfl
  have e0 : (Nm 0).text = [48] := by kernel_rfl
  unfold toks ahead behind
  split <;> simp only [joinW, e0, e1, e2, e3, e5, W, X, ints_append, List.append_assoc] <;> simp [ints]
theorem takes_j (j : Nat) (n v e : Int) (D : List UInt8) (h : NumS.parseF ⟨D.toArray⟩ = (v, e)) : takesP hf false (lin n (toks j D)) = if e = 0 then .ok (fileJ j v) else .bad e := by
  have k0 := fun ts => num_t n 0 ts (by decide)
  have k1 := fun ts => num_t n 1 ts (by decide)
  have k2 := fun ts => num_t n 2 ts (by decide)
  have k3 := fun ts => num_t n 3 ts (by decide)
  have k5 := fun ts => num_t n 5 ts (by decide)
  have kx := fun ts => num_y n v e D ts h
  have tk : ∀ ts, takesP hf false (lin n (W taskB :: ts)) = (match numP (lin n ts) with
      | .bad e => .bad e
      | .ok m t2 => match numP t2 with
        | .bad e => .bad e
        | .ok c t3 => finP { hf with tasks := hf.tasks ++ [⟨m, c⟩] } t3) := by
    intro ts
    unfold takesP
    rw [word_t]
    simp only
    rw [if_pos (show (false == ((⟨taskB.toArray⟩ : ByteArray).toList == configB)) = true by kernel_rfl), if_neg (by simp), if_pos (show (⟨taskB.toArray⟩ : ByteArray).toList = taskB by kernel_rfl), if_pos (show hf.ops.length = 0 from rfl), if_pos (show hf.tasks.length < 64 by decide)]
    rfl
  have ow := fun l ts x hc ht hf_ => op_way n hf l ts x hc ht hf_ (by decide)
  have fs : ∀ ts, takesP hf false (lin n (W submitB :: ts)) = _ := fun ts => ow submitB ts ⟨strB submitB, 1, 3⟩ (by decide) (by decide) (by kernel_rfl)
  have fc : ∀ ts, takesP hf false (lin n (W cancelB :: ts)) = _ := fun ts => ow cancelB ts ⟨strB cancelB, 2, 1⟩ (by decide) (by decide) (by kernel_rfl)
  have fq : ∀ ts, takesP hf false (lin n (W queryB :: ts)) = _ := fun ts => ow queryB ts ⟨strB queryB, 6, 1⟩ (by decide) (by decide) (by kernel_rfl)
  have fa : ∀ ts, takesP hf false (lin n (W answerB :: ts)) = _ := fun ts => ow answerB ts ⟨strB answerB, 5, 2⟩ (by decide) (by decide) (by kernel_rfl)
  by_cases he : e = 0
  · subst he
    unfold toks fileJ
    split <;> simp only [tk, fs, fc, fq, fa, opP, numsF, show (3 : Int).toNat = 3 from rfl, show (1 : Int).toNat = 1 from rfl, show (2 : Int).toNat = 2 from rfl, kx, k0, k1, k2, k3, k5, if_true, if_neg (show ¬ (1 : Int) = 5 by decide), if_neg (show ¬ (2 : Int) = 5 by decide), if_neg (show ¬ (6 : Int) = 5 by decide), word_t, show findF (⟨needB.toArray⟩ : ByteArray) answersT = some ⟨strB needB, 3, 1⟩ from by kernel_rfl, if_pos (show (0 : Int) < 1 by decide)] <;> rfl
  · unfold toks
    split <;> simp only [tk, fs, fc, fq, fa, opP, numsF, show (3 : Int).toNat = 3 from rfl, show (1 : Int).toNat = 1 from rfl, show (2 : Int).toNat = 2 from rfl, kx, k0, k1, k2, k3, k5, if_true, if_neg he, if_neg (show ¬ (1 : Int) = 5 by decide), if_neg (show ¬ (2 : Int) = 5 by decide), if_neg (show ¬ (6 : Int) = 5 by decide), word_t, show findF (⟨needB.toArray⟩ : ByteArray) answersT = some ⟨strB needB, 3, 1⟩ from by kernel_rfl, if_pos (show (0 : Int) < 1 by decide)]
theorem good_x (D : List UInt8) (hne : D ≠ []) (hd : ∀ c ∈ D, NumT.Dig c) : LexT.Good (X D) := by
  refine ⟨.inr rfl, by simpa [X, ints] using hne, fun c hc => ?_⟩
  obtain ⟨b, hb, rfl⟩ := List.mem_map.1 hc
  have := hd b hb
  unfold NumT.Dig at this
  unfold kR
  rw [if_neg (by omega), if_pos (by omega)]
  rfl
theorem toks_good (j : Nat) (D : List UInt8) (hne : D ≠ []) (hd : ∀ c ∈ D, NumT.Dig c) : ∀ t ∈ toks j D, LexT.Good t := by
  have gx := good_x D hne hd
  have g0 := good_num 0 (by decide)
  have g1 := good_num 1 (by decide)
  have g2 := good_num 2 (by decide)
  have g3 := good_num 3 (by decide)
  have g5 := good_num 5 (by decide)
  have w1 := good_word taskB (by decide) (by decide)
  have w2 := good_word submitB (by decide) (by decide)
  have w3 := good_word cancelB (by decide) (by decide)
  have w4 := good_word queryB (by decide) (by decide)
  have w5 := good_word answerB (by decide) (by decide)
  have w6 := good_word needB (by decide) (by decide)
  unfold toks
  split <;> simp [gx, g0, g1, g2, g3, g5, w1, w2, w3, w4, w5, w6]
theorem read_j (j : Nat) (D : List UInt8) (v e : Int) (hne : D ≠ []) (hd : ∀ c ∈ D, NumT.Dig c) (hl : D.length ≤ 1000) (h : NumS.parseF ⟨D.toArray⟩ = (v, e)) :
    parseP (bytesOf ⟨(headB ++ (ahead j ++ D ++ behind j)).toArray⟩) = if e = 0 then (fileJ j v, 0, 0) else (zeroF, 2, e) := by
  have hg := toks_good j D hne hd
  have hgh : GoodD [headL hv] := by
    intro l hl
    rw [List.mem_singleton.1 hl]
    exact good_head hv rfl (by decide)
  have eh : ints headB = docB [headL hv] := by kernel_rfl
  have hla : (ahead j).length ≤ 100 ∧ (behind j).length ≤ 100 := by
    unfold ahead behind
    split <;> split <;> decide
  have e1 : bytesOf ⟨(headB ++ (ahead j ++ D ++ behind j)).toArray⟩ = docB [headL hv] ++ joinW (toks j D) := by
    rw [bytes_ints, ints_append, eh, line_join]
  have hlen : (docB [headL hv] ++ joinW (toks j D)).length ≤ 65536 := by
    rw [← eh, line_join, List.length_append, ints_len, ints_len]
    have : headB.length ≤ 200 := by decide
    simp only [List.length_append]
    omega
  have hne2 : ¬ toks j D = [] := by
    unfold toks
    split <;> simp
  rw [e1, parse_docE [headL hv] (toks j D) hgh hg hlen (by simp [num, headL]), num_append]
  rw [num, if_neg (by simp [headL]), num, num, if_neg hne2, num]
  simp only [List.singleton_append]
  rw [runP, head_t 1 zeroF hv rfl (by decide)]
  simp only
  rw [runP]
  have := takes_j j (1 + ([headL hv].length : Int)) v e D h
  have ehf : ({ zeroF with cfg := hv } : FileS) = hf := rfl
  rw [ehf, this]
  by_cases he : e = 0
  · subst he
    simp [runP]
  · simp [he]
theorem dec_len (u : Nat) (hu : u < 2147483648) : (Lib.decDigits u).length ≤ 21 := by
  have h := numB_len (n := (u : Int)) ⟨by omega, by omega⟩
  have e : Lib.itoa (u : Int) = Lib.decDigits u := by unfold Lib.itoa; rw [if_neg (by omega)]; rfl
  simp only [numB, e, List.length_cons] at h
  omega
theorem read_num (j : Nat) (u : Nat) (hu : u < 2147483648) : parseP (bytesOf ⟨(headB ++ (ahead j ++ Lib.decDigits u ++ behind j)).toArray⟩) = if (u : Int) > 1048576 then (zeroF, 2, 3) else (fileJ j (u : Int), 0, 0) := by
  have h := NumT.parse_dec u
  have hl : (Lib.decDigits u).length ≤ 1000 := by
    have := dec_len u hu
    omega
  by_cases hb : (u : Int) > 1048576
  · rw [if_pos hb] at h ⊢
    rw [read_j j _ 0 3 (NumT.digits_ne u) (NumT.digits_dig u) hl h, if_neg (by decide)]
  · rw [if_neg hb] at h ⊢
    rw [read_j j _ _ 0 (NumT.digits_ne u) (NumT.digits_dig u) hl h, if_pos rfl]
theorem read_nought (j : Nat) (u : Nat) (hu : u < 2147483648) : parseP (bytesOf ⟨(headB ++ (ahead j ++ (48 :: Lib.decDigits u) ++ behind j)).toArray⟩) = (zeroF, 2, 2) := by
  have hl : (Lib.decDigits u).length ≤ 900 := by
    have := dec_len u hu
    omega
  have h : NumS.parseF ⟨(48 :: Lib.decDigits u).toArray⟩ = (0, 2) := by
    unfold NumS.parseF
    rw [if_pos]
    refine .inr ⟨rfl, ?_⟩
    have := NumT.digits_ne u
    simp [this]
  rw [read_j j _ 0 2 (by simp) (fun c hc => by
    rcases List.mem_cons.1 hc with rfl | hc
    · exact ⟨by decide, by decide⟩
    · exact NumT.digits_dig u c hc) (by simp; omega) h, if_neg (by decide)]
end Go.Proofs.YtegbfimfpkendaaDoor.PbG
namespace Go.Proofs.YtegbfimfpkendaaDoor.Bits
open Go Go.RowKit
theorem i64_mask (i : Nat) (hi : i ≤ 62) (n : Int) : bits .and .i64 n (2 ^ i - 1) = n % 2 ^ i := by
  have hp : (2 : Nat) ^ i ≤ 2 ^ 62 := Nat.pow_le_pow_right (by decide) hi
  have hpos : 0 < (2 : Nat) ^ i := Nat.two_pow_pos i
  have hc : ((2 : Int) ^ i - 1) = ((2 ^ i - 1 : Nat) : Int) := by
    rw [Int.natCast_sub hpos]; simp
  have hm : (BitVec.ofInt 64 ((2 : Int) ^ i - 1)).toNat = 2 ^ i - 1 := by
    rw [hc, BitVec.toNat_ofInt]
    omega
  have key : (BitVec.ofInt 64 n &&& BitVec.ofInt 64 ((2 : Int) ^ i - 1)).toNat = (n % ((2 ^ 64 : Nat) : Int)).toNat % 2 ^ i := by
    rw [BitVec.toNat_and, hm, Nat.and_two_pow_sub_one_eq_mod, BitVec.toNat_ofInt]
  show IntKind.i64.wrap ((BitVec.ofInt 64 n &&& BitVec.ofInt 64 ((2 : Int) ^ i - 1)).toNat : Nat) = n % 2 ^ i
  rw [key, IntKind.wrap_i64]
  have hd : (2 : Int) ^ i ∣ ((2 ^ 64 : Nat) : Int) := by
    refine ⟨(2 : Int) ^ (64 - i), ?_⟩
    rw [← Int.pow_add, show i + (64 - i) = 64 from by omega]
    rfl
  have e1 : (((n % ((2 ^ 64 : Nat) : Int)).toNat % 2 ^ i : Nat) : Int) = n % (2 : Int) ^ i := by
    have h0 : 0 ≤ n % ((2 ^ 64 : Nat) : Int) := Int.emod_nonneg _ (by decide)
    rw [Int.natCast_emod, Int.toNat_of_nonneg h0]
    have : ((2 ^ i : Nat) : Int) = (2 : Int) ^ i := by simp
    rw [this]
    exact Int.emod_emod_of_dvd n hd
  rw [e1]
  have h1 : 0 ≤ n % (2 : Int) ^ i := Int.emod_nonneg _ (Int.ne_of_gt (by exact_mod_cast hpos))
  have h2 : n % (2 : Int) ^ i < (2 : Int) ^ i := Int.emod_lt_of_pos _ (by exact_mod_cast hpos)
  have h3 : (2 : Int) ^ i ≤ 4611686018427387904 := by
    have h4 : ((2 ^ i : Nat) : Int) ≤ ((4611686018427387904 : Nat) : Int) := Int.ofNat_le.2 hp
    have h5 : ((2 ^ i : Nat) : Int) = (2 : Int) ^ i := Int.natCast_pow 2 i
    omega
  omega
theorem and65535 (n : Int) : bits .and .i64 n 65535 = n % 65536 := i64_mask 16 (by decide) n
theorem tmod_pos (a b : Int) (h0 : 0 ≤ a) : Int.tmod a b = a % b := Int.tmod_eq_emod_of_nonneg h0
theorem wrap64_in {n : Int} (h0 : -9223372036854775808 ≤ n) (h1 : n ≤ 9223372036854775807) : wrap64 n = n := by unfold wrap64; omega
end Go.Proofs.YtegbfimfpkendaaDoor.Bits
namespace Go.Proofs.YtegbfimfpkendaaDoor.PbH
open Go.RowKit Go.Proofs.YtegbfimfpkendaaDoorW.PrintWords Go.Proofs.YtegbfimfpkendaaDoorW.PrintLast Go.Proofs.YtegbfimfpkendaaDoorW.PrintMore NumT NumS
attribute [local go_sem] max2_int min2_int max_two min_two max_three min_three max_four min_four
set_option linter.unusedVariables false
set_option linter.unusedSimpArgs false
def millwrightref01_Text.l0 : Nat → Int → ByteArray → Option (ByteArray)
  | 0, _, _ => none
  | k + 1, x0, x3 => if x0 > 9 then ((some (([(wrap64 (48 + (Int.tmod x0 10))) % 256] : List Int) : List Int)).bind fun y101 => (if (strOfNums y101).size + x3.size ≤ 9223372036854775807 then (millwrightref01_Text.l0 k (wrap64 (Int.tdiv x0 10)) ((strOfNums y101) ++ x3)) else (none))) else ((some (([(wrap64 (48 + x0)) % 256] : List Int) : List Int)).bind fun y104 => (if (strOfNums y104).size + x3.size ≤ 9223372036854775807 then (some ((strOfNums y104) ++ x3)) else (none)))
def millwrightref01_Text.f (k : Nat) (a0 : Int) : Option (ByteArray) := millwrightref01_Text.l0 k a0 (⟨#[]⟩ : ByteArray)
theorem millwrightref01_Text.mono_l : ∀ k, (∀ y0 y1, LeO (millwrightref01_Text.l0 k y0 y1) (millwrightref01_Text.l0 (k + 1) y0 y1))
  | 0 => fun _ _ r h => by simp [millwrightref01_Text.l0] at h
  | k + 1 => by
    have ih0 := millwrightref01_Text.mono_l k
    · intro y0 y1
      unfold millwrightref01_Text.l0
      repeat' first
      | (with_reducible exact ih0 _ _)
      | (with_reducible exact LeO.refl _)
      | (with_reducible exact LeO.none _)
      | (with_reducible refine LeO.ite ?_ ?_)
      | (with_reducible refine LeO.bind ?_ (fun _ => ?_))
      | exact ih0 _ _
      | exact LeO.none _
      | refine LeO.ite ?_ ?_
      | refine LeO.bind ?_ (fun _ => ?_)
theorem millwrightref01_Text.mono : ∀ a0 k, LeO (millwrightref01_Text.f k a0) (millwrightref01_Text.f (k + 1) a0) := by
  intro a0 k
  have ih0 := millwrightref01_Text.mono_l k
  unfold millwrightref01_Text.f
  repeat' first
      | (with_reducible exact ih0 _ _)
      | (with_reducible exact LeO.refl _)
      | (with_reducible exact LeO.none _)
      | (with_reducible refine LeO.ite ?_ ?_)
      | (with_reducible refine LeO.bind ?_ (fun _ => ?_))
      | exact ih0 _ _
      | exact LeO.none _
      | refine LeO.ite ?_ ?_
      | refine LeO.bind ?_ (fun _ => ?_)
set_option maxHeartbeats 8000000 in
set_option maxRecDepth 100000 in
theorem millwrightref01_Text.calls (k : Nat) (a0 : Int) (r : ByteArray) (w : World) (h : millwrightref01_Text.f k a0 = some r) :
    Calls Tryd.prog 17 #[.int .i64 a0] w fun e w' => e = .returned (.string r) ∧ Below w.heap.size w w' := by
  have HB := Aside0.mk (Below.refl w.heap.size w)
  have H : (millwrightref01_Text.l0 k a0 (⟨#[]⟩ : ByteArray)) = some r := h
  clear h
  have H' := Aside0.mk H
  clear H
  go_enter Tryd.func17, Tryd.ntmps17
  go_wp2
  go_loopg [0, 3] k (fun kq v0 v3 w' => ∃ (x0_1 : Int) (x3_1 : ByteArray), v0 = .int .i64 x0_1 ∧ v3 = .string x3_1 ∧ Aside0 (millwrightref01_Text.l0 kq x0_1 x3_1 = some r) ∧ Aside0 (kq ≤ k) ∧ Aside0 (Below w.heap.size w w'))
  case atStart => exact ⟨(a0), ((⟨#[]⟩ : ByteArray)), (by first | rfl | (simp; done) | (simp [*]; done)), (by first | rfl | (simp; done) | (simp [*]; done)), H', ⟨Nat.le_refl _⟩, ⟨by repeat (first | (with_reducible first | exact HB.out | apply below_alloc | apply pw_below_drewN | apply below_drew1) | exact HB.out)⟩⟩
  case round =>
    clear H'
    try clear c1
    obtain ⟨x0_1, x3_1, rfl, rfl, HA, HK1, HB⟩ := hrel
    cases gk with
    | zero => exact absurd HA.out (by simp [millwrightref01_Text.l0])
    | succ k1 =>
      have H := HA.out
      clear HA
      simp only [millwrightref01_Text.l0] at H
      by_cases c2 : x0_1 > 9
      · rw [if_pos c2] at H
        have c2b0 : decide (9 < x0_1) = true := decide_eq_true c2
        clear c2
        obtain ⟨y101, hy101⟩ : ∃ y_ : List Int, y_ = (([(wrap64 (48 + (Int.tmod x0_1 10))) % 256] : List Int)) := ⟨_, rfl⟩
        replace H : (if (strOfNums y101).size + x3_1.size ≤ 9223372036854775807 then (millwrightref01_Text.l0 k1 (wrap64 (Int.tdiv x0_1 10)) ((strOfNums y101) ++ x3_1)) else (none)) = some r := by first | (rw [hy101]; with_reducible exact H) | (have H2_ := (Option.bind_some _ _).symm.trans H; rw [hy101]; with_reducible exact H2_) | (have H2_ := (Option.bind_some _ _).symm.trans H; with_reducible exact H2_) | with_reducible exact H | (rw [hy101]; exact H) | exact H
        have Ny101 := Aside0.mk hy101
        clear hy101
        by_cases c3 : (strOfNums y101).size + x3_1.size ≤ 9223372036854775807
        · rw [if_pos c3] at H
          have c3b0 := eq_true c3
          have c3b1 : decide ((strOfNums y101).size + x3_1.size ≤ 9223372036854775807) = true := decide_eq_true c3
          try have c3b2 : (9223372036854775807 < (strOfNums y101).size + x3_1.size) = False := eq_false (Nat.not_lt.2 c3)
          have H' := Aside0.mk H
          clear H
          go_wp2_with (first | ((with_reducible refine gate_dst (N := 10) rfl ?_); refine Kd.R_lit (Kd.int .u8) _ 5 ?hg (N := 10) ?hd (xs := ([(wrap64 (48 + (Int.tmod x0_1 10))) % 256] : List Int)) (inner := [.int .u8 ((wrap64 (48 + (Int.tmod x0_1 10))) % 256)]) (ok := fun _ => True) (okp := fun _ => True) ?hr ?hp (fun _ hk => hk) trivial (Below.refl _ _) (Nat.le_refl _) (by simp) ?_; (case hd => rfl); (case hg => rfl); (case hr => first | (go_simp; done) | (go_simp; rfl)); (case hp => exact (Reps.one (show Kd.M (Kd.int .u8) _ _ _ ((wrap64 (48 + (Int.tmod x0_1 10))) % 256) [.int .u8 ((wrap64 (48 + (Int.tmod x0_1 10))) % 256)] from rfl) (Reps.none _ _))); intro v102 w4 ho5 hb hg_ hnew_; clear hg_ hnew_; (first | rw [← Ny101.out] at ho5 | (simp only [Int.reduceToNat] at ho5; rw [← Ny101.out] at ho5)); have n0_ := Aside0.mk (Kd.R_lower ho5 (below_size (by repeat (first | (with_reducible first | exact HB.out | apply below_alloc | apply pw_below_drewN | apply below_drew1) | exact HB.out)))); have n1_ := Aside0.mk (below_step (by repeat (first | (with_reducible first | exact HB.out | apply below_alloc | apply pw_below_drewN | apply below_drew1) | exact HB.out)) hb); clear HB; have HO103 := n0_; have HB := n1_; clear n0_ n1_; clear hb ho5; have hcv6 := own_string (P := Tryd.prog) Tryd.underlying22 Tryd.underlying5 Tryd.underlying9 (Kd.own_of_R HO103.out)))
          go_roundg k1
          case measure => have := HK1.out; omega
          case rel => exact ⟨(wrap64 (Int.tdiv x0_1 10)), ((strOfNums y101) ++ x3_1), (by first | rfl | (simp; done) | (simp [*]; done)), (by first | rfl | (simp; done) | (simp [*]; done)), H', ⟨by have := HK1.out; omega⟩, ⟨by repeat (first | (with_reducible first | exact HB.out | apply below_alloc | apply pw_below_drewN | apply below_drew1) | exact HB.out)⟩⟩
        · rw [if_neg c3] at H
          exact absurd H (by simp)
      · rw [if_neg c2] at H
        have c2b0 : decide (9 < x0_1) = false := decide_eq_false c2
        clear c2
        obtain ⟨y104, hy104⟩ : ∃ y_ : List Int, y_ = (([(wrap64 (48 + x0_1)) % 256] : List Int)) := ⟨_, rfl⟩
        replace H : (if (strOfNums y104).size + x3_1.size ≤ 9223372036854775807 then (some ((strOfNums y104) ++ x3_1)) else (none)) = some r := by first | (rw [hy104]; with_reducible exact H) | (have H2_ := (Option.bind_some _ _).symm.trans H; rw [hy104]; with_reducible exact H2_) | (have H2_ := (Option.bind_some _ _).symm.trans H; with_reducible exact H2_) | with_reducible exact H | (rw [hy104]; exact H) | exact H
        have Ny104 := Aside0.mk hy104
        clear hy104
        by_cases c7 : (strOfNums y104).size + x3_1.size ≤ 9223372036854775807
        · rw [if_pos c7] at H
          have c7b0 := eq_true c7
          have c7b1 : decide ((strOfNums y104).size + x3_1.size ≤ 9223372036854775807) = true := decide_eq_true c7
          try have c7b2 : (9223372036854775807 < (strOfNums y104).size + x3_1.size) = False := eq_false (Nat.not_lt.2 c7)
          obtain rfl := Option.some.inj H
          go_wp2_with (first | ((with_reducible refine gate_dst (N := 19) rfl ?_); refine Kd.R_lit (Kd.int .u8) _ 5 ?hg (N := 19) ?hd (xs := ([(wrap64 (48 + x0_1)) % 256] : List Int)) (inner := [.int .u8 ((wrap64 (48 + x0_1)) % 256)]) (ok := fun _ => True) (okp := fun _ => True) ?hr ?hp (fun _ hk => hk) trivial (Below.refl _ _) (Nat.le_refl _) (by simp) ?_; (case hd => rfl); (case hg => rfl); (case hr => first | (go_simp; done) | (go_simp; rfl)); (case hp => exact (Reps.one (show Kd.M (Kd.int .u8) _ _ _ ((wrap64 (48 + x0_1)) % 256) [.int .u8 ((wrap64 (48 + x0_1)) % 256)] from rfl) (Reps.none _ _))); intro v105 w8 ho9 hb hg_ hnew_; clear hg_ hnew_; (first | rw [← Ny104.out] at ho9 | (simp only [Int.reduceToNat] at ho9; rw [← Ny104.out] at ho9)); have n0_ := Aside0.mk (Kd.R_lower ho9 (below_size (by repeat (first | (with_reducible first | exact HB.out | apply below_alloc | apply pw_below_drewN | apply below_drew1) | exact HB.out)))); have n1_ := Aside0.mk (below_step (by repeat (first | (with_reducible first | exact HB.out | apply below_alloc | apply pw_below_drewN | apply below_drew1) | exact HB.out)) hb); clear HB; have HO106 := n0_; have HB := n1_; clear n0_ n1_; clear hb ho9; have hcv10 := own_string (P := Tryd.prog) Tryd.underlying22 Tryd.underlying5 Tryd.underlying9 (Kd.own_of_R HO106.out)))
          go_ret
          exact ⟨by first | rfl | (simp [errW_none, errW_some] <;> rfl) | (simp [*, errW_none, errW_some] <;> rfl), by repeat (first | (with_reducible first | exact HB.out | apply below_alloc | apply pw_below_drewN | apply below_drew1) | exact HB.out)⟩
        · rw [if_neg c7] at H
          exact absurd H (by simp)
theorem size_list (l : List UInt8) : (⟨l.toArray⟩ : ByteArray).size = l.length := by simp [ByteArray.size]
theorem one_byte (d : Nat) (h : d < 10) (x : Int) (hx : x = 48 + (d : Int)) : strOfNums [x] = ⟨[UInt8.ofNat (48 + d)].toArray⟩ := by
  subst hx
  show (⟨([UInt8.ofNat (48 + (d : Int)).toNat]).toArray⟩ : ByteArray) = _
  rw [show (48 + (d : Int)).toNat = 48 + d by omega]
theorem app_list (a b : List UInt8) : (⟨a.toArray⟩ : ByteArray) ++ ⟨b.toArray⟩ = ⟨(a ++ b).toArray⟩ := by
  apply ByteArray.ext
  apply Array.ext'
  simp
theorem len_dec (f : Nat) : ∀ u : Nat, u < 10 ^ (f + 1) → (Lib.decDigits u).length ≤ f + 1 := by
  induction f with
  | zero => intro u h; rw [digits_small u (by omega)]; exact Nat.le_refl _
  | succ f ih =>
    intro u h
    by_cases h10 : u < 10
    · rw [digits_small u h10]; simp
    · rw [digits_step u h10, List.length_append]
      have := ih (u / 10) (by rw [Nat.pow_succ] at h; omega)
      simp; omega
theorem ref_loop (f : Nat) : ∀ (u : Nat) (l : List UInt8), u < 10 ^ (f + 1) → u ≤ 9223372036854775807 → l.length + f ≤ 100 → millwrightref01_Text.l0 (f + 1) (u : Int) ⟨l.toArray⟩ = some ⟨(Lib.decDigits u ++ l).toArray⟩ := by
  induction f with
  | zero =>
    intro u l h hu hl
    rw [millwrightref01_Text.l0, if_neg (by omega), digits_small u (by omega)]
    rw [Option.bind_some, one_byte u (by omega) _ (by unfold wrap64; omega), size_list, size_list, if_pos (by simp; omega), app_list]
  | succ f ih =>
    intro u l h hu hl
    rw [millwrightref01_Text.l0]
    by_cases h10 : u < 10
    · rw [if_neg (by omega), digits_small u h10]
      rw [Option.bind_some, one_byte u h10 _ (by unfold wrap64; omega), size_list, size_list, if_pos (by simp; omega), app_list]
    · have e1 : Int.tmod (u : Int) 10 = ((u % 10 : Nat) : Int) := by rw [Int.tmod_eq_emod_of_nonneg (by omega)]; omega
      have e2 : wrap64 (Int.tdiv (u : Int) 10) = ((u / 10 : Nat) : Int) := by rw [Int.tdiv_eq_ediv_of_nonneg (by omega)]; unfold wrap64; omega
      rw [if_pos (by omega), e1, e2]
      rw [Option.bind_some, one_byte (u % 10) (by omega) _ (by unfold wrap64; omega), size_list, size_list, if_pos (by simp; omega), app_list]
      rw [ih (u / 10) _ (by rw [Nat.pow_succ] at h; omega) (by omega) (by simp; omega), digits_step u h10, List.append_assoc]
theorem ref_text (u : Nat) (hu : u ≤ 9223372036854775807) : millwrightref01_Text.f 62 (u : Int) = some ⟨(Lib.decDigits u).toArray⟩ := by
  unfold millwrightref01_Text.f
  rw [show (⟨#[]⟩ : ByteArray) = ⟨([] : List UInt8).toArray⟩ from rfl]
  have h := ref_loop 61 u [] (Nat.lt_of_le_of_lt hu (by decide)) hu (by simp)
  rw [List.append_nil] at h
  exact h
theorem text_ref (u : Nat) (hu : u ≤ 9223372036854775807) (w : World) : Calls Tryd.prog 17 #[.int .i64 (u : Int)] w fun e w' => e = .returned (.string ⟨(Lib.decDigits u).toArray⟩) ∧ Below w.heap.size w w' :=
  millwrightref01_Text.calls 62 (u : Int) _ w (ref_text u hu)
end Go.Proofs.YtegbfimfpkendaaDoor.PbH
