/- Plain lemmas: a number in the place of one of a line's. No condition. -/
import Derived.Test.YtegbfimfpkendaaDoorPbB
namespace Go.Proofs.YtegbfimfpkendaaDoor.PbG
open Go.Proofs.YtegbfimfpkendaaDoorW.PrintWords LexS LexR LexQ LexT PaC PaD PaE PaF PaG PaJ PaL PaP PaQ PaS PaY PaZ PbA PbB PaV
set_option linter.unusedVariables false
set_option linter.unusedSimpArgs false
/-- A token of these digits. -/
def X (D : List UInt8) : Tok := ⟨2, ints D, 0⟩
theorem num_x (n : Int) (D : List UInt8) (ts : List Tok) : numP (lin n (X D :: ts)) = if (NumS.parseF ⟨D.toArray⟩).2 = 0 then .ok (NumS.parseF ⟨D.toArray⟩).1 (lin n ts) else .bad (NumS.parseF ⟨D.toArray⟩).2 := by
  show (if (2 : Int) = 2 then (if (NumS.parseF (strOfNums (ints D))).2 = 0 then Rs.ok (NumS.parseF (strOfNums (ints D))).1 (lin n ts) else .bad (NumS.parseF (strOfNums (ints D))).2) else .bad 2) = _
  rw [if_pos rfl, str_ints]
theorem num_y (n v e : Int) (D : List UInt8) (ts : List Tok) (h : NumS.parseF ⟨D.toArray⟩ = (v, e)) : numP (lin n (X D :: ts)) = if e = 0 then .ok v (lin n ts) else .bad e := by
  rw [num_x, h]
/-- The lines, the number's digits told. -/
def toks (j : Nat) (D : List UInt8) : List Tok :=
  match j with
  | 0 => [W taskB, X D, Nm 5]
  | 1 => [W taskB, Nm 5, X D]
  | 2 => [W submitB, X D, Nm 2, Nm 3]
  | 3 => [W submitB, Nm 1, X D, Nm 3]
  | 4 => [W submitB, Nm 1, Nm 2, X D]
  | 5 => [W cancelB, X D]
  | 6 => [W queryB, X D]
  | _ => [W answerB, Nm 0, Nm 1, W needB, X D]
def ahead (j : Nat) : List UInt8 :=
  match j with
  | 0 => taskB ++ [32]
  | 1 => taskB ++ [32, 53, 32]
  | 2 => submitB ++ [32]
  | 3 => submitB ++ [32, 49, 32]
  | 4 => submitB ++ [32, 49, 32, 50, 32]
  | 5 => cancelB ++ [32]
  | 6 => queryB ++ [32]
  | _ => answerB ++ [32, 48, 32, 49, 32] ++ needB ++ [32]
def behind (j : Nat) : List UInt8 :=
  match j with
  | 0 => [32, 53]
  | 1 => []
  | 2 => [32, 50, 32, 51]
  | 3 => [32, 51]
  | _ => []
def hf : FileS := ⟨[10, 2, 3, 4, 2, 1, 5, 2, 8, 7], [], []⟩
def fileJ (j : Nat) (v : Int) : FileS :=
  match j with
  | 0 => { hf with tasks := [⟨v, 5⟩] }
  | 1 => { hf with tasks := [⟨5, v⟩] }
  | 2 => { hf with ops := [⟨1, v, 2, 3, 0⟩] }
  | 3 => { hf with ops := [⟨1, 1, v, 3, 0⟩] }
  | 4 => { hf with ops := [⟨1, 1, 2, v, 0⟩] }
  | 5 => { hf with ops := [⟨2, v, 0, 0, 0⟩] }
  | 6 => { hf with ops := [⟨6, v, 0, 0, 0⟩] }
  | _ => { hf with ops := [⟨5, 0, 1, 3, v⟩] }
theorem line_join (j : Nat) (D : List UInt8) : joinW (toks j D) = ints (ahead j ++ D ++ behind j) := by
  have e5 : (Nm 5).text = [53] := by kernel_rfl
  have e1 : (Nm 1).text = [49] := by kernel_rfl
  have e2 : (Nm 2).text = [50] := by kernel_rfl
  have e3 : (Nm 3).text = [51] := by kernel_rfl
  have e0 : (Nm 0).text = [48] := by kernel_rfl
  unfold toks ahead behind
  split <;> simp only [joinW, e0, e1, e2, e3, e5, W, X, ints_append, List.append_assoc] <;> simp [ints]
theorem takes_j (j : Nat) (n v e : Int) (D : List UInt8) (h : NumS.parseF ⟨D.toArray⟩ = (v, e)) : takesP hf false (lin n (toks j D)) = if e = 0 then .ok (fileJ j v) else .bad e := by
  have k0 := fun ts => num_t n 0 ts (by decide)
  have k1 := fun ts => num_t n 1 ts (by decide)
  have k2 := fun ts => num_t n 2 ts (by decide)
  have k3 := fun ts => num_t n 3 ts (by decide)
  have k5 := fun ts => num_t n 5 ts (by decide)
  have kx := fun ts => num_y n v e D ts h
  have tk : ∀ ts, takesP hf false (lin n (W taskB :: ts)) = (match numP (lin n ts) with
      | .bad e => .bad e
      | .ok m t2 => match numP t2 with
        | .bad e => .bad e
        | .ok c t3 => finP { hf with tasks := hf.tasks ++ [⟨m, c⟩] } t3) := by
    intro ts
    unfold takesP
    rw [word_t]
    simp only
    rw [if_pos (show (false == ((⟨taskB.toArray⟩ : ByteArray).toList == configB)) = true by kernel_rfl), if_neg (by simp), if_pos (show (⟨taskB.toArray⟩ : ByteArray).toList = taskB by kernel_rfl), if_pos (show hf.ops.length = 0 from rfl), if_pos (show hf.tasks.length < 64 by decide)]
    rfl
  have ow := fun l ts x hc ht hf_ => op_way n hf l ts x hc ht hf_ (by decide)
  have fs : ∀ ts, takesP hf false (lin n (W submitB :: ts)) = _ := fun ts => ow submitB ts ⟨strB submitB, 1, 3⟩ (by decide) (by decide) (by kernel_rfl)
  have fc : ∀ ts, takesP hf false (lin n (W cancelB :: ts)) = _ := fun ts => ow cancelB ts ⟨strB cancelB, 2, 1⟩ (by decide) (by decide) (by kernel_rfl)
  have fq : ∀ ts, takesP hf false (lin n (W queryB :: ts)) = _ := fun ts => ow queryB ts ⟨strB queryB, 6, 1⟩ (by decide) (by decide) (by kernel_rfl)
  have fa : ∀ ts, takesP hf false (lin n (W answerB :: ts)) = _ := fun ts => ow answerB ts ⟨strB answerB, 5, 2⟩ (by decide) (by decide) (by kernel_rfl)
  by_cases he : e = 0
  · subst he
    unfold toks fileJ
    split <;> simp only [tk, fs, fc, fq, fa, opP, numsF, show (3 : Int).toNat = 3 from rfl, show (1 : Int).toNat = 1 from rfl, show (2 : Int).toNat = 2 from rfl, kx, k0, k1, k2, k3, k5, if_true, if_neg (show ¬ (1 : Int) = 5 by decide), if_neg (show ¬ (2 : Int) = 5 by decide), if_neg (show ¬ (6 : Int) = 5 by decide), word_t, show findF (⟨needB.toArray⟩ : ByteArray) answersT = some ⟨strB needB, 3, 1⟩ from by kernel_rfl, if_pos (show (0 : Int) < 1 by decide)] <;> rfl
  · unfold toks
    split <;> simp only [tk, fs, fc, fq, fa, opP, numsF, show (3 : Int).toNat = 3 from rfl, show (1 : Int).toNat = 1 from rfl, show (2 : Int).toNat = 2 from rfl, kx, k0, k1, k2, k3, k5, if_true, if_neg he, if_neg (show ¬ (1 : Int) = 5 by decide), if_neg (show ¬ (2 : Int) = 5 by decide), if_neg (show ¬ (6 : Int) = 5 by decide), word_t, show findF (⟨needB.toArray⟩ : ByteArray) answersT = some ⟨strB needB, 3, 1⟩ from by kernel_rfl, if_pos (show (0 : Int) < 1 by decide)]
theorem good_x (D : List UInt8) (hne : D ≠ []) (hd : ∀ c ∈ D, NumT.Dig c) : LexT.Good (X D) := by
  refine ⟨.inr rfl, by simpa [X, ints] using hne, fun c hc => ?_⟩
  obtain ⟨b, hb, rfl⟩ := List.mem_map.1 hc
  have := hd b hb
  unfold NumT.Dig at this
  unfold kR
  rw [if_neg (by omega), if_pos (by omega)]
  rfl
theorem toks_good (j : Nat) (D : List UInt8) (hne : D ≠ []) (hd : ∀ c ∈ D, NumT.Dig c) : ∀ t ∈ toks j D, LexT.Good t := by
  have gx := good_x D hne hd
  have g0 := good_num 0 (by decide)
  have g1 := good_num 1 (by decide)
  have g2 := good_num 2 (by decide)
  have g3 := good_num 3 (by decide)
  have g5 := good_num 5 (by decide)
  have w1 := good_word taskB (by decide) (by decide)
  have w2 := good_word submitB (by decide) (by decide)
  have w3 := good_word cancelB (by decide) (by decide)
  have w4 := good_word queryB (by decide) (by decide)
  have w5 := good_word answerB (by decide) (by decide)
  have w6 := good_word needB (by decide) (by decide)
  unfold toks
  split <;> simp [gx, g0, g1, g2, g3, g5, w1, w2, w3, w4, w5, w6]
theorem read_j (j : Nat) (D : List UInt8) (v e : Int) (hne : D ≠ []) (hd : ∀ c ∈ D, NumT.Dig c) (hl : D.length ≤ 1000) (h : NumS.parseF ⟨D.toArray⟩ = (v, e)) :
    parseP (bytesOf ⟨(headB ++ (ahead j ++ D ++ behind j)).toArray⟩) = if e = 0 then (fileJ j v, 0, 0) else (zeroF, 2, e) := by
  have hg := toks_good j D hne hd
  have hgh : GoodD [headL hv] := by
    intro l hl
    rw [List.mem_singleton.1 hl]
    exact good_head hv rfl (by decide)
  have eh : ints headB = docB [headL hv] := by kernel_rfl
  have hla : (ahead j).length ≤ 100 ∧ (behind j).length ≤ 100 := by
    unfold ahead behind
    split <;> split <;> decide
  have e1 : bytesOf ⟨(headB ++ (ahead j ++ D ++ behind j)).toArray⟩ = docB [headL hv] ++ joinW (toks j D) := by
    rw [bytes_ints, ints_append, eh, line_join]
  have hlen : (docB [headL hv] ++ joinW (toks j D)).length ≤ 65536 := by
    rw [← eh, line_join, List.length_append, ints_len, ints_len]
    have : headB.length ≤ 200 := by decide
    simp only [List.length_append]
    omega
  have hne2 : ¬ toks j D = [] := by
    unfold toks
    split <;> simp
  rw [e1, parse_docE [headL hv] (toks j D) hgh hg hlen (by simp [num, headL]), num_append]
  rw [num, if_neg (by simp [headL]), num, num, if_neg hne2, num]
  simp only [List.singleton_append]
  rw [runP, head_t 1 zeroF hv rfl (by decide)]
  simp only
  rw [runP]
  have := takes_j j (1 + ([headL hv].length : Int)) v e D h
  have ehf : ({ zeroF with cfg := hv } : FileS) = hf := rfl
  rw [ehf, this]
  by_cases he : e = 0
  · subst he
    simp [runP]
  · simp [he]
theorem dec_len (u : Nat) (hu : u < 2147483648) : (Lib.decDigits u).length ≤ 21 := by
  have h := numB_len (n := (u : Int)) ⟨by omega, by omega⟩
  have e : Lib.itoa (u : Int) = Lib.decDigits u := by unfold Lib.itoa; rw [if_neg (by omega)]; rfl
  simp only [numB, e, List.length_cons] at h
  omega
theorem read_num (j : Nat) (u : Nat) (hu : u < 2147483648) : parseP (bytesOf ⟨(headB ++ (ahead j ++ Lib.decDigits u ++ behind j)).toArray⟩) = if (u : Int) > 1048576 then (zeroF, 2, 3) else (fileJ j (u : Int), 0, 0) := by
  have h := NumT.parse_dec u
  have hl : (Lib.decDigits u).length ≤ 1000 := by
    have := dec_len u hu
    omega
  by_cases hb : (u : Int) > 1048576
  · rw [if_pos hb] at h ⊢
    rw [read_j j _ 0 3 (NumT.digits_ne u) (NumT.digits_dig u) hl h, if_neg (by decide)]
  · rw [if_neg hb] at h ⊢
    rw [read_j j _ _ 0 (NumT.digits_ne u) (NumT.digits_dig u) hl h, if_pos rfl]
theorem read_nought (j : Nat) (u : Nat) (hu : u < 2147483648) : parseP (bytesOf ⟨(headB ++ (ahead j ++ (48 :: Lib.decDigits u) ++ behind j)).toArray⟩) = (zeroF, 2, 2) := by
  have hl : (Lib.decDigits u).length ≤ 900 := by
    have := dec_len u hu
    omega
  have h : NumS.parseF ⟨(48 :: Lib.decDigits u).toArray⟩ = (0, 2) := by
    unfold NumS.parseF
    rw [if_pos]
    refine .inr ⟨rfl, ?_⟩
    have := NumT.digits_ne u
    simp [this]
  rw [read_j j _ 0 2 (by simp) (fun c hc => by
    rcases List.mem_cons.1 hc with rfl | hc
    · exact ⟨by decide, by decide⟩
    · exact NumT.digits_dig u c hc) (by simp; omega) h, if_neg (by decide)]
end Go.Proofs.YtegbfimfpkendaaDoor.PbG
