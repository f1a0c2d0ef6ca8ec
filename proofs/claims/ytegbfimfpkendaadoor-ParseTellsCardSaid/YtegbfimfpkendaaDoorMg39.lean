/- Plain: what the reference takes of a line is what the program takes. No condition. Plain: the reference's take is the program's. No condition. -/
import Derived.Test.YtegbfimfpkendaaDoorPcB
namespace Go.Proofs.YtegbfimfpkendaaDoor.PcC
open Go.RowKit Go.Proofs.YtegbfimfpkendaaDoor.PParseTells Go.Proofs.YtegbfimfpkendaaDoorW.PrintWords Go.Proofs.YtegbfimfpkendaaDoorW.PrintLast NumT NumS LexS PaC PaD PaE PaF PaG PaL PcA PcB
set_option linter.unusedVariables false
set_option linter.unusedSimpArgs false
def bs (l : List UInt8) : ByteArray := ⟨l.toArray⟩
theorem tl (l : List UInt8) : (bs l).toList = l := by unfold bs; rw [Lib.toList_data]
def submitB : List UInt8 := [115, 117, 98, 109, 105, 116]
def cancelB : List UInt8 := [99, 97, 110, 99, 101, 108]
def tickB : List UInt8 := [116, 105, 99, 107]
def dispatchB : List UInt8 := [100, 105, 115, 112, 97, 116, 99, 104]
def answerB : List UInt8 := [97, 110, 115, 119, 101, 114]
def queryB : List UInt8 := [113, 117, 101, 114, 121]
def didB : List UInt8 := [100, 105, 100]
def failB : List UInt8 := [102, 97, 105, 108]
def needB : List UInt8 := [110, 101, 101, 100]
def cfgFm : Nat → Nat → List ByteArray
  | 0, _ => []
  | f + 1, k => nameT k :: bs nB :: cfgFm f (k + 1)
def formR (a b : ByteArray) : List ByteArray :=
  if a.toList = configB then bs configB :: cfgFm 10 0
  else if a.toList = taskB then [bs taskB, bs nB, bs nB]
  else if a.toList = submitB then [bs submitB, bs nB, bs nB, bs nB]
  else if a.toList = cancelB then [bs cancelB, bs nB]
  else if a.toList = queryB then [bs queryB, bs nB]
  else if a.toList = tickB then [bs tickB]
  else if a.toList = dispatchB then [bs dispatchB]
  else if a.toList = answerB then (if b.toList = needB then [bs answerB, bs nB, bs nB, bs needB, bs nB] else if b.toList = failB then [bs answerB, bs nB, bs nB, bs failB] else [bs answerB, bs nB, bs nB, bs didB])
  else []
theorem form_cfg : millwrightref03_form.l0 16 [bs configB] 0 = some (bs configB :: cfgFm 10 0) := by kernel_rfl
theorem form_f (a b : ByteArray) : millwrightref03_form.f 16 a b = some (formR a b) := by
  unfold millwrightref03_form.f formR
  by_cases h : a.toList = configB
  · rw [if_pos h, if_pos (show a.toList = [99, 111, 110, 102, 105, 103] from h)]
    exact form_cfg
  rw [if_neg h, if_neg (show ¬ a.toList = [99, 111, 110, 102, 105, 103] from h)]
  by_cases h0 : a.toList = taskB
  · rw [if_pos h0, if_pos (show a.toList = [116, 97, 115, 107] from h0)]
    rfl
  rw [if_neg h0, if_neg (show ¬ a.toList = [116, 97, 115, 107] from h0)]
  by_cases h1 : a.toList = submitB
  · rw [if_pos h1, if_pos (show a.toList = [115, 117, 98, 109, 105, 116] from h1)]
    rfl
  rw [if_neg h1, if_neg (show ¬ a.toList = [115, 117, 98, 109, 105, 116] from h1)]
  by_cases h2 : a.toList = cancelB
  · rw [if_pos h2, if_pos (show a.toList = [99, 97, 110, 99, 101, 108] from h2)]
    rfl
  rw [if_neg h2, if_neg (show ¬ a.toList = [99, 97, 110, 99, 101, 108] from h2)]
  by_cases h3 : a.toList = queryB
  · rw [if_pos h3, if_pos (show a.toList = [113, 117, 101, 114, 121] from h3)]
    rfl
  rw [if_neg h3, if_neg (show ¬ a.toList = [113, 117, 101, 114, 121] from h3)]
  by_cases h4 : a.toList = tickB
  · rw [if_pos h4, if_pos (show a.toList = [116, 105, 99, 107] from h4)]
    rfl
  rw [if_neg h4, if_neg (show ¬ a.toList = [116, 105, 99, 107] from h4)]
  by_cases h5 : a.toList = dispatchB
  · rw [if_pos h5, if_pos (show a.toList = [100, 105, 115, 112, 97, 116, 99, 104] from h5)]
    rfl
  rw [if_neg h5, if_neg (show ¬ a.toList = [100, 105, 115, 112, 97, 116, 99, 104] from h5)]
  by_cases h6 : a.toList = answerB
  · rw [if_pos h6, if_pos (show a.toList = [97, 110, 115, 119, 101, 114] from h6)]
    by_cases g1 : b.toList = needB
    · rw [if_pos g1, if_pos (show b.toList = [110, 101, 101, 100] from g1)]
      rfl
    rw [if_neg g1, if_neg (show ¬ b.toList = [110, 101, 101, 100] from g1)]
    by_cases g2 : b.toList = failB
    · rw [if_pos g2, if_pos (show b.toList = [102, 97, 105, 108] from g2)]
      rfl
    rw [if_neg g2, if_neg (show ¬ b.toList = [102, 97, 105, 108] from g2)]
    rfl
  rw [if_neg h6, if_neg (show ¬ a.toList = [97, 110, 115, 119, 101, 114] from h6)]
theorem nums_n (ts : List Tok) (fs : List ByteArray) (acc : List Int) : numsR ts (bs nB :: fs) acc = match numP ts with | .bad e => ([], e) | .ok v ts' => numsR ts' fs (acc ++ [v]) := by
  cases ts with
  | nil => rfl
  | cons t ts =>
    rw [numsR, if_pos (tl nB)]
    unfold numP
    by_cases h : t.kind = 2
    · simp only [if_pos h]
      by_cases h2 : (parseF (strOfNums t.text)).2 = 0
      · simp only [if_pos h2]
      · simp only [if_neg h2]
    · simp only [if_neg h]
theorem nums_w (ts : List Tok) (f : ByteArray) (fs : List ByteArray) (acc : List Int) (hf : ¬ f.toList = nB) : numsR ts (f :: fs) acc = match wordP ts with | .bad e => ([], e) | .ok s ts' => if s.toList = f.toList then numsR ts' fs acc else ([], 2) := by
  cases ts with
  | nil => rfl
  | cons t ts =>
    rw [numsR, if_neg hf]
    unfold wordP
    by_cases h : t.kind = 1
    · simp only [if_pos h]
    · simp only [if_neg h]
theorem nums_e (ts : List Tok) (acc : List Int) : numsR ts [] acc = match ts with | [] => (acc, 0) | _ :: _ => ([], 2) := by
  cases ts <;> rfl
theorem num_bad {ts : List Tok} {e : Int} (h : numP ts = .bad e) : ¬ e = 0 := by
  cases ts with
  | nil => cases h; decide
  | cons t ts =>
    unfold numP at h
    by_cases h1 : t.kind = 2
    · simp only [if_pos h1] at h
      by_cases h2 : (parseF (strOfNums t.text)).2 = 0
      · simp only [if_pos h2] at h; cases h
      · simp only [if_neg h2] at h; cases h; exact h2
    · simp only [if_neg h1] at h; cases h; decide
theorem word_bad {ts : List Tok} {e : Int} (h : wordP ts = .bad e) : e = 2 := by
  cases ts with
  | nil => cases h; rfl
  | cons t ts =>
    unfold wordP at h
    by_cases h1 : t.kind = 1
    · simp only [if_pos h1] at h; cases h
    · simp only [if_neg h1] at h; cases h; rfl
theorem name_n (k : Nat) : ¬ (nameT k).toList = nB := by
  by_cases hk : k < 10
  · have : k = 0 ∨ k = 1 ∨ k = 2 ∨ k = 3 ∨ k = 4 ∨ k = 5 ∨ k = 6 ∨ k = 7 ∨ k = 8 ∨ k = 9 := by omega
    have h : ∀ l : List UInt8, ¬ l = nB → ¬ (bs l).toList = nB := fun l hl => by rw [tl]; exact hl
    rcases this with rfl | rfl | rfl | rfl | rfl | rfl | rfl | rfl | rfl | rfl <;> exact h _ (by decide)
  · have : nameT k = bs [] := by
      unfold nameT
      rw [List.getD_eq_getElem?_getD, List.getElem?_eq_none (by simp [namesT]; omega)]
      rfl
    rw [this, tl]
    decide
theorem cfg_nums : ∀ (f k : Nat) (vs acc : List Int) (ts : List Tok), vs.length = k + f → numsR ts (cfgFm f k) acc = match cfgF f k vs ts with
    | .bad e => ([], e)
    | .ok us t2 => match t2 with | [] => (acc ++ us.drop k, 0) | _ :: _ => ([], 2)
  | 0, k, vs, acc, ts, hl => by
    rw [cfgFm, cfgF, nums_e]
    have : vs.drop k = [] := List.drop_eq_nil_of_le (by omega)
    cases ts with
    | nil => simp [this]
    | cons t ts => rfl
  | f + 1, k, vs, acc, ts, hl => by
    rw [cfgFm, cfgF, nums_w _ _ _ _ (name_n k)]
    cases hw : wordP ts with
    | bad e => rfl
    | ok s t1 =>
      simp only
      by_cases hs : s.toList = (nameT k).toList
      · rw [if_pos hs, if_pos hs, nums_n]
        cases hn : numP t1 with
        | bad e => rfl
        | ok n t2 =>
          simp only
          rw [cfg_nums f (k + 1) (vs.set k n) (acc ++ [n]) t2 (by simp; omega)]
          cases hc : cfgF f (k + 1) (vs.set k n) t2 with
          | bad e => rfl
          | ok us t3 =>
            simp only
            cases t3 with
            | cons a b => rfl
            | nil =>
              simp only [List.append_assoc, List.singleton_append]
              have hlen := cfg_len f (k + 1) (vs.set k n) t2 us [] hc
              have hget := cfg_keep f (k + 1) (vs.set k n) t2 us [] hc k (by omega)
              have hk : k < us.length := by rw [hlen]; simp; omega
              rw [List.drop_eq_getElem_cons hk]
              have e1 : us[k]? = some n := by rw [hget]; exact List.getElem?_set_self (by omega)
              rw [List.getElem?_eq_getElem hk] at e1
              rw [Option.some.inj e1]
      · rw [if_neg hs, if_neg hs]
where
  cfg_len : ∀ (f k : Nat) (vs : List Int) (ts : List Tok) (us : List Int) (t : List Tok), cfgF f k vs ts = .ok us t → us.length = vs.length
    | 0, k, vs, ts, us, t, h => by rw [cfgF] at h; cases h; rfl
    | f + 1, k, vs, ts, us, t, h => by
      rw [cfgF] at h
      cases hw : wordP ts with
      | bad e => rw [hw] at h; cases h
      | ok s t1 =>
        rw [hw] at h
        simp only at h
        split at h
        · cases hn : numP t1 with
          | bad e => rw [hn] at h; cases h
          | ok n t2 =>
            rw [hn] at h
            have := cfg_len f (k + 1) _ _ _ _ h
            simpa using this
        · cases h
  cfg_keep : ∀ (f k : Nat) (vs : List Int) (ts : List Tok) (us : List Int) (t : List Tok), cfgF f k vs ts = .ok us t → ∀ j, j < k → us[j]? = vs[j]?
    | 0, k, vs, ts, us, t, h, j, hj => by rw [cfgF] at h; cases h; rfl
    | f + 1, k, vs, ts, us, t, h, j, hj => by
      rw [cfgF] at h
      cases hw : wordP ts with
      | bad e => rw [hw] at h; cases h
      | ok s t1 =>
        rw [hw] at h
        simp only at h
        split at h
        · cases hn : numP t1 with
          | bad e => rw [hn] at h; cases h
          | ok n t2 =>
            rw [hn] at h
            rw [cfg_keep f (k + 1) _ _ _ _ h j (by omega), List.getElem?_set_ne (by omega)]
        · cases h
end Go.Proofs.YtegbfimfpkendaaDoor.PcC
namespace Go.Proofs.YtegbfimfpkendaaDoor.PcD
open Go.RowKit Go.Proofs.YtegbfimfpkendaaDoor.PParseTells Go.Proofs.YtegbfimfpkendaaDoorW.PrintWords Go.Proofs.YtegbfimfpkendaaDoorW.PrintLast NumT NumS LexS PaC PaD PaE PaF PaG PaL PcA PcB PcC
set_option linter.unusedVariables false
set_option linter.unusedSimpArgs false
def fourth : List Tok → ByteArray
  | _ :: _ :: _ :: t :: _ => if t.kind = 1 then strOfNums t.text else ⟨#[]⟩
  | _ => ⟨#[]⟩
def opR (a b : ByteArray) (n : List Int) : Opn :=
  if a.toList = submitB then ⟨1, n.getD 0 0, n.getD 1 0, n.getD 2 0, 0⟩
  else if a.toList = cancelB then ⟨2, n.getD 0 0, 0, 0, 0⟩
  else if a.toList = tickB then ⟨3, 0, 0, 0, 0⟩
  else if a.toList = dispatchB then ⟨4, 0, 0, 0, 0⟩
  else if a.toList = queryB then ⟨6, n.getD 0 0, 0, 0, 0⟩
  else if b.toList = needB then ⟨5, n.getD 0 0, n.getD 1 0, 3, n.getD 2 0⟩
  else if b.toList = failB then ⟨5, n.getD 0 0, n.getD 1 0, 2, 0⟩
  else ⟨5, n.getD 0 0, n.getD 1 0, 1, 0⟩
def takeR (st : FileS) (a0 : Bool) : List Tok → Rt
  | [] => .bad 2
  | t0 :: r =>
    if ¬ t0.kind = 1 ∨ formR (strOfNums t0.text) (fourth (t0 :: r)) = [] ∨ ((strOfNums t0.text).toList == configB) ≠ a0 ∨ ((strOfNums t0.text).toList = taskB ∧ 0 < st.ops.length) then .bad 2
    else if ((strOfNums t0.text).toList = taskB ∧ 64 ≤ st.tasks.length) ∨ (¬ (strOfNums t0.text).toList = taskB ∧ 4096 ≤ st.ops.length) then .bad 4
    else if ¬ (numsR (t0 :: r) (formR (strOfNums t0.text) (fourth (t0 :: r))) []).2 = 0 then .bad (numsR (t0 :: r) (formR (strOfNums t0.text) (fourth (t0 :: r))) []).2
    else if (strOfNums t0.text).toList = configB then .ok { st with cfg := (numsR (t0 :: r) (formR (strOfNums t0.text) (fourth (t0 :: r))) []).1 }
    else if (strOfNums t0.text).toList = taskB then .ok { st with tasks := st.tasks ++ [⟨((numsR (t0 :: r) (formR (strOfNums t0.text) (fourth (t0 :: r))) []).1).getD 0 0, ((numsR (t0 :: r) (formR (strOfNums t0.text) (fourth (t0 :: r))) []).1).getD 1 0⟩] }
    else .ok { st with ops := st.ops ++ [opR (strOfNums t0.text) (fourth (t0 :: r)) (numsR (t0 :: r) (formR (strOfNums t0.text) (fourth (t0 :: r))) []).1] }
theorem cnf : ¬ configB = nB ∧ ¬ taskB = nB ∧ ¬ submitB = nB ∧ ¬ cancelB = nB ∧ ¬ queryB = nB ∧ ¬ tickB = nB ∧ ¬ dispatchB = nB ∧ ¬ answerB = nB ∧ ¬ didB = nB ∧ ¬ failB = nB ∧ ¬ needB = nB := by decide
theorem nums_first (t : Tok) (r : List Tok) (l : List UInt8) (fs : List ByteArray) (hl : ¬ l = nB) (hk : t.kind = 1) (ht : (strOfNums t.text).toList = l) : numsR (t :: r) (bs l :: fs) [] = numsR r fs [] := by
  rw [nums_w _ _ _ _ (by rw [tl]; exact hl)]
  have : wordP (t :: r) = .ok (strOfNums t.text) r := by show (if t.kind = 1 then _ else _) = _; rw [if_pos hk]
  rw [this]
  simp only
  rw [if_pos (by rw [tl]; exact ht)]
theorem find_ev (s : ByteArray) (xs : List Fm) (l : List UInt8) (k n : Int) (h : findF ⟨l.toArray⟩ xs = some ⟨strB l, k, n⟩) (hs : s.toList = l) : findF s xs = some ⟨strB l, k, n⟩ := by
  have e : ∀ (xs : List Fm), findF s xs = findF ⟨l.toArray⟩ xs := by
    intro xs
    induction xs with
    | nil => rfl
    | cons x xs ih =>
      rw [findF, findF, ih, hs, show (⟨l.toArray⟩ : ByteArray).toList = l from tl l]
  rw [e, h]
theorem find_none (s : ByteArray) : ∀ (xs : List Fm), (∀ x ∈ xs, ¬ x.op.toList = s.toList) → findF s xs = none
  | [], _ => rfl
  | x :: xs, h => by rw [findF, if_neg (h x (by simp)), find_none s xs (fun y hy => h y (List.mem_cons_of_mem _ hy))]
theorem word_first (t : Tok) (r : List Tok) (hk : t.kind = 1) : wordP (t :: r) = .ok (strOfNums t.text) r := by
  show (if t.kind = 1 then _ else _) = _
  rw [if_pos hk]
theorem op_road (st : FileS) (t : Tok) (r : List Tok) (l : List UInt8) (k n : Int) (hk : t.kind = 1) (ht : (strOfNums t.text).toList = l) (hc : ¬ l = configB) (hs : ¬ l = taskB) (hf : findF ⟨l.toArray⟩ formsT = some ⟨strB l, k, n⟩) :
    takesP st false (t :: r) = if st.ops.length < 4096 then (match opP k n.toNat r with
      | .bad e => .bad e
      | .ok vs t2 => finP { st with ops := st.ops ++ [mkOp k vs] } t2) else .bad 4 := by
  unfold takesP
  rw [word_first t r hk]
  simp only
  rw [ht, if_pos (by simpa using hc), if_neg (by decide), if_neg hs, find_ev _ formsT l k n hf ht]
  rfl
theorem road_no (st : FileS) (t : Tok) (r : List Tok) (hk : t.kind = 1) (hc : ¬ (strOfNums t.text).toList = configB) (hs : ¬ (strOfNums t.text).toList = taskB) (hf : findF (strOfNums t.text) formsT = none) : takesP st false (t :: r) = .bad 2 := by
  unfold takesP
  rw [word_first t r hk]
  simp only
  rw [if_pos (by simpa using hc), if_neg (by decide), if_neg hs, hf]
end Go.Proofs.YtegbfimfpkendaaDoor.PcD
