/- Plain: the reference's take is the program's: answers, and all lines. No condition. -/
import Derived.Test.YtegbfimfpkendaaDoorPcE
namespace Go.Proofs.YtegbfimfpkendaaDoor.PcF
open Go.RowKit Go.Proofs.YtegbfimfpkendaaDoor.PParseTells Go.Proofs.YtegbfimfpkendaaDoorW.PrintWords Go.Proofs.YtegbfimfpkendaaDoorW.PrintLast NumT NumS LexS PaC PaD PaE PaF PaG PaL PcA PcB PcC PcD PcE
set_option linter.unusedVariables false
set_option linter.unusedSimpArgs false
theorem num_cons {ts t' : List Tok} {v : Int} (h : numP ts = .ok v t') : ∃ x, ts = x :: t' := by
  cases ts with
  | nil => cases h
  | cons x ts =>
    refine ⟨x, ?_⟩
    unfold numP at h
    by_cases h1 : x.kind = 2
    · simp only [if_pos h1] at h
      by_cases h2 : (parseF (strOfNums x.text)).2 = 0
      · simp only [if_pos h2] at h; cases h; rfl
      · simp only [if_neg h2] at h; cases h
    · simp only [if_neg h1] at h; cases h
theorem fourth_of (t : Tok) (r t1 t2 : List Tok) (v1 v2 : Int) (h1 : numP r = .ok v1 t1) (h2 : numP t1 = .ok v2 t2) : (∀ s t3, wordP t2 = .ok s t3 → fourth (t :: r) = s) ∧ (∀ e, wordP t2 = .bad e → fourth (t :: r) = ⟨#[]⟩) := by
  obtain ⟨x, rfl⟩ := num_cons h1
  obtain ⟨y, rfl⟩ := num_cons h2
  cases t2 with
  | nil => exact ⟨fun s t3 h => (by cases h), fun e h => rfl⟩
  | cons c t2 =>
    have e : wordP (c :: t2) = if c.kind = 1 then .ok (strOfNums c.text) t2 else .bad 2 := rfl
    have f : fourth (t :: x :: y :: c :: t2) = if c.kind = 1 then strOfNums c.text else ⟨#[]⟩ := rfl
    rw [e, f]
    by_cases hc : c.kind = 1
    · rw [if_pos hc, if_pos hc]
      exact ⟨fun s t3 h => (by cases h; rfl), fun e h => (by cases h)⟩
    · rw [if_neg hc, if_neg hc]
      exact ⟨fun s t3 h => by (cases h), fun e h => rfl⟩
def ansFm (b : ByteArray) : List ByteArray := if b.toList = needB then [bs needB, bs nB] else if b.toList = failB then [bs failB] else [bs didB]
theorem ans_find (s : ByteArray) : findF s answersT = if s.toList = didB then some ⟨strB didB, 1, 0⟩ else if s.toList = failB then some ⟨strB failB, 2, 0⟩ else if s.toList = needB then some ⟨strB needB, 3, 1⟩ else none := by
  by_cases h1 : s.toList = didB
  · rw [if_pos h1]; exact find_ev s answersT didB 1 0 (by kernel_rfl) h1
  rw [if_neg h1]
  by_cases h2 : s.toList = failB
  · rw [if_pos h2]; exact find_ev s answersT failB 2 0 (by kernel_rfl) h2
  rw [if_neg h2]
  by_cases h3 : s.toList = needB
  · rw [if_pos h3]; exact find_ev s answersT needB 3 1 (by kernel_rfl) h3
  rw [if_neg h3]
  refine find_none s answersT (fun x hx => ?_)
  have ho : x.op = strB didB ∨ x.op = strB failB ∨ x.op = strB needB := by
    simp only [answersT, List.mem_cons, List.not_mem_nil, or_false] at hx
    rcases hx with rfl | rfl | rfl
    · exact .inl rfl
    · exact .inr (.inl rfl)
    · exact .inr (.inr rfl)
  have hb : ∀ l, (strB l).toList = l := fun l => tl l
  rcases ho with h | h | h <;> rw [h, hb]
  · exact fun e => h1 e.symm
  · exact fun e => h2 e.symm
  · exact fun e => h3 e.symm
section
variable (st : FileS) (t : Tok) (r : List Tok) (hk : t.kind = 1)
include hk
theorem take_answer (hs : (strOfNums t.text).toList = answerB) : takeR st false (t :: r) = takesP st false (t :: r) := by
  have hx : formR (strOfNums t.text) (fourth (t :: r)) = bs answerB :: bs nB :: bs nB :: ansFm (fourth (t :: r)) := by
    unfold formR ansFm
    rw [if_neg (by rw [hs]; decide), if_neg (by rw [hs]; decide), if_neg (by rw [hs]; decide), if_neg (by rw [hs]; decide), if_neg (by rw [hs]; decide), if_neg (by rw [hs]; decide), if_neg (by rw [hs]; decide), if_pos hs]
    (repeat' split) <;> rfl
  rw [op_road st t r answerB 5 2 hk hs (by decide) (by decide) (by kernel_rfl)]
  have hnt : ¬ (strOfNums t.text).toList = taskB := by rw [hs]; decide
  by_cases hf : st.ops.length < 4096
  rotate_left
  · rw [if_neg hf, take_full st false t r (by
      rintro (h | h | h | h)
      · exact h hk
      · rw [hx] at h; cases h
      · exact h (by rw [hs]; decide)
      · exact hnt h.1) (.inr ⟨hnt, by omega⟩)]
  rw [if_pos hf]
  have hn : numsR (t :: r) (bs answerB :: bs nB :: bs nB :: ansFm (fourth (t :: r))) [] = numsR r (bs nB :: bs nB :: ansFm (fourth (t :: r))) [] := nums_first t r answerB _ (by decide) hk hs
  have T := fun n e h => take_of st false t r _ n e hk hx (by simp) (by rw [hs]; decide) (fun h => hnt h.1) (by rintro (h | h); exact hnt h.1; omega) h
  have two : (2 : Int).toNat = 2 := rfl
  rw [nums_n] at hn
  cases h1 : numP r with
  | bad e => rw [h1] at hn; rw [T _ _ hn, if_pos (num_bad h1)]; simp only [opP, two, numsF, h1]
  | ok v1 t1 =>
    rw [h1] at hn
    simp only at hn
    rw [nums_n] at hn
    cases h2 : numP t1 with
    | bad e => rw [h2] at hn; rw [T _ _ hn, if_pos (num_bad h2)]; simp only [opP, two, numsF, h1, h2]
    | ok v2 t2 =>
      rw [h2] at hn
      simp only at hn
      obtain ⟨f1, f2⟩ := fourth_of t r t1 t2 v1 v2 h1 h2
      have OP : opP 5 2 r = (match wordP t2 with
          | .bad e => .bad e
          | .ok s t3 => match findF s answersT with
            | none => .bad 2
            | some x => if 0 < x.n then (match numP t3 with
              | .bad e => .bad e
              | .ok d t4 => .ok (([v1, v2, 0, 0].set 2 x.kind).set 3 d) t4) else .ok ([v1, v2, 0, 0].set 2 x.kind) t3) := by
        simp only [opP, numsF, h1, h2, if_true]
        rfl
      rw [two, OP]
      cases h3 : wordP t2 with
      | bad e =>
        have hb := f2 e h3
        have ha : ansFm (fourth (t :: r)) = [bs didB] := by
          rw [hb]
          unfold ansFm
          rw [show (⟨#[]⟩ : ByteArray).toList = [] from tl [], if_neg (by decide), if_neg (by decide)]
        rw [ha] at hn T
        rw [nums_w t2 _ _ _ (by rw [tl]; decide), h3] at hn
        rw [T _ _ hn, if_pos (by rw [word_bad h3]; decide)]
      | ok s t3 =>
        have hb := f1 s t3 h3
        simp only
        rw [ans_find]
        rw [hb] at hn T
        by_cases g1 : s.toList = needB
        · have ha : ansFm s = [bs needB, bs nB] := by unfold ansFm; rw [if_pos g1]
          rw [ha] at hn T
          rw [nums_w t2 _ _ _ (by rw [tl]; decide), h3] at hn
          simp only at hn
          rw [if_pos (by rw [tl]; exact g1), nums_n] at hn
          rw [if_neg (by rw [g1]; decide), if_neg (by rw [g1]; decide), if_pos g1]
          simp only
          rw [if_pos (show (0 : Int) < 1 by decide)]
          cases h4 : numP t3 with
          | bad e => rw [h4] at hn; rw [T _ _ hn, if_pos (num_bad h4)]
          | ok d t4 =>
            rw [h4] at hn
            simp only at hn
            rw [nums_e] at hn
            cases t4 with
            | nil =>
              rw [T _ _ hn, if_neg (by decide), if_neg (by rw [hs]; decide), if_neg hnt]
              unfold opR
              rw [if_neg (by rw [hs]; decide), if_neg (by rw [hs]; decide), if_neg (by rw [hs]; decide), if_neg (by rw [hs]; decide), if_neg (by rw [hs]; decide), if_pos g1]
              rfl
            | cons a b => rw [T _ _ hn, if_pos (by decide)]; rfl
        by_cases g2 : s.toList = failB
        · have ha : ansFm s = [bs failB] := by unfold ansFm; rw [if_neg g1, if_pos g2]
          rw [ha] at hn T
          rw [nums_w t2 _ _ _ (by rw [tl]; decide), h3] at hn
          simp only at hn
          rw [if_pos (by rw [tl]; exact g2), nums_e] at hn
          rw [if_neg (by rw [g2]; decide), if_pos g2]
          simp only
          rw [if_neg (show ¬ (0 : Int) < 0 by decide)]
          cases t3 with
          | nil =>
            rw [T _ _ hn, if_neg (by decide), if_neg (by rw [hs]; decide), if_neg hnt]
            unfold opR
            rw [if_neg (by rw [hs]; decide), if_neg (by rw [hs]; decide), if_neg (by rw [hs]; decide), if_neg (by rw [hs]; decide), if_neg (by rw [hs]; decide), if_neg g1, if_pos g2]
            rfl
          | cons a b => rw [T _ _ hn, if_pos (by decide)]; rfl
        have ha : ansFm s = [bs didB] := by unfold ansFm; rw [if_neg g1, if_neg g2]
        rw [ha] at hn T
        rw [nums_w t2 _ _ _ (by rw [tl]; decide), h3] at hn
        simp only at hn
        by_cases g3 : s.toList = didB
        · rw [if_pos (by rw [tl]; exact g3), nums_e] at hn
          rw [if_pos g3]
          simp only
          rw [if_neg (show ¬ (0 : Int) < 0 by decide)]
          cases t3 with
          | nil =>
            rw [T _ _ hn, if_neg (by decide), if_neg (by rw [hs]; decide), if_neg hnt]
            unfold opR
            rw [if_neg (by rw [hs]; decide), if_neg (by rw [hs]; decide), if_neg (by rw [hs]; decide), if_neg (by rw [hs]; decide), if_neg (by rw [hs]; decide), if_neg g1, if_neg g2]
            rfl
          | cons a b => rw [T _ _ hn, if_pos (by decide)]; rfl
        · rw [if_neg (by rw [tl]; exact g3)] at hn
          rw [if_neg g3, if_neg g2, if_neg g1, T _ _ hn, if_pos (by decide)]
end
theorem take_eq (st : FileS) (a0 : Bool) (ts : List Tok) (hne : ts ≠ []) (hst : a0 = true → st.ops = []) : takeR st a0 ts = takesP st a0 ts := by
  cases ts with
  | nil => exact absurd rfl hne
  | cons t r =>
    by_cases hk : t.kind = 1
    rotate_left
    · rw [take_two st a0 t r (.inl hk)]
      have : wordP (t :: r) = .bad 2 := by
        show (if t.kind = 1 then _ else _) = _
        rw [if_neg hk]
      rw [tk_bad0 this]
    by_cases ha : ((strOfNums t.text).toList == configB) = a0
    rotate_left
    · rw [take_two st a0 t r (.inr (.inr (.inl ha)))]
      rw [tk_bad1 (word_first t r hk) (by
        cases a0 <;> cases h : ((strOfNums t.text).toList == configB) <;> simp_all)]
    cases a0 with
    | true => exact take_cfg st t r hk (by simpa using ha) (hst rfl)
    | false =>
      have hc : ¬ (strOfNums t.text).toList = configB := by simpa using ha
      by_cases h1 : (strOfNums t.text).toList = taskB
      · exact take_task st t r hk h1
      by_cases h2 : (strOfNums t.text).toList = submitB
      · exact take_submit st t r hk h2
      by_cases h3 : (strOfNums t.text).toList = cancelB
      · exact take_cancel st t r hk h3
      by_cases h4 : (strOfNums t.text).toList = queryB
      · exact take_query st t r hk h4
      by_cases h5 : (strOfNums t.text).toList = tickB
      · exact take_tick st t r hk h5
      by_cases h6 : (strOfNums t.text).toList = dispatchB
      · exact take_dispatch st t r hk h6
      by_cases h7 : (strOfNums t.text).toList = answerB
      · exact take_answer st t r hk h7
      have hx : formR (strOfNums t.text) (fourth (t :: r)) = [] := by
        unfold formR
        rw [if_neg hc, if_neg h1, if_neg h2, if_neg h3, if_neg h4, if_neg h5, if_neg h6, if_neg h7]
      rw [take_two st false t r (.inr (.inl hx)), road_no st t r hk hc h1]
      refine find_none _ formsT (fun x hx => ?_)
      have ho : x.op = strB submitB ∨ x.op = strB cancelB ∨ x.op = strB tickB ∨ x.op = strB dispatchB ∨ x.op = strB answerB ∨ x.op = strB queryB := by
        simp only [formsT, List.mem_cons, List.not_mem_nil, or_false] at hx
        rcases hx with rfl | rfl | rfl | rfl | rfl | rfl
        · exact .inl rfl
        · exact .inr (.inl rfl)
        · exact .inr (.inr (.inl rfl))
        · exact .inr (.inr (.inr (.inl rfl)))
        · exact .inr (.inr (.inr (.inr (.inl rfl))))
        · exact .inr (.inr (.inr (.inr (.inr rfl))))
      have hb : ∀ l, (strB l).toList = l := fun l => tl l
      rcases ho with h | h | h | h | h | h <;> rw [h, hb]
      · exact fun e => h2 e.symm
      · exact fun e => h3 e.symm
      · exact fun e => h5 e.symm
      · exact fun e => h6 e.symm
      · exact fun e => h7 e.symm
      · exact fun e => h4 e.symm
theorem nums_len : ∀ (fs : List ByteArray) (ts : List Tok) (acc n : List Int), numsR ts fs acc = (n, 0) → n.length = acc.length + (fs.filter (fun f => f.toList == nB)).length
  | [], ts, acc, n, h => by
    rw [nums_e] at h
    cases ts with
    | nil => cases h; simp
    | cons a b => cases h
  | f :: fs, ts, acc, n, h => by
    by_cases hf : f.toList = nB
    · cases ts with
      | nil => cases h
      | cons t ts =>
        rw [numsR, if_pos hf] at h
        split at h
        · split at h
          · have := nums_len fs ts _ n h
            rw [List.filter_cons_of_pos (by simpa using hf)]
            simp at this ⊢
            omega
          · rename_i h2
            simp only [Prod.mk.injEq] at h
            exact absurd h.2 h2
        · cases h
    · cases ts with
      | nil => cases h
      | cons t ts =>
        rw [numsR, if_neg hf] at h
        split at h
        · split at h
          · have := nums_len fs ts _ n h
            rw [List.filter_cons_of_neg (by simpa using hf)]
            exact this
          · cases h
        · cases h
end Go.Proofs.YtegbfimfpkendaaDoor.PcF
