/- Plain: the reference's take is the program's: all forms. No condition. -/
import Derived.Test.YtegbfimfpkendaaDoorMg39
namespace Go.Proofs.YtegbfimfpkendaaDoor.PcE
open Go.RowKit Go.Proofs.YtegbfimfpkendaaDoor.PParseTells Go.Proofs.YtegbfimfpkendaaDoorW.PrintWords Go.Proofs.YtegbfimfpkendaaDoorW.PrintLast NumT NumS LexS PaC PaD PaE PaF PaG PaL PcA PcB PcC PcD
set_option linter.unusedVariables false
set_option linter.unusedSimpArgs false
theorem cfg_bad : ∀ (f k : Nat) (vs : List Int) (ts : List Tok) (e : Int), cfgF f k vs ts = .bad e → ¬ e = 0
  | 0, k, vs, ts, e, h => by rw [cfgF] at h; cases h
  | f + 1, k, vs, ts, e, h => by
    rw [cfgF] at h
    cases hw : wordP ts with
    | bad e' =>
      rw [hw] at h
      simp only at h
      cases h
      rw [word_bad hw]
      decide
    | ok s t1 =>
      rw [hw] at h
      simp only at h
      split at h
      · cases hn : numP t1 with
        | bad e' => rw [hn] at h; cases h; exact num_bad hn
        | ok n t2 => rw [hn] at h; exact cfg_bad f (k + 1) _ _ _ h
      · cases h; decide
theorem take_of (st : FileS) (a0 : Bool) (t : Tok) (r : List Tok) (x : List ByteArray) (n : List Int) (e : Int) (hk : t.kind = 1) (hx : formR (strOfNums t.text) (fourth (t :: r)) = x) (hne : ¬ x = []) (ha : ((strOfNums t.text).toList == configB) = a0) (h0 : ¬ ((strOfNums t.text).toList = taskB ∧ 0 < st.ops.length)) (hf : ¬ (((strOfNums t.text).toList = taskB ∧ 64 ≤ st.tasks.length) ∨ (¬ (strOfNums t.text).toList = taskB ∧ 4096 ≤ st.ops.length))) (hn : numsR (t :: r) x [] = (n, e)) :
    takeR st a0 (t :: r) = if ¬ e = 0 then .bad e else if (strOfNums t.text).toList = configB then .ok { st with cfg := n } else if (strOfNums t.text).toList = taskB then .ok { st with tasks := st.tasks ++ [⟨n.getD 0 0, n.getD 1 0⟩] } else .ok { st with ops := st.ops ++ [opR (strOfNums t.text) (fourth (t :: r)) n] } := by
  rw [takeR, hx, hn, if_neg (by
    rintro (h | h | h | h)
    · exact h hk
    · exact hne h
    · exact h ha
    · exact h0 h), if_neg hf]
theorem take_two (st : FileS) (a0 : Bool) (t : Tok) (r : List Tok) (h : ¬ t.kind = 1 ∨ formR (strOfNums t.text) (fourth (t :: r)) = [] ∨ ((strOfNums t.text).toList == configB) ≠ a0 ∨ ((strOfNums t.text).toList = taskB ∧ 0 < st.ops.length)) : takeR st a0 (t :: r) = .bad 2 := by
  rw [takeR, if_pos h]
theorem take_full (st : FileS) (a0 : Bool) (t : Tok) (r : List Tok) (h1 : ¬ (¬ t.kind = 1 ∨ formR (strOfNums t.text) (fourth (t :: r)) = [] ∨ ((strOfNums t.text).toList == configB) ≠ a0 ∨ ((strOfNums t.text).toList = taskB ∧ 0 < st.ops.length))) (hf : ((strOfNums t.text).toList = taskB ∧ 64 ≤ st.tasks.length) ∨ (¬ (strOfNums t.text).toList = taskB ∧ 4096 ≤ st.ops.length)) : takeR st a0 (t :: r) = .bad 4 := by
  rw [takeR, if_neg h1, if_pos hf]
section
variable (st : FileS) (t : Tok) (r : List Tok) (hk : t.kind = 1)
include hk
theorem take_cfg (hs : (strOfNums t.text).toList = configB) (hst : st.ops = []) : takeR st true (t :: r) = takesP st true (t :: r) := by
  have hx : formR (strOfNums t.text) (fourth (t :: r)) = bs configB :: cfgFm 10 0 := by unfold formR; rw [if_pos hs]
  have hnt : ¬ (strOfNums t.text).toList = taskB := by rw [hs]; decide
  have hn : numsR (t :: r) (bs configB :: cfgFm 10 0) [] = numsR r (cfgFm 10 0) [] := nums_first t r configB _ cnf.1 hk hs
  rw [cfg_nums 10 0 [0, 0, 0, 0, 0, 0, 0, 0, 0, 0] [] r rfl] at hn
  have hp : takesP st true (t :: r) = (match configP r with
        | .bad e => .bad e
        | .ok cfg t2 => finP { st with cfg := cfg } t2) := by
    unfold takesP
    rw [word_first t r hk]
    simp only
    rw [hs, if_pos (by decide), if_pos trivial]
    cases configP r <;> rfl
  rw [hp]
  unfold configP
  cases hc : cfgF 10 0 [0, 0, 0, 0, 0, 0, 0, 0, 0, 0] r with
  | bad e =>
    rw [hc] at hn
    rw [take_of st true t r _ _ _ hk hx (by simp) (by rw [hs]; decide) (fun h => hnt h.1) (by rw [hst]; rintro (h | h); exact hnt h.1; exact absurd h.2 (by decide)) hn, if_pos (cfg_bad _ _ _ _ _ hc)]
  | ok us t2 =>
    rw [hc] at hn
    simp only at hn
    cases t2 with
    | nil =>
      simp only [List.drop_zero, List.nil_append] at hn
      rw [take_of st true t r _ _ _ hk hx (by simp) (by rw [hs]; decide) (fun h => hnt h.1) (by rw [hst]; rintro (h | h); exact hnt h.1; exact absurd h.2 (by decide)) hn, if_neg (by decide), if_pos hs]
      rfl
    | cons a b =>
      rw [take_of st true t r _ _ _ hk hx (by simp) (by rw [hs]; decide) (fun h => hnt h.1) (by rw [hst]; rintro (h | h); exact hnt h.1; exact absurd h.2 (by decide)) hn, if_pos (by decide)]
      rfl
theorem take_task (hs : (strOfNums t.text).toList = taskB) : takeR st false (t :: r) = takesP st false (t :: r) := by
  have hx : formR (strOfNums t.text) (fourth (t :: r)) = [bs taskB, bs nB, bs nB] := by unfold formR; rw [if_neg (by rw [hs]; decide), if_pos hs]
  have hp : takesP st false (t :: r) = (if st.ops.length = 0 then (if st.tasks.length < 64 then (match numP r with
          | .bad e => .bad e
          | .ok m t2 => match numP t2 with
            | .bad e => .bad e
            | .ok c t3 => finP { st with tasks := st.tasks ++ [⟨m, c⟩] } t3) else .bad 4) else .bad 2) := tk_task0 (word_first t r hk) (by rw [hs]; decide) hs
  rw [hp]
  by_cases h0 : st.ops.length = 0
  rotate_left
  · rw [if_neg h0, take_two st false t r (.inr (.inr (.inr ⟨hs, by omega⟩)))]
  rw [if_pos h0]
  by_cases h64 : st.tasks.length < 64
  rotate_left
  · rw [if_neg h64, take_full st false t r (by
      rintro (h | h | h | h)
      · exact h hk
      · rw [hx] at h; cases h
      · exact h (by rw [hs]; decide)
      · omega) (.inl ⟨hs, by omega⟩)]
  rw [if_pos h64]
  have hn : numsR (t :: r) [bs taskB, bs nB, bs nB] [] = numsR r [bs nB, bs nB] [] := nums_first t r taskB _ cnf.2.1 hk hs
  have T := fun n e h => take_of st false t r _ n e hk hx (by simp) (by rw [hs]; decide) (by omega) (by rintro (h | h); omega; exact h.1 hs) h
  rw [nums_n] at hn
  cases h1 : numP r with
  | bad e => rw [h1] at hn; rw [T _ _ hn, if_pos (num_bad h1)]
  | ok m t2 =>
    rw [h1] at hn
    simp only at hn
    rw [nums_n] at hn
    cases h2 : numP t2 with
    | bad e => rw [h2] at hn; rw [T _ _ hn, if_pos (num_bad h2)]; simp only [h2]
    | ok c t3 =>
      rw [h2] at hn
      simp only at hn
      rw [nums_e] at hn
      simp only [h2]
      cases t3 with
      | nil =>
        rw [T _ _ hn, if_neg (by decide), if_neg (by rw [hs]; decide), if_pos hs]
        rfl
      | cons a b =>
        rw [T _ _ hn, if_pos (by decide)]
        rfl
theorem take_submit (hs : (strOfNums t.text).toList = submitB) : takeR st false (t :: r) = takesP st false (t :: r) := by
  have hx : formR (strOfNums t.text) (fourth (t :: r)) = [bs submitB, bs nB, bs nB, bs nB] := by unfold formR; rw [if_neg (by rw [hs]; decide), if_neg (by rw [hs]; decide), if_pos hs]
  rw [op_road st t r submitB 1 3 hk hs (by decide) (by decide) (by kernel_rfl)]
  have hnt : ¬ (strOfNums t.text).toList = taskB := by rw [hs]; decide
  by_cases hf : st.ops.length < 4096
  rotate_left
  · rw [if_neg hf, take_full st false t r (by
      rintro (h | h | h | h)
      · exact h hk
      · rw [hx] at h; cases h
      · exact h (by rw [hs]; decide)
      · exact hnt h.1) (.inr ⟨hnt, by omega⟩)]
  rw [if_pos hf]
  have hn : numsR (t :: r) [bs submitB, bs nB, bs nB, bs nB] [] = numsR r [bs nB, bs nB, bs nB] [] := nums_first t r submitB _ (by decide) hk hs
  have T := fun n e h => take_of st false t r _ n e hk hx (by simp) (by rw [hs]; decide) (fun h => hnt h.1) (by rintro (h | h); exact hnt h.1; omega) h
  rw [nums_n] at hn
  cases h1 : numP r with
  | bad e => rw [h1] at hn; rw [T _ _ hn, if_pos (num_bad h1)]; simp only [opP, show (3 : Int).toNat = 3 from rfl, show (2 : Int).toNat = 2 from rfl, show (1 : Int).toNat = 1 from rfl, show (0 : Int).toNat = 0 from rfl, if_neg (show ¬ (1 : Int) = 5 by decide), if_neg (show ¬ (2 : Int) = 5 by decide), if_neg (show ¬ (6 : Int) = 5 by decide), if_neg (show ¬ (3 : Int) = 5 by decide), if_neg (show ¬ (4 : Int) = 5 by decide), if_false, numsF, h1]
  | ok v1 t1 =>
    rw [h1] at hn
    simp only at hn
    rw [nums_n] at hn
    cases h2 : numP t1 with
    | bad e => rw [h2] at hn; rw [T _ _ hn, if_pos (num_bad h2)]; simp only [opP, show (3 : Int).toNat = 3 from rfl, show (2 : Int).toNat = 2 from rfl, show (1 : Int).toNat = 1 from rfl, show (0 : Int).toNat = 0 from rfl, if_neg (show ¬ (1 : Int) = 5 by decide), if_neg (show ¬ (2 : Int) = 5 by decide), if_neg (show ¬ (6 : Int) = 5 by decide), if_neg (show ¬ (3 : Int) = 5 by decide), if_neg (show ¬ (4 : Int) = 5 by decide), if_false, numsF, h1, h2]
    | ok v2 t2 =>
      rw [h2] at hn
      simp only at hn
      rw [nums_n] at hn
      cases h3 : numP t2 with
      | bad e => rw [h3] at hn; rw [T _ _ hn, if_pos (num_bad h3)]; simp only [opP, show (3 : Int).toNat = 3 from rfl, show (2 : Int).toNat = 2 from rfl, show (1 : Int).toNat = 1 from rfl, show (0 : Int).toNat = 0 from rfl, if_neg (show ¬ (1 : Int) = 5 by decide), if_neg (show ¬ (2 : Int) = 5 by decide), if_neg (show ¬ (6 : Int) = 5 by decide), if_neg (show ¬ (3 : Int) = 5 by decide), if_neg (show ¬ (4 : Int) = 5 by decide), if_false, numsF, h1, h2, h3]
      | ok v3 t3 =>
        rw [h3] at hn
        simp only at hn
        rw [nums_e] at hn
        cases t3 with
        | nil =>
          rw [T _ _ hn, if_neg (by decide), if_neg (by rw [hs]; decide), if_neg (by rw [hs]; decide)]
          simp only [opP, show (3 : Int).toNat = 3 from rfl, show (2 : Int).toNat = 2 from rfl, show (1 : Int).toNat = 1 from rfl, show (0 : Int).toNat = 0 from rfl, if_neg (show ¬ (1 : Int) = 5 by decide), if_neg (show ¬ (2 : Int) = 5 by decide), if_neg (show ¬ (6 : Int) = 5 by decide), if_neg (show ¬ (3 : Int) = 5 by decide), if_neg (show ¬ (4 : Int) = 5 by decide), if_false, numsF, h1, h2, h3]
          simp only [opR, hs]
          rfl
        | cons a b =>
          rw [T _ _ hn, if_pos (by decide)]
          simp only [opP, show (3 : Int).toNat = 3 from rfl, show (2 : Int).toNat = 2 from rfl, show (1 : Int).toNat = 1 from rfl, show (0 : Int).toNat = 0 from rfl, if_neg (show ¬ (1 : Int) = 5 by decide), if_neg (show ¬ (2 : Int) = 5 by decide), if_neg (show ¬ (6 : Int) = 5 by decide), if_neg (show ¬ (3 : Int) = 5 by decide), if_neg (show ¬ (4 : Int) = 5 by decide), if_false, numsF, h1, h2, h3]
          rfl
theorem take_cancel (hs : (strOfNums t.text).toList = cancelB) : takeR st false (t :: r) = takesP st false (t :: r) := by
  have hx : formR (strOfNums t.text) (fourth (t :: r)) = [bs cancelB, bs nB] := by unfold formR; rw [if_neg (by rw [hs]; decide), if_neg (by rw [hs]; decide), if_neg (by rw [hs]; decide), if_pos hs]
  rw [op_road st t r cancelB 2 1 hk hs (by decide) (by decide) (by kernel_rfl)]
  have hnt : ¬ (strOfNums t.text).toList = taskB := by rw [hs]; decide
  by_cases hf : st.ops.length < 4096
  rotate_left
  · rw [if_neg hf, take_full st false t r (by
      rintro (h | h | h | h)
      · exact h hk
      · rw [hx] at h; cases h
      · exact h (by rw [hs]; decide)
      · exact hnt h.1) (.inr ⟨hnt, by omega⟩)]
  rw [if_pos hf]
  have hn : numsR (t :: r) [bs cancelB, bs nB] [] = numsR r [bs nB] [] := nums_first t r cancelB _ (by decide) hk hs
  have T := fun n e h => take_of st false t r _ n e hk hx (by simp) (by rw [hs]; decide) (fun h => hnt h.1) (by rintro (h | h); exact hnt h.1; omega) h
  rw [nums_n] at hn
  cases h1 : numP r with
  | bad e => rw [h1] at hn; rw [T _ _ hn, if_pos (num_bad h1)]; simp only [opP, show (3 : Int).toNat = 3 from rfl, show (2 : Int).toNat = 2 from rfl, show (1 : Int).toNat = 1 from rfl, show (0 : Int).toNat = 0 from rfl, if_neg (show ¬ (1 : Int) = 5 by decide), if_neg (show ¬ (2 : Int) = 5 by decide), if_neg (show ¬ (6 : Int) = 5 by decide), if_neg (show ¬ (3 : Int) = 5 by decide), if_neg (show ¬ (4 : Int) = 5 by decide), if_false, numsF, h1]
  | ok v1 t1 =>
    rw [h1] at hn
    simp only at hn
    rw [nums_e] at hn
    cases t1 with
    | nil =>
      rw [T _ _ hn, if_neg (by decide), if_neg (by rw [hs]; decide), if_neg (by rw [hs]; decide)]
      simp only [opP, show (3 : Int).toNat = 3 from rfl, show (2 : Int).toNat = 2 from rfl, show (1 : Int).toNat = 1 from rfl, show (0 : Int).toNat = 0 from rfl, if_neg (show ¬ (1 : Int) = 5 by decide), if_neg (show ¬ (2 : Int) = 5 by decide), if_neg (show ¬ (6 : Int) = 5 by decide), if_neg (show ¬ (3 : Int) = 5 by decide), if_neg (show ¬ (4 : Int) = 5 by decide), if_false, numsF, h1]
      simp only [opR, hs]
      rfl
    | cons a b =>
      rw [T _ _ hn, if_pos (by decide)]
      simp only [opP, show (3 : Int).toNat = 3 from rfl, show (2 : Int).toNat = 2 from rfl, show (1 : Int).toNat = 1 from rfl, show (0 : Int).toNat = 0 from rfl, if_neg (show ¬ (1 : Int) = 5 by decide), if_neg (show ¬ (2 : Int) = 5 by decide), if_neg (show ¬ (6 : Int) = 5 by decide), if_neg (show ¬ (3 : Int) = 5 by decide), if_neg (show ¬ (4 : Int) = 5 by decide), if_false, numsF, h1]
      rfl
theorem take_query (hs : (strOfNums t.text).toList = queryB) : takeR st false (t :: r) = takesP st false (t :: r) := by
  have hx : formR (strOfNums t.text) (fourth (t :: r)) = [bs queryB, bs nB] := by unfold formR; rw [if_neg (by rw [hs]; decide), if_neg (by rw [hs]; decide), if_neg (by rw [hs]; decide), if_neg (by rw [hs]; decide), if_pos hs]
  rw [op_road st t r queryB 6 1 hk hs (by decide) (by decide) (by kernel_rfl)]
  have hnt : ¬ (strOfNums t.text).toList = taskB := by rw [hs]; decide
  by_cases hf : st.ops.length < 4096
  rotate_left
  · rw [if_neg hf, take_full st false t r (by
      rintro (h | h | h | h)
      · exact h hk
      · rw [hx] at h; cases h
      · exact h (by rw [hs]; decide)
      · exact hnt h.1) (.inr ⟨hnt, by omega⟩)]
  rw [if_pos hf]
  have hn : numsR (t :: r) [bs queryB, bs nB] [] = numsR r [bs nB] [] := nums_first t r queryB _ (by decide) hk hs
  have T := fun n e h => take_of st false t r _ n e hk hx (by simp) (by rw [hs]; decide) (fun h => hnt h.1) (by rintro (h | h); exact hnt h.1; omega) h
  rw [nums_n] at hn
  cases h1 : numP r with
  | bad e => rw [h1] at hn; rw [T _ _ hn, if_pos (num_bad h1)]; simp only [opP, show (3 : Int).toNat = 3 from rfl, show (2 : Int).toNat = 2 from rfl, show (1 : Int).toNat = 1 from rfl, show (0 : Int).toNat = 0 from rfl, if_neg (show ¬ (1 : Int) = 5 by decide), if_neg (show ¬ (2 : Int) = 5 by decide), if_neg (show ¬ (6 : Int) = 5 by decide), if_neg (show ¬ (3 : Int) = 5 by decide), if_neg (show ¬ (4 : Int) = 5 by decide), if_false, numsF, h1]
  | ok v1 t1 =>
    rw [h1] at hn
    simp only at hn
    rw [nums_e] at hn
    cases t1 with
    | nil =>
      rw [T _ _ hn, if_neg (by decide), if_neg (by rw [hs]; decide), if_neg (by rw [hs]; decide)]
      simp only [opP, show (3 : Int).toNat = 3 from rfl, show (2 : Int).toNat = 2 from rfl, show (1 : Int).toNat = 1 from rfl, show (0 : Int).toNat = 0 from rfl, if_neg (show ¬ (1 : Int) = 5 by decide), if_neg (show ¬ (2 : Int) = 5 by decide), if_neg (show ¬ (6 : Int) = 5 by decide), if_neg (show ¬ (3 : Int) = 5 by decide), if_neg (show ¬ (4 : Int) = 5 by decide), if_false, numsF, h1]
      simp only [opR, hs]
      rfl
    | cons a b =>
      rw [T _ _ hn, if_pos (by decide)]
      simp only [opP, show (3 : Int).toNat = 3 from rfl, show (2 : Int).toNat = 2 from rfl, show (1 : Int).toNat = 1 from rfl, show (0 : Int).toNat = 0 from rfl, if_neg (show ¬ (1 : Int) = 5 by decide), if_neg (show ¬ (2 : Int) = 5 by decide), if_neg (show ¬ (6 : Int) = 5 by decide), if_neg (show ¬ (3 : Int) = 5 by decide), if_neg (show ¬ (4 : Int) = 5 by decide), if_false, numsF, h1]
      rfl
theorem take_tick (hs : (strOfNums t.text).toList = tickB) : takeR st false (t :: r) = takesP st false (t :: r) := by
  have hx : formR (strOfNums t.text) (fourth (t :: r)) = [bs tickB] := by unfold formR; rw [if_neg (by rw [hs]; decide), if_neg (by rw [hs]; decide), if_neg (by rw [hs]; decide), if_neg (by rw [hs]; decide), if_neg (by rw [hs]; decide), if_pos hs]
  rw [op_road st t r tickB 3 0 hk hs (by decide) (by decide) (by kernel_rfl)]
  have hnt : ¬ (strOfNums t.text).toList = taskB := by rw [hs]; decide
  by_cases hf : st.ops.length < 4096
  rotate_left
  · rw [if_neg hf, take_full st false t r (by
      rintro (h | h | h | h)
      · exact h hk
      · rw [hx] at h; cases h
      · exact h (by rw [hs]; decide)
      · exact hnt h.1) (.inr ⟨hnt, by omega⟩)]
  rw [if_pos hf]
  have hn : numsR (t :: r) [bs tickB] [] = numsR r [] [] := nums_first t r tickB _ (by decide) hk hs
  have T := fun n e h => take_of st false t r _ n e hk hx (by simp) (by rw [hs]; decide) (fun h => hnt h.1) (by rintro (h | h); exact hnt h.1; omega) h
  rw [nums_e] at hn
  cases r with
  | nil =>
    rw [T _ _ hn, if_neg (by decide), if_neg (by rw [hs]; decide), if_neg (by rw [hs]; decide)]
    simp only [opP, show (3 : Int).toNat = 3 from rfl, show (2 : Int).toNat = 2 from rfl, show (1 : Int).toNat = 1 from rfl, show (0 : Int).toNat = 0 from rfl, if_neg (show ¬ (1 : Int) = 5 by decide), if_neg (show ¬ (2 : Int) = 5 by decide), if_neg (show ¬ (6 : Int) = 5 by decide), if_neg (show ¬ (3 : Int) = 5 by decide), if_neg (show ¬ (4 : Int) = 5 by decide), if_false, numsF]
    simp only [opR, hs]
    rfl
  | cons a b =>
    rw [T _ _ hn, if_pos (by decide)]
    simp only [opP, show (3 : Int).toNat = 3 from rfl, show (2 : Int).toNat = 2 from rfl, show (1 : Int).toNat = 1 from rfl, show (0 : Int).toNat = 0 from rfl, if_neg (show ¬ (1 : Int) = 5 by decide), if_neg (show ¬ (2 : Int) = 5 by decide), if_neg (show ¬ (6 : Int) = 5 by decide), if_neg (show ¬ (3 : Int) = 5 by decide), if_neg (show ¬ (4 : Int) = 5 by decide), if_false, numsF]
    rfl
theorem take_dispatch (hs : (strOfNums t.text).toList = dispatchB) : takeR st false (t :: r) = takesP st false (t :: r) := by
  have hx : formR (strOfNums t.text) (fourth (t :: r)) = [bs dispatchB] := by unfold formR; rw [if_neg (by rw [hs]; decide), if_neg (by rw [hs]; decide), if_neg (by rw [hs]; decide), if_neg (by rw [hs]; decide), if_neg (by rw [hs]; decide), if_neg (by rw [hs]; decide), if_pos hs]
  rw [op_road st t r dispatchB 4 0 hk hs (by decide) (by decide) (by kernel_rfl)]
  have hnt : ¬ (strOfNums t.text).toList = taskB := by rw [hs]; decide
  by_cases hf : st.ops.length < 4096
  rotate_left
  · rw [if_neg hf, take_full st false t r (by
      rintro (h | h | h | h)
      · exact h hk
      · rw [hx] at h; cases h
      · exact h (by rw [hs]; decide)
      · exact hnt h.1) (.inr ⟨hnt, by omega⟩)]
  rw [if_pos hf]
  have hn : numsR (t :: r) [bs dispatchB] [] = numsR r [] [] := nums_first t r dispatchB _ (by decide) hk hs
  have T := fun n e h => take_of st false t r _ n e hk hx (by simp) (by rw [hs]; decide) (fun h => hnt h.1) (by rintro (h | h); exact hnt h.1; omega) h
  rw [nums_e] at hn
  cases r with
  | nil =>
    rw [T _ _ hn, if_neg (by decide), if_neg (by rw [hs]; decide), if_neg (by rw [hs]; decide)]
    simp only [opP, show (3 : Int).toNat = 3 from rfl, show (2 : Int).toNat = 2 from rfl, show (1 : Int).toNat = 1 from rfl, show (0 : Int).toNat = 0 from rfl, if_neg (show ¬ (1 : Int) = 5 by decide), if_neg (show ¬ (2 : Int) = 5 by decide), if_neg (show ¬ (6 : Int) = 5 by decide), if_neg (show ¬ (3 : Int) = 5 by decide), if_neg (show ¬ (4 : Int) = 5 by decide), if_false, numsF]
    simp only [opR, hs]
    rfl
  | cons a b =>
    rw [T _ _ hn, if_pos (by decide)]
    simp only [opP, show (3 : Int).toNat = 3 from rfl, show (2 : Int).toNat = 2 from rfl, show (1 : Int).toNat = 1 from rfl, show (0 : Int).toNat = 0 from rfl, if_neg (show ¬ (1 : Int) = 5 by decide), if_neg (show ¬ (2 : Int) = 5 by decide), if_neg (show ¬ (6 : Int) = 5 by decide), if_neg (show ¬ (3 : Int) = 5 by decide), if_neg (show ¬ (4 : Int) = 5 by decide), if_false, numsF]
    rfl
end
end Go.Proofs.YtegbfimfpkendaaDoor.PcE
