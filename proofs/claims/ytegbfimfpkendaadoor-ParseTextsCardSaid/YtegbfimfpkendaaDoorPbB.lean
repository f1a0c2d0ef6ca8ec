/- Plain lemmas: how long a file's text may be; lines ahead of it, and behind it. No condition. -/
import Derived.Test.YtegbfimfpkendaaDoorPbA
namespace Go.Proofs.YtegbfimfpkendaaDoor.PbB
open Go.Proofs.YtegbfimfpkendaaDoorW.PrintWords LexS LexR LexQ LexT PaC PaD PaE PaF PaG PaJ PaL PaP PaQ PaS PaY PaZ PbA PaV
set_option linter.unusedVariables false
set_option linter.unusedSimpArgs false
theorem bytes_ints (l : List UInt8) : bytesOf ⟨l.toArray⟩ = ints l := rfl
theorem ints_len (l : List UInt8) : (ints l).length = l.length := List.length_map _
theorem itoa_len (v : Int) (h : okN v = true) : (Lib.itoa v).length ≤ 21 := by
  simp only [okN, Bool.and_eq_true, decide_eq_true_eq] at h
  have := numB_len (n := v) ⟨by omega, by omega⟩
  simp [numB] at this
  omega
theorem nm_len (v : Int) (h : okN v = true) : (Nm v).text.length ≤ 21 := by
  show (ints _).length ≤ 21
  rw [ints_len]
  exact itoa_len v h
theorem sp_len : ∀ (ts : List Tok) (N : Nat), (∀ t ∈ ts, t.text.length ≤ N) → (sp ts).length ≤ (N + 1) * ts.length
  | [], N, _ => by simp [sp]
  | t :: ts, N, h => by
    have h1 := sp_len ts N (fun x hx => h x (List.mem_cons_of_mem _ hx))
    have h2 := h t (by simp)
    have : (N + 1) * (ts.length + 1) = (N + 1) * ts.length + (N + 1) := by rw [Nat.mul_add, Nat.mul_one]
    rw [sp, List.length_cons, this]
    simp only [List.length_append, List.length_cons]
    omega
theorem cfg_texts : ∀ (vs : List Int) (k : Nat), (∀ v ∈ vs, okN v = true) → (∀ t ∈ cfgL k vs, t.text.length ≤ 21) ∧ (cfgL k vs).length = 2 * vs.length
  | [], k, _ => by simp [cfgL]
  | v :: vs, k, h => by
    have ih := cfg_texts vs (k + 1) (fun x hx => h x (List.mem_cons_of_mem _ hx))
    refine ⟨fun t ht => ?_, by rw [cfgL]; simp [ih.2]; omega⟩
    rw [cfgL] at ht
    rcases List.mem_cons.1 ht with rfl | ht
    · show (ints _).length ≤ 21
      rw [ints_len]
      have : ∀ j, (namesT.getD j []).length ≤ 8 := by
        intro j
        by_cases hj : j < 10
        · have : j = 0 ∨ j = 1 ∨ j = 2 ∨ j = 3 ∨ j = 4 ∨ j = 5 ∨ j = 6 ∨ j = 7 ∨ j = 8 ∨ j = 9 := by omega
          rcases this with rfl | rfl | rfl | rfl | rfl | rfl | rfl | rfl | rfl | rfl <;> decide
        · rw [List.getD_eq_getElem?_getD, List.getElem?_eq_none (by simp [namesT]; omega)]
          simp
      have := this k
      omega
    · rcases List.mem_cons.1 ht with rfl | ht
      · exact nm_len v (h v (by simp))
      · exact ih.1 t ht
theorem head_len (vs : List Int) (hl : vs.length = 10) (h : ∀ v ∈ vs, okN v = true) : (joinW (headL vs)).length ≤ 446 := by
  have h1 := cfg_texts vs 0 h
  have h2 := sp_len (cfgL 0 vs) 21 h1.1
  rw [headL, joinW_cons, List.length_append, h1.2, hl] at *
  have : (W configB).text.length = 6 := rfl
  omega
theorem task_len (t : Tk) (h : okN t.mem = true ∧ okN t.cost = true) : (joinW (taskL t)).length ≤ 48 := by
  have h1 := nm_len _ h.1
  have h2 := nm_len _ h.2
  have h3 : (W taskB).text.length = 4 := rfl
  rw [taskL, joinW_cons]
  simp only [sp, List.length_append, List.length_cons, List.length_nil]
  omega
theorem op_len (o : Opn) (h : okOp o = true) : (joinW (opL o)).length ≤ 110 := by
  have hg := good_op o h
  have key : ∀ l : List Tok, l = opL o → l.length ≤ 5 ∧ ∀ t ∈ l, t.text.length ≤ 21 := by
    obtain ⟨k, a, b, c, d⟩ := o
    have ww : ∀ l : List UInt8, l.length ≤ 21 → (W l).text.length ≤ 21 := fun l hl => by show (ints _).length ≤ 21; rw [ints_len]; exact hl
    intro l hl
    by_cases h1 : k = 1
    · subst h1
      simp [okOp] at h
      simp only [opL, if_true] at hl
      subst hl
      refine ⟨by simp, ?_⟩
      simp only [List.forall_mem_cons]
      exact ⟨ww _ (by decide), nm_len _ h.1, nm_len _ h.2.1, nm_len _ h.2.2.1, by simp⟩
    by_cases h2 : k = 2
    · subst h2
      simp [okOp] at h
      simp only [opL, h1, if_true, if_false] at hl
      subst hl
      refine ⟨by simp, ?_⟩
      simp only [List.forall_mem_cons]
      exact ⟨ww _ (by decide), nm_len _ h.1, by simp⟩
    by_cases h3 : k = 3
    · subst h3
      simp only [opL, h1, h2, if_true, if_false] at hl
      subst hl
      refine ⟨by simp, ?_⟩
      simp only [List.forall_mem_cons]
      exact ⟨ww _ (by decide), by simp⟩
    by_cases h4 : k = 4
    · subst h4
      simp only [opL, h1, h2, h3, if_true, if_false] at hl
      subst hl
      refine ⟨by simp, ?_⟩
      simp only [List.forall_mem_cons]
      exact ⟨ww _ (by decide), by simp⟩
    by_cases h6 : k = 6
    · subst h6
      simp [okOp] at h
      simp only [opL, h1, h2, h3, h4, if_true, if_false] at hl
      subst hl
      refine ⟨by simp, ?_⟩
      simp only [List.forall_mem_cons]
      exact ⟨ww _ (by decide), nm_len _ h.1, by simp⟩
    by_cases h5 : k = 5
    · subst h5
      by_cases c1 : c = 1
      · subst c1
        simp [okOp] at h
        simp only [opL, h1, h2, h3, h4, h6, if_true, if_false] at hl
        subst hl
        refine ⟨by simp, ?_⟩
        simp only [List.forall_mem_cons]
        exact ⟨ww _ (by decide), nm_len _ h.1, nm_len _ h.2.1, ww _ (by decide), by simp⟩
      by_cases c2 : c = 2
      · subst c2
        simp [okOp] at h
        simp only [opL, h1, h2, h3, h4, h6, c1, if_true, if_false] at hl
        subst hl
        refine ⟨by simp, ?_⟩
        simp only [List.forall_mem_cons]
        exact ⟨ww _ (by decide), nm_len _ h.1, nm_len _ h.2.1, ww _ (by decide), by simp⟩
      simp [okOp, c1, c2] at h
      simp only [opL, h1, h2, h3, h4, h6, c1, c2, if_true, if_false] at hl
      subst hl
      refine ⟨by simp, ?_⟩
      simp only [List.forall_mem_cons]
      exact ⟨ww _ (by decide), nm_len _ h.1, nm_len _ h.2.1, ww _ (by decide), nm_len _ h.2.2.2, by simp⟩
    simp [okOp, h1, h2, h3, h4, h5, h6] at h
  obtain ⟨h1, h2⟩ := key _ rfl
  cases hl : opL o with
  | nil => simp [joinW]
  | cons t ts =>
    rw [hl] at h1 h2
    have h3 := sp_len ts 21 (fun x hx => h2 x (List.mem_cons_of_mem _ hx))
    have h4 := h2 t (by simp)
    have h5 : ts.length ≤ 4 := by simpa using h1
    rw [joinW_cons, List.length_append]
    omega
theorem doc_len (N : Nat) : ∀ (ls : List (List Tok)), (∀ l ∈ ls, (joinW l).length ≤ N) → (docB ls).length ≤ (N + 1) * ls.length
  | [], _ => by simp [docB]
  | l :: ls, h => by
    have h1 := doc_len N ls (fun x hx => h x (List.mem_cons_of_mem _ hx))
    have h2 := h l (by simp)
    have : (N + 1) * (ls.length + 1) = (N + 1) * ls.length + (N + 1) := by rw [Nat.mul_add, Nat.mul_one]
    rw [docB, List.length_append, List.length_cons, List.length_cons, this]
    omega
theorem words_len (f : FileS) (h : GoodF f) (ht : f.tasks.length ≤ 64) (ho : f.ops.length ≤ 201) : (docB (words f)).length ≤ 30000 := by
  have h1 := head_len f.cfg h.len h.cfg
  have h2 := doc_len 48 (f.tasks.map taskL) (fun l hl => by obtain ⟨t, htm, rfl⟩ := List.mem_map.1 hl; exact task_len t (h.tasks t htm))
  have h3 := doc_len 110 (f.ops.map opL) (fun l hl => by obtain ⟨o, hom, rfl⟩ := List.mem_map.1 hl; exact op_len o (h.ops o hom))
  rw [List.length_map] at h2 h3
  rw [words, docB, docB_append]
  simp only [List.length_append, List.length_cons]
  omega
theorem text_ok {f : FileS} {s : List UInt8} (h : textP f = (s, 0)) (hl : f.cfg.length = 10) : GoodF f ∧ f.tasks.length ≤ 64 ∧ f.ops.length ≤ 4096 ∧ ints s = docB (words f) := by
  rw [textP_eq] at h
  split at h
  · cases h
  · rename_i hn
    have h1 : okF f = true := by
      cases hk : okF f with
      | true => rfl
      | false => exact absurd (.inr hk) hn
    have h2 : s = (textW f).1 := by cases h; rfl
    exact ⟨PbA.okF.good h1 hl, by omega, by omega, by rw [h2, textW_ok f h1]⟩
theorem text_bad {f : FileS} {s : List UInt8} {e : Int} (h : textP f = (s, e)) (he : ¬ e = 0) : s = [] ∧ e = 1 := by
  rw [textP_eq] at h
  split at h
  · cases h; exact ⟨rfl, rfl⟩
  · cases h; exact absurd rfl he
theorem tk_first {st : FileS} {n : Int} {l : List UInt8} {ts : List Tok} (h : (l == configB) = false) : takesP st true (lin n (W l :: ts)) = .bad 2 := by
  unfold takesP
  rw [word_t]
  simp only [tl, h]
  rfl
theorem tk_second {st : FileS} {n : Int} {ts : List Tok} : takesP st false (lin n (W configB :: ts)) = .bad 2 := by
  unfold takesP
  rw [word_t]
  simp only [tl]
  rfl
section order
variable (f : FileS) (s : List UInt8) (h : GoodF f) (ht : f.tasks.length ≤ 64) (ho : f.ops.length ≤ 200) (hs : ints s = docB (words f))
include h ht ho hs
theorem order1 : parseP (ints (tickB ++ [10] ++ s)) = (zeroF, 1, 2) := by
  have hw := words_len f h ht (by omega)
  have e : ints (tickB ++ [10] ++ s) = docB ([W tickB] :: words f) := by
    rw [ints_append, ints_append, hs, docB]
    simp [joinW, W, ints]
  have hg : GoodD ([W tickB] :: words f) := by
    intro l hl
    rcases List.mem_cons.1 hl with rfl | hl
    · intro t ht; rw [List.mem_singleton.1 ht]; exact good_word _ (by decide) (by decide)
    · exact words_good f h l hl
  have hlen : (docB ([W tickB] :: words f)).length ≤ 65536 := by
    rw [docB]
    simp only [List.length_append, List.length_cons, joinW]
    have : (W tickB).text.length = 4 := rfl
    omega
  rw [e, parse_doc _ hg hlen (by simp [num]), num, if_neg (by simp), runP, tk_first (by decide)]
theorem behind (ls : List (List Tok)) (bs : List UInt8) (hb : ints bs = docB ls) (hg : GoodD ls) (hl : bs.length ≤ 1000) : parseP (ints (s ++ bs)) = runP (num (1 + (words f).length) ls) false f := by
  have hw := words_len f h ht (by omega)
  have e : ints (s ++ bs) = docB (words f ++ ls) := by rw [ints_append, hs, hb, docB_append]
  have hgd : GoodD (words f ++ ls) := by
    intro l hl
    rcases List.mem_append.1 hl with hl | hl
    · exact words_good f h l hl
    · exact hg l hl
  have hlen : (docB (words f ++ ls)).length ≤ 65536 := by
    have : (ints bs).length = bs.length := ints_len bs
    rw [docB_append, List.length_append, ← hb]
    omega
  rw [e, parse_doc _ hgd hlen (by simp [num, words, headL]), num_append, run_words f h ht (by omega)]
def hv : List Int := [10, 2, 3, 4, 2, 1, 5, 2, 8, 7]
theorem order2 : parseP (ints (s ++ headB)) = (zeroF, (1 : Int) + ((words f).length : Int), 2) := by
  rw [behind f s h ht ho hs [headL hv] headB (by kernel_rfl) (by
    intro l hl
    rw [List.mem_singleton.1 hl]
    exact good_head hv rfl (by decide)) (by decide)]
  rw [num, if_neg (by simp [headL]), runP, headL, tk_second]
theorem order3 : parseP (ints (s ++ (tickB ++ [10] ++ taskB ++ [32, 49, 32, 49, 10]))) = (zeroF, (2 : Int) + ((words f).length : Int), 2) := by
  have gt : ∀ t ∈ opL ⟨3, 0, 0, 0, 0⟩, LexT.Good t := good_op ⟨3, 0, 0, 0, 0⟩ (by decide)
  have gk : ∀ t ∈ taskL ⟨1, 1⟩, LexT.Good t := good_task ⟨1, 1⟩ (by decide)
  rw [behind f s h ht ho hs [opL ⟨3, 0, 0, 0, 0⟩, taskL ⟨1, 1⟩] _ (by kernel_rfl) (by
    intro l hl
    simp only [List.mem_cons, List.not_mem_nil, or_false] at hl
    rcases hl with rfl | rfl
    · exact gt
    · exact gk) (by decide)]
  rw [num, if_neg (by simp [opL]), runP, op_t _ f ⟨3, 0, 0, 0, 0⟩ (by omega) (by decide)]
  simp only
  rw [num, if_neg (by simp [taskL]), runP]
  have : takesP { f with ops := f.ops ++ [⟨3, 0, 0, 0, 0⟩] } false (lin (1 + (words f).length + 1) (taskL ⟨1, 1⟩)) = .bad 2 := by
    unfold takesP taskL
    rw [word_t]
    simp only
    rw [if_pos (show (false == ((⟨taskB.toArray⟩ : ByteArray).toList == configB)) = true by kernel_rfl), if_neg (by simp), if_pos (show (⟨taskB.toArray⟩ : ByteArray).toList = taskB by kernel_rfl), if_neg (by simp)]
  rw [this]
  simp only [Prod.mk.injEq, true_and, and_true]
  omega
def whatB : List UInt8 := [119, 104, 97, 116]
theorem order4 : parseP (ints (s ++ ([10, 10] ++ whatB ++ [10]))) = (zeroF, (3 : Int) + ((words f).length : Int), 2) := by
  rw [behind f s h ht ho hs [[], [], [W whatB]] _ (by kernel_rfl) (by
    intro l hl
    simp only [List.mem_cons, List.not_mem_nil, or_false] at hl
    rcases hl with rfl | rfl | rfl
    · simp
    · simp
    · intro t ht; rw [List.mem_singleton.1 ht]; exact good_word _ (by decide) (by decide)) (by decide)]
  rw [num, if_pos rfl, num, if_pos rfl, num, if_neg (by simp), runP]
  have : takesP f false (lin (1 + (words f).length + 1 + 1) [W whatB]) = .bad 2 := by
    unfold takesP
    rw [word_t]
    simp only
    rw [if_pos (show (false == ((⟨whatB.toArray⟩ : ByteArray).toList == configB)) = true by kernel_rfl), if_neg (by simp), if_neg (show ¬ (⟨whatB.toArray⟩ : ByteArray).toList = taskB by rw [tl]; decide), show findF (⟨whatB.toArray⟩ : ByteArray) formsT = none by kernel_rfl]
  rw [this]
  simp only [Prod.mk.injEq, true_and, and_true]
  omega
end order
end Go.Proofs.YtegbfimfpkendaaDoor.PbB
