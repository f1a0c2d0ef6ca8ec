/- Plain lemmas: a file's text, whole; its lines, taken one by one, are the file. No condition. -/
import Derived.Test.YtegbfimfpkendaaDoorPaZ
namespace Go.Proofs.YtegbfimfpkendaaDoor.PbA
open Go.Proofs.YtegbfimfpkendaaDoorW.PrintWords LexS LexR LexQ LexT PaC PaD PaE PaF PaG PaJ PaL PaP PaQ PaS PaY PaZ
set_option linter.unusedVariables false
set_option linter.unusedSimpArgs false
def okF (f : FileS) : Bool := f.cfg.all okN && (f.tasks.all (fun t => okN t.mem && okN t.cost) && f.ops.all okOp)
theorem GoodF.ok {f : FileS} (h : GoodF f) : okF f = true := by
  simp only [okF, Bool.and_eq_true, List.all_eq_true]
  exact ⟨h.cfg, fun t ht => h.tasks t ht, h.ops⟩
theorem okF.good {f : FileS} (h : okF f = true) (hl : f.cfg.length = 10) : GoodF f := by
  simp only [okF, Bool.and_eq_true, List.all_eq_true] at h
  exact ⟨hl, h.1, fun t ht => h.2.1 t ht, h.2.2⟩
theorem tasks_bad : ∀ (ts : List Tk) (s : List UInt8 × Bool), (ts.foldl taskW s).2 = (s.2 || !(ts.all fun t => okN t.mem && okN t.cost)) ∧ ints (ts.foldl taskW s).1 = ints s.1 ++ docB (ts.map taskL)
  | [], s => by simp [docB]
  | t :: ts, s => by
    have h := tasks_bad ts (taskW s t)
    have h2 := taskW_eq s t
    rw [List.foldl_cons]
    refine ⟨?_, ?_⟩
    · rw [h.1, h2.2]
      simp [Bool.or_assoc]
    · rw [h.2, h2.1, List.map_cons, docB]
      simp
theorem ops_bad : ∀ (os : List Opn) (s : List UInt8 × Bool), (os.foldl opW s).2 = (s.2 || !(os.all okOp))
  | [], s => by simp
  | o :: os, s => by
    rw [List.foldl_cons, ops_bad os, opW_bad]
    simp [Bool.or_assoc]
theorem ops_ok : ∀ (os : List Opn) (s : List UInt8 × Bool), (∀ o ∈ os, okOp o = true) → ints (os.foldl opW s).1 = ints s.1 ++ docB (os.map opL)
  | [], s, _ => by simp [docB]
  | o :: os, s, h => by
    rw [List.foldl_cons, ops_ok os _ (fun x hx => h x (List.mem_cons_of_mem _ hx)), opW_ok s o (h o (by simp)), List.map_cons, docB]
    simp
theorem headW_eq (vs : List Int) : ints (headW vs).1 = joinW (headL vs) ++ [10] ∧ (headW vs).2 = !(vs.all okN) := by
  have h := cfgW_eq vs 0 (configB, false)
  unfold headW
  refine ⟨?_, ?_⟩
  · simp only [ints_append, h.1, headL, joinW_cons, W]
    rfl
  · rw [h.2]
    rfl
theorem textW_bad (f : FileS) : (textW f).2 = !okF f := by
  unfold textW okF
  rw [ops_bad, (tasks_bad f.tasks _).1, (headW_eq f.cfg).2]
  cases f.cfg.all okN <;> cases (f.tasks.all fun t => okN t.mem && okN t.cost) <;> cases f.ops.all okOp <;> rfl
theorem textW_ok (f : FileS) (h : okF f = true) : ints (textW f).1 = docB (words f) := by
  have ho : ∀ o ∈ f.ops, okOp o = true := by
    simp only [okF, Bool.and_eq_true, List.all_eq_true] at h
    exact h.2.2
  unfold textW words
  rw [ops_ok f.ops _ ho, (tasks_bad f.tasks _).2, (headW_eq f.cfg).1, docB, docB_append]
  simp
theorem textP_eq (f : FileS) : textP f = if (64 < f.tasks.length ∨ 4096 < f.ops.length) ∨ okF f = false then ([], 1) else ((textW f).1, 0) := by
  unfold textP
  rw [textW_bad]
  by_cases h1 : 64 < f.tasks.length ∨ 4096 < f.ops.length
  · simp [h1]
  · simp only [h1, if_false, false_or]
    cases okF f <;> simp
theorem good_word (l : List UInt8) (h : l.all (fun b => decide (97 ≤ b.toNat) && decide (b.toNat ≤ 122)) = true) (hne : l ≠ []) : LexT.Good (W l) := by
  refine ⟨.inl rfl, by simpa [W, ints] using hne, fun c hc => ?_⟩
  obtain ⟨b, hb, rfl⟩ := List.mem_map.1 hc
  have := List.all_eq_true.1 h b hb
  simp only [Bool.and_eq_true, decide_eq_true_eq] at this
  unfold kR
  rw [if_pos (by omega)]
  rfl
theorem good_num (v : Int) (h : okN v = true) : LexT.Good (Nm v) := by
  simp only [okN, Bool.and_eq_true, decide_eq_true_eq] at h
  have e : Lib.itoa v = Lib.decDigits v.toNat := by unfold Lib.itoa; rw [if_neg (by omega)]
  refine ⟨.inr rfl, ?_, fun c hc => ?_⟩
  · have := NumT.digits_ne v.toNat
    simp only [Nm, e]
    intro h0
    exact this (List.map_eq_nil_iff.1 h0)
  · simp only [Nm, e] at hc ⊢
    obtain ⟨b, hb, rfl⟩ := List.mem_map.1 hc
    have := NumT.digits_dig v.toNat b hb
    unfold NumT.Dig at this
    unfold kR
    rw [if_neg (by omega), if_pos (by omega)]
theorem good_cfg : ∀ (vs : List Int) (k : Nat), k + vs.length ≤ 10 → (∀ v ∈ vs, okN v = true) → ∀ t ∈ cfgL k vs, LexT.Good t
  | [], k, _, _, t, ht => by simp [cfgL] at ht
  | v :: vs, k, hk, h, t, ht => by
    rw [List.length_cons] at hk
    rw [cfgL] at ht
    rcases List.mem_cons.1 ht with rfl | ht
    · have : ∀ j, j < 10 → LexT.Good (W (namesT.getD j [])) := by
        intro j hj
        have : j = 0 ∨ j = 1 ∨ j = 2 ∨ j = 3 ∨ j = 4 ∨ j = 5 ∨ j = 6 ∨ j = 7 ∨ j = 8 ∨ j = 9 := by omega
        rcases this with rfl | rfl | rfl | rfl | rfl | rfl | rfl | rfl | rfl | rfl <;> exact good_word _ (by decide) (by decide)
      exact this k (by omega)
    · rcases List.mem_cons.1 ht with rfl | ht
      · exact good_num v (h v (by simp))
      · exact good_cfg vs (k + 1) (by omega) (fun x hx => h x (List.mem_cons_of_mem _ hx)) t ht
theorem good_head (vs : List Int) (hl : vs.length = 10) (h : ∀ v ∈ vs, okN v = true) : ∀ t ∈ headL vs, LexT.Good t := by
  intro t ht
  rcases List.mem_cons.1 ht with rfl | ht
  · exact good_word _ (by decide) (by decide)
  · exact good_cfg vs 0 (by omega) h t ht
theorem good_task (x : Tk) (h : okN x.mem = true ∧ okN x.cost = true) : ∀ t ∈ taskL x, LexT.Good t := by
  intro t ht
  simp only [taskL, List.mem_cons, List.not_mem_nil, or_false] at ht
  rcases ht with rfl | rfl | rfl
  · exact good_word _ (by decide) (by decide)
  · exact good_num _ h.1
  · exact good_num _ h.2
theorem good_op (o : Opn) (h : okOp o = true) : ∀ t ∈ opL o, LexT.Good t := by
  obtain ⟨k, a, b, c, d⟩ := o
  have gw : ∀ l : List UInt8, l.all (fun b => decide (97 ≤ b.toNat) && decide (b.toNat ≤ 122)) = true → l ≠ [] → LexT.Good (W l) := good_word
  by_cases h1 : k = 1
  · subst h1
    simp only [okOp, if_true, Bool.and_eq_true] at h
    simp only [opL, if_true, List.forall_mem_cons]
    exact ⟨gw _ (by decide) (by decide), good_num _ h.1, good_num _ h.2.1, good_num _ h.2.2.1, by simp⟩
  by_cases h2 : k = 2
  · subst h2
    simp [okOp] at h
    simp only [opL, h1, if_true, if_false, List.forall_mem_cons]
    exact ⟨gw _ (by decide) (by decide), good_num _ h.1, by simp⟩
  by_cases h3 : k = 3
  · subst h3
    simp only [opL, h1, h2, if_true, if_false, List.forall_mem_cons]
    exact ⟨gw _ (by decide) (by decide), by simp⟩
  by_cases h4 : k = 4
  · subst h4
    simp only [opL, h1, h2, h3, if_true, if_false, List.forall_mem_cons]
    exact ⟨gw _ (by decide) (by decide), by simp⟩
  by_cases h6 : k = 6
  · subst h6
    simp [okOp] at h
    simp only [opL, h1, h2, h3, h4, if_true, if_false, List.forall_mem_cons]
    exact ⟨gw _ (by decide) (by decide), good_num _ h.1, by simp⟩
  by_cases h5 : k = 5
  · subst h5
    by_cases c1 : c = 1
    · subst c1
      simp [okOp] at h
      simp only [opL, h1, h2, h3, h4, h6, if_true, if_false, List.forall_mem_cons]
      exact ⟨gw _ (by decide) (by decide), good_num _ h.1, good_num _ h.2.1, gw _ (by decide) (by decide), by simp⟩
    by_cases c2 : c = 2
    · subst c2
      simp [okOp] at h
      simp only [opL, h1, h2, h3, h4, h6, c1, if_true, if_false, List.forall_mem_cons]
      exact ⟨gw _ (by decide) (by decide), good_num _ h.1, good_num _ h.2.1, gw _ (by decide) (by decide), by simp⟩
    simp [okOp, c1, c2] at h
    simp only [opL, h1, h2, h3, h4, h6, c1, c2, if_true, if_false, List.forall_mem_cons]
    exact ⟨gw _ (by decide) (by decide), good_num _ h.1, good_num _ h.2.1, gw _ (by decide) (by decide), good_num _ h.2.2.2, by simp⟩
  simp [okOp, h1, h2, h3, h4, h5, h6] at h
theorem words_good (f : FileS) (h : GoodF f) : GoodD (words f) := by
  intro l hl
  rcases List.mem_cons.1 hl with rfl | hl
  · exact good_head f.cfg h.len h.cfg
  · rcases List.mem_append.1 hl with hl | hl
    · obtain ⟨t, ht, rfl⟩ := List.mem_map.1 hl
      exact good_task t (h.tasks t ht)
    · obtain ⟨o, ho, rfl⟩ := List.mem_map.1 hl
      exact good_op o (h.ops o ho)
theorem str_ints (l : List UInt8) : strOfNums (ints l) = ⟨l.toArray⟩ := by
  unfold strOfNums ints
  congr 2
  rw [List.map_map]
  conv => rhs; rw [← List.map_id l]
  apply List.map_congr_left
  intro b _
  simp
theorem word_t (n : Int) (l : List UInt8) (ts : List Tok) : wordP (lin n (W l :: ts)) = .ok ⟨l.toArray⟩ (lin n ts) := by
  show (if (1 : Int) = 1 then Rs.ok (strOfNums (ints l)) (lin n ts) else .bad 2) = _
  rw [if_pos rfl, str_ints]
theorem num_t (n v : Int) (ts : List Tok) (h : okN v = true) : numP (lin n (Nm v :: ts)) = .ok v (lin n ts) := by
  simp only [okN, Bool.and_eq_true, decide_eq_true_eq] at h
  have e : Lib.itoa v = Lib.decDigits v.toNat := by unfold Lib.itoa; rw [if_neg (by omega)]
  have e2 : NumS.parseF (strOfNums (ints (Lib.itoa v))) = (v, 0) := by
    rw [str_ints, e, NumT.parse_dec, if_neg (by omega)]
    congr 1
    omega
  show (if (2 : Int) = 2 then (if (NumS.parseF (strOfNums (ints (Lib.itoa v)))).2 = 0 then Rs.ok (NumS.parseF (strOfNums (ints (Lib.itoa v)))).1 (lin n ts) else _) else .bad 2) = _
  rw [e2]
  rfl
theorem cfg_t (n : Int) : ∀ (vs acc : List Int) (k : Nat), acc.length = k + vs.length → k + vs.length ≤ 10 → (∀ v ∈ vs, okN v = true) → cfgF vs.length k acc (lin n (cfgL k vs)) = .ok (acc.take k ++ vs) []
  | [], acc, k, hl, _, _ => by
    have : acc.take k = acc := List.take_of_length_le (by simp at hl; omega)
    simp [cfgF, cfgL, lin, this]
  | v :: vs, acc, k, hl, hk, h => by
    rw [List.length_cons] at hl hk
    have ih := cfg_t n vs (acc.set k v) (k + 1) (by simp; omega) (by omega) (fun x hx => h x (List.mem_cons_of_mem _ hx))
    rw [List.length_cons, cfgL, cfgF, word_t]
    simp only
    rw [if_pos (by unfold nameT; rfl), num_t n v _ (h v (by simp))]
    simp only
    rw [ih]
    congr 1
    have hlt : k < acc.length := by omega
    rw [List.take_set]
    have : (acc.take (k + 1)).set k v = acc.take k ++ [v] := by
      rw [List.take_succ_eq_append_getElem hlt, List.set_append_right _ _ (by simp; omega)]
      simp [Nat.min_eq_left (Nat.le_of_lt hlt)]
    rw [this]
    simp
theorem head_t (n : Int) (st : FileS) (vs : List Int) (hl : vs.length = 10) (h : ∀ v ∈ vs, okN v = true) : takesP st true (lin n (headL vs)) = .ok { st with cfg := vs } := by
  have hc : configP (lin n (cfgL 0 vs)) = .ok vs [] := by
    have := cfg_t n vs [0, 0, 0, 0, 0, 0, 0, 0, 0, 0] 0 (by simp [hl]) (by omega) h
    rw [hl] at this
    simpa [configP] using this
  unfold takesP headL
  rw [word_t]
  simp only
  rw [if_pos (show (true == ((⟨configB.toArray⟩ : ByteArray).toList == configB)) = true by kernel_rfl), if_pos trivial, hc]
  rfl
theorem task_t (n : Int) (st : FileS) (t : Tk) (ho : st.ops.length = 0) (ht : st.tasks.length < 64) (h : okN t.mem = true ∧ okN t.cost = true) : takesP st false (lin n (taskL t)) = .ok { st with tasks := st.tasks ++ [t] } := by
  unfold takesP taskL
  rw [word_t]
  simp only
  rw [if_pos (show (false == ((⟨taskB.toArray⟩ : ByteArray).toList == configB)) = true by kernel_rfl), if_neg (by simp), if_pos (show (⟨taskB.toArray⟩ : ByteArray).toList = taskB by kernel_rfl), if_pos ho, if_pos ht, num_t n _ _ h.1]
  simp only
  rw [num_t n _ _ h.2]
  rfl
theorem tl (l : List UInt8) : (⟨l.toArray⟩ : ByteArray).toList = l := by rw [Lib.toList_data]
theorem op_way (n : Int) (st : FileS) (l : List UInt8) (ts : List Tok) (x : Fm) (hc : (l == configB) = false) (ht : ¬ l = taskB) (hf : findF ⟨l.toArray⟩ formsT = some x) (ho : st.ops.length < 4096) :
    takesP st false (lin n (W l :: ts)) = (match opP x.kind x.n.toNat (lin n ts) with
      | .bad e => .bad e
      | .ok vs t2 => finP { st with ops := st.ops ++ [mkOp x.kind vs] } t2) := by
  unfold takesP
  rw [word_t]
  simp only [tl, hc]
  rw [if_pos (by decide), if_neg (by simp), if_neg ht, hf]
  simp only
  rw [if_pos ho]
  cases opP x.kind x.n.toNat (lin n ts) <;> rfl
theorem op_t (n : Int) (st : FileS) (o : Opn) (ho : st.ops.length < 4096) (h : okOp o = true) : takesP st false (lin n (opL o)) = .ok { st with ops := st.ops ++ [o] } := by
  obtain ⟨k, a, b, c, d⟩ := o
  by_cases h1 : k = 1
  · subst h1
    simp [okOp] at h
    obtain ⟨ha, hb, hc, rfl⟩ := h
    simp only [opL, if_true]
    rw [op_way n st submitB _ ⟨strB submitB, 1, 3⟩ (by decide) (by decide) (by kernel_rfl) ho]
    simp only [opP, numsF, show (3 : Int).toNat = 3 from rfl, num_t n _ _ ha, num_t n _ _ hb, num_t n _ _ hc, if_neg (show ¬ (1 : Int) = 5 by decide)]
    rfl
  by_cases h2 : k = 2
  · subst h2
    simp [okOp] at h
    obtain ⟨ha, rfl, rfl, rfl⟩ := h
    simp only [opL, h1, if_true, if_false]
    rw [op_way n st cancelB _ ⟨strB cancelB, 2, 1⟩ (by decide) (by decide) (by kernel_rfl) ho]
    simp only [opP, numsF, show (1 : Int).toNat = 1 from rfl, num_t n _ _ ha, if_neg (show ¬ (2 : Int) = 5 by decide)]
    rfl
  by_cases h3 : k = 3
  · subst h3
    simp [okOp] at h
    obtain ⟨rfl, rfl, rfl, rfl⟩ := h
    simp only [opL, h1, h2, if_true, if_false]
    rw [op_way n st tickB _ ⟨strB tickB, 3, 0⟩ (by decide) (by decide) (by kernel_rfl) ho]
    rfl
  by_cases h4 : k = 4
  · subst h4
    simp [okOp] at h
    obtain ⟨rfl, rfl, rfl, rfl⟩ := h
    simp only [opL, h1, h2, h3, if_true, if_false]
    rw [op_way n st dispatchB _ ⟨strB dispatchB, 4, 0⟩ (by decide) (by decide) (by kernel_rfl) ho]
    rfl
  by_cases h6 : k = 6
  · subst h6
    simp [okOp] at h
    obtain ⟨ha, rfl, rfl, rfl⟩ := h
    simp only [opL, h1, h2, h3, h4, if_true, if_false]
    rw [op_way n st queryB _ ⟨strB queryB, 6, 1⟩ (by decide) (by decide) (by kernel_rfl) ho]
    simp only [opP, numsF, show (1 : Int).toNat = 1 from rfl, num_t n _ _ ha, if_neg (show ¬ (6 : Int) = 5 by decide)]
    rfl
  by_cases h5 : k = 5
  · subst h5
    have way := fun ts => op_way n st answerB ts ⟨strB answerB, 5, 2⟩ (by decide) (by decide) (by kernel_rfl) ho
    by_cases c1 : c = 1
    · subst c1
      simp [okOp] at h
      obtain ⟨ha, hb, rfl⟩ := h
      simp only [opL, h1, h2, h3, h4, h6, if_true, if_false]
      rw [way]
      simp only [opP, numsF, show (2 : Int).toNat = 2 from rfl, num_t n _ _ ha, num_t n _ _ hb, if_true, word_t, show findF (⟨didB.toArray⟩ : ByteArray) answersT = some ⟨strB didB, 1, 0⟩ from by kernel_rfl, if_neg (show ¬ (0 : Int) < 0 by decide)]
      rfl
    by_cases c2 : c = 2
    · subst c2
      simp [okOp] at h
      obtain ⟨ha, hb, rfl⟩ := h
      simp only [opL, h1, h2, h3, h4, h6, c1, if_true, if_false]
      rw [way]
      simp only [opP, numsF, show (2 : Int).toNat = 2 from rfl, num_t n _ _ ha, num_t n _ _ hb, if_true, word_t, show findF (⟨failB.toArray⟩ : ByteArray) answersT = some ⟨strB failB, 2, 0⟩ from by kernel_rfl, if_neg (show ¬ (0 : Int) < 0 by decide)]
      rfl
    simp [okOp, c1, c2] at h
    obtain ⟨ha, hb, rfl, hd⟩ := h
    simp only [opL, h1, h2, h3, h4, h6, c1, c2, if_true, if_false]
    rw [way]
    simp only [opP, numsF, show (2 : Int).toNat = 2 from rfl, num_t n _ _ ha, num_t n _ _ hb, if_true, word_t, show findF (⟨needB.toArray⟩ : ByteArray) answersT = some ⟨strB needB, 3, 1⟩ from by kernel_rfl, if_pos (show (0 : Int) < 1 by decide), num_t n _ _ hd]
    rfl
  simp [okOp, h1, h2, h3, h4, h5, h6] at h
theorem run_ops (rest : List (Int × List Tok)) : ∀ (os : List Opn) (n : Int) (st : FileS), st.ops.length + os.length ≤ 4096 → (∀ o ∈ os, okOp o = true) → runP (num n (os.map opL) ++ rest) false st = runP rest false { st with ops := st.ops ++ os }
  | [], n, st, _, _ => by simp [num]
  | o :: os, n, st, hl, h => by
    rw [List.length_cons] at hl
    have hne : ¬ opL o = [] := by
      unfold opL
      (repeat' split) <;> simp
    have e := op_t n st o (by omega) (h o (by simp))
    rw [List.map_cons, num, if_neg hne, List.cons_append, runP, e]
    simp only
    rw [run_ops rest os (n + 1) _ (by simp; omega) (fun x hx => h x (List.mem_cons_of_mem _ hx))]
    simp
theorem run_tasks (rest : List (Int × List Tok)) : ∀ (ts : List Tk) (n : Int) (st : FileS), st.ops.length = 0 → st.tasks.length + ts.length ≤ 64 → (∀ t ∈ ts, okN t.mem = true ∧ okN t.cost = true) → runP (num n (ts.map taskL) ++ rest) false st = runP rest false { st with tasks := st.tasks ++ ts }
  | [], n, st, _, _, _ => by simp [num]
  | t :: ts, n, st, ho, hl, h => by
    rw [List.length_cons] at hl
    have e := task_t n st t ho (by omega) (h t (by simp))
    rw [List.map_cons, num, if_neg (by simp [taskL]), List.cons_append, runP, e]
    simp only
    rw [run_tasks rest ts (n + 1) { st with tasks := st.tasks ++ [t] } ho (by simp; omega) (fun x hx => h x (List.mem_cons_of_mem _ hx))]
    simp
theorem run_words (f : FileS) (h : GoodF f) (ht : f.tasks.length ≤ 64) (ho : f.ops.length ≤ 4096) (n : Int) (rest : List (Int × List Tok)) : runP (num n (words f) ++ rest) true zeroF = runP rest false f := by
  have e := head_t n zeroF f.cfg h.len h.cfg
  rw [words, num, if_neg (by simp [headL]), List.cons_append, runP, e]
  simp only
  rw [num_append, List.append_assoc, run_tasks _ f.tasks (n + 1) _ rfl (by simpa [zeroF] using ht) h.tasks, run_ops rest f.ops _ _ (by simpa [zeroF] using ho) h.ops]
  congr 1
theorem words_length (f : FileS) : (words f).length = 1 + f.tasks.length + f.ops.length := by
  simp [words]
  omega
theorem read_back (f : FileS) (h : GoodF f) (ht : f.tasks.length ≤ 64) (ho : f.ops.length ≤ 4096) (hl : (docB (words f)).length ≤ 65536) : parseP (docB (words f)) = (f, 0, 0) := by
  rw [parse_doc (words f) (words_good f h) hl (by simp [words, num, headL])]
  have := run_words f h ht ho 1 []
  rw [List.append_nil] at this
  rw [this, runP]
end Go.Proofs.YtegbfimfpkendaaDoor.PbA
