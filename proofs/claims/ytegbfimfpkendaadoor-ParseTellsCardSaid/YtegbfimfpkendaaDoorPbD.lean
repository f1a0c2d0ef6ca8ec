/- Plain lemmas: a text that is read has the file's words: the inverse. No condition. -/
import Derived.Test.YtegbfimfpkendaaDoorMg48
namespace Go.Proofs.YtegbfimfpkendaaDoor.PbD
open Go.Proofs.YtegbfimfpkendaaDoorW.PrintWords LexS LexR LexQ LexT PaC PaD PaE PaF PaG PaJ PaL PaP PaQ PaS PaY PaZ PbA PbB
set_option linter.unusedVariables false
set_option linter.unusedSimpArgs false
theorem addLast_line (line c : Int) : ∀ l : List Tok, (∀ t ∈ l, t.line = line) → ∀ t ∈ addLast l c, t.line = line
  | [], _, t, ht => by simp [addLast] at ht
  | [u], h, t, ht => by
    rw [List.mem_singleton.1 ht]
    exact h u (by simp)
  | u :: v :: us, h, t, ht => by
    rcases List.mem_cons.1 ht with rfl | ht
    · exact h t (by simp)
    · exact addLast_line line c (v :: us) (fun x hx => h x (by simp at hx ⊢; exact .inr hx)) t ht
theorem runR_line (line : Int) : ∀ (cs : List Int) (toks toks' : List Tok) (was : Int), (∀ t ∈ toks, t.line = line) → runR line cs toks was = some toks' → ∀ t ∈ toks', t.line = line
  | [], toks, toks', was, h, hr => by cases hr; exact h
  | c :: cs, toks, toks', was, h, hr => by
    rw [runR] at hr
    obtain ⟨⟨t1, w1⟩, h1, h2⟩ := Option.bind_eq_some_iff.1 hr
    refine runR_line line cs t1 toks' w1 ?_ h2
    unfold stepR at h1
    split at h1
    · cases h1
    · split at h1
      · cases h1; exact h
      · split at h1
        · simp only [Option.some.injEq, Prod.mk.injEq] at h1
          rw [← h1.1]
          exact addLast_line line c toks h
        · simp only [Option.some.injEq, Prod.mk.injEq] at h1
          rw [← h1.1]
          intro t ht
          rcases List.mem_append.1 ht with ht | ht
          · exact h t ht
          · rw [List.mem_singleton.1 ht]
theorem rowR_line (line : Int) (l : List Int) (ts : List Tok) (h : rowR line l = some ts) : ∀ t ∈ ts, t.line = line := by
  unfold rowR at h
  obtain ⟨toks, h1, rfl⟩ := Option.map_eq_some_iff.1 h
  have h2 := runR_line line _ _ toks 3 (by simp) h1
  unfold shut
  split
  · simp
  · intro t ht
    rcases List.mem_append.1 ht with ht | ht
    · exact h2 t ht
    · rw [List.mem_singleton.1 ht]
theorem refG_line : ∀ (rest cur : List Int) (line : Int) (out : List Tok), 1 ≤ line → (∀ t ∈ out, 1 ≤ t.line ∧ t.line ≤ line) →
    (∃ l, 1 ≤ l ∧ l ≤ line + rest.length ∧ refG rest cur line out = ([], l, 2)) ∨ (∃ toks, refG rest cur line out = (toks, 0, 0) ∧ ∀ t ∈ toks, 1 ≤ t.line ∧ t.line ≤ line + rest.length)
  | [], cur, line, out, h1, ho => by
    rw [refG]
    cases hr : rowR line cur with
    | none => exact .inl ⟨line, h1, by simp, rfl⟩
    | some l =>
      refine .inr ⟨out ++ l, rfl, fun t ht => ?_⟩
      rcases List.mem_append.1 ht with ht | ht
      · have := ho t ht; simp; exact this
      · have := rowR_line line cur l hr t ht
        simp; omega
  | c :: cs, cur, line, out, h1, ho => by
    rw [refG]
    split
    · cases hr : rowR line cur with
      | none => exact .inl ⟨line, h1, by simp; omega, rfl⟩
      | some l =>
        rcases refG_line cs [] (line + 1) (out ++ l) (by omega) (fun t ht => by
          rcases List.mem_append.1 ht with ht | ht
          · have := ho t ht; omega
          · have := rowR_line line cur l hr t ht; omega) with ⟨k, h2, h3, h4⟩ | ⟨toks, h2, h3⟩
        · exact .inl ⟨k, h2, by simp; omega, h4⟩
        · exact .inr ⟨toks, h2, fun t ht => by have := h3 t ht; simp; omega⟩
    · rcases refG_line cs (cur ++ [c]) line out h1 ho with ⟨k, h2, h3, h4⟩ | ⟨toks, h2, h3⟩
      · exact .inl ⟨k, h2, by simp; omega, h4⟩
      · exact .inr ⟨toks, h2, fun t ht => by have := h3 t ht; simp; omega⟩
theorem bytes_back {X : List Int} (h : ∀ x ∈ X, 0 ≤ x ∧ x ≤ 255) : ints (strOfNums X).data.toList = X := by
  have h1 : ints (strOfNums X).data.toList = X.map (fun x => (((UInt8.ofNat x.toNat).toNat : Nat) : Int)) := by
    simp [ints, strOfNums]
  rw [h1]
  conv => rhs; rw [← List.map_id X]
  refine List.map_congr_left fun x hx => ?_
  have := h x hx
  rw [UInt8.toNat_ofNat']
  simp
  omega
theorem good_bytes {t : Tok} (h : LexT.Good t) : ∀ x ∈ t.text, 0 ≤ x ∧ x ≤ 255 := fun x hx => by
  have h1 := h.2.2 x hx
  have := kR_byte (by rw [h1]; exact h.1)
  exact ⟨this.1, this.2.1⟩
def bare (t : Tok) : Tok := ⟨t.kind, t.text, 0⟩
theorem lin_bare (ts : List Tok) : lin 0 ts = ts.map bare := rfl
theorem word_inv {ts t1 : List Tok} {s : ByteArray} (h : wordP ts = .ok s t1) (hg : ∀ t ∈ ts, LexT.Good t) : ∃ t, ts = t :: t1 ∧ bare t = W s.toList := by
  cases ts with
  | nil => simp [wordP] at h
  | cons t ts =>
    simp only [wordP] at h
    split at h
    · rename_i hk
      cases h
      refine ⟨t, rfl, ?_⟩
      have := bytes_back (good_bytes (hg t (by simp)))
      rw [Lib.toList_data]
      simp only [bare, W, hk, this]
    · cases h
theorem num_inv {ts t1 : List Tok} {v : Int} (h : numP ts = .ok v t1) (hg : ∀ t ∈ ts, LexT.Good t) : okN v = true ∧ ∃ t, ts = t :: t1 ∧ bare t = Nm v := by
  cases ts with
  | nil => simp [numP] at h
  | cons t ts =>
    simp only [numP] at h
    split at h
    · rename_i hk
      split at h
      · rename_i h0
        cases h
        obtain ⟨p0, p1, p2⟩ := NumT.parse_back _ h0
        refine ⟨by simp [okN, p0, p1], t, rfl, ?_⟩
        have := bytes_back (good_bytes (hg t (by simp)))
        have e : Lib.itoa (NumS.parseF (strOfNums t.text)).1 = Lib.decDigits (NumS.parseF (strOfNums t.text)).1.toNat := by unfold Lib.itoa; rw [if_neg (by omega)]
        simp only [bare, Nm, hk, e, p2, this]
      · cases h
    · cases h
theorem cfg_inv : ∀ (f k : Nat) (acc vs : List Int) (ts t2 : List Tok), cfgF f k acc ts = .ok vs t2 → acc.length = k + f → (∀ t ∈ ts, LexT.Good t) → ∃ (us : List Int) (pre : List Tok), us.length = f ∧ (∀ v ∈ us, okN v = true) ∧ ts = pre ++ t2 ∧ lin 0 pre = cfgL k us ∧ vs = acc.take k ++ us
  | 0, k, acc, vs, ts, t2, h, hl, _ => by
    simp only [cfgF, Rs.ok.injEq] at h
    obtain ⟨rfl, rfl⟩ := h
    exact ⟨[], [], rfl, by simp, rfl, rfl, by rw [List.take_of_length_le (by omega)]; simp⟩
  | f + 1, k, acc, vs, ts, t2, h, hl, hg => by
    rw [cfgF] at h
    cases hw : wordP ts with
    | bad e => rw [hw] at h; cases h
    | ok s t1 =>
      rw [hw] at h
      simp only at h
      obtain ⟨t, rfl, hb⟩ := word_inv hw hg
      split at h
      · rename_i hs
        cases hn : numP t1 with
        | bad e => rw [hn] at h; cases h
        | ok n t3 =>
          rw [hn] at h
          simp only at h
          have hg1 : ∀ x ∈ t1, LexT.Good x := fun x hx => hg x (List.mem_cons_of_mem _ hx)
          obtain ⟨hok, u, rfl, hbu⟩ := num_inv hn hg1
          obtain ⟨us, pre, h1, h2, h3, h4, h5⟩ := cfg_inv f (k + 1) (acc.set k n) vs t3 t2 h (by simp; omega) (fun x hx => hg1 x (List.mem_cons_of_mem _ hx))
          refine ⟨n :: us, t :: u :: pre, by simp [h1], ?_, by simp [h3], ?_, ?_⟩
          · intro v hv
            rcases List.mem_cons.1 hv with rfl | hv
            · exact hok
            · exact h2 v hv
          · rw [cfgL, ← h4]
            have e : W s.toList = W (namesT.getD k []) := by
              rw [hs]
              unfold nameT
              rw [tl]
            rw [← e, ← hb, ← hbu]
            rfl
          · have hlt : k < acc.length := by omega
            rw [h5, List.take_set]
            have : (acc.take (k + 1)).set k n = acc.take k ++ [n] := by
              rw [List.take_succ_eq_append_getElem hlt, List.set_append_right _ _ (by simp; omega)]
              simp [Nat.min_eq_left (Nat.le_of_lt hlt)]
            rw [this]
            simp
      · cases h
theorem find_inv {s : ByteArray} {x : Fm} : ∀ {l : List Fm}, findF s l = some x → x ∈ l ∧ x.op.toList = s.toList
  | [], h => by simp [findF] at h
  | y :: l, h => by
    rw [findF] at h
    split at h
    · rename_i hs
      cases h
      exact ⟨by simp, hs⟩
    · obtain ⟨h1, h2⟩ := find_inv h
      exact ⟨List.mem_cons_of_mem _ h1, h2⟩
theorem fin_inv {st st' : FileS} {t : List Tok} (h : finP st t = .ok st') : t = [] ∧ st' = st := by
  cases t with
  | nil => simp [finP] at h; exact ⟨rfl, h.symm⟩
  | cons a b => simp [finP] at h
theorem take_first_inv {st st' : FileS} {ts : List Tok} (h : takesP st true ts = .ok st') (hg : ∀ t ∈ ts, LexT.Good t) : ∃ vs, vs.length = 10 ∧ (∀ v ∈ vs, okN v = true) ∧ lin 0 ts = headL vs ∧ st' = { st with cfg := vs } := by
  unfold takesP at h
  cases hw : wordP ts with
  | bad e => rw [hw] at h; cases h
  | ok s t1 =>
    rw [hw] at h
    simp only at h
    obtain ⟨t, rfl, hb⟩ := word_inv hw hg
    split at h
    · rename_i hc
      have hs : s.toList = configB := by
        have : (s.toList == configB) = true := by simpa using hc
        exact beq_iff_eq.1 this
      rw [if_pos trivial] at h
      cases hq : configP t1 with
      | bad e => rw [hq] at h; cases h
      | ok cfg t2 =>
        rw [hq] at h
        simp only at h
        obtain ⟨rfl, rfl⟩ := fin_inv h
        obtain ⟨us, pre, h1, h2, h3, h4, h5⟩ := cfg_inv 10 0 _ cfg t1 [] hq rfl (fun x hx => hg x (List.mem_cons_of_mem _ hx))
        simp only [List.take_zero, List.nil_append] at h5
        subst h5
        refine ⟨cfg, h1, h2, ?_, rfl⟩
        rw [List.append_nil] at h3
        subst h3
        rw [headL, ← h4, ← hs, ← hb]
        rfl
    · cases h
theorem nums_inv : ∀ (n k : Nat) (vs us : List Int) (ts t : List Tok), numsF n k vs ts = .ok us t → (∀ x ∈ ts, LexT.Good x) → ∃ (xs : List Int) (pre : List Tok), xs.length = n ∧ (∀ v ∈ xs, okN v = true) ∧ ts = pre ++ t ∧ pre.map bare = xs.map Nm ∧ us = (xs.foldl (fun (p : Nat × List Int) x => (p.1 + 1, p.2.set p.1 x)) (k, vs)).2
  | 0, k, vs, us, ts, t, h, _ => by
    simp only [numsF, Rs.ok.injEq] at h
    obtain ⟨rfl, rfl⟩ := h
    exact ⟨[], [], rfl, by simp, rfl, rfl, rfl⟩
  | n + 1, k, vs, us, ts, t, h, hg => by
    rw [numsF] at h
    cases hn : numP ts with
    | bad e => rw [hn] at h; cases h
    | ok v t3 =>
      rw [hn] at h
      simp only at h
      obtain ⟨hok, u, rfl, hbu⟩ := num_inv hn hg
      obtain ⟨xs, pre, h1, h2, h3, h4, h5⟩ := nums_inv n (k + 1) (vs.set k v) us t3 t h (fun x hx => hg x (List.mem_cons_of_mem _ hx))
      refine ⟨v :: xs, u :: pre, by simp [h1], ?_, by simp [h3], by simp [h4, hbu], by rw [h5]; rfl⟩
      intro w hw
      rcases List.mem_cons.1 hw with rfl | hw
      · exact hok
      · exact h2 w hw
theorem op_inv {k : Int} {n : Nat} {ts t2 : List Tok} {vs : List Int} (h : opP k n ts = .ok vs t2) (hk : ¬ k = 5) (hg : ∀ x ∈ ts, LexT.Good x) : ∃ (xs : List Int) (pre : List Tok), xs.length = n ∧ (∀ v ∈ xs, okN v = true) ∧ ts = pre ++ t2 ∧ pre.map bare = xs.map Nm ∧ vs = (xs.foldl (fun (p : Nat × List Int) x => (p.1 + 1, p.2.set p.1 x)) (0, [0, 0, 0, 0])).2 := by
  unfold opP at h
  cases hn : numsF n 0 [0, 0, 0, 0] ts with
  | bad e => rw [hn] at h; cases h
  | ok us t1 =>
    rw [hn] at h
    simp only [hk, if_false] at h
    cases h
    exact nums_inv n 0 _ _ _ _ hn hg
theorem len1 {xs : List Int} (h : xs.length = 1) : ∃ a, xs = [a] := by
  match xs, h with
  | [a], _ => exact ⟨a, rfl⟩
theorem len2 {xs : List Int} (h : xs.length = 2) : ∃ a b, xs = [a, b] := by
  match xs, h with
  | [a, b], _ => exact ⟨a, b, rfl⟩
theorem len3 {xs : List Int} (h : xs.length = 3) : ∃ a b c, xs = [a, b, c] := by
  match xs, h with
  | [a, b, c], _ => exact ⟨a, b, c, rfl⟩
theorem ans_inv {ts t2 : List Tok} {vs : List Int} (h : opP 5 2 ts = .ok vs t2) (hg : ∀ x ∈ ts, LexT.Good x) : ∃ o : Opn, o.kind = 5 ∧ okOp o = true ∧ mkOp 5 vs = o ∧ ∃ pre, ts = pre ++ t2 ∧ W answerB :: pre.map bare = opL o := by
  unfold opP at h
  cases hn : numsF 2 0 [0, 0, 0, 0] ts with
  | bad e => rw [hn] at h; cases h
  | ok us t1 =>
    rw [hn] at h
    simp only [if_true] at h
    obtain ⟨xs, pre, h1, h2, h3, h4, h5⟩ := nums_inv 2 0 _ _ _ _ hn hg
    obtain ⟨a, b, rfl⟩ := len2 h1
    have ha := h2 a (by simp)
    have hb := h2 b (by simp)
    subst h3
    have hg1 : ∀ x ∈ t1, LexT.Good x := fun x hx => hg x (List.mem_append_right _ hx)
    have h5' : us = [a, b, 0, 0] := h5
    subst h5'
    cases hw : wordP t1 with
    | bad e => rw [hw] at h; cases h
    | ok s t3 =>
      rw [hw] at h
      simp only at h
      obtain ⟨u, rfl, hbu⟩ := word_inv hw hg1
      have hg3 : ∀ x ∈ t3, LexT.Good x := fun x hx => hg1 x (List.mem_cons_of_mem _ hx)
      cases hf : findF s answersT with
      | none => rw [hf] at h; cases h
      | some y =>
        rw [hf] at h
        simp only at h
        obtain ⟨hm, hs⟩ := find_inv hf
        simp only [answersT, List.mem_cons, List.not_mem_nil, or_false] at hm
        rcases hm with rfl | rfl | rfl
        · rw [if_neg (by decide)] at h
          cases h
          have hsw : s.toList = didB := hs.symm.trans (tl didB)
          refine ⟨⟨5, a, b, 1, 0⟩, rfl, by simp [okOp, ha, hb], rfl, pre ++ [u], by simp, ?_⟩
          simp [opL, h4, hbu, hsw]
        · rw [if_neg (by decide)] at h
          cases h
          have hsw : s.toList = failB := hs.symm.trans (tl failB)
          refine ⟨⟨5, a, b, 2, 0⟩, rfl, by simp [okOp, ha, hb], rfl, pre ++ [u], by simp, ?_⟩
          simp [opL, h4, hbu, hsw]
        · rw [if_pos (by decide)] at h
          cases hd : numP t3 with
          | bad e => rw [hd] at h; cases h
          | ok d t4 =>
            rw [hd] at h
            cases h
            obtain ⟨hok, v, rfl, hbv⟩ := num_inv hd hg3
            have hsw : s.toList = needB := hs.symm.trans (tl needB)
            refine ⟨⟨5, a, b, 3, d⟩, rfl, by simp [okOp, ha, hb, hok], rfl, pre ++ [u, v], by simp, ?_⟩
            simp [opL, h4, hbu, hsw, hbv]
theorem take_rest_inv {st st' : FileS} {ts : List Tok} (h : takesP st false ts = .ok st') (hg : ∀ t ∈ ts, LexT.Good t) :
    (∃ t, okN t.mem = true ∧ okN t.cost = true ∧ lin 0 ts = taskL t ∧ st.ops.length = 0 ∧ st.tasks.length < 64 ∧ st' = { st with tasks := st.tasks ++ [t] }) ∨
    (∃ o, okOp o = true ∧ lin 0 ts = opL o ∧ st.ops.length < 4096 ∧ st' = { st with ops := st.ops ++ [o] }) := by
  unfold takesP at h
  cases hw : wordP ts with
  | bad e => rw [hw] at h; cases h
  | ok s t1 =>
    rw [hw] at h
    simp only at h
    obtain ⟨t, rfl, hb⟩ := word_inv hw hg
    have hg1 : ∀ x ∈ t1, LexT.Good x := fun x hx => hg x (List.mem_cons_of_mem _ hx)
    split at h
    · rw [if_neg (by simp)] at h
      split at h
      · rename_i hs
        split at h
        · rename_i ho
          split at h
          · rename_i ht
            cases h1 : numP t1 with
            | bad e => rw [h1] at h; cases h
            | ok m t2 =>
              rw [h1] at h
              simp only at h
              obtain ⟨ok1, u, rfl, bu⟩ := num_inv h1 hg1
              have hg2 : ∀ x ∈ t2, LexT.Good x := fun x hx => hg1 x (List.mem_cons_of_mem _ hx)
              cases h2 : numP t2 with
              | bad e => rw [h2] at h; cases h
              | ok c t3 =>
                rw [h2] at h
                simp only at h
                obtain ⟨ok2, v, rfl, bv⟩ := num_inv h2 hg2
                obtain ⟨rfl, rfl⟩ := fin_inv h
                refine .inl ⟨⟨m, c⟩, ok1, ok2, ?_, ho, ht, rfl⟩
                rw [hs] at hb
                simp [lin_bare, taskL, hb, bu, bv]
          · cases h
        · cases h
      · cases hf : findF s formsT with
        | none => rw [hf] at h; cases h
        | some x =>
          rw [hf] at h
          simp only at h
          split at h
          · rename_i ho
            cases hq : opP x.kind x.n.toNat t1 with
            | bad e => rw [hq] at h; cases h
            | ok vs t2 =>
              rw [hq] at h
              simp only at h
              obtain ⟨rfl, rfl⟩ := fin_inv h
              obtain ⟨hm, hs⟩ := find_inv hf
              right
              simp only [formsT, List.mem_cons, List.not_mem_nil, or_false] at hm
              rcases hm with rfl | rfl | rfl | rfl | rfl | rfl
              · obtain ⟨xs, pre, h1, h2, h3, h4, h5⟩ := op_inv hq (by decide) hg1
                obtain ⟨a, b, c, rfl⟩ := len3 h1
                have hsw : s.toList = submitB := hs.symm.trans (tl submitB)
                rw [List.append_nil] at h3
                subst h3 h5
                refine ⟨⟨1, a, b, c, 0⟩, by simp [okOp, h2 a (by simp), h2 b (by simp), h2 c (by simp)], ?_, ho, rfl⟩
                simp [lin_bare, opL, hb, hsw, h4]
              · obtain ⟨xs, pre, h1, h2, h3, h4, h5⟩ := op_inv hq (by decide) hg1
                obtain ⟨a, rfl⟩ := len1 h1
                have hsw : s.toList = cancelB := hs.symm.trans (tl cancelB)
                rw [List.append_nil] at h3
                subst h3 h5
                refine ⟨⟨2, a, 0, 0, 0⟩, by simp [okOp, h2 a (by simp)], ?_, ho, rfl⟩
                simp [lin_bare, opL, hb, hsw, h4]
              · obtain ⟨xs, pre, h1, h2, h3, h4, h5⟩ := op_inv hq (by decide) hg1
                have h1' : xs = [] := List.length_eq_zero_iff.1 h1
                subst h1'
                have hsw : s.toList = tickB := hs.symm.trans (tl tickB)
                rw [List.append_nil] at h3
                subst h3 h5
                refine ⟨⟨3, 0, 0, 0, 0⟩, by decide, ?_, ho, rfl⟩
                simp at h4
                simp [lin_bare, opL, hb, hsw, h4]
              · obtain ⟨xs, pre, h1, h2, h3, h4, h5⟩ := op_inv hq (by decide) hg1
                have h1' : xs = [] := List.length_eq_zero_iff.1 h1
                subst h1'
                have hsw : s.toList = dispatchB := hs.symm.trans (tl dispatchB)
                rw [List.append_nil] at h3
                subst h3 h5
                refine ⟨⟨4, 0, 0, 0, 0⟩, by decide, ?_, ho, rfl⟩
                simp at h4
                simp [lin_bare, opL, hb, hsw, h4]
              · obtain ⟨o, e1, e2, e3, pre, e4, e5⟩ := ans_inv hq hg1
                have hsw : s.toList = answerB := hs.symm.trans (tl answerB)
                rw [List.append_nil] at e4
                subst e4
                refine ⟨o, e2, ?_, ho, by rw [← e3]⟩
                rw [← e5, ← hsw, ← hb]
                rfl
              · obtain ⟨xs, pre, h1, h2, h3, h4, h5⟩ := op_inv hq (by decide) hg1
                obtain ⟨a, rfl⟩ := len1 h1
                have hsw : s.toList = queryB := hs.symm.trans (tl queryB)
                rw [List.append_nil] at h3
                subst h3 h5
                refine ⟨⟨6, a, 0, 0, 0⟩, by simp [okOp, h2 a (by simp)], ?_, ho, rfl⟩
                simp [lin_bare, opL, hb, hsw, h4]
          · cases h
    · cases h
end Go.Proofs.YtegbfimfpkendaaDoor.PbD
