/- Plain lemmas: what parse answers, told of its lines: the file's words, or where what is wrong. No condition. -/
import Derived.Test.YtegbfimfpkendaaDoorPbD
namespace Go.Proofs.YtegbfimfpkendaaDoor.PbE
open Go.Proofs.YtegbfimfpkendaaDoorW.PrintWords LexS LexR LexQ LexT PaC PaD PaE PaF PaG PaJ PaL PaP PaQ PaS PaY PaZ PbA PbB PbD
set_option linter.unusedVariables false
set_option linter.unusedSimpArgs false
theorem word_bad {ts : List Tok} {e : Int} (h : wordP ts = .bad e) : ¬ e = 0 := by
  unfold wordP at h
  (repeat' split at h) <;> cases h <;> decide
theorem num_bad {ts : List Tok} {e : Int} (h : numP ts = .bad e) : ¬ e = 0 := by
  unfold numP at h
  split at h
  · cases h; decide
  · split at h
    · split at h
      · cases h
      · rename_i hn; cases h; exact hn
    · cases h; decide
theorem cfg_bad : ∀ (f k : Nat) (acc : List Int) (ts : List Tok) (e : Int), cfgF f k acc ts = .bad e → ¬ e = 0
  | 0, k, acc, ts, e, h => by simp [cfgF] at h
  | f + 1, k, acc, ts, e, h => by
    rw [cfgF] at h
    cases hw : wordP ts with
    | bad e' => rw [hw] at h; cases h; exact word_bad hw
    | ok s t1 =>
      rw [hw] at h
      simp only at h
      split at h
      · cases hn : numP t1 with
        | bad e' => rw [hn] at h; cases h; exact num_bad hn
        | ok n t2 => rw [hn] at h; exact cfg_bad f (k + 1) _ t2 e h
      · cases h; decide
theorem nums_bad : ∀ (n k : Nat) (vs : List Int) (ts : List Tok) (e : Int), numsF n k vs ts = .bad e → ¬ e = 0
  | 0, k, vs, ts, e, h => by simp [numsF] at h
  | n + 1, k, vs, ts, e, h => by
    rw [numsF] at h
    cases hn : numP ts with
    | bad e' => rw [hn] at h; cases h; exact num_bad hn
    | ok v t2 => rw [hn] at h; exact nums_bad n (k + 1) _ t2 e h
theorem op_bad {k : Int} {n : Nat} {ts : List Tok} {e : Int} (h : opP k n ts = .bad e) : ¬ e = 0 := by
  unfold opP at h
  cases hn : numsF n 0 [0, 0, 0, 0] ts with
  | bad e' => rw [hn] at h; cases h; exact nums_bad _ _ _ _ _ hn
  | ok vs t1 =>
    rw [hn] at h
    simp only at h
    split at h
    · cases hw : wordP t1 with
      | bad e' => rw [hw] at h; cases h; exact word_bad hw
      | ok s t2 =>
        rw [hw] at h
        simp only at h
        cases hf : findF s answersT with
        | none => rw [hf] at h; cases h; decide
        | some x =>
          rw [hf] at h
          simp only at h
          split at h
          · cases hd : numP t2 with
            | bad e' => rw [hd] at h; cases h; exact num_bad hd
            | ok d t3 => rw [hd] at h; cases h
          · cases h
    · cases h
theorem fin_bad' {st : FileS} {t : List Tok} {e : Int} (h : finP st t = .bad e) : ¬ e = 0 := by
  cases t with
  | nil => simp [finP] at h
  | cons a b => simp only [finP, Rt.bad.injEq] at h; subst h; decide
theorem takes_bad {st : FileS} {first : Bool} {ts : List Tok} {e : Int} (h : takesP st first ts = .bad e) : ¬ e = 0 := by
  unfold takesP at h
  cases hw : wordP ts with
  | bad e' => rw [hw] at h; cases h; exact word_bad hw
  | ok s t1 =>
    rw [hw] at h
    simp only at h
    split at h
    · split at h
      · cases hc : configP t1 with
        | bad e' => rw [hc] at h; cases h; exact cfg_bad _ _ _ _ _ hc
        | ok cfg t2 => rw [hc] at h; exact fin_bad' h
      · split at h
        · split at h
          · split at h
            · cases h1 : numP t1 with
              | bad e' => rw [h1] at h; cases h; exact num_bad h1
              | ok m t2 =>
                rw [h1] at h
                simp only at h
                cases h2 : numP t2 with
                | bad e' => rw [h2] at h; cases h; exact num_bad h2
                | ok c t3 => rw [h2] at h; exact fin_bad' h
            · cases h; decide
          · cases h; decide
        · cases hf : findF s formsT with
          | none => rw [hf] at h; cases h; decide
          | some x =>
            rw [hf] at h
            simp only at h
            split at h
            · cases hq : opP x.kind x.n.toNat t1 with
              | bad e' => rw [hq] at h; cases h; exact op_bad hq
              | ok vs t2 => rw [hq] at h; exact fin_bad' h
            · cases h; decide
    · cases h; decide
def RowsOk (rows : List (Int × List Tok)) : Prop := ∀ r ∈ rows, 0 ≤ r.1 ∧ ∀ t ∈ r.2, LexT.Good t
theorem run_inv : ∀ (rows : List (Int × List Tok)) (st f : FileS) (l e : Int), runP rows false st = (f, l, e) → RowsOk rows →
    (f = zeroF ∧ 0 ≤ l ∧ ¬ e = 0) ∨ (l = 0 ∧ e = 0 ∧ ∃ (ts : List Tk) (os : List Opn), f = ⟨st.cfg, st.tasks ++ ts, st.ops ++ os⟩ ∧ (∀ t ∈ ts, okN t.mem = true ∧ okN t.cost = true) ∧ (∀ o ∈ os, okOp o = true) ∧ rows.map (fun r => lin 0 r.2) = ts.map taskL ++ os.map opL ∧
      (ts = [] ∨ st.ops = []) ∧ (st.tasks.length ≤ 64 → f.tasks.length ≤ 64) ∧ (st.ops.length ≤ 4096 → f.ops.length ≤ 4096))
  | [], st, f, l, e, h, _ => by
    simp only [runP, Prod.mk.injEq] at h
    obtain ⟨rfl, rfl, rfl⟩ := h
    exact .inr ⟨rfl, rfl, [], [], by simp, by simp, by simp, rfl, .inl rfl, fun h => h, fun h => h⟩
  | (n, ts0) :: rows, st, f, l, e, h, hr => by
    have h0 := hr (n, ts0) (by simp)
    have hr' : RowsOk rows := fun x hx => hr x (List.mem_cons_of_mem _ hx)
    rw [runP] at h
    cases hk : takesP st false ts0 with
    | bad e' =>
      rw [hk] at h
      simp only [Prod.mk.injEq] at h
      obtain ⟨rfl, rfl, rfl⟩ := h
      exact .inl ⟨rfl, h0.1, takes_bad hk⟩
    | ok st' =>
      rw [hk] at h
      simp only at h
      rcases run_inv rows st' f l e h hr' with ⟨h1, h2, h3⟩ | ⟨hl, he, ts, os, h1, h2, h3, h4, h5, h6, h7⟩
      · exact .inl ⟨h1, h2, h3⟩
      · right
        refine ⟨hl, he, ?_⟩
        rcases take_rest_inv hk h0.2 with ⟨t, k1, k2, k3, k4, k5, rfl⟩ | ⟨o, k1, k2, k3, rfl⟩
        · have ho : st.ops = [] := List.length_eq_zero_iff.1 k4
          refine ⟨t :: ts, os, by rw [h1]; simp, ?_, h3, by rw [List.map_cons, h4, k3]; rfl, .inr ho, fun h => h6 (by simp; omega), h7⟩
          intro x hx
          rcases List.mem_cons.1 hx with rfl | hx
          · exact ⟨k1, k2⟩
          · exact h2 x hx
        · have hts : ts = [] := by
            rcases h5 with h5 | h5
            · exact h5
            · simp at h5
          subst hts
          refine ⟨[], o :: os, by rw [h1]; simp, by simp, ?_, by rw [List.map_cons, h4, k2]; rfl, .inl rfl, fun h => h6 h, fun h => h7 (by simp; omega)⟩
          intro x hx
          rcases List.mem_cons.1 hx with rfl | hx
          · exact k1
          · exact h3 x hx
theorem rows_ok : ∀ (toks cur : List Tok) (b : Bool), Okk b toks → (∀ t ∈ cur, LexT.Good t) → (∀ t ∈ toks, 1 ≤ t.line) → RowsOk (rowsG cur toks)
  | [], cur, b, _, _, _ => by intro r hr; simp [rowsG] at hr
  | t :: toks, cur, b, h, hc, hl => by
    rw [rowsG]
    rcases h with ⟨hg, ho⟩ | ⟨hb, hk, ht, ho⟩
    · have hne : ¬ t.kind = 3 := by have := hg.1; omega
      rw [if_neg hne]
      refine rows_ok toks _ true ho (fun x hx => ?_) (fun x hx => hl x (List.mem_cons_of_mem _ hx))
      rcases List.mem_append.1 hx with hx | hx
      · exact hc x hx
      · rw [List.mem_singleton.1 hx]; exact hg
    · rw [if_pos hk]
      intro r hr
      rcases List.mem_cons.1 hr with rfl | hr
      · exact ⟨by have := hl t (by simp); simp only; omega, hc⟩
      · exact rows_ok toks [] false ho (by simp) (fun x hx => hl x (List.mem_cons_of_mem _ hx)) r hr
def wide : List Tok → Nat
  | [] => 0
  | t :: ts => t.text.length + 1 + wide ts
theorem wide_append : ∀ a b : List Tok, wide (a ++ b) = wide a + wide b
  | [], b => by simp [wide]
  | t :: a, b => by rw [List.cons_append, wide, wide, wide_append a b]; omega
theorem sp_wide (n : Int) : ∀ ts : List Tok, (sp (lin n ts)).length = wide ts
  | [] => rfl
  | t :: ts => by
    have := sp_wide n ts
    rw [wide, ← this]
    show (32 :: t.text ++ sp (lin n ts)).length = _
    simp
    omega
theorem join_wide (n : Int) (ts : List Tok) : (joinW (lin n ts)).length ≤ wide ts := by
  cases ts with
  | nil => simp [lin, joinW]
  | cons t ts =>
    show (joinW (⟨t.kind, t.text, n⟩ :: lin n ts)).length ≤ _
    rw [joinW_cons, List.length_append, sp_wide, wide]
    show t.text.length + _ ≤ _
    omega
theorem rows_wide : ∀ (toks cur : List Tok) (b : Bool), Okk b toks → (docB ((rowsG cur toks).map fun r => lin 0 r.2)).length ≤ wide cur + (jn toks).length
  | [], cur, b, _ => by simp [rowsG, docB]
  | t :: toks, cur, b, h => by
    rw [rowsG]
    rcases h with ⟨hg, ho⟩ | ⟨hb, hk, ht, ho⟩
    · have hne : ¬ t.kind = 3 := by have := hg.1; omega
      have ih := rows_wide toks (cur ++ [t]) true ho
      have hj : (jn (t :: toks)).length = t.text.length + 1 + (jn toks).length := by rw [jn, jn1, if_neg hne]; simp; omega
      rw [if_neg hne, hj]
      rw [wide_append] at ih
      simp only [wide] at ih
      omega
    · have ih := rows_wide toks [] false ho
      have hj : (jn (t :: toks)).length = 1 + (jn toks).length := by rw [jn, jn1, if_pos hk]; simp; omega
      have := join_wide 0 cur
      rw [if_pos hk, hj, List.map_cons, docB]
      simp only [List.length_append, List.length_cons]
      simp only [wide] at ih
      omega
theorem parse_inv (X : List Int) (hX : X.length ≤ 65536) (f : FileS) (l e : Int) (h : parseP X = (f, l, e)) :
    (f = zeroF ∧ 0 ≤ l ∧ ¬ e = 0) ∨ (l = 0 ∧ e = 0 ∧ GoodF f ∧ f.tasks.length ≤ 64 ∧ f.ops.length ≤ 4096 ∧ (docB (words f)).length ≤ 2 * X.length + 1) := by
  unfold parseP at h
  rcases lexF_inv X hX with ⟨n, hn, hlex⟩ | ⟨toks, hlex, ho, hlen⟩
  · rw [hlex] at h
    simp only [Prod.mk.injEq] at h
    obtain ⟨rfl, rfl, rfl⟩ := h
    exact .inl ⟨rfl, by omega, by decide⟩
  · have hline : ∀ t ∈ toks, 1 ≤ t.line := by
      have e1 := hlex
      rw [lexF_eq, if_neg (by omega)] at e1
      rcases refG_line X [] 1 [] (by omega) (by simp) with ⟨k, _, _, h1⟩ | ⟨toks', h1, h2⟩
      · rw [e1] at h1
        simp only [Prod.mk.injEq] at h1
        exact absurd h1.2.2 (by decide)
      · rw [e1] at h1
        simp only [Prod.mk.injEq] at h1
        obtain ⟨rfl, _⟩ := h1
        exact fun t ht => (h2 t ht).1
    rw [hlex] at h
    simp only [if_true] at h
    have hok : RowsOk (rowsF toks) := rows_ok toks [] false ho (by simp) hline
    have hw := rows_wide toks [] false ho
    simp only [wide] at hw
    split at h
    · simp only [Prod.mk.injEq] at h
      obtain ⟨rfl, rfl, rfl⟩ := h
      exact .inl ⟨rfl, by omega, by decide⟩
    · cases hr : rowsF toks with
      | nil => rename_i hne; rw [hr] at hne; exact absurd rfl hne
      | cons r rows =>
        obtain ⟨n, ts0⟩ := r
        rw [hr] at h hok
        have hw' : (docB (((n, ts0) :: rows).map fun r => lin 0 r.2)).length ≤ 0 + (jn toks).length := by rw [← hr]; exact hw
        have h0 := hok (n, ts0) (by simp)
        have hr' : RowsOk rows := fun x hx => hok x (List.mem_cons_of_mem _ hx)
        rw [runP] at h
        cases hk : takesP zeroF true ts0 with
        | bad e' =>
          rw [hk] at h
          simp only [Prod.mk.injEq] at h
          obtain ⟨rfl, rfl, rfl⟩ := h
          exact .inl ⟨rfl, h0.1, takes_bad hk⟩
        | ok st' =>
          rw [hk] at h
          simp only at h
          obtain ⟨vs, v1, v2, v3, rfl⟩ := take_first_inv hk h0.2
          rcases run_inv rows _ f l e h hr' with ⟨h1, h2, h3⟩ | ⟨hl, he, ts, os, h1, h2, h3, h4, h5, h6, h7⟩
          · exact .inl ⟨h1, h2, h3⟩
          · right
            have hf : f = ⟨vs, ts, os⟩ := by rw [h1]; simp [zeroF]
            subst hf
            have hwords : ((n, ts0) :: rows).map (fun r => lin 0 r.2) = words ⟨vs, ts, os⟩ := by
              rw [List.map_cons, h4, v3]
              rfl
            rw [hwords] at hw'
            exact ⟨hl, he, ⟨v1, v2, h2, h3⟩, h6 (by simp [zeroF]), h7 (by simp [zeroF]), by omega⟩
end Go.Proofs.YtegbfimfpkendaaDoor.PbE
