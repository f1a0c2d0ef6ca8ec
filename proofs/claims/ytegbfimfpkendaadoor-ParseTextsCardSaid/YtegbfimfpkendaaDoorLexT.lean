/- Plain lemmas: what the tokens of a text are like; written with one blank behind each they are read as they are. No condition. -/
import Derived.Test.YtegbfimfpkendaaDoorLexQ
namespace Go.Proofs.YtegbfimfpkendaaDoor.LexT
open LexS LexR LexQ
def Good (t : Tok) : Prop := (t.kind = 1 ∨ t.kind = 2) ∧ t.text ≠ [] ∧ ∀ c ∈ t.text, kR c = t.kind
def Okk : Bool → List Tok → Prop
  | b, [] => b = false
  | b, t :: ts => (Good t ∧ Okk true ts) ∨ (b = true ∧ t.kind = 3 ∧ t.text = [] ∧ Okk false ts)
theorem Okk.append : ∀ (l : List Tok) (b : Bool) (l' : List Tok), Okk b l → Okk false l' → Okk b (l ++ l')
  | [], b, l', h, h' => by
    have hb : b = false := h
    rw [hb]; exact h'
  | t :: ts, b, l', h, h' => by
    rcases h with ⟨h1, h2⟩ | ⟨h1, h2, h3, h4⟩
    · exact .inl ⟨h1, Okk.append ts true l' h2 h'⟩
    · exact .inr ⟨h1, h2, h3, Okk.append ts false l' h4 h'⟩
theorem okk_row (line : Int) : ∀ (row : List Tok) (b : Bool), (∀ t ∈ row, Good t) → (b = true ∨ row ≠ []) → Okk b (row ++ [⟨3, [], line⟩])
  | [], b, _, hb => by
    rcases hb with hb | hb
    · exact .inr ⟨hb, rfl, rfl, rfl⟩
    · exact absurd rfl hb
  | t :: ts, b, h, _ => .inl ⟨h t (by simp), okk_row line ts true (fun x hx => h x (by simp [hx])) (.inl rfl)⟩
def jn1 (t : Tok) : List Int := if t.kind = 3 then [10] else t.text ++ [32]
def jn : List Tok → List Int
  | [] => []
  | t :: ts => jn1 t ++ jn ts
theorem jn_append : ∀ a b : List Tok, jn (a ++ b) = jn a ++ jn b
  | [], _ => rfl
  | t :: ts, b => by rw [List.cons_append, jn, jn, jn_append ts b, List.append_assoc]
def Inv (toks : List Tok) (was : Int) : Prop := (∀ t ∈ toks, Good t) ∧ (was = 1 ∨ was = 2 ∨ was = 3) ∧ (was ≠ 3 → ∃ l t, toks = l ++ [t] ∧ t.kind = was)
theorem kR_cases (c : Int) : kR c = 0 ∨ kR c = 1 ∨ kR c = 2 ∨ kR c = 3 := by
  unfold kR
  (repeat' split) <;> omega
theorem stepR_inv {line : Int} {toks toks' : List Tok} {was was' c : Int} (h : Inv toks was) (hs : stepR line toks was c = some (toks', was')) : Inv toks' was' ∧ (jn toks').length ≤ (jn toks).length + 2 := by
  obtain ⟨hg, hw, hl⟩ := h
  unfold stepR at hs
  split at hs
  · cases hs
  · rename_i h0
    split at hs
    · cases hs
      exact ⟨⟨hg, by omega, fun hn => absurd rfl hn⟩, by omega⟩
    · rename_i h3
      have hk : kR c = 1 ∨ kR c = 2 := by
        have := kR_cases c
        omega
      split at hs
      · rename_i he
        simp only [Option.some.injEq, Prod.mk.injEq] at hs
        obtain ⟨rfl, rfl⟩ := hs
        obtain ⟨l, t, rfl, ht⟩ := hl (by omega)
        rw [addLast_snoc]
        have hgt := hg t (by simp)
        have hk3 : kR c = 1 ∨ kR c = 2 ∨ kR c = 3 := hk.elim .inl fun h => .inr (.inl h)
        clear hl
        refine ⟨⟨?_, hk3, fun _ => ⟨l, _, rfl, ht.trans he.symm⟩⟩, ?_⟩
        · intro x hx
          rcases List.mem_append.1 hx with hx | hx
          · exact hg x (by simp [hx])
          · rw [List.mem_singleton.1 hx]
            refine ⟨hgt.1, by simp, fun y hy => ?_⟩
            rcases List.mem_append.1 hy with hy | hy
            · exact hgt.2.2 y hy
            · rw [List.mem_singleton.1 hy]
              exact he.trans ht.symm
        · have hne : ¬ t.kind = 3 := by
            have := hgt.1
            omega
          rw [jn_append, jn_append]
          simp [jn, jn1, hne]
          omega
      · simp only [Option.some.injEq, Prod.mk.injEq] at hs
        obtain ⟨rfl, rfl⟩ := hs
        refine ⟨⟨?_, by omega, fun _ => ⟨toks, _, rfl, rfl⟩⟩, ?_⟩
        · intro x hx
          rcases List.mem_append.1 hx with hx | hx
          · exact hg x hx
          · rw [List.mem_singleton.1 hx]
            refine ⟨hk, by simp, fun y hy => ?_⟩
            rw [List.mem_singleton.1 hy]
        · have hne : ¬ kR c = 3 := h3
          rw [jn_append]
          simp [jn, jn1, hne]
theorem runR_inv (line : Int) : ∀ (cs : List Int) (toks toks' : List Tok) (was : Int), Inv toks was → runR line cs toks was = some toks' → (∀ t ∈ toks', Good t) ∧ (jn toks').length ≤ (jn toks).length + 2 * cs.length
  | [], toks, toks', was, h, hr => by
    cases hr
    exact ⟨h.1, by omega⟩
  | c :: cs, toks, toks', was, h, hr => by
    rw [runR] at hr
    obtain ⟨⟨t1, w1⟩, h1, h2⟩ := Option.bind_eq_some_iff.1 hr
    obtain ⟨h3, h4⟩ := stepR_inv h h1
    obtain ⟨h5, h6⟩ := runR_inv line cs t1 toks' w1 h3 h2
    refine ⟨h5, ?_⟩
    simp
    omega
theorem rowR_inv (line : Int) (l : List Int) (ts : List Tok) (h : rowR line l = some ts) : Okk false ts ∧ (jn ts).length ≤ 2 * l.length + 1 := by
  unfold rowR at h
  obtain ⟨toks, h1, rfl⟩ := Option.map_eq_some_iff.1 h
  obtain ⟨h2, h3⟩ := runR_inv line (cutR l) [] toks 3 ⟨by simp, by omega, fun h => absurd rfl h⟩ h1
  have hc : (cutR l).length ≤ l.length := (List.takeWhile_sublist _).length_le
  have hj : (jn ([] : List Tok)).length = 0 := rfl
  unfold shut
  split
  · exact ⟨rfl, by rw [hj]; omega⟩
  · rename_i hne
    refine ⟨okk_row line toks false h2 (.inr hne), ?_⟩
    rw [jn_append]
    simp [jn, jn1]
    omega
theorem refG_inv : ∀ (rest cur : List Int) (line : Int) (out : List Tok), 1 ≤ line → Okk false out →
    (∃ l, 1 ≤ l ∧ refG rest cur line out = ([], l, 2)) ∨ (∃ toks, refG rest cur line out = (toks, 0, 0) ∧ Okk false toks ∧ (jn toks).length ≤ (jn out).length + 2 * (rest.length + cur.length) + 1)
  | [], cur, line, out, h1, ho => by
    rw [refG]
    cases hr : rowR line cur with
    | none => exact .inl ⟨line, h1, rfl⟩
    | some l =>
      obtain ⟨h2, h3⟩ := rowR_inv line cur l hr
      refine .inr ⟨out ++ l, rfl, Okk.append out false l ho h2, ?_⟩
      rw [jn_append]
      simp
      omega
  | c :: cs, cur, line, out, h1, ho => by
    rw [refG]
    split
    · cases hr : rowR line cur with
      | none => exact .inl ⟨line, h1, rfl⟩
      | some l =>
        obtain ⟨h2, h3⟩ := rowR_inv line cur l hr
        rcases refG_inv cs [] (line + 1) (out ++ l) (by omega) (Okk.append out false l ho h2) with h | ⟨toks, h4, h5, h6⟩
        · exact .inl h
        · refine .inr ⟨toks, h4, h5, ?_⟩
          rw [jn_append] at h6
          simp at h6 ⊢
          omega
    · rcases refG_inv cs (cur ++ [c]) line out h1 ho with h | ⟨toks, h4, h5, h6⟩
      · exact .inl h
      · refine .inr ⟨toks, h4, h5, ?_⟩
        simp at h6 ⊢
        omega
theorem lexF_inv (X : List Int) (h : X.length ≤ 65536) : (∃ l, 1 ≤ l ∧ lexF X = ([], l, 2)) ∨ (∃ toks, lexF X = (toks, 0, 0) ∧ Okk false toks ∧ (jn toks).length ≤ 2 * X.length + 1) := by
  rw [lexF_eq, if_neg (by omega)]
  rcases refG_inv X [] 1 [] (by omega) rfl with h | ⟨toks, h1, h2, h3⟩
  · exact .inl h
  · exact .inr ⟨toks, h1, h2, by simp [jn] at h3; omega⟩
def relin : List Tok → Int → List Tok
  | [], _ => []
  | t :: ts, n => ⟨t.kind, t.text, n⟩ :: relin ts (if t.kind = 3 then n + 1 else n)
theorem kR_byte {c : Int} (h : kR c = 1 ∨ kR c = 2) : 0 ≤ c ∧ c ≤ 255 ∧ c ≠ 10 ∧ c ≠ 35 := by
  unfold kR at h
  split at h
  · omega
  · split at h
    · omega
    · split at h <;> omega
theorem runR_tok (line : Int) (rest : List Int) (acc : List Tok) (t : Tok) (h : Good t) : runR line ((t.text ++ [32]) ++ rest) acc 3 = runR line rest (acc ++ [⟨t.kind, t.text, line⟩]) 3 := by
  obtain ⟨hk, hne, hc⟩ := h
  obtain ⟨k, text, l⟩ := t
  simp only at hk hne hc ⊢
  cases text with
  | nil => exact absurd rfl hne
  | cons c cs =>
    have hkc := hc c (by simp)
    have hs : stepR line acc 3 c = some (acc ++ [⟨k, [c], line⟩], k) := by
      unfold stepR
      rw [hkc, if_neg (by omega), if_neg (by omega), if_neg (by omega)]
    rw [List.append_assoc, List.cons_append, runR, hs, Option.bind_some]
    show runR line (cs ++ ([32] ++ rest)) (acc ++ [⟨k, [c], line⟩]) k = _
    rw [runR_run line k hk ([32] ++ rest) cs (fun x hx => hc x (by simp [hx])) acc ⟨k, [c], line⟩, List.cons_append, runR]
    have h32 : stepR line (acc ++ [⟨k, [c] ++ cs, line⟩]) k 32 = some (acc ++ [⟨k, [c] ++ cs, line⟩], 3) := by
      unfold stepR
      have : kR 32 = 3 := by decide
      rw [this, if_neg (by omega), if_pos rfl]
    rw [h32]
    rfl
theorem cutR_all (l : List Int) (h : ∀ c ∈ l, c ≠ 35) : cutR l = l := LexP_takeWhile l h
where LexP_takeWhile : ∀ l : List Int, (∀ c ∈ l, c ≠ 35) → cutR l = l
  | [], _ => rfl
  | c :: cs, h => by rw [cutR_cons (h c (by simp)), LexP_takeWhile cs fun x hx => h x (by simp [hx])]
theorem refG_jn : ∀ (toks : List Tok) (b : Bool), Okk b toks → ∀ (cur : List Int) (row : List Tok) (line : Int) (out : List Tok), (∀ c ∈ cur, c ≠ 35) → (b = true ↔ row ≠ []) → (∀ x, runR line (cur ++ x) [] 3 = runR line x row 3) →
    refG (jn toks) cur line out = (out ++ row ++ relin toks line, 0, 0)
  | [], b, h, cur, row, line, out, hc, hb, hr => by
    have hb0 : b = false := h
    have hrow : row = [] := by
      cases row with
      | nil => rfl
      | cons x xs => rw [hb0] at hb; exact absurd (hb.2 (by simp)) (by simp)
    have h1 := hr []
    rw [List.append_nil, hrow] at h1
    have h2 : rowR line cur = some [] := by
      unfold rowR
      rw [cutR_all cur hc, h1]
      rfl
    rw [jn, refG, h2, hrow]
    simp [relin]
  | t :: ts, b, h, cur, row, line, out, hc, hb, hr => by
    rcases h with ⟨hg, ho⟩ | ⟨hb1, hk, ht, ho⟩
    · have hne : ¬ t.kind = 3 := by have := hg.1; omega
      have hj : jn (t :: ts) = (t.text ++ [32]) ++ jn ts := by rw [jn, jn1, if_neg hne]
      have h35 : ∀ c ∈ t.text ++ [32], c ≠ 35 ∧ c ≠ 10 := by
        intro c hcm
        rcases List.mem_append.1 hcm with hm | hm
        · have h1 := hg.2.2 c hm
          have := kR_byte (by rw [h1]; exact hg.1)
          exact ⟨this.2.2.2, this.2.2.1⟩
        · rw [List.mem_singleton.1 hm]; decide
      rw [hj, refG_seg (jn ts) line out (t.text ++ [32]) cur (fun c hcm => (h35 c hcm).2), refG_jn ts true ho (cur ++ (t.text ++ [32])) (row ++ [⟨t.kind, t.text, line⟩]) line out ?_ (by simp) ?_]
      · rw [relin, if_neg hne]
        simp
      · intro c hcm
        rcases List.mem_append.1 hcm with hm | hm
        · exact hc c hm
        · exact (h35 c hm).1
      · intro x
        rw [List.append_assoc, hr, runR_tok line x row t hg]
    · have hj : jn (t :: ts) = 10 :: jn ts := by rw [jn, jn1, if_pos hk]; rfl
      have h1 := hr []
      rw [List.append_nil] at h1
      have h2 : rowR line cur = some (row ++ [⟨3, [], line⟩]) := by
        unfold rowR
        rw [cutR_all cur hc, h1]
        have := hb.1 hb1
        simp [runR, shut, this]
      rw [hj, refG, if_pos rfl, h2]
      show refG (jn ts) [] (line + 1) (out ++ (row ++ [⟨3, [], line⟩])) = _
      rw [refG_jn ts false ho [] [] (line + 1) _ (by simp) (by simp) (fun x => rfl), relin, if_pos hk, hk, ht]
      simp
theorem lexF_jn (toks : List Tok) (h : Okk false toks) (hl : (jn toks).length ≤ 65536) : lexF (jn toks) = (relin toks 1, 0, 0) := by
  rw [lexF_eq, if_neg (by omega), refG_jn toks false h [] [] 1 [] (by simp) (by simp) (fun x => rfl)]
  rfl
theorem relin_length : ∀ (toks : List Tok) (n : Int), (relin toks n).length = toks.length
  | [], _ => rfl
  | t :: ts, n => by rw [relin, List.length_cons, List.length_cons, relin_length ts]
theorem jn_length : ∀ toks : List Tok, toks.length ≤ (jn toks).length
  | [] => by simp [jn]
  | t :: ts => by
    have := jn_length ts
    have h1 : 1 ≤ (jn1 t).length := by unfold jn1; split <;> simp
    rw [jn, List.length_append, List.length_cons]
    omega
end Go.Proofs.YtegbfimfpkendaaDoor.LexT
