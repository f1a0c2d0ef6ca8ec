/- Plain lemmas: what the tokens of a text are like; written with one blank behind each they are read as they are. No condition. -/
import Derived.Test.YtckcepmkfegkiaaDoorLexQ
namespace Go.Proofs.YtckcepmkfegkiaaDoor.LexT
open LexS LexR LexQ
def Good (t : Tok) : Prop := (t.kind = 1 ∨ t.kind = 2) ∧ t.text ≠ [] ∧ ∀ c ∈ t.text, kR c = t.kind
def Okk : Bool → List Tok → Prop
  | b, [] => b = false
  | b, t :: ts => (Good t ∧ Okk true ts) ∨ (b = true ∧ t.kind = 3 ∧ t.text = [] ∧ Okk false ts)
theorem Okk.append : ∀ (l : List Tok) (b : Bool) (l' : List Tok), Okk b l → Okk false l' → Okk b (l ++ l')
  | [], b, l', h, h' => by
    have hb : b = false := h
    rw [hb]; exact h'
  | t :: ts, b, l', h, h' => by
    rcases h with ⟨h1, h2⟩ | ⟨h1, h2, h3, h4⟩
    · exact .inl ⟨h1, Okk.append ts true l' h2 h'⟩
    · exact .inr ⟨h1, h2, h3, Okk.append ts false l' h4 h'⟩
theorem okk_row (line : Int) : ∀ (row : List Tok) (b : Bool), (∀ t ∈ row, Good t) → (b = true ∨ row ≠ []) → Okk b (row ++ [⟨3, [], line⟩])
  | [], b, _, hb => by
    rcases hb with hb | hb
    · exact .inr ⟨hb, rfl, rfl, rfl⟩
    · exact absurd rfl hb
  | t :: ts, b, h, _ => .inl ⟨h t (by simp), okk_row line ts true (fun x hx => h x (by simp [hx])) (.inl rfl)⟩
def jn1 (t : Tok) : List Int := if t.kind = 3 then [10] else t.text ++ [32]
def jn : List Tok → List Int
  | [] => []
  | t :: ts => jn1 t ++ jn ts
theorem jn_append : ∀ a b : List Tok, jn (a ++ b) = jn a ++ jn b
  | [], _ => rfl
  | t :: ts, b => by rw [List.cons_append, jn, jn, jn_append ts b, List.append_assoc]
def Inv (toks : List Tok) (was : Int) : Prop := (∀ t ∈ toks, Good t) ∧ (was = 1 ∨ was = 2 ∨ was = 3) ∧ (was ≠ 3 → ∃ l t, toks = l ++ [t] ∧ t.kind = was)
theorem kR_cases (c : Int) : kR c = 0 ∨ kR c = 1 ∨ kR c = 2 ∨ kR c = 3 := by
  unfold kR
  (repeat' split) <;> omega
theorem stepR_inv {line : Int} {toks toks' : List Tok} {was was' c : Int} (h : Inv toks was) (hs : stepR line toks was c = some (toks', was')) : Inv toks' was' ∧ (jn toks').length ≤ (jn toks).length + 2 := by
  obtain ⟨hg, hw, hl⟩ := h
  unfold stepR at hs
  split at hs
  · cases hs
  · rename_i h0
    split at hs
    · cases hs
      exact ⟨⟨hg, by omega, fun hn => absurd rfl hn⟩, by omega⟩
    · rename_i h3
      have hk : kR c = 1 ∨ kR c = 2 := by
        have := kR_cases c
        omega
      split at hs
      · rename_i he
        simp only [Option.some.injEq, Prod.mk.injEq] at hs
        obtain ⟨rfl, rfl⟩ := hs
        obtain ⟨l, t, rfl, ht⟩ := hl (by omega)
        rw [addLast_snoc]
        have hgt := hg t (by simp)
        have hk3 : kR c = 1 ∨ kR c = 2 ∨ kR c = 3 := hk.elim .inl fun h => .inr (.inl h)
        clear hl
        refine ⟨⟨?_, hk3, fun _ => ⟨l, _, rfl, ht.trans he.symm⟩⟩, ?_⟩
        · intro x hx
          rcases List.mem_append.1 hx with hx | hx
          · exact hg x (by simp [hx])
          · rw [List.mem_singleton.1 hx]
            refine ⟨hgt.1, by simp, fun y hy => ?_⟩
            rcases List.mem_append.1 hy with hy | hy
            · exact hgt.2.2 y hy
            · rw [List.mem_singleton.1 hy]
              exact he.trans ht.symm
        · have hne : ¬ t.kind = 3 := by
            have := hgt.1
            omega
          rw [jn_append, jn_append]
          simp [jn, jn1, hne]
          omega
      · simp only [Option.some.injEq, Prod.mk.injEq] at hs
        obtain ⟨rfl, rfl⟩ := hs
        refine ⟨⟨?_, by omega, fun _ => ⟨toks, _, rfl, rfl⟩⟩, ?_⟩
        · intro x hx
          rcases List.mem_append.1 hx with hx | hx
          · exact hg x hx
          · rw [List.mem_singleton.1 hx]
            refine ⟨hk, by simp, fun y hy => ?_⟩
            rw [List.mem_singleton.1 hy]
        · have hne : ¬ kR c = 3 := h3
          rw [jn_append]
          simp [jn, jn1, hne]
theorem runR_inv (line : Int) : ∀ (cs : List Int) (toks toks' : List Tok) (was : Int), Inv toks was → runR line cs toks was = some toks' → (∀ t ∈ toks', Good t) ∧ (jn toks').length ≤ (jn toks).length + 2 * cs.length
  | [], toks, toks', was, h, hr => by
    cases hr
    exact ⟨h.1, by omega⟩
  | c :: cs, toks, toks', was, h, hr => by
    rw [runR] at hr
    obtain ⟨⟨t1, w1⟩, h1, h2⟩ := Option.bind_eq_some_iff.1 hr
    obtain ⟨h3, h4⟩ := stepR_inv h h1
    obtain ⟨h5, h6⟩ := runR_inv line cs t1 toks' w1 h3 h2
    refine ⟨h5, ?_⟩
    simp
    omega
theorem rowR_inv (line : Int) (l : List Int) (ts : List Tok) (h : rowR line l = some ts) : Okk false ts ∧ (jn ts).length ≤ 2 * l.length + 1 := by
  unfold rowR at h
  obtain ⟨toks, h1, rfl⟩ := Option.map_eq_some_iff.1 h
  obtain ⟨h2, h3⟩ := runR_inv line (cutR l) [] toks 3 ⟨by simp, by omega, fun h => absurd rfl h⟩ h1
  have hc : (cutR l).length ≤ l.length := (List.takeWhile_sublist _).length_le
  have hj : (jn ([] : List Tok)).length = 0 := rfl
  unfold shut
  split
  · exact ⟨rfl, by rw [hj]; omega⟩
  · rename_i hne
    refine ⟨okk_row line toks false h2 (.inr hne), ?_⟩
    rw [jn_append]
    simp [jn, jn1]
    omega
theorem refG_inv : ∀ (rest cur : List Int) (line : Int) (out : List Tok), 1 ≤ line → Okk false out →
    (∃ l, 1 ≤ l ∧ refG rest cur line out = ([], l, 2)) ∨ (∃ toks, refG rest cur line out = (toks, 0, 0) ∧ Okk false toks ∧ (jn toks).length ≤ (jn out).length + 2 * (rest.length + cur.length) + 1)
  | [], cur, line, out, h1, ho => by
    rw [refG]
    cases hr : rowR line cur with
    | none => exact .inl ⟨line, h1, rfl⟩
    | some l =>
      obtain ⟨h2, h3⟩ := rowR_inv line cur l hr
      refine .inr ⟨out ++ l, rfl, Okk.append out false l ho h2, ?_⟩
      rw [jn_append]
      simp
      omega
  | c :: cs, cur, line, out, h1, ho => by
    rw [refG]
    split
    · cases hr : rowR line cur with
      | none => exact .inl ⟨line, h1, rfl⟩
      | some l =>
        obtain ⟨h2, h3⟩ := rowR_inv line cur l hr
        rcases refG_inv cs [] (line + 1) (out ++ l) (by omega) (Okk.append out false l ho h2) with h | ⟨toks, h4, h5, h6⟩
        · exact .inl h
        · refine .inr ⟨toks, h4, h5, ?_⟩
          rw [jn_append] at h6
          simp at h6 ⊢
          omega
    · rcases refG_inv cs (cur ++ [c]) line out h1 ho with h | ⟨toks, h4, h5, h6⟩
      · exact .inl h
      · refine .inr ⟨toks, h4, h5, ?_⟩
        simp at h6 ⊢
        omega
theorem lexF_inv (X : List Int) (h : X.length ≤ 65536) : (∃ l, 1 ≤ l ∧ lexF X = ([], l, 2)) ∨ (∃ toks, lexF X = (toks, 0, 0) ∧ Okk false toks ∧ (jn toks).length ≤ 2 * X.length + 1) := by
  rw [lexF_eq, if_neg (by omega)]
  rcases refG_inv X [] 1 [] (by omega) rfl with h | ⟨toks, h1, h2, h3⟩
  · exact .inl h
  · exact .inr ⟨toks, h1, h2, by simp [jn] at h3; omega⟩
end Go.Proofs.YtckcepmkfegkiaaDoor.LexT
