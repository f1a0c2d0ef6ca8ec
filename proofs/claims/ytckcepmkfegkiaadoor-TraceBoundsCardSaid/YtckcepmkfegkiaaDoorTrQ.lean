/- Plain: what Parse answers; rows of tokens. No condition. -/
import Derived.Test.YtckcepmkfegkiaaDoorTrV
import Derived.Test.YtckcepmkfegkiaaDoorLexT
namespace Go.Proofs.YtckcepmkfegkiaaDoor.TrQ
open LexS LexT TrS TrP TrV
def rowsF : Nat → List Tok → List Ev → List Ev × Int
  | 0, _, out => (out, 0)
  | n + 1, l, out => if l.length = 0 then (out, 0) else if (eventF (l.take (endAt l 0).toNat)).2 = 0 then rowsF n (l.drop ((endAt l 0).toNat + 1)) (out ++ [(eventF (l.take (endAt l 0).toNat)).1]) else ([], (eventF (l.take (endAt l 0).toNat)).2)
theorem rowsF_nil (n : Nat) (l : List Tok) (out : List Ev) (h : l.length = 0) : rowsF n l out = (out, 0) := by
  cases n with
  | zero => rfl
  | succ n => rw [rowsF, if_pos h]
theorem rowsF_ok (n : Nat) (l row rest : List Tok) (out : List Ev) (k : Nat) (e : Ev) (h : l.length ≠ 0) (hk : endAt l 0 = k) (hrow : l.take k = row) (hrest : l.drop (k + 1) = rest) (he : eventF row = (e, 0)) : rowsF (n + 1) l out = rowsF n rest (out ++ [e]) := by
  rw [rowsF, if_neg h, hk, Int.toNat_natCast, hrow, he, hrest, if_pos rfl]
theorem rowsF_bad (n : Nat) (l row : List Tok) (out : List Ev) (k : Nat) (e : Ev) (r : Int) (h : l.length ≠ 0) (hk : endAt l 0 = k) (hrow : l.take k = row) (he : eventF row = (e, r)) (hr : r ≠ 0) : rowsF (n + 1) l out = ([], r) := by
  rw [rowsF, if_neg h, hk, Int.toNat_natCast, hrow, he, if_neg hr]
def parseT (bs : List Int) : List Ev × Int := if (lexF bs).2.2 = 0 then rowsF (lexF bs).1.length (lexF bs).1 [] else ([], (lexF bs).2.2)
theorem okk_end : ∀ (l : List Tok) (b : Bool) (i : Int), Okk b l → (b = true ∨ l ≠ []) → ∃ k : Nat, endAt l i = i + k ∧ k < l.length ∧ Okk false (l.drop (k + 1)) ∧ (b = false → 1 ≤ k)
  | [], b, i, h, hb => by
    have h' : b = false := h
    subst h'
    rcases hb with hb | hb
    · cases hb
    · exact absurd rfl hb
  | t :: ts, b, i, h, hb => by
    rcases h with ⟨h1, h2⟩ | ⟨h1, h2, h3, h4⟩
    · have hk : ¬ t.kind = 3 := by have := h1.1; omega
      obtain ⟨k, e1, e2, e3, e4⟩ := okk_end ts true (i + 1) h2 (.inl rfl)
      refine ⟨k + 1, ?_, ?_, ?_, fun _ => by omega⟩
      · rw [endAt, if_neg hk, e1]; omega
      · simp; omega
      · simpa using e3
    · refine ⟨0, ?_, ?_, ?_, fun hf => ?_⟩
      · rw [endAt, if_pos h2]; omega
      · simp
      · simpa using h4
      · rw [h1] at hf; cases hf
theorem okk_text : ∀ (l : List Tok) (b : Bool), Okk b l → ∀ x ∈ l, x.text.length ≤ (jn l).length
  | [], _, _, _, hx => by cases hx
  | t :: ts, b, h, x, hx => by
    have hj : (jn (t :: ts)).length = (jn1 t).length + (jn ts).length := by rw [jn, List.length_append]
    have ht : t.text.length ≤ (jn1 t).length ∧ ∃ b', Okk b' ts := by
      rcases h with ⟨h1, h2⟩ | ⟨h1, h2, h3, h4⟩
      · refine ⟨?_, true, h2⟩
        unfold jn1
        split
        · have := h1.1; omega
        · simp
      · exact ⟨by rw [h3]; exact Nat.zero_le _, false, h4⟩
    obtain ⟨ht, b', hb'⟩ := ht
    rcases List.mem_cons.1 hx with rfl | hx
    · omega
    · have := okk_text ts b' hb' x hx
      omega
theorem okk_row1 (l : List Tok) (h : Okk false l) (hl : l.length ≠ 0) : ∃ (k : Nat) (t : Tok) (ts rest : List Tok), endAt l 0 = k ∧ l.take k = t :: ts ∧ ts.length + 1 = k ∧ l.drop (k + 1) = rest ∧ Okk false rest ∧ rest.length + k + 1 = l.length := by
  obtain ⟨k, h1, h2, h3, h4⟩ := okk_end l false 0 h (.inr (by intro he; rw [he] at hl; exact hl rfl))
  have hk := h4 rfl
  cases hr : l.take k with
  | nil =>
    have := congrArg List.length hr
    rw [List.length_take, List.length_nil] at this
    omega
  | cons t ts =>
    have := congrArg List.length hr
    rw [List.length_take, List.length_cons] at this
    exact ⟨k, t, ts, _, by omega, hr, by omega, rfl, h3, by rw [List.length_drop]; omega⟩
end Go.Proofs.YtckcepmkfegkiaaDoor.TrQ
