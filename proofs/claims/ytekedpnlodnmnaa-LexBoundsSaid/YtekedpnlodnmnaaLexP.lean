/- Plain lemmas on the lexer's answer. No condition. -/
import Derived.Test.YtekedpnlodnmnaaLexSpec
namespace Go.Proofs.Ytekedpnlodnmnaa.LexP
open LexS
theorem dropWhile_all {α : Type} (p : α → Bool) : ∀ l : List α, (∀ x ∈ l, p x = true) → l.dropWhile p = []
  | [], _ => rfl
  | c :: cs, h => by rw [List.dropWhile_cons_of_pos (h c (by simp))]; exact dropWhile_all p cs fun x hx => h x (by simp [hx])
theorem takeWhile_all {α : Type} (p : α → Bool) : ∀ l : List α, (∀ x ∈ l, p x = true) → l.takeWhile p = l
  | [], _ => rfl
  | c :: cs, h => by rw [List.takeWhile_cons_of_pos (h c (by simp)), takeWhile_all p cs fun x hx => h x (by simp [hx])]
theorem lexB_blanks : ∀ (m n : Nat) (line : Int) (begun : Bool) (acc : List Tok), m < n → lexB n (List.replicate m 32) line begun acc = (endOf line begun acc, 0, 0)
  | 0, n + 1, _, _, _, _ => rfl
  | m + 1, n + 1, line, begun, acc, h => by
    rw [List.replicate_succ, lexB, if_pos (by decide)]
    exact lexB_blanks m n line begun acc (by omega)
theorem lexF_blanks (n : Nat) (h : n ≤ 65536) : lexF (List.replicate n 32) = ([], 0, 0) := by
  unfold lexF
  rw [List.length_replicate, if_neg (by omega), lexB_blanks n (n + 1) 1 false [] (by omega)]
  rfl
theorem lexF_word (n : Nat) (h0 : 0 < n) (h : n ≤ 65536) : lexF (List.replicate n 120) = ([⟨1, List.replicate n 120, 1⟩, ⟨3, [], 1⟩], 0, 0) := by
  unfold lexF
  rw [List.length_replicate, if_neg (by omega)]
  obtain ⟨m, rfl⟩ : ∃ m, n = m + 1 := ⟨n - 1, by omega⟩
  have hall : ∀ x ∈ List.replicate (m + 1) (120 : Int), isK 2 x = true := fun x hx => by
    rw [(List.mem_replicate.1 hx).2]
    decide
  have e1 := dropWhile_all (isK 2) _ hall
  have e2 := takeWhile_all (isK 2) _ hall
  rw [List.replicate_succ] at e1 e2 ⊢
  rw [lexB, if_neg (by decide), if_pos (by decide), e1, e2, if_neg (by decide)]
  rfl
end Go.Proofs.Ytekedpnlodnmnaa.LexP
