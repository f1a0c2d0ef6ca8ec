/- Plain lemmas: a text made of lines of words is read as these lines of words. No condition. -/
import Derived.Test.YtegbfimfpkendaaDoorPaX
import Derived.Test.YtegbfimfpkendaaDoorLexT
namespace Go.Proofs.YtegbfimfpkendaaDoor.PaY
open LexS LexR LexQ LexT PaJ PaL
set_option linter.unusedVariables false
set_option linter.unusedSimpArgs false
def joinW : List Tok → List Int
  | [] => []
  | [t] => t.text
  | t :: u :: ts => (t.text ++ [32]) ++ joinW (u :: ts)
def lin (n : Int) (ts : List Tok) : List Tok := ts.map fun t => ⟨t.kind, t.text, n⟩
theorem runR_last (line : Int) (acc : List Tok) (t : Tok) (h : LexT.Good t) : runR line t.text acc 3 = some (acc ++ [⟨t.kind, t.text, line⟩]) := by
  obtain ⟨hk, hne, hc⟩ := h
  obtain ⟨k, text, l⟩ := t
  simp only at hk hne hc ⊢
  cases text with
  | nil => exact absurd rfl hne
  | cons c cs =>
    have hkc := hc c (by simp)
    have hs : stepR line acc 3 c = some (acc ++ [⟨k, [c], line⟩], k) := by
      unfold stepR
      rw [hkc, if_neg (by omega), if_neg (by omega), if_neg (by omega)]
    rw [runR, hs, Option.bind_some]
    show runR line cs (acc ++ [⟨k, [c], line⟩]) k = _
    have := runR_run line k hk [] cs (fun x hx => hc x (by simp [hx])) acc ⟨k, [c], line⟩
    rw [List.append_nil] at this
    rw [this]
    rfl
theorem run_join (line : Int) : ∀ (ts : List Tok) (acc : List Tok), (∀ t ∈ ts, LexT.Good t) → runR line (joinW ts) acc 3 = some (acc ++ lin line ts)
  | [], acc, _ => by simp [joinW, runR, lin]
  | [t], acc, h => by
    rw [joinW, runR_last line acc t (h t (by simp))]
    rfl
  | t :: u :: ts, acc, h => by
    rw [joinW, runR_tok line _ acc t (h t (by simp)), run_join line (u :: ts) _ (fun x hx => h x (List.mem_cons_of_mem _ hx))]
    simp [lin]
theorem joinW_in : ∀ (ts : List Tok), (∀ t ∈ ts, LexT.Good t) → ∀ c ∈ joinW ts, c ≠ 35 ∧ c ≠ 10 ∧ 0 ≤ c ∧ c ≤ 255
  | [], _, c, hc => by simp [joinW] at hc
  | [t], h, c, hc => by
    have hg := h t (by simp)
    have h1 := hg.2.2 c hc
    have := kR_byte (by rw [h1]; exact hg.1)
    exact ⟨this.2.2.2, this.2.2.1, this.1, this.2.1⟩
  | t :: u :: ts, h, c, hc => by
    rcases List.mem_append.1 hc with hc | hc
    · rcases List.mem_append.1 hc with hc | hc
      · have hg := h t (by simp)
        have h1 := hg.2.2 c hc
        have := kR_byte (by rw [h1]; exact hg.1)
        exact ⟨this.2.2.2, this.2.2.1, this.1, this.2.1⟩
      · rw [List.mem_singleton.1 hc]; decide
    · exact joinW_in (u :: ts) (fun x hx => h x (List.mem_cons_of_mem _ hx)) c hc
theorem row_join (line : Int) (ts : List Tok) (h : ∀ t ∈ ts, LexT.Good t) : rowR line (joinW ts) = some (shut line (lin line ts)) := by
  unfold rowR
  rw [cutR_all _ (fun c hc => (joinW_in ts h c hc).1), run_join line ts [] h]
  rfl
def docB : List (List Tok) → List Int
  | [] => []
  | l :: ls => joinW l ++ 10 :: docB ls
def docT : List (List Tok) → Int → List Tok
  | [], _ => []
  | l :: ls, n => shut n (lin n l) ++ docT ls (n + 1)
theorem docB_append : ∀ a b : List (List Tok), docB (a ++ b) = docB a ++ docB b
  | [], _ => rfl
  | l :: ls, b => by rw [List.cons_append, docB, docB, docB_append ls b]; simp
def GoodD (ls : List (List Tok)) : Prop := ∀ l ∈ ls, ∀ t ∈ l, LexT.Good t
theorem refG_doc (tail : List Int) : ∀ (ls : List (List Tok)) (n : Int) (out : List Tok), GoodD ls → refG (docB ls ++ tail) [] n out = refG tail [] (n + ls.length) (out ++ docT ls n)
  | [], n, out, _ => by simp [docB, docT]
  | l :: ls, n, out, h => by
    have hl := h l (by simp)
    rw [docB, List.append_assoc, refG_seg _ n out (joinW l) [] (fun c hc => (joinW_in l hl c hc).2.1), List.nil_append, List.cons_append, refG, if_pos rfl, row_join n l hl]
    show refG (docB ls ++ tail) [] (n + 1) (out ++ shut n (lin n l)) = _
    rw [refG_doc tail ls (n + 1) _ (fun x hx => h x (List.mem_cons_of_mem _ hx)), docT, List.length_cons]
    congr 1
    · omega
    · simp
theorem refG_end (n : Int) (out : List Tok) (l : List Tok) (hl : ∀ t ∈ l, LexT.Good t) : refG (joinW l) [] n out = (out ++ shut n (lin n l), 0, 0) := by
  have := refG_seg [] n out (joinW l) [] (fun c hc => (joinW_in l hl c hc).2.1)
  rw [List.append_nil, List.nil_append] at this
  rw [this, refG, row_join n l hl]
theorem lex_doc (ls : List (List Tok)) (h : GoodD ls) (hl : (docB ls).length ≤ 65536) : lexF (docB ls) = (docT ls 1, 0, 0) := by
  rw [lexF_eq, if_neg (by omega)]
  have := refG_doc [] ls 1 [] h
  rw [List.append_nil] at this
  rw [this, refG]
  simp [rowR, cutR, runR, shut]
theorem lex_docE (ls : List (List Tok)) (l : List Tok) (h : GoodD ls) (h1 : ∀ t ∈ l, LexT.Good t) (hl : (docB ls ++ joinW l).length ≤ 65536) : lexF (docB ls ++ joinW l) = (docT (ls ++ [l]) 1, 0, 0) := by
  rw [lexF_eq, if_neg (by omega), refG_doc (joinW l) ls 1 [] h, refG_end _ _ l h1]
  have : ∀ (ls : List (List Tok)) (n : Int), docT (ls ++ [l]) n = docT ls n ++ shut (n + ls.length) (lin (n + ls.length) l) := by
    intro ls
    induction ls with
    | nil => intro n; simp [docT]
    | cons a as_ ih =>
      intro n
      have e : n + 1 + (as_.length : Int) = n + ((a :: as_).length : Int) := by rw [List.length_cons]; omega
      rw [List.cons_append, docT, docT, ih, e, List.append_assoc]
  rw [this]
  simp
def num : Int → List (List Tok) → List (Int × List Tok)
  | _, [] => []
  | n, l :: ls => if l = [] then num (n + 1) ls else (n, lin n l) :: num (n + 1) ls
theorem rowsG_line (n : Int) (rest : List Tok) : ∀ (l cur : List Tok), (∀ t ∈ l, ¬ t.kind = 3) → rowsG cur (l ++ ⟨3, [], n⟩ :: rest) = (n, cur ++ l) :: rowsG [] rest
  | [], cur, _ => by simp [rowsG]
  | t :: l, cur, h => by
    rw [List.cons_append, rowsG, if_neg (h t (by simp)), rowsG_line n rest l _ (fun x hx => h x (List.mem_cons_of_mem _ hx))]
    simp
theorem rows_doc : ∀ (ls : List (List Tok)) (n : Int), GoodD ls → rowsF (docT ls n) = num n ls
  | [], n, _ => rfl
  | l :: ls, n, h => by
    have ih := rows_doc ls (n + 1) (fun x hx => h x (List.mem_cons_of_mem _ hx))
    unfold rowsF at ih ⊢
    rw [docT, num]
    by_cases hl : l = []
    · subst hl
      rw [if_pos rfl, ← ih]
      rfl
    · have h2 : shut n (lin n l) = lin n l ++ [⟨3, [], n⟩] := by
        unfold shut
        rw [if_neg (by simpa [lin] using hl)]
      rw [if_neg hl, h2, List.append_assoc]
      show rowsG [] (lin n l ++ ⟨3, [], n⟩ :: docT ls (n + 1)) = _
      rw [rowsG_line n _ (lin n l) [] ?_, ih]
      · rfl
      · intro t ht
        obtain ⟨u, hu, rfl⟩ := List.mem_map.1 ht
        have := (h l (by simp) u hu).1
        simp only
        omega
theorem parse_doc (ls : List (List Tok)) (h : GoodD ls) (hl : (docB ls).length ≤ 65536) (hn : num 1 ls ≠ []) : parseP (docB ls) = runP (num 1 ls) true zeroF := by
  have h1 := lex_doc ls h hl
  have h2 := rows_doc ls 1 h
  unfold parseP
  rw [h1]
  simp only [h2]
  rw [if_pos trivial, if_neg (fun hh => hn (List.length_eq_zero_iff.1 hh))]
theorem parse_docE (ls : List (List Tok)) (l : List Tok) (h : GoodD ls) (h1 : ∀ t ∈ l, LexT.Good t) (hl : (docB ls ++ joinW l).length ≤ 65536) (hn : num 1 (ls ++ [l]) ≠ []) : parseP (docB ls ++ joinW l) = runP (num 1 (ls ++ [l])) true zeroF := by
  have h1' := lex_docE ls l h h1 hl
  have h2 := rows_doc (ls ++ [l]) 1 (fun x hx => by
    rcases List.mem_append.1 hx with hx | hx
    · exact h x hx
    · rw [List.mem_singleton.1 hx]; exact h1)
  unfold parseP
  rw [h1']
  simp only [h2]
  rw [if_pos trivial, if_neg (fun hh => hn (List.length_eq_zero_iff.1 hh))]
theorem num_append : ∀ (a b : List (List Tok)) (n : Int), num n (a ++ b) = num n a ++ num (n + a.length) b
  | [], b, n => by simp [num]
  | l :: a, b, n => by
    have ih := num_append a b (n + 1)
    have e : n + 1 + (a.length : Int) = n + ((l :: a).length : Int) := by rw [List.length_cons]; omega
    rw [List.cons_append, num, num, ih, e]
    split <;> simp
end Go.Proofs.YtegbfimfpkendaaDoor.PaY
