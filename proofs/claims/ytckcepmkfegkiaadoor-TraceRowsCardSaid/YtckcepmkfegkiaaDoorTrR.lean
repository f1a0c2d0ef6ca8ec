/- Plain: what is read of events' lines. No condition. -/
import Derived.Test.YtckcepmkfegkiaaDoorTrQ
import Derived.Test.YtckcepmkfegkiaaDoorNumT
namespace Go.Proofs.YtckcepmkfegkiaaDoor.TrR
open Go.RowKit LexS LexR LexT TrS TrX TrP TrV TrQ NumT NumS
set_option linter.unusedVariables false
set_option linter.unusedSimpArgs false
def I8 (l : List UInt8) : List Int := l.map fun b => (b.toNat : Int)
theorem I8_app (a b : List UInt8) : I8 (a ++ b) = I8 a ++ I8 b := List.map_append
theorem str_I8 (l : List UInt8) : strOfNums (I8 l) = ⟨l.toArray⟩ := by
  unfold strOfNums I8
  congr 2
  rw [List.map_map]
  conv => rhs; rw [← List.map_id l]
  congr 1
  funext b
  simp
/-- A row's tokens, one by one. -/
theorem runR_first (line : Int) (rest : List Int) (acc : List Tok) (k : Int) (hk : k = 1 ∨ k = 2) (c : Int) (cs : List Int) (h : ∀ x ∈ c :: cs, kR x = k) : runR line ((c :: cs) ++ rest) acc 3 = runR line rest (acc ++ [⟨k, c :: cs, line⟩]) k := by
  have hc := h c (.head _)
  have hs : stepR line acc 3 c = some (acc ++ [⟨k, [c], line⟩], k) := by
    unfold stepR
    rw [hc]
    rcases hk with rfl | rfl <;> simp
  rw [List.cons_append, runR, hs, Option.bind_some]
  exact runR_run line k hk rest cs (fun x hx => h x (.tail _ hx)) acc ⟨k, [c], line⟩
theorem runR_last (line : Int) (acc : List Tok) (t : Tok) (h : LexT.Good t) : runR line t.text acc 3 = some (acc ++ [⟨t.kind, t.text, line⟩]) := by
  obtain ⟨h1, h2, h3⟩ := h
  cases ht : t.text with
  | nil => exact absurd ht h2
  | cons c cs =>
    have := runR_first line [] acc t.kind h1 c cs (fun x hx => h3 x (by rw [ht]; exact hx))
    rw [List.append_nil] at this
    rw [this]
    rfl
theorem runR_none (line : Int) : ∀ (l : List Int) (toks : List Tok) (was : Int), (∃ c ∈ l, kR c = 0) → runR line l toks was = none
  | [], _, _, ⟨c, h, _⟩ => by cases h
  | a :: l, toks, was, ⟨c, h, h0⟩ => by
    rw [runR]
    by_cases ha : kR a = 0
    · have : stepR line toks was a = none := by unfold stepR; rw [if_pos (.inl ha)]
      rw [this]
      rfl
    · rcases List.mem_cons.1 h with rfl | h
      · exact absurd h0 ha
      · cases stepR line toks was a with
        | none => rfl
        | some p => exact runR_none line l p.1 p.2 ⟨c, h, h0⟩
theorem row_step (row rest : List Int) (line : Int) (out : List Tok) (h : ∀ c ∈ row, c ≠ 10) : refG (row ++ 10 :: rest) [] line out = match rowR line row with
    | none => ([], line, 2)
    | some l => refG rest [] (line + 1) (out ++ l) := by
  rw [refG_seg (10 :: rest) line out row [] h, List.nil_append, refG, if_pos rfl]
  rfl
/-- A row of five. -/
def toks5 (line : Int) (w a b c d : List Int) : List Tok := [⟨1, w, line⟩, ⟨2, a, line⟩, ⟨2, b, line⟩, ⟨2, c, line⟩, ⟨2, d, line⟩, ⟨3, [], line⟩]
def IsW (w : List Int) : Prop := w ≠ [] ∧ ∀ c ∈ w, kR c = 1
def IsD (w : List Int) : Prop := w ≠ [] ∧ ∀ c ∈ w, kR c = 2
def row5 (w a b c d : List Int) : List Int := (w ++ [32]) ++ ((a ++ [32]) ++ ((b ++ [32]) ++ ((c ++ [32]) ++ d)))
theorem row5_mem {w a b c d : List Int} {x : Int} (h : x ∈ row5 w a b c d) : x = 32 ∨ x ∈ w ∨ x ∈ a ∨ x ∈ b ∨ x ∈ c ∨ x ∈ d := by
  unfold row5 at h
  simp only [List.mem_append, List.mem_singleton] at h
  rcases h with (h | h) | (h | h) | (h | h) | (h | h) | h <;> simp [h]
theorem rowR5 (line : Int) (w a b c d : List Int) (hw : IsW w) (ha : IsD a) (hb : IsD b) (hc : IsD c) (hd : IsD d) : rowR line (row5 w a b c d) = some (toks5 line w a b c d) := by
  have hcut : cutR (row5 w a b c d) = row5 w a b c d := cutR_all _ fun x hx => by
    rcases row5_mem hx with h | h | h | h | h | h
    · rw [h]; decide
    · exact (kR_byte (.inl (hw.2 x h))).2.2.2
    · exact (kR_byte (.inr (ha.2 x h))).2.2.2
    · exact (kR_byte (.inr (hb.2 x h))).2.2.2
    · exact (kR_byte (.inr (hc.2 x h))).2.2.2
    · exact (kR_byte (.inr (hd.2 x h))).2.2.2
  unfold rowR
  rw [hcut]
  unfold row5
  have r1 := fun rest acc => runR_tok line rest acc ⟨1, w, line⟩ ⟨.inl rfl, hw.1, hw.2⟩
  have r2 := fun rest acc => runR_tok line rest acc ⟨2, a, line⟩ ⟨.inr rfl, ha.1, ha.2⟩
  have r3 := fun rest acc => runR_tok line rest acc ⟨2, b, line⟩ ⟨.inr rfl, hb.1, hb.2⟩
  have r4 := fun rest acc => runR_tok line rest acc ⟨2, c, line⟩ ⟨.inr rfl, hc.1, hc.2⟩
  have r5 := fun acc => runR_last line acc ⟨2, d, line⟩ ⟨.inr rfl, hd.1, hd.2⟩
  rw [r1, r2, r3, r4, r5]
  rfl
/-- The bytes of a number, and of a word. -/
theorem dig_IsD (u : Nat) : IsD (I8 (Lib.decDigits u)) := by
  refine ⟨fun h => digits_ne u (List.map_eq_nil_iff.1 h), fun c hc => ?_⟩
  obtain ⟨b, hb, rfl⟩ := List.mem_map.1 hc
  have := digits_dig u b hb
  unfold Dig at this
  unfold kR
  rw [if_neg (by omega), if_pos (by omega)]
theorem itoa_pos (n : Int) (h : 0 ≤ n) : Lib.itoa n = Lib.decDigits n.toNat := by unfold Lib.itoa; rw [if_neg (by omega)]
theorem itoa_neg (n : Int) (h : n < 0) : (45 : UInt8) ∈ Lib.itoa n := by unfold Lib.itoa; rw [if_pos h]; exact .head _
theorem word_IsW (e : Ev) : IsW (I8 (wordOf e)) := by
  obtain ⟨h1, h2⟩ := kindT_lt e
  unfold wordOf
  generalize kindT e = k at h1 h2
  have : k = 0 ∨ k = 1 ∨ k = 2 ∨ k = 3 ∨ k = 4 ∨ k = 5 ∨ k = 6 := by omega
  unfold IsW
  rcases this with rfl | rfl | rfl | rfl | rfl | rfl | rfl <;> decide
theorem parse_dec (u : Nat) : parseF ⟨(Lib.decDigits u).toArray⟩ = if (u : Int) > 1048576 then (0, 3) else ((u : Int), 0) := by
  unfold parseF
  have e : (⟨(Lib.decDigits u).toArray⟩ : ByteArray).data.toList = Lib.decDigits u := rfl
  rw [e, if_neg, parse_digits _ 0 (digits_dig u), digits_fold]
  · unfold fin
    by_cases h : (u : Int) > 1048576
    · rw [if_pos (by omega), if_pos h]
    · rw [if_neg (by omega), if_neg h]
      congr 1
      omega
  · rintro (h | ⟨h1, h2⟩)
    · exact digits_ne u h
    · by_cases h0 : u = 0
      · subst h0; exact h2 (digits_small 0 (by decide))
      · exact digits_head u h0 h1
theorem wordAt_word (e : Ev) : wordAt (strOfNums (I8 (wordOf e))) wordsT 0 = kindT e := by
  obtain ⟨h1, h2⟩ := kindT_lt e
  rw [str_I8]
  unfold wordOf
  generalize kindT e = k at h1 h2
  have : k = 0 ∨ k = 1 ∨ k = 2 ∨ k = 3 ∨ k = 4 ∨ k = 5 ∨ k = 6 := by omega
  have tl : ∀ l : List UInt8, (⟨l.toArray⟩ : ByteArray).toList = l := fun l => by rw [ByteArray.toList_eq]
  rcases this with rfl | rfl | rfl | rfl | rfl | rfl | rfl <;> simp only [wordsT, wordAt, tl] <;> decide
/-- An event's row. -/
def I (n : Int) : List Int := I8 (Lib.itoa n)
def pos (e : Ev) : Prop := 0 ≤ e.task ∧ 0 ≤ e.slot ∧ 0 ≤ e.epoch ∧ 0 ≤ e.tick
instance (e : Ev) : Decidable (pos e) := by unfold pos; exact inferInstance
theorem row_eq (e : Ev) : I8 (rowT e) = row5 (I8 (wordOf e)) (I e.task) (I e.slot) (I e.epoch) (I e.tick) ++ [10] := by
  have h32 : I8 [32] = [32] := rfl
  have h10 : I8 [10] = [10] := rfl
  have hn : numsT e 4 = ((([] ++ (32 :: Lib.itoa e.task)) ++ (32 :: Lib.itoa e.slot)) ++ (32 :: Lib.itoa e.epoch)) ++ (32 :: Lib.itoa e.tick) := rfl
  have hc : ∀ l : List UInt8, I8 (32 :: l) = [32] ++ I8 l := fun l => rfl
  unfold rowT row5 I
  rw [I8_app, I8_app, h10, hn]
  simp only [I8_app, hc, List.append_assoc, List.nil_append]
theorem no10 (e : Ev) : ∀ c ∈ row5 (I8 (wordOf e)) (I e.task) (I e.slot) (I e.epoch) (I e.tick), c ≠ 10 := by
  have hd : ∀ n : Int, ∀ c ∈ I n, c ≠ 10 := by
    intro n c hc
    unfold I at hc
    by_cases h : 0 ≤ n
    · rw [itoa_pos n h] at hc
      exact (kR_byte (.inr ((dig_IsD n.toNat).2 c hc))).2.2.1
    · unfold Lib.itoa at hc
      rw [if_pos (by omega)] at hc
      rcases List.mem_cons.1 hc with rfl | hc
      · decide
      · exact (kR_byte (.inr ((dig_IsD _).2 c hc))).2.2.1
  intro c hc
  rcases row5_mem hc with h | h | h | h | h | h
  · rw [h]; decide
  · exact (kR_byte (.inl ((word_IsW e).2 c h))).2.2.1
  · exact hd _ c h
  · exact hd _ c h
  · exact hd _ c h
  · exact hd _ c h
def etoks (line : Int) (e : Ev) : List Tok := toks5 line (I8 (wordOf e)) (I e.task) (I e.slot) (I e.epoch) (I e.tick)
theorem rowR_pos (line : Int) (e : Ev) (h : pos e) : rowR line (row5 (I8 (wordOf e)) (I e.task) (I e.slot) (I e.epoch) (I e.tick)) = some (etoks line e) := by
  have hd : ∀ n : Int, 0 ≤ n → IsD (I n) := fun n hn => by unfold I; rw [itoa_pos n hn]; exact dig_IsD _
  exact rowR5 line _ _ _ _ _ (word_IsW e) (hd _ h.1) (hd _ h.2.1) (hd _ h.2.2.1) (hd _ h.2.2.2)
theorem rowR_neg (line : Int) (e : Ev) (h : ¬ pos e) : rowR line (row5 (I8 (wordOf e)) (I e.task) (I e.slot) (I e.epoch) (I e.tick)) = none := by
  have hmem : ∀ n : Int, n < 0 → (45 : Int) ∈ I n := fun n hn => List.mem_map.2 ⟨45, itoa_neg n hn, rfl⟩
  have h45 : (45 : Int) ∈ row5 (I8 (wordOf e)) (I e.task) (I e.slot) (I e.epoch) (I e.tick) := by
    unfold row5
    simp only [List.mem_append]
    unfold pos at h
    by_cases h1 : e.task < 0
    · exact .inr (.inl (.inl (hmem _ h1)))
    · by_cases h2 : e.slot < 0
      · exact .inr (.inr (.inl (.inl (hmem _ h2))))
      · by_cases h3 : e.epoch < 0
        · exact .inr (.inr (.inr (.inl (.inl (hmem _ h3)))))
        · exact .inr (.inr (.inr (.inr (hmem _ (by omega)))))
  have h35 : ∀ c ∈ row5 (I8 (wordOf e)) (I e.task) (I e.slot) (I e.epoch) (I e.tick), c ≠ 35 := by
    have hd : ∀ n : Int, ∀ c ∈ I n, c ≠ 35 := by
      intro n c hc
      unfold I at hc
      by_cases h : 0 ≤ n
      · rw [itoa_pos n h] at hc
        exact (kR_byte (.inr ((dig_IsD n.toNat).2 c hc))).2.2.2
      · unfold Lib.itoa at hc
        rw [if_pos (by omega)] at hc
        rcases List.mem_cons.1 hc with rfl | hc
        · decide
        · exact (kR_byte (.inr ((dig_IsD _).2 c hc))).2.2.2
    intro c hc
    rcases row5_mem hc with h | h | h | h | h | h
    · rw [h]; decide
    · exact (kR_byte (.inl ((word_IsW e).2 c h))).2.2.2
    · exact hd _ c h
    · exact hd _ c h
    · exact hd _ c h
    · exact hd _ c h
  unfold rowR
  rw [cutR_all _ h35, runR_none line _ _ _ ⟨45, h45, by decide⟩]
  rfl
def tokL : List Ev → Int → List Tok
  | [], _ => []
  | e :: l, line => etoks line e ++ tokL l (line + 1)
theorem refG_rows : ∀ (l : List Ev) (line : Int) (out : List Tok), refG (I8 (textL l)) [] line out = if (∀ e ∈ l, pos e) then (out ++ tokL l line, 0, 0) else ([], (refG (I8 (textL l)) [] line out).2.1, 2)
  | [], line, out => by
    rw [if_pos (fun _ h => by cases h)]
    show refG [] [] line out = (out ++ [], 0, 0)
    rfl
  | e :: l, line, out => by
    have ht : I8 (textL (e :: l)) = row5 (I8 (wordOf e)) (I e.task) (I e.slot) (I e.epoch) (I e.tick) ++ 10 :: I8 (textL l) := by
      show I8 (rowT e ++ textL l) = _
      rw [I8_app, row_eq, List.append_assoc]
      rfl
    rw [ht, row_step _ _ line out (no10 e)]
    by_cases h : pos e
    · rw [rowR_pos line e h]
      show refG (I8 (textL l)) [] (line + 1) (out ++ etoks line e) = _
      have ih := refG_rows l (line + 1) (out ++ etoks line e)
      by_cases hl : ∀ x ∈ l, pos x
      · rw [if_pos hl] at ih
        rw [ih, if_pos (fun x hx => by rcases List.mem_cons.1 hx with rfl | hx; exact h; exact hl x hx), tokL, List.append_assoc]
      · rw [if_neg hl] at ih
        rw [if_neg (fun hh => hl fun x hx => hh x (.tail _ hx))]
        exact ih
    · rw [rowR_neg line e h, if_neg (fun hh => h (hh e (.head _)))]
/-- What an event's row says. -/
def big (n : Int) : Prop := n > 1048576
instance (n : Int) : Decidable (big n) := by unfold big; exact inferInstance
theorem parse_I (n : Int) (h : 0 ≤ n) : parseF (strOfNums (I n)) = if big n then (0, 3) else (n, 0) := by
  unfold I
  rw [str_I8, itoa_pos n h, parse_dec]
  have e : ((n.toNat : Nat) : Int) = n := by omega
  rw [e]
  rfl
def fine (e : Ev) : Prop := known e = true ∧ ¬ big e.task ∧ ¬ big e.slot ∧ ¬ big e.epoch ∧ ¬ big e.tick
instance (e : Ev) : Decidable (fine e) := by unfold fine; exact inferInstance
theorem eventF_row (line : Int) (e : Ev) (h : pos e) : if fine e then eventF ((etoks line e).take 5) = (e, 0) else (eventF ((etoks line e).take 5)).2 = 2 ∨ (eventF ((etoks line e).take 5)).2 = 3 := by
  have ht : (etoks line e).take 5 = [⟨1, I8 (wordOf e), line⟩, ⟨2, I e.task, line⟩, ⟨2, I e.slot, line⟩, ⟨2, I e.epoch, line⟩, ⟨2, I e.tick, line⟩] := rfl
  have hk := kindT_lt e
  have hf : firstE ⟨1, I8 (wordOf e), line⟩ = ⟨kindT e, 0, 0, 0, 0⟩ := by
    unfold firstE
    rw [wordAt_word]
    congr 1
    unfold mxI
    split <;> omega
  have hkn : known ⟨kindT e, 0, 0, 0, 0⟩ = known e := by
    by_cases hk : known e = true
    · have : kindT e = e.kind := by unfold kindT; rw [if_pos hk]
      rw [this]; rfl
    · have h0 : kindT e = 0 := by unfold kindT; rw [if_neg hk]
      have : known e = false := by simpa using hk
      rw [h0, this]
      rfl
  rw [ht, eventF_cons, hf, hkn]
  by_cases k : known e = true
  · have hkk : kindT e = e.kind := by unfold kindT; rw [if_pos k]
    rw [if_pos (show (1 : Int) = 1 ∧ known e = true from ⟨rfl, k⟩), hkk]
    have p1 := parse_I e.task h.1
    have p2 := parse_I e.slot h.2.1
    have p3 := parse_I e.epoch h.2.2.1
    have p4 := parse_I e.tick h.2.2.2
    rw [numsF_cons, if_pos rfl]
    by_cases b1 : big e.task
    · rw [if_pos b1] at p1
      rw [if_neg (fun hh => hh.2.1 b1)]
      simp only [p1]
      exact .inr rfl
    rw [if_neg b1] at p1
    simp only [p1]
    rw [if_pos True.intro, numsF_cons, if_pos rfl]
    by_cases b2 : big e.slot
    · rw [if_pos b2] at p2
      rw [if_neg (fun hh => hh.2.2.1 b2)]
      simp only [p2]
      exact .inr rfl
    rw [if_neg b2] at p2
    simp only [p2]
    rw [if_pos True.intro, numsF_cons, if_pos rfl]
    by_cases b3 : big e.epoch
    · rw [if_pos b3] at p3
      rw [if_neg (fun hh => hh.2.2.2.1 b3)]
      simp only [p3]
      exact .inr rfl
    rw [if_neg b3] at p3
    simp only [p3]
    rw [if_pos True.intro, numsF_cons, if_pos rfl]
    by_cases b4 : big e.tick
    · rw [if_pos b4] at p4
      rw [if_neg (fun hh => hh.2.2.2.2 b4)]
      simp only [p4]
      exact .inr rfl
    rw [if_neg b4] at p4
    simp only [p4]
    rw [if_pos True.intro, if_pos ⟨k, b1, b2, b3, b4⟩]
    rfl
  · rw [if_neg (show ¬ fine e from fun hh => k hh.1), if_neg (show ¬ ((1 : Int) = 1 ∧ known e = true) from fun hh => k hh.2)]
    exact .inl rfl
theorem etoks_end (line : Int) (e : Ev) (rest : List Tok) : endAt (etoks line e ++ rest) 0 = ((5 : Nat) : Int) ∧ (etoks line e ++ rest).take 5 = (etoks line e).take 5 ∧ (etoks line e ++ rest).drop 6 = rest := by
  unfold etoks toks5
  exact ⟨rfl, rfl, rfl⟩
theorem rowsF_toks : ∀ (l : List Ev) (line : Int) (n : Nat) (out : List Ev), (∀ e ∈ l, pos e) → l.length ≤ n → if (∀ e ∈ l, fine e) then rowsF n (tokL l line) out = (out ++ l, 0) else ((rowsF n (tokL l line) out).1 = [] ∧ ((rowsF n (tokL l line) out).2 = 2 ∨ (rowsF n (tokL l line) out).2 = 3))
  | [], line, n, out, _, _ => by
    rw [if_pos (fun _ h => by cases h), List.append_nil]
    exact rowsF_nil n _ out rfl
  | e :: l, line, 0, out, hp, hn => by simp at hn
  | e :: l, line, n + 1, out, hp, hn => by
    have hpe := hp e (.head _)
    have hpl : ∀ x ∈ l, pos x := fun x hx => hp x (.tail _ hx)
    obtain ⟨q1, q2, q3⟩ := etoks_end line e (tokL l (line + 1))
    have hrow := eventF_row line e hpe
    have hne : (etoks line e ++ tokL l (line + 1)).length ≠ 0 := by unfold etoks toks5; simp
    rw [tokL]
    by_cases hf : fine e
    · rw [if_pos hf] at hrow
      have hs := rowsF_ok n (etoks line e ++ tokL l (line + 1)) _ _ out 5 e hne q1 q2 q3 hrow
      rw [hs]
      have ih := rowsF_toks l (line + 1) n (out ++ [e]) hpl (by simpa using hn)
      by_cases hl : ∀ x ∈ l, fine x
      · rw [if_pos hl] at ih
        rw [if_pos (fun x hx => by rcases List.mem_cons.1 hx with rfl | hx; exact hf; exact hl x hx), ih, List.append_assoc]
        rfl
      · rw [if_neg hl] at ih
        rw [if_neg (fun hh => hl fun x hx => hh x (.tail _ hx))]
        exact ih
    · rw [if_neg hf] at hrow
      rw [if_neg (fun hh => hf (hh e (.head _)))]
      have hs := rowsF_bad n (etoks line e ++ tokL l (line + 1)) _ out 5 (eventF ((etoks line e).take 5)).1 (eventF ((etoks line e).take 5)).2 hne q1 q2 rfl (by rcases hrow with h | h <;> rw [h] <;> decide)
      rw [hs]
      exact ⟨rfl, hrow⟩
theorem tokL_len : ∀ (l : List Ev) (line : Int), (tokL l line).length = 6 * l.length
  | [], _ => rfl
  | e :: l, line => by
    rw [tokL, List.length_append, tokL_len l, List.length_cons]
    show 6 + _ = _
    omega
/-- What is written is read. -/
theorem parse_text (l : List Ev) (hl : (textL l).length ≤ 65536) : if (∀ e ∈ l, pos e ∧ fine e) then parseT (I8 (textL l)) = (l, 0) else ((parseT (I8 (textL l))).1 = [] ∧ ((parseT (I8 (textL l))).2 = 2 ∨ (parseT (I8 (textL l))).2 = 3)) := by
  have hlen : (I8 (textL l)).length = (textL l).length := List.length_map ..
  have hF : lexF (I8 (textL l)) = refG (I8 (textL l)) [] 1 [] := by rw [lexF_eq, if_neg (by omega)]
  have hG := refG_rows l 1 []
  by_cases hp : ∀ e ∈ l, pos e
  · rw [if_pos hp, List.nil_append] at hG
    have hr := rowsF_toks l 1 (tokL l 1).length [] hp (by rw [tokL_len]; omega)
    have hT : parseT (I8 (textL l)) = rowsF (tokL l 1).length (tokL l 1) [] := by
      unfold parseT
      rw [hF, hG, if_pos rfl]
    rw [hT]
    by_cases hf : ∀ e ∈ l, fine e
    · rw [if_pos hf, List.nil_append] at hr
      rw [if_pos (fun e he => ⟨hp e he, hf e he⟩)]
      exact hr
    · rw [if_neg hf] at hr
      rw [if_neg (fun hh => hf fun e he => (hh e he).2)]
      exact hr
  · rw [if_neg hp] at hG
    rw [if_neg (fun hh => hp fun e he => (hh e he).1)]
    have hT : parseT (I8 (textL l)) = ([], 2) := by
      unfold parseT
      rw [hF, hG, if_neg (by simp)]
    rw [hT]
    exact ⟨rfl, .inl rfl⟩
/-- How long it is. -/
theorem dec_len (f : Nat) : ∀ u : Nat, u < 10 ^ (f + 1) → (Lib.decDigits u).length ≤ f + 1 := by
  induction f with
  | zero => intro u h; rw [digits_small u (by omega)]; exact Nat.le_refl _
  | succ f ih =>
    intro u h
    by_cases h10 : u < 10
    · rw [digits_small u h10]; simp
    · rw [digits_step u h10, List.length_append]
      have := ih (u / 10) (by rw [Nat.pow_succ] at h; omega)
      simp; omega
theorem itoa_len (n : Int) (h : -9223372036854775808 ≤ n ∧ n ≤ 9223372036854775807) : (Lib.itoa n).length ≤ 20 := by
  unfold Lib.itoa
  split
  · have := dec_len 18 n.natAbs (by omega)
    rw [List.length_cons]
    omega
  · have := dec_len 18 n.toNat (by omega)
    omega
theorem word_len (e : Ev) : (wordOf e).length ≤ 5 := by
  obtain ⟨h1, h2⟩ := kindT_lt e
  unfold wordOf
  generalize kindT e = k at h1 h2
  have : k = 0 ∨ k = 1 ∨ k = 2 ∨ k = 3 ∨ k = 4 ∨ k = 5 ∨ k = 6 := by omega
  rcases this with rfl | rfl | rfl | rfl | rfl | rfl | rfl <;> decide
theorem row_len (e : Ev) (B : Nat) (h : ∀ n ∈ [e.task, e.slot, e.epoch, e.tick], (Lib.itoa n).length ≤ B) : (rowT e).length ≤ 10 + 4 * B := by
  have h1 := h e.task (by simp)
  have h2 := h e.slot (by simp)
  have h3 := h e.epoch (by simp)
  have h4 := h e.tick (by simp)
  have h5 := word_len e
  have hn : numsT e 4 = ((([] ++ (32 :: Lib.itoa e.task)) ++ (32 :: Lib.itoa e.slot)) ++ (32 :: Lib.itoa e.epoch)) ++ (32 :: Lib.itoa e.tick) := rfl
  unfold rowT
  rw [hn]
  simp only [List.length_append, List.length_cons, List.length_nil]
  omega
theorem text_len (B : Nat) : ∀ (l : List Ev), (∀ e ∈ l, ∀ n ∈ [e.task, e.slot, e.epoch, e.tick], (Lib.itoa n).length ≤ B) → (textL l).length ≤ (10 + 4 * B) * l.length
  | [], _ => by simp [textL]
  | e :: l, h => by
    have h1 := row_len e B (h e (.head _))
    have h2 := text_len B l fun x hx => h x (.tail _ hx)
    show (rowT e ++ textL l).length ≤ _
    rw [List.length_append, List.length_cons, Nat.mul_succ]
    omega
/-- How many lines. -/
theorem count10 : ∀ l : List Ev, (I8 (textL l)).countP (fun c => c == 10) = l.length
  | [] => rfl
  | e :: l => by
    show (I8 (rowT e ++ textL l)).countP _ = _
    rw [I8_app, List.countP_append, row_eq, List.countP_append, count10 l, List.length_cons]
    have : (row5 (I8 (wordOf e)) (I e.task) (I e.slot) (I e.epoch) (I e.tick)).countP (fun c => c == 10) = 0 := by
      rw [List.countP_eq_zero]
      intro c hc
      have := no10 e c hc
      simpa using this
    rw [this]
    show 0 + 1 + _ = _
    omega
end Go.Proofs.YtckcepmkfegkiaaDoor.TrR
