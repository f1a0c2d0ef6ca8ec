/- Lists sorted by insertion, and merged: what a stable sort by merging blocks comes to. No condition; no program. -/
import Derived.KernelRfl
namespace Go.Proofs.Ytnegchdooapoiaa.VicP
variable {α : Type}
structure Weak (lt : α → α → Bool) : Prop where
  asymm : ∀ a b, lt a b = true → lt b a = false
  trans : ∀ a b c, lt a b = true → lt b c = true → lt a c = true
  ntrans : ∀ a b c, lt b a = false → lt c b = false → lt c a = false
variable (lt : α → α → Bool)
def ins (x : α) : List α → List α
  | [] => [x]
  | z :: l => if lt x z = true then x :: z :: l else z :: ins x l
def isort (l : List α) : List α := l.foldl (fun acc x => ins lt x acc) []
def mrg : List α → List α → List α
  | [], Y => Y
  | x :: X, [] => x :: X
  | x :: X, y :: Y => if lt y x = true then y :: mrg (x :: X) Y else x :: mrg X (y :: Y)
termination_by X Y => X.length + Y.length
theorem mrg_nil_l (Y : List α) : mrg lt [] Y = Y := by simp [mrg]
theorem mrg_nil_r (X : List α) : mrg lt X [] = X := by cases X <;> simp [mrg]
theorem mrg_cons (x : α) (X : List α) (y : α) (Y : List α) : mrg lt (x :: X) (y :: Y) = if lt y x = true then y :: mrg lt (x :: X) Y else x :: mrg lt X (y :: Y) := by rw [mrg]
theorem ins_cons (x z : α) (l : List α) : ins lt x (z :: l) = if lt x z = true then x :: z :: l else z :: ins lt x l := rfl
theorem ins_len (x : α) : ∀ l : List α, (ins lt x l).length = l.length + 1
  | [] => rfl
  | z :: l => by
    rw [ins_cons]
    split
    · rfl
    · simp [ins_len x l]
theorem mrg_len : ∀ (n : Nat) (X Y : List α), X.length + Y.length ≤ n → (mrg lt X Y).length = X.length + Y.length := by
  intro n
  induction n with
  | zero =>
    intro X Y h
    cases X <;> cases Y <;> simp_all [mrg_nil_l]
  | succ n ih =>
    intro X Y h
    cases X with
    | nil => simp [mrg_nil_l]
    | cons x X =>
      cases Y with
      | nil => simp [mrg_nil_r]
      | cons y Y =>
        simp only [List.length_cons] at h
        rw [mrg_cons]
        split
        · rw [List.length_cons, ih (x :: X) Y (by simp; omega)]
          simp only [List.length_cons]
          omega
        · rw [List.length_cons, ih X (y :: Y) (by simp; omega)]
          simp only [List.length_cons]
          omega
variable {lt}
theorem mrg_ins (hw : Weak lt) (y : α) : ∀ (n : Nat) (X Y : List α), X.length + Y.length ≤ n → mrg lt X (ins lt y Y) = ins lt y (mrg lt X Y) := by
  intro n
  induction n with
  | zero =>
    intro X Y h
    cases X <;> cases Y <;> simp_all [mrg_nil_l]
  | succ n ih =>
    intro X Y h
    cases X with
    | nil => simp [mrg_nil_l]
    | cons x X =>
      cases Y with
      | nil =>
        rw [mrg_nil_r, ins_cons, ins, mrg_cons, mrg_nil_r]
        split
        · rfl
        · have := ih X [] (by simp at h ⊢; omega)
          rw [ins, mrg_nil_r] at this
          rw [this]
      | cons z Y =>
        simp only [List.length_cons] at h
        rw [ins_cons, mrg_cons]
        by_cases h1 : lt y z = true
        · rw [if_pos h1, mrg_cons]
          by_cases h2 : lt z x = true
          · rw [if_pos (hw.trans _ _ _ h1 h2), if_pos h2, ins_cons, if_pos h1, mrg_cons, if_pos h2]
          · rw [if_neg h2, ins_cons]
            by_cases h3 : lt y x = true
            · rw [if_pos h3, if_pos h3, mrg_cons, if_neg h2]
            · rw [if_neg h3, if_neg h3, ← ih X (z :: Y) (by simp; omega), ins_cons, if_pos h1]
        · rw [if_neg h1, mrg_cons]
          by_cases h2 : lt z x = true
          · rw [if_pos h2, if_pos h2, ins_cons, if_neg h1, ih (x :: X) Y (by simp; omega)]
          · have h3 : ¬ lt y x = true := by
              rw [Bool.not_eq_true] at h1 h2 ⊢
              exact hw.ntrans _ _ _ h2 h1
            rw [if_neg h2, if_neg h2, ins_cons, if_neg h3, ← ih X (z :: Y) (by simp; omega), ins_cons, if_neg h1]
theorem mrg_fold (hw : Weak lt) (X : List α) : ∀ (B acc : List α), B.foldl (fun acc x => ins lt x acc) (mrg lt X acc) = mrg lt X (B.foldl (fun acc x => ins lt x acc) acc)
  | [], acc => rfl
  | b :: B, acc => by
    rw [List.foldl_cons, List.foldl_cons, ← mrg_ins hw b _ X acc (Nat.le_refl _), mrg_fold hw X B]
theorem isort_append (hw : Weak lt) (A B : List α) : isort lt (A ++ B) = mrg lt (isort lt A) (isort lt B) := by
  have h := mrg_fold hw (isort lt A) B []
  rw [mrg_nil_r] at h
  unfold isort at h ⊢
  rw [List.foldl_append]
  exact h
theorem isort_snoc (A : List α) (x : α) : isort lt (A ++ [x]) = ins lt x (isort lt A) := by simp [isort]
theorem isort_nil : isort lt ([] : List α) = [] := rfl
theorem isort_one (x : α) : isort lt [x] = [x] := rfl
def Srt (lt : α → α → Bool) (l : List α) : Prop := l.Pairwise (fun a b => lt b a = false)
theorem ins_mem {x z : α} : ∀ {l : List α}, z ∈ ins lt x l ↔ z = x ∨ z ∈ l
  | [] => by simp [ins]
  | y :: l => by
    rw [ins_cons]
    split
    · simp
    · simp only [List.mem_cons, ins_mem (l := l)]
      constructor
      · rintro (h | h | h)
        · exact Or.inr (Or.inl h)
        · exact Or.inl h
        · exact Or.inr (Or.inr h)
      · rintro (h | h | h)
        · exact Or.inr (Or.inl h)
        · exact Or.inl h
        · exact Or.inr (Or.inr h)
theorem ins_srt (hw : Weak lt) (x : α) : ∀ {l : List α}, Srt lt l → Srt lt (ins lt x l)
  | [], _ => by simp [ins, Srt]
  | y :: l, h => by
    unfold Srt at h ⊢
    rw [List.pairwise_cons] at h
    rw [ins_cons]
    split
    · rename_i hxy
      rw [List.pairwise_cons, List.pairwise_cons]
      refine ⟨fun z hz => ?_, h⟩
      rcases List.mem_cons.1 hz with rfl | hz
      · exact hw.asymm _ _ hxy
      · exact hw.ntrans _ _ _ (hw.asymm _ _ hxy) (h.1 z hz)
    · rename_i hxy
      rw [List.pairwise_cons]
      refine ⟨fun z hz => ?_, ins_srt hw x h.2⟩
      rcases ins_mem.1 hz with rfl | hz
      · rwa [Bool.not_eq_true] at hxy
      · exact h.1 z hz
theorem fold_srt (hw : Weak lt) : ∀ (B acc : List α), Srt lt acc → Srt lt (B.foldl (fun acc x => ins lt x acc) acc)
  | [], _, h => h
  | b :: B, _, h => fold_srt hw B _ (ins_srt hw b h)
theorem isort_srt (hw : Weak lt) (l : List α) : Srt lt (isort lt l) := fold_srt hw l [] List.Pairwise.nil
theorem fold_len : ∀ (B acc : List α), (B.foldl (fun acc x => ins lt x acc) acc).length = B.length + acc.length
  | [], _ => by simp
  | b :: B, acc => by
    rw [List.foldl_cons, fold_len B, ins_len, List.length_cons]
    omega
theorem isort_len (l : List α) : (isort lt l).length = l.length := by
  unfold isort
  rw [fold_len]
  rfl
theorem fold_mem {z : α} : ∀ (B acc : List α), z ∈ B.foldl (fun acc x => ins lt x acc) acc ↔ z ∈ B ∨ z ∈ acc
  | [], _ => by simp
  | b :: B, acc => by
    rw [List.foldl_cons, fold_mem B, ins_mem, List.mem_cons]
    constructor
    · rintro (h | h | h)
      · exact Or.inl (Or.inr h)
      · exact Or.inl (Or.inl h)
      · exact Or.inr h
    · rintro ((h | h) | h)
      · exact Or.inr (Or.inl h)
      · exact Or.inl h
      · exact Or.inr (Or.inr h)
theorem isort_mem {z : α} (l : List α) : z ∈ isort lt l ↔ z ∈ l := by
  unfold isort
  rw [fold_mem]
  simp
theorem ins_split {x : α} : ∀ {L1 L2 : List α}, (∀ z ∈ L1, lt x z = false) → (∀ z ∈ L2, lt x z = true) → ins lt x (L1 ++ L2) = L1 ++ x :: L2
  | [], [], _, _ => rfl
  | [], z :: L2, _, h2 => by
    show ins lt x (z :: L2) = _
    rw [ins_cons, if_pos (h2 z List.mem_cons_self)]
    rfl
  | z :: L1, L2, h1, h2 => by
    show ins lt x (z :: (L1 ++ L2)) = _
    have hz := h1 z List.mem_cons_self
    rw [ins_cons, if_neg (by rw [hz]; decide), ins_split (fun y hy => h1 y (List.mem_cons_of_mem _ hy)) h2]
    rfl
theorem mrg_split : ∀ (n : Nat) (X1 X2 Y1 Y2 : List α), X1.length + Y1.length ≤ n → (∀ x ∈ X1, ∀ y ∈ Y2, lt y x = false) → (∀ y ∈ Y1, ∀ x ∈ X2, lt y x = true) → mrg lt (X1 ++ X2) (Y1 ++ Y2) = mrg lt X1 Y1 ++ mrg lt X2 Y2 := by
  intro n
  induction n with
  | zero =>
    intro X1 X2 Y1 Y2 h _ _
    cases X1 <;> cases Y1 <;> simp_all [mrg_nil_l]
  | succ n ih =>
    intro X1 X2 Y1 Y2 h h1 h2
    cases X1 with
    | nil =>
      cases Y1 with
      | nil => simp [mrg_nil_l]
      | cons y Y1 =>
        rw [mrg_nil_l]
        cases X2 with
        | nil => simp [mrg_nil_l]
        | cons x X2 =>
          have := ih [] (x :: X2) Y1 Y2 (by simp at h ⊢; omega) (fun _ hx => by cases hx) (fun y hy => h2 y (List.mem_cons_of_mem _ hy))
          rw [mrg_nil_l] at this
          simp only [List.nil_append, List.cons_append] at this ⊢
          rw [mrg_cons, if_pos (h2 y List.mem_cons_self x List.mem_cons_self), this]
    | cons x X1 =>
      cases Y1 with
      | nil =>
        rw [mrg_nil_r]
        cases Y2 with
        | nil => simp [mrg_nil_r]
        | cons y Y2 =>
          have hxy := h1 x List.mem_cons_self y List.mem_cons_self
          have := ih X1 X2 [] (y :: Y2) (by simp at h ⊢; omega) (fun x hx => h1 x (List.mem_cons_of_mem _ hx)) (fun _ hx => by cases hx)
          rw [mrg_nil_r] at this
          simp only [List.nil_append, List.cons_append] at this ⊢
          rw [mrg_cons, if_neg (by rw [hxy]; decide), this]
      | cons y Y1 =>
        simp only [List.length_cons] at h
        simp only [List.cons_append]
        rw [mrg_cons, mrg_cons]
        by_cases hxy : lt y x = true
        · rw [if_pos hxy, if_pos hxy]
          have := ih (x :: X1) X2 Y1 Y2 (by simp; omega) h1 (fun y hy => h2 y (List.mem_cons_of_mem _ hy))
          simp only [List.cons_append] at this ⊢
          rw [this]
        · rw [if_neg hxy, if_neg hxy]
          have := ih X1 X2 (y :: Y1) Y2 (by simp; omega) (fun x hx => h1 x (List.mem_cons_of_mem _ hx)) h2
          simp only [List.cons_append] at this ⊢
          rw [this]
theorem srt_append {A B : List α} : Srt lt (A ++ B) ↔ Srt lt A ∧ Srt lt B ∧ ∀ x ∈ A, ∀ y ∈ B, lt y x = false := List.pairwise_append
end Go.Proofs.Ytnegchdooapoiaa.VicP
