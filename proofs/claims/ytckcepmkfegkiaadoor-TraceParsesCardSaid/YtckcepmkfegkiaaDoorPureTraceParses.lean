/- The plain law of TraceParses: what the code computes answers true at every input. No condition. -/
import Derived.Test.YtckcepmkfegkiaaDoorTrRf
namespace Go.Proofs.YtckcepmkfegkiaaDoor.Pure
open Go.RowKit Go.Proofs.YtckcepmkfegkiaaDoor.PTraceParses Go.Proofs.YtckcepmkfegkiaaDoorW.PrintWords Go.Proofs.YtckcepmkfegkiaaDoorW.PrintLast LexQ LexR Str Go.Proofs.YtckcepmkfegkiaaDoor.TrP
set_option linter.unusedVariables false
set_option linter.unusedSimpArgs false
def row6 (e : TrS.Ev × Int) : Int × Int × Int × Int × Int × Int := if e.2 = 0 then (e.1.kind, e.1.task, e.1.slot, e.1.epoch, e.1.tick, 0) else (0, 0, 0, 0, 0, e.2)
theorem rd_tok (L : List LexS.Tok) (i : Nat) (h : i < L.length) : rd_T78 (L.map f48) (i : Int) = f48 L[i] := by
  simp [rd_T78, List.getD_eq_getElem?_getD, List.getElem?_eq_getElem h]
theorem set_pk (j : Nat) (hj : j < 4) (kd n0 n1 n2 n3 v : Int) : TrV.setF ⟨kd, n0, n1, n2, n3⟩ j v = ⟨kd, millwrightref19_line.pk (j : Int) 0 n0 v, millwrightref19_line.pk (j : Int) 1 n1 v, millwrightref19_line.pk (j : Int) 2 n2 v, millwrightref19_line.pk (j : Int) 3 n3 v⟩ := by
  rcases (show j = 0 ∨ j = 1 ∨ j = 2 ∨ j = 3 by omega) with rfl | rfl | rfl | rfl <;> rfl
theorem nums_ev (L : List LexS.Tok) (kd : Int) (hL : L.length ≤ 100000) (hT : ∀ t ∈ L, t.text.length ≤ 1000000) : ∀ (r j : Nat) (n0 n1 n2 n3 : Int), r + j = 4 → j + 1 ≤ L.length →
    Ev (fun k => millwrightref19_line.l1 k (L.map f48) (j : Int) kd 0 0 0 0 n0 n1 n2 n3) (row6 (TrV.numsF r j (L.drop (j + 1)) ⟨kd, n0, n1, n2, n3⟩)) := by
  intro r
  induction r with
  | zero =>
    intro j n0 n1 n2 n3 hj hl
    obtain rfl : j = 4 := by omega
    refine Ev.step (f := fun _ => some _) (fun k => ?_) (ev_now _)
    simp only [millwrightref19_line.l1]
    rw [if_neg (by decide), List.length_map]
    by_cases h5 : (L.length : Int) > 5
    · rw [if_pos h5]
      cases hd : L.drop (4 + 1) with
      | nil => have := congrArg List.length hd; rw [List.length_drop, List.length_nil] at this; omega
      | cons t ts => rfl
    · rw [if_neg h5, List.drop_eq_nil_of_le (by omega)]
      rfl
  | succ r ih =>
    intro j n0 n1 n2 n3 hj hl
    have e1 : wrap64 ((j : Int) + 1) = ((j + 1 : Nat) : Int) := Bits.wrap64_in (by omega) (by omega)
    by_cases hlt : j + 1 < L.length
    · have hd : L.drop (j + 1) = L[j + 1] :: L.drop (j + 1 + 1) := List.drop_eq_getElem_cons hlt
      rw [hd, TrV.numsF_cons]
      by_cases hk : L[j + 1].kind = 2
      · rw [if_pos hk]
        have hp := ref_eq (strOfNums L[j + 1].text) (by rw [size_str]; exact hT _ (List.getElem_mem hlt))
        refine Ev.step (f := fun k => millwrightref19_line.j2 k (L.map f48) (j : Int) false kd 0 0 0 0 n0 n1 n2 n3) (fun k => ?_) ?_
        · simp only [millwrightref19_line.l1]
          rw [if_pos (by omega), e1, List.length_map, if_neg (by omega), if_pos (by omega), if_pos (by omega), rd_tok L (j + 1) hlt]
          rw [show ((f48 L[j + 1]).f0 != 2) = false by simp [f48, hk]]
        refine Ev.step (f := fun k => (millwrightref01_Parse.f k (strOfNums L[j + 1].text)).bind fun b => (if b.2 = 0 then (millwrightref19_line.l1 k (L.map f48) ((j + 1 : Nat) : Int) kd 0 0 0 0 (millwrightref19_line.pk (j : Int) 0 n0 b.1) (millwrightref19_line.pk (j : Int) 1 n1 b.1) (millwrightref19_line.pk (j : Int) 2 n2 b.1) (millwrightref19_line.pk (j : Int) 3 n3 b.1)) else some (0, 0, 0, 0, 0, b.2))) (fun k => ?_) ?_
        · simp only [millwrightref19_line.j2]
          rw [if_neg (by decide), e1, List.length_map, if_pos (by omega), if_pos (by omega), rd_tok L (j + 1) hlt]
          rfl
        refine Ev.bind hp ?_
        by_cases he : (NumS.parseF (strOfNums L[j + 1].text)).2 = 0
        · rw [if_pos he, set_pk j (by omega)]
          exact Ev.congr (fun k => if_pos he) (ih (j + 1) _ _ _ _ (by omega) (by omega))
        · rw [if_neg he]
          refine Ev.congr (f := fun _ => some (0, 0, 0, 0, 0, (NumS.parseF (strOfNums L[j + 1].text)).2)) (fun k => if_neg he) ?_
          have e2 : ∀ e : TrS.Ev, row6 (e, (NumS.parseF (strOfNums L[j + 1].text)).2) = (0, 0, 0, 0, 0, (NumS.parseF (strOfNums L[j + 1].text)).2) := fun e => if_neg he
          rw [e2]
          exact ev_now _
      · rw [if_neg hk]
        refine Ev.step (f := fun k => millwrightref19_line.j2 k (L.map f48) (j : Int) true kd 0 0 0 0 n0 n1 n2 n3) (fun k => ?_) (Ev.step (f := fun _ => some (0, 0, 0, 0, 0, 2)) (fun k => ?_) (ev_now _))
        · simp only [millwrightref19_line.l1]
          rw [if_pos (by omega), e1, List.length_map, if_neg (by omega), if_pos (by omega), if_pos (by omega), rd_tok L (j + 1) hlt]
          rw [show ((f48 L[j + 1]).f0 != 2) = true by simp [f48, hk]]
        · simp only [millwrightref19_line.j2]
          rfl
    · rw [List.drop_eq_nil_of_le (by omega)]
      refine Ev.step (f := fun k => millwrightref19_line.j2 k (L.map f48) (j : Int) true kd 0 0 0 0 n0 n1 n2 n3) (fun k => ?_) (Ev.step (f := fun _ => some (0, 0, 0, 0, 0, 2)) (fun k => ?_) (ev_now _))
      · simp only [millwrightref19_line.l1]
        rw [if_pos (by omega), e1, List.length_map, if_pos (by omega)]
      · simp only [millwrightref19_line.j2]
        rfl
def kw (t : LexS.Tok) (i : Nat) (kd : Int) : Int := if t.kind = 1 ∧ (strOfNums t.text).toList = TrX.wordsT.getD i [] then (i : Int) else kd
theorem word_at (i : Nat) (h1 : 1 ≤ i) (h6 : i ≤ 6) : millwrightref19_Word.f (i : Int) = some ⟨(TrX.wordsT.getD i []).toArray⟩ := by
  rcases (show i = 1 ∨ i = 2 ∨ i = 3 ∨ i = 4 ∨ i = 5 ∨ i = 6 by omega) with rfl | rfl | rfl | rfl | rfl | rfl <;> rfl
theorem word_step (t : LexS.Tok) (ts : List LexS.Tok) (hn : ts.length ≤ 100000) (i : Nat) (h1 : 1 ≤ i) (h6 : i ≤ 6) (kd : Int) (k : Nat) :
    millwrightref19_line.l0 (k + 1) ((t :: ts).map f48) (i : Int) kd 0 0 0 0 = millwrightref19_line.l0 k ((t :: ts).map f48) ((i + 1 : Nat) : Int) (kw t i kd) 0 0 0 0 := by
  have e1 : wrap64 ((i : Int) + 1) = ((i + 1 : Nat) : Int) := Bits.wrap64_in (by omega) (by omega)
  have e0 : rd_T78 ((t :: ts).map f48) 0 = f48 t := rfl
  have hl : (((t :: ts).map f48).length : Int) = ts.length + 1 := by simp
  simp only [millwrightref19_line.l0]
  rw [if_pos (by omega), hl, if_pos (by omega), e0, e1, word_at i h1 h6, Option.bind_some]
  unfold kw
  have ex : (⟨(TrX.wordsT.getD i []).toArray⟩ : ByteArray).toList = TrX.wordsT.getD i [] := by rw [ByteArray.toList_eq]
  rw [ex]
  by_cases hk : t.kind = 1
  · rw [if_pos (show (f48 t).f0 = 1 from hk)]
    by_cases hw : (strOfNums t.text).toList = TrX.wordsT.getD i []
    · rw [if_pos (show (f48 t).f1.toList = _ from hw), if_pos ⟨hk, hw⟩]
    · rw [if_neg (show ¬ (f48 t).f1.toList = _ from hw), if_neg (fun h => hw h.2)]
  · rw [if_neg (show ¬ (f48 t).f0 = 1 from hk), if_neg (fun h => hk h.1)]
def kd6 (t : LexS.Tok) : Int := kw t 6 (kw t 5 (kw t 4 (kw t 3 (kw t 2 (kw t 1 0)))))
theorem kd6_eq (t : LexS.Tok) : (t.kind = 1 ∧ TrS.known (TrV.firstE t) = true ∧ kd6 t = (TrV.firstE t).kind ∧ kd6 t ≠ 0) ∨ (¬ (t.kind = 1 ∧ TrS.known (TrV.firstE t) = true) ∧ kd6 t = 0) := by
  by_cases hk : t.kind = 1
  · unfold kd6 kw TrS.known TrV.firstE TrS.mxI
    simp only [hk, true_and, TrX.wordsT, wordAt]
    generalize (strOfNums t.text).toList = X
    by_cases a0 : X = [111, 116, 104, 101, 114]
    · subst a0; right; decide
    by_cases a1 : X = [115, 116, 97, 114, 116]
    · subst a1; left; decide
    by_cases a2 : X = [100, 105, 100]
    · subst a2; left; decide
    by_cases a3 : X = [102, 97, 105, 108]
    · subst a3; left; decide
    by_cases a4 : X = [110, 101, 101, 100]
    · subst a4; left; decide
    by_cases a5 : X = [108, 97, 116, 101]
    · subst a5; left; decide
    by_cases a6 : X = [115, 116, 111, 112]
    · subst a6; left; decide
    right
    simp [a0, a1, a2, a3, a4, a5, a6]
  · right
    refine ⟨fun h => hk h.1, ?_⟩
    unfold kd6 kw
    simp [hk]
theorem event_ev (t : LexS.Tok) (ts : List LexS.Tok) (hn : ts.length ≤ 70000) (hT : ∀ x ∈ t :: ts, x.text.length ≤ 1000000) : Ev (fun k => millwrightref19_line.f k ((t :: ts).map f48)) (row6 (TrV.eventF (t :: ts))) := by
  unfold millwrightref19_line.f
  refine Ev.step (fun k => word_step t ts (by omega) 1 (by omega) (by omega) 0 k) ?_
  refine Ev.step (fun k => word_step t ts (by omega) 2 (by omega) (by omega) _ k) ?_
  refine Ev.step (fun k => word_step t ts (by omega) 3 (by omega) (by omega) _ k) ?_
  refine Ev.step (fun k => word_step t ts (by omega) 4 (by omega) (by omega) _ k) ?_
  refine Ev.step (fun k => word_step t ts (by omega) 5 (by omega) (by omega) _ k) ?_
  refine Ev.step (fun k => word_step t ts (by omega) 6 (by omega) (by omega) _ k) ?_
  show Ev (fun k => millwrightref19_line.l0 k ((t :: ts).map f48) 7 (kd6 t) 0 0 0 0) _
  rw [TrV.eventF_cons]
  rcases kd6_eq t with ⟨h1, h2, h3, h4⟩ | ⟨h1, h2⟩
  · rw [if_pos ⟨h1, h2⟩]
    refine Ev.step (f := fun k => millwrightref19_line.l1 k ((t :: ts).map f48) ((0 : Nat) : Int) (kd6 t) 0 0 0 0 0 0 0 0) (fun k => ?_) ?_
    · simp only [millwrightref19_line.l0]
      rw [if_neg (by decide), if_neg h4]
      rfl
    · have := nums_ev (t :: ts) (kd6 t) (by simp; omega) hT 4 0 0 0 0 0 rfl (by simp)
      have e : TrV.firstE t = ⟨kd6 t, 0, 0, 0, 0⟩ := by rw [h3]; rfl
      rw [e]
      exact this
  · rw [if_neg h1]
    refine Ev.step (f := fun _ => some (0, 0, 0, 0, 0, 2)) (fun k => ?_) (ev_now _)
    simp only [millwrightref19_line.l0]
    rw [if_neg (by decide), if_pos h2]
theorem endAt_low : ∀ (l : List LexS.Tok) (i : Int), endAt l i = -1 ∨ i ≤ endAt l i
  | [], i => .inl rfl
  | t :: ts, i => by
    rw [endAt]
    split
    · exact .inr (Int.le_refl _)
    · rcases endAt_low ts (i + 1) with h | h
      · exact .inl h
      · exact .inr (by omega)
theorem endAt_spec : ∀ (l : List LexS.Tok) (i : Int) (k : Nat), 0 ≤ i → endAt l i = i + k → (∀ j (h : j < l.length), j < k → l[j].kind ≠ 3) ∧ ∀ (h : k < l.length), l[k].kind = 3
  | [], i, k, _, _ => ⟨fun j h _ => absurd h (by simp), fun h => absurd h (by simp)⟩
  | t :: ts, i, k, hi, he => by
    rw [endAt] at he
    by_cases h3 : t.kind = 3
    · rw [if_pos h3] at he
      obtain rfl : k = 0 := by omega
      exact ⟨fun j h hj => absurd hj (by omega), fun h => h3⟩
    · rw [if_neg h3] at he
      have hlow := endAt_low ts (i + 1)
      obtain ⟨m, rfl⟩ : ∃ m, k = m + 1 := ⟨k - 1, by omega⟩
      have ih := endAt_spec ts (i + 1) m (by omega) (by omega)
      refine ⟨fun j h hj => ?_, fun h => ?_⟩
      · cases j with
        | zero => exact h3
        | succ j => exact ih.1 j (by simpa using h) (by omega)
      · exact ih.2 (by simpa using h)
abbrev T39 := S39
def u39 (x : TrS.Ev) : T39 := ⟨x.kind, x.task, x.slot, x.epoch, x.tick⟩
theorem skip_ev (X : List LexS.Tok) (hX : X.length ≤ 100000) (out : List T39) (fr : Int) (R : List T39 × Int) : ∀ (d i : Nat), i + d < X.length + 1 → (∀ j (h : j < X.length), i ≤ j → j < i + d → X[j].kind ≠ 3) →
    Ev (fun k => millwrightref19_Parse.l0 k (X.map f48) out fr ((i + d : Nat) : Int)) R → Ev (fun k => millwrightref19_Parse.l0 k (X.map f48) out fr (i : Int)) R := by
  intro d
  induction d with
  | zero => intro i _ _ h; exact h
  | succ d ih =>
    intro i hi hk h
    have e1 : wrap64 ((i : Int) + 1) = ((i + 1 : Nat) : Int) := Bits.wrap64_in (by omega) (by omega)
    have hlt : i < X.length := by omega
    refine Ev.step (fun k => ?_) (ih (i + 1) (by omega) (fun j hj h1 h2 => hk j hj (by omega) (by omega)) (by rw [show i + 1 + d = i + (d + 1) by omega]; exact h))
    simp only [millwrightref19_Parse.l0]
    rw [List.length_map, if_pos (by omega), if_pos (by omega), rd_tok X i hlt, if_neg (show ¬ (f48 X[i]).f0 = 3 from hk i hlt (by omega) (by omega)), e1]
def res19 (p : List TrS.Ev × Int) : List T39 × Int := (p.1.map u39, p.2)
theorem rows_ev (X : List LexS.Tok) (hX : X.length ≤ 70000) (hT : ∀ x ∈ X, x.text.length ≤ 1000000) : ∀ (n fr : Nat) (out : List TrS.Ev), X.length - fr ≤ n → fr ≤ X.length → LexT.Okk false (X.drop fr) → out.length ≤ fr →
    Ev (fun k => millwrightref19_Parse.l0 k (X.map f48) (out.map u39) (fr : Int) (fr : Int)) (res19 (TrQ.rowsF n (X.drop fr) out)) := by
  intro n
  induction n with
  | zero =>
    intro fr out h1 h2 h3 h4
    rw [TrQ.rowsF]
    refine Ev.step (f := fun _ => some (out.map u39, 0)) (fun k => ?_) (ev_now _)
    simp only [millwrightref19_Parse.l0]
    rw [List.length_map, if_neg (by omega)]
  | succ n ih =>
    intro fr out h1 h2 h3 h4
    by_cases hz : (X.drop fr).length = 0
    · rw [TrQ.rowsF_nil _ _ _ hz]
      rw [List.length_drop] at hz
      refine Ev.step (f := fun _ => some (out.map u39, 0)) (fun k => ?_) (ev_now _)
      simp only [millwrightref19_Parse.l0]
      rw [List.length_map, if_neg (by omega)]
    · obtain ⟨m, t, ts, rest, he, hrow, hm, hrest, hok, hlen⟩ := TrQ.okk_row1 (X.drop fr) h3 hz
      have hspec := endAt_spec (X.drop fr) 0 m (by omega) (by omega)
      rw [List.length_drop] at hlen
      have hge : ∀ j, fr ≤ j → ∀ (h : j < X.length), X[j] = (X.drop fr)[j - fr]'(by rw [List.length_drop]; omega) := by
        intro j hj h
        rw [List.getElem_drop]
        congr 1
        omega
      refine skip_ev X (by omega) _ _ _ m fr (by omega) (fun j hj ha hb => ?_) ?_
      · rw [hge j ha hj]
        exact hspec.1 _ _ (by omega)
      have hlt : fr + m < X.length := by omega
      have hts : ts.length ≤ 70000 := by omega
      have c1 : ((fr + m : Nat) : Int) < (X.length : Int) := by omega
      have c2 : (0 : Int) ≤ ((fr + m : Nat) : Int) := by omega
      have c3 : (0 : Int) ≤ (fr : Int) := by omega
      have c4 : (fr : Int) ≤ ((fr + m : Nat) : Int) := by omega
      have c5 : ((fr + m : Nat) : Int) ≤ (X.length : Int) := by omega
      have c6 : out.length < 3518437208883 := by omega
      have c7 : X.length - (fr + m + 1) ≤ n := by omega
      have c8 : fr + m + 1 ≤ X.length := by omega
      have c9 : out.length + 1 ≤ fr + m + 1 := by omega
      have hk3 : X[fr + m].kind = 3 := by
        rw [hge (fr + m) (by omega) hlt]
        have := hspec.2 (by rw [List.length_drop]; omega)
        simp only [Nat.add_sub_cancel_left]
        exact this
      have e1 : wrap64 (((fr + m : Nat) : Int) + 1) = ((fr + m + 1 : Nat) : Int) := Bits.wrap64_in (by omega) (by omega)
      have hrow2 : ((X.map f48).take (((fr + m : Nat) : Int)).toNat).drop ((fr : Int)).toNat = (t :: ts).map f48 := by
        rw [Int.toNat_natCast, Int.toNat_natCast, ← hrow, ← List.map_take, ← List.map_drop, List.drop_take, Nat.add_sub_cancel_left]
      have hmem : ∀ x ∈ t :: ts, x.text.length ≤ 1000000 := by
        intro x hx
        rw [← hrow] at hx
        exact hT x (List.mem_of_mem_drop (List.mem_of_mem_take hx))
      have hl := event_ev t ts hts hmem
      refine Ev.step (f := fun k => (millwrightref19_line.f k ((t :: ts).map f48)).bind fun b => (if b.2.2.2.2.2 = 0 then (if (out.map u39).length < 3518437208883 then (millwrightref19_Parse.l0 k (X.map f48) (out.map u39 ++ [(⟨b.1, b.2.1, b.2.2.1, b.2.2.2.1, b.2.2.2.2.1⟩ : T39)]) ((fr + m + 1 : Nat) : Int) ((fr + m + 1 : Nat) : Int)) else none) else some ([], b.2.2.2.2.2))) (fun k => ?_) ?_
      · simp only [millwrightref19_Parse.l0]
        rw [List.length_map, if_pos c1, if_pos c2, rd_tok X (fr + m) hlt, if_pos (show (f48 X[fr + m]).f0 = 3 from hk3), if_pos c3, if_pos c4, if_pos c5, hrow2, e1]
      refine Ev.bind hl ?_
      obtain ⟨⟨e, r⟩, hev⟩ : ∃ p_, TrV.eventF (t :: ts) = p_ := ⟨_, rfl⟩
      rw [hev]
      by_cases hr : r = 0
      · subst hr
        rw [TrQ.rowsF_ok n (X.drop fr) (t :: ts) rest out m e hz he hrow hrest hev]
        have hnext : rest = X.drop (fr + m + 1) := by rw [← hrest, List.drop_drop]; congr 1
        rw [hnext] at hok ⊢
        have := ih (fr + m + 1) (out ++ [e]) c7 c8 hok (by rw [List.length_append]; exact c9)
        refine Ev.congr (fun k => ?_) this
        show (if (0 : Int) = 0 then _ else _) = _
        rw [if_pos rfl, List.length_map, if_pos c6, List.map_append]
        rfl
      · rw [TrQ.rowsF_bad n (X.drop fr) (t :: ts) out m e r hz he hrow hev hr]
        have e6 : row6 (e, r) = (0, 0, 0, 0, 0, r) := if_neg hr
        rw [e6]
        exact Ev.congr (f := fun _ => some ([], r)) (fun k => if_neg hr) (ev_now _)
theorem str_bytes (s : ByteArray) : strOfNums (bytesOf s) = s := by
  apply ByteArray.ext
  apply Array.ext'
  simp only [strOfNums, bytesOf, List.map_map]
  rw [show ((fun x : Int => UInt8.ofNat x.toNat) ∘ fun b : UInt8 => ((b.toNat : Nat) : Int)) = id from funext fun b => by simp]
  simp
theorem bytes_in (s : ByteArray) : Bytes (bytesOf s) := by
  intro x hx
  unfold bytesOf at hx
  obtain ⟨b, _, rfl⟩ := List.mem_map.1 hx
  have := UInt8.toNat_lt b
  omega
theorem parse19_ev (s : ByteArray) (hs : s.size ≤ 3000) : Ev (fun k => millwrightref19_Parse.f k s) (res19 (TrQ.parseT (bytesOf s))) := by
  have hlx := lex_f (bytes_in s) (by rw [bytesOf_length]; omega)
  rw [str_bytes] at hlx
  obtain ⟨⟨L, ln, er⟩, hL⟩ : ∃ p_, LexS.lexF (bytesOf s) = p_ := ⟨_, rfl⟩
  rw [hL] at hlx
  unfold millwrightref19_Parse.f
  refine Ev.bind hlx ?_
  by_cases he : er = 0
  · subst he
    obtain ⟨hok, htx, hln⟩ := TrY.lex_good _ L ln hL
    rw [TrY.parse_good _ L ln hL]
    exact Ev.congr (fun k => if_pos rfl) (rows_ev L hln htx L.length 0 [] (by omega) (by omega) hok (by simp))
  · rw [TrY.parse_bad _ L ln er hL he]
    exact Ev.congr (f := fun _ => some ([], er)) (fun k => if_neg he) (ev_now _)
theorem parseT_len (bs : List Int) : (TrQ.parseT bs).1.length ≤ 70000 := by
  have hr : ∀ (n : Nat) (l : List LexS.Tok) (out : List TrS.Ev), (TrQ.rowsF n l out).1.length ≤ out.length + n := by
    intro n
    induction n with
    | zero => intro l out; rw [TrQ.rowsF]; exact Nat.le_refl _
    | succ n ih =>
      intro l out
      rw [TrQ.rowsF]
      split
      · simp
      · split
        · have := ih (l.drop ((endAt l 0).toNat + 1)) (out ++ [(TrV.eventF (l.take (endAt l 0).toNat)).1])
          rw [List.length_append] at this
          simp at this
          omega
        · simp
  unfold TrQ.parseT
  split
  · have := hr (LexS.lexF bs).1.length (LexS.lexF bs).1 []
    have h2 := lexF_len bs
    simp at this
    omega
  · simp
theorem refs_ev (l : List S42) (hn : l.length ≤ 1000000) : ∀ (d i : Nat) (acc : List T39), i + d = l.length → acc.length = i →
    Ev (fun k => millwrightlaw19_refs.l0 k l acc i) (acc ++ (l.drop i).map fun x => ⟨x.f0, x.f1, x.f2, x.f3, x.f4⟩) := by
  intro d
  induction d with
  | zero =>
    intro i acc hi ha
    rw [List.drop_eq_nil_of_le (by omega), List.map_nil, List.append_nil]
    refine Ev.step (f := fun _ => some acc) (fun k => ?_) (ev_now _)
    simp only [millwrightlaw19_refs.l0]
    rw [if_neg (by omega)]
  | succ d ih =>
    intro i acc hi ha
    have hw : wrap64 ((i : Int) + 1) = ((i + 1 : Nat) : Int) := Bits.wrap64_in (by omega) (by omega)
    have hrd : rd_T42 l (i : Int) = l[i] := by
      unfold rd_T42
      rw [Int.toNat_natCast, List.getD_eq_getElem?_getD, List.getElem?_eq_getElem (by omega)]
      rfl
    have := ih (i + 1) (acc ++ [⟨l[i].f0, l[i].f1, l[i].f2, l[i].f3, l[i].f4⟩]) (by omega) (by rw [List.length_append, ha]; rfl)
    rw [List.drop_eq_getElem_cons (i := i) (by omega), List.map_cons]
    rw [List.append_assoc] at this
    refine Ev.step (fun k => ?_) this
    simp only [millwrightlaw19_refs.l0]
    rw [if_pos (by omega), if_pos (by omega), if_pos (by omega), hw, hrd]
theorem same_ev (l : List T39) (hl : l.length ≤ 100000) : ∀ (d i : Nat), i + d = l.length → Ev (fun k => millwrightlaw19_TraceParses.l0 k true l l (i : Int)) true := by
  intro d
  induction d with
  | zero =>
    intro i hi
    refine Ev.step (f := fun _ => some true) (fun k => ?_) (ev_now _)
    simp only [millwrightlaw19_TraceParses.l0]
    rw [if_neg (by omega)]
  | succ d ih =>
    intro i hi
    have e1 : wrap64 ((i : Int) + 1) = ((i + 1 : Nat) : Int) := Bits.wrap64_in (by omega) (by omega)
    refine Ev.step (fun k => ?_) (ih (i + 1) (by omega))
    simp only [millwrightlaw19_TraceParses.l0]
    rw [if_pos (by omega), if_pos (by omega), if_pos (by omega), if_neg (by simp), e1]
theorem TraceParses : millwrightlaw19_TraceParses.Pure := by
  intro a ha
  have hmn : mn (a.size : Int) 3000 = ((min a.size 3000 : Nat) : Int) := by unfold mn; split <;> omega
  have hs : (a.extract 0 ((min a.size 3000 : Nat) : Int).toNat).size ≤ 3000 := by rw [ByteArray.size_extract]; omega
  suffices h : Ev (fun k => millwrightlaw19_TraceParses.f k a) true from h.rounds
  unfold millwrightlaw19_TraceParses.f millwrightlaw19_shown.f
  have c1 : 0 ≤ ((min a.size 3000 : Nat) : Int) := by omega
  have c2 : ((min a.size 3000 : Nat) : Int) ≤ (a.size : Int) := by omega
  simp only [Option.bind_some, hmn, if_pos c1, if_pos c2]
  generalize a.extract 0 ((min a.size 3000 : Nat) : Int).toNat = s at hs
  have e2 : trace_Parse.f s = some ((TrQ.parseT (bytesOf s)).1.map trace_Parse.u, (TrQ.parseT (bytesOf s)).2) := if_pos (by omega)
  simp only [e2, Option.bind_some]
  have hlen := parseT_len (bytesOf s)
  refine Ev.bind (parse19_ev s hs) ?_
  have hrefs := refs_ev ((TrQ.parseT (bytesOf s)).1.map trace_Parse.u) (by rw [List.length_map]; omega) ((TrQ.parseT (bytesOf s)).1.map trace_Parse.u).length 0 [] (by omega) rfl
  have hmap : ([] : List T39) ++ ((((TrQ.parseT (bytesOf s)).1.map trace_Parse.u).drop 0).map fun x => ⟨x.f0, x.f1, x.f2, x.f3, x.f4⟩) = (TrQ.parseT (bytesOf s)).1.map u39 := by
    rw [List.nil_append, List.drop_zero, List.map_map]
    rfl
  rw [hmap] at hrefs
  unfold millwrightlaw19_refs.f
  refine Ev.bind hrefs ?_
  refine Ev.congr (f := fun k => millwrightlaw19_TraceParses.j0 k true ((TrQ.parseT (bytesOf s)).1.map u39) ((TrQ.parseT (bytesOf s)).1.map u39) false) (fun k => ?_) ?_
  · have e3 : (TrQ.parseT (bytesOf s)).2 = (res19 (TrQ.parseT (bytesOf s))).2 := rfl
    rw [if_pos e3]
    simp [res19]
  · refine Ev.step (fun k => ?_) (same_ev ((TrQ.parseT (bytesOf s)).1.map u39) (by rw [List.length_map]; omega) _ 0 (Nat.zero_add _))
    simp only [millwrightlaw19_TraceParses.j0]
    rfl
end Go.Proofs.YtckcepmkfegkiaaDoor.Pure
