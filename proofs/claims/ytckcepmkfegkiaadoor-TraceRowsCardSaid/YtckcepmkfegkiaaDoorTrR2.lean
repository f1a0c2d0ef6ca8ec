/- Plain: two texts of events, one behind the other. No condition. -/
import Derived.Test.YtckcepmkfegkiaaDoorTrR
namespace Go.Proofs.YtckcepmkfegkiaaDoor.TrR
open Go.RowKit LexS LexR LexT TrS TrX TrP TrV TrQ NumT NumS
set_option linter.unusedVariables false
set_option linter.unusedSimpArgs false
def cnt : List Int → Nat
  | [] => 0
  | c :: cs => (if c = 10 then 1 else 0) + cnt cs
theorem cat : ∀ (a cur : List Int) (line : Int) (out : List Tok) (b : List Int),
    (∃ l, refG a cur line out = ([], l, 2) ∧ refG (a ++ 10 :: b) cur line out = ([], l, 2)) ∨ (∃ toks, refG a cur line out = (toks, 0, 0) ∧ refG (a ++ 10 :: b) cur line out = refG b [] (line + cnt a + 1) toks)
  | [], cur, line, out, b => by
    rw [List.nil_append, refG, refG, if_pos rfl]
    cases rowR line cur with
    | none => exact .inl ⟨line, rfl, rfl⟩
    | some l => exact .inr ⟨out ++ l, rfl, by simp [cnt]⟩
  | c :: a, cur, line, out, b => by
    rw [List.cons_append, refG, refG]
    by_cases h : c = 10
    · rw [if_pos h, if_pos h]
      cases rowR line cur with
      | none => exact .inl ⟨line, rfl, rfl⟩
      | some l =>
        rcases cat a [] (line + 1) (out ++ l) b with h1 | ⟨toks, h1, h2⟩
        · exact .inl h1
        · refine .inr ⟨toks, h1, ?_⟩
          show refG (a ++ 10 :: b) [] (line + 1) (out ++ l) = _
          rw [h2, cnt, if_pos h]
          congr 1
          omega
    · rw [if_neg h, if_neg h]
      rcases cat a (cur ++ [c]) line out b with h1 | ⟨toks, h1, h2⟩
      · exact .inl h1
      · refine .inr ⟨toks, h1, ?_⟩
        rw [h2, cnt, if_neg h]
        congr 1
        omega
def sh1 (d : Int) (t : Tok) : Tok := ⟨t.kind, t.text, t.line + d⟩
def sh (d : Int) (l : List Tok) : List Tok := l.map (sh1 d)
theorem sh_addLast (d c : Int) : ∀ l : List Tok, addLast (sh d l) c = sh d (addLast l c)
  | [] => rfl
  | [_] => rfl
  | t :: u :: ts => congrArg (sh1 d t :: ·) (sh_addLast d c (u :: ts))
theorem sh_stepR (d line : Int) (toks : List Tok) (was c : Int) : stepR (line + d) (sh d toks) was c = (stepR line toks was c).map (fun p => (sh d p.1, p.2)) := by
  unfold stepR
  split
  · rfl
  · split
    · rfl
    · split
      · rw [sh_addLast]; rfl
      · simp [sh, sh1]
theorem sh_runR (d line : Int) : ∀ (cs : List Int) (toks : List Tok) (was : Int), runR (line + d) cs (sh d toks) was = (runR line cs toks was).map (sh d)
  | [], _, _ => rfl
  | c :: cs, toks, was => by
    rw [runR, runR, sh_stepR]
    cases stepR line toks was c with
    | none => rfl
    | some p => exact sh_runR d line cs p.1 p.2
theorem sh_rowR (d line : Int) (l : List Int) : rowR (line + d) l = (rowR line l).map (sh d) := by
  unfold rowR
  have h := sh_runR d line (cutR l) [] 3
  have h2 : sh d ([] : List Tok) = [] := rfl
  rw [h2] at h
  rw [h]
  cases runR line (cutR l) [] 3 with
  | none => rfl
  | some toks =>
    simp only [Option.map_some, Option.some.injEq]
    unfold shut
    cases toks with
    | nil => rfl
    | cons t ts => simp [sh, sh1]
theorem shift (d : Int) (out0 : List Tok) : ∀ (b cur : List Int) (line : Int) (out : List Tok),
    (∃ l, refG b cur line out = ([], l, 2) ∧ refG b cur (line + d) (out0 ++ sh d out) = ([], l + d, 2)) ∨ (∃ toks, refG b cur line out = (toks, 0, 0) ∧ refG b cur (line + d) (out0 ++ sh d out) = (out0 ++ sh d toks, 0, 0))
  | [], cur, line, out => by
    rw [refG, refG, sh_rowR]
    cases rowR line cur with
    | none => exact .inl ⟨line, rfl, rfl⟩
    | some l => exact .inr ⟨out ++ l, rfl, by simp [sh]⟩
  | c :: b, cur, line, out => by
    rw [refG, refG, sh_rowR]
    by_cases h : c = 10
    · rw [if_pos h, if_pos h]
      cases rowR line cur with
      | none => exact .inl ⟨line, rfl, rfl⟩
      | some l =>
        have := shift d out0 b [] (line + 1) (out ++ l)
        have e1 : out0 ++ sh d (out ++ l) = out0 ++ sh d out ++ sh d l := by simp [sh]
        rw [e1, show line + 1 + d = line + d + 1 from by omega] at this
        exact this
    · rw [if_neg h, if_neg h]
      exact shift d out0 b (cur ++ [c]) line out
theorem two (X Y : List Int) (hX : X.length ≤ 2000) (hY : Y.length ≤ 2000) (x y : List Tok) (h1 : (lexF X).1 = x) (h1e : (lexF X).2.2 = 0) (h2 : (lexF Y).1 = y) (h2e : (lexF Y).2.2 = 0) :
    ∃ d, lexF (X ++ 10 :: Y) = (x ++ sh d y, 0, 0) := by
  have hl : (X ++ 10 :: Y).length ≤ 65536 := by simp; omega
  have eX : lexF X = refG X [] 1 [] := by rw [lexF_eq, if_neg (by omega)]
  have eY : lexF Y = refG Y [] 1 [] := by rw [lexF_eq, if_neg (by omega)]
  have eXY : lexF (X ++ 10 :: Y) = refG (X ++ 10 :: Y) [] 1 [] := by rw [lexF_eq, if_neg (by omega)]
  rw [eX] at h1 h1e
  rw [eY] at h2 h2e
  rw [eXY]
  rcases cat X [] 1 [] Y with ⟨l, h, _⟩ | ⟨x', h3, h4⟩
  · rw [h] at h1e; simp at h1e
  · rw [h3] at h1
    have h1' : x' = x := h1
    subst h1'
    have hs := shift (1 + cnt X) x' Y [] 1 []
    have e : x' ++ sh (1 + (cnt X : Int)) [] = x' := by simp [sh]
    rw [e, show (1 : Int) + (1 + cnt X) = 1 + cnt X + 1 from by omega, ← h4] at hs
    rcases hs with ⟨l, h5, _⟩ | ⟨y', h5, h6⟩
    · rw [h5] at h2e; simp at h2e
    · rw [h5] at h2
      have h2' : y' = y := h2
      subst h2'
      exact ⟨_, h6⟩
/-! rows of events -/
theorem sh_end (d : Int) : ∀ (l : List Tok) (i : Int), endAt (sh d l) i = endAt l i
  | [], _ => rfl
  | t :: l, i => by
    show endAt (sh1 d t :: sh d l) i = _
    rw [endAt, endAt, sh_end d l]
    rfl
theorem sh_nums (d : Int) : ∀ (l : List Tok) (r j : Nat) (e : Ev), numsF r j (sh d l) e = numsF r j l e
  | [], 0, j, e => rfl
  | [], r + 1, j, e => rfl
  | t :: l, 0, j, e => rfl
  | t :: l, r + 1, j, e => by
    show numsF (r + 1) j (sh1 d t :: sh d l) e = _
    rw [numsF_cons, numsF_cons]
    show (if t.kind = 2 then (if (parseF (strOfNums t.text)).2 = 0 then numsF r (j + 1) (sh d l) _ else _) else _) = _
    rw [sh_nums d l]
    rfl
theorem sh_event (d : Int) (l : List Tok) : eventF (sh d l) = eventF l := by
  cases l with
  | nil => rfl
  | cons t l =>
    show eventF (sh1 d t :: sh d l) = _
    rw [eventF_cons, eventF_cons]
    show (if t.kind = 1 ∧ known (firstE t) = true then numsF 4 0 (sh d l) (firstE t) else (firstE t, 2)) = _
    rw [sh_nums]
theorem sh_rows (d : Int) : ∀ (n : Nat) (l : List Tok) (out : List Ev), rowsF n (sh d l) out = rowsF n l out
  | 0, _, _ => rfl
  | n + 1, l, out => by
    have hl : (sh d l).length = l.length := List.length_map ..
    have ht : ∀ k, (sh d l).take k = sh d (l.take k) := fun k => by unfold sh; rw [List.map_take]
    have hd : ∀ k, (sh d l).drop k = sh d (l.drop k) := fun k => by unfold sh; rw [List.map_drop]
    rw [rowsF, rowsF, hl, sh_end, ht, hd, sh_event, sh_rows d n]
def R (l : List Tok) (out : List Ev) : List Ev × Int := rowsF l.length l out
theorem fuel : ∀ (m : Nat) (l : List Tok), l.length = m → Okk false l → ∀ (n : Nat) (out : List Ev), l.length ≤ n → rowsF n l out = rowsF l.length l out := by
  intro m
  induction m using Nat.strongRecOn with
  | _ m ih =>
    intro l hm ho n out hn
    by_cases h0 : l.length = 0
    · rw [rowsF_nil _ _ _ h0, rowsF_nil _ _ _ h0]
    · obtain ⟨k, t, ts, rest, e1, e2, e3, e4, e5, e6⟩ := okk_row1 l ho h0
      obtain ⟨n, rfl⟩ : ∃ j, n = j + 1 := ⟨n - 1, by omega⟩
      obtain ⟨q, hq⟩ : ∃ j, l.length = j + 1 := ⟨l.length - 1, by omega⟩
      rw [hq]
      by_cases hr : (eventF (t :: ts)).2 = 0
      · have he : eventF (t :: ts) = ((eventF (t :: ts)).1, 0) := by rw [← hr]
        rw [rowsF_ok n l _ _ out k _ h0 e1 e2 e4 he, rowsF_ok q l _ _ out k _ h0 e1 e2 e4 he, ih rest.length (by omega) rest rfl e5 n _ (by omega), ih rest.length (by omega) rest rfl e5 q _ (by omega)]
      · rw [rowsF_bad n l _ out k _ _ h0 e1 e2 rfl hr, rowsF_bad q l _ out k _ _ h0 e1 e2 rfl hr]
/-- One row after the other. -/
theorem R_step (l : List Tok) (ho : Okk false l) (h0 : l.length ≠ 0) (out : List Ev) : ∃ (k : Nat) (t : Tok) (ts rest : List Tok), endAt l 0 = k ∧ l.take k = t :: ts ∧ ts.length + 1 = k ∧ l.drop (k + 1) = rest ∧ Okk false rest ∧ rest.length + k + 1 = l.length ∧
    R l out = if (eventF (t :: ts)).2 = 0 then R rest (out ++ [(eventF (t :: ts)).1]) else ([], (eventF (t :: ts)).2) := by
  obtain ⟨k, t, ts, rest, e1, e2, e3, e4, e5, e6⟩ := okk_row1 l ho h0
  refine ⟨k, t, ts, rest, e1, e2, e3, e4, e5, e6, ?_⟩
  obtain ⟨q, hq⟩ : ∃ j, l.length = j + 1 := ⟨l.length - 1, by omega⟩
  unfold R
  rw [hq]
  by_cases hr : (eventF (t :: ts)).2 = 0
  · have he : eventF (t :: ts) = ((eventF (t :: ts)).1, 0) := by rw [← hr]
    rw [if_pos hr, rowsF_ok q l _ _ out k _ h0 e1 e2 e4 he, fuel rest.length rest rfl e5 q _ (by omega)]
  · rw [if_neg hr, rowsF_bad q l (t :: ts) out k (eventF (t :: ts)).1 (eventF (t :: ts)).2 h0 e1 e2 rfl hr]
theorem R_nil (l : List Tok) (h0 : l.length = 0) (out : List Ev) : R l out = (out, 0) := rowsF_nil _ _ _ h0
theorem end_app (z : List Tok) : ∀ (l : List Tok) (i : Int), 0 ≤ i → endAt l i ≠ -1 → endAt (l ++ z) i = endAt l i
  | [], i, _, h => absurd rfl h
  | t :: l, i, hi, h => by
    rw [List.cons_append, endAt, endAt]
    rw [endAt] at h
    by_cases hk : t.kind = 3
    · rw [if_pos hk, if_pos hk]
    · rw [if_neg hk] at h
      rw [if_neg hk, if_neg hk, end_app z l (i + 1) (by omega) h]
theorem R_app (z : List Tok) (hz : Okk false z) : ∀ (m : Nat) (x : List Tok), x.length = m → Okk false x → ∀ (out : List Ev), R (x ++ z) out = if (R x out).2 = 0 then R z (R x out).1 else R x out := by
  intro m
  induction m using Nat.strongRecOn with
  | _ m ih =>
    intro x hm ho out
    by_cases h0 : x.length = 0
    · have : x = [] := List.length_eq_zero_iff.1 h0
      subst this
      rw [R_nil [] rfl, if_pos rfl, List.nil_append]
    · obtain ⟨k, t, ts, rest, e1, e2, e3, e4, e5, e6, e7⟩ := R_step x ho h0 out
      have hxz : Okk false (x ++ z) := Okk.append x false z ho hz
      obtain ⟨k', t', ts', rest', f1, f2, f3, f4, f5, f6, f7⟩ := R_step (x ++ z) hxz (by rw [List.length_append]; omega) out
      have hk : k' = k := by
        have := end_app z x 0 (Int.le_refl _) (by rw [e1]; omega)
        rw [e1, f1] at this
        omega
      subst hk
      rw [List.take_append_of_le_length (by omega), e2] at f2
      injection f2 with g1 g2
      subst g1 g2
      rw [List.drop_append_of_le_length (by omega), e4] at f4
      subst f4
      rw [f7, e7]
      by_cases hr : (eventF (t :: ts)).2 = 0
      · rw [if_pos hr, if_pos hr]
        exact ih rest.length (by omega) rest rfl e5 _
      · rw [if_neg hr, if_neg hr, if_neg hr]
theorem R_acc : ∀ (m : Nat) (l : List Tok), l.length = m → Okk false l → ∀ (out : List Ev), (R l out).2 = (R l []).2 ∧ ((R l []).2 = 0 → (R l out).1 = out ++ (R l []).1) := by
  intro m
  induction m using Nat.strongRecOn with
  | _ m ih =>
    intro l hm ho out
    by_cases h0 : l.length = 0
    · rw [R_nil l h0, R_nil l h0]
      exact ⟨rfl, fun _ => (List.append_nil _).symm⟩
    · obtain ⟨k, t, ts, rest, e1, e2, e3, e4, e5, e6, e7⟩ := R_step l ho h0 out
      obtain ⟨k', t', ts', rest', f1, f2, f3, f4, f5, f6, f7⟩ := R_step l ho h0 []
      have hk : k' = k := by rw [e1] at f1; omega
      subst hk
      rw [e2] at f2
      injection f2 with g1 g2
      subst g1 g2
      rw [e4] at f4
      subst f4
      rw [e7, f7]
      by_cases hr : (eventF (t :: ts)).2 = 0
      · rw [if_pos hr, if_pos hr]
        obtain ⟨a1, a2⟩ := ih rest.length (by omega) rest rfl e5 (out ++ [(eventF (t :: ts)).1])
        obtain ⟨b1, b2⟩ := ih rest.length (by omega) rest rfl e5 ([] ++ [(eventF (t :: ts)).1])
        refine ⟨a1.trans b1.symm, fun h => ?_⟩
        rw [b1] at h
        rw [a2 h, b2 h, List.nil_append, List.append_assoc]
      · rw [if_neg hr, if_neg hr]
        exact ⟨rfl, fun h => absurd h hr⟩
/-- What is read is fine. -/
theorem nums_ok : ∀ (r j : Nat) (l : List Tok) (e e' : Ev), numsF r j l e = (e', 0) → l.length = r ∧ e'.kind = e.kind
  | 0, j, [], e, e', h => by rw [numsF] at h; injection h with h1 h2; subst h1; exact ⟨rfl, rfl⟩
  | 0, j, _ :: _, e, e', h => by rw [numsF] at h; injection h with h1 h2; exact absurd h2 (by decide)
  | r + 1, j, [], e, e', h => by rw [numsF] at h; injection h with h1 h2; exact absurd h2 (by decide)
  | r + 1, j, t :: l, e, e', h => by
    rw [numsF_cons] at h
    by_cases hk : t.kind = 2
    · rw [if_pos hk] at h
      by_cases hp : (parseF (strOfNums t.text)).2 = 0
      · rw [if_pos hp] at h
        obtain ⟨h1, h2⟩ := nums_ok r (j + 1) l _ e' h
        refine ⟨by rw [List.length_cons, h1], h2.trans ?_⟩
        unfold setF
        split <;> rfl
      · rw [if_neg hp] at h
        injection h with h1 h2
        exact absurd h2 hp
    · rw [if_neg hk] at h
      injection h with h1 h2
      exact absurd h2 (by decide)
theorem parse_in (s : ByteArray) (h : (parseF s).2 = 0) : 0 ≤ (parseF s).1 ∧ (parseF s).1 ≤ 1048576 := ⟨(parse_back s h).1, (parse_back s h).2.1⟩
theorem event_ok (l : List Tok) (e : Ev) (h : eventF l = (e, 0)) : l.length = 5 ∧ pos e ∧ fine e := by
  cases l with
  | nil => injection h with h1 h2; exact absurd h2 (by decide)
  | cons t l =>
    rw [eventF_cons] at h
    by_cases hk : t.kind = 1 ∧ known (firstE t) = true
    · rw [if_pos hk] at h
      obtain ⟨hl, hkind⟩ := nums_ok 4 0 l _ e h
      refine ⟨by rw [List.length_cons, hl], ?_⟩
      match l, hl with
      | [t1, t2, t3, t4], _ =>
        rw [numsF_cons] at h
        by_cases k1 : t1.kind = 2
        case neg => rw [if_neg k1] at h; injection h with h1 h2; exact absurd h2 (by decide)
        rw [if_pos k1] at h
        by_cases p1 : (parseF (strOfNums t1.text)).2 = 0
        case neg => rw [if_neg p1] at h; injection h with h1 h2; exact absurd h2 p1
        rw [if_pos p1, numsF_cons] at h
        by_cases k2 : t2.kind = 2
        case neg => rw [if_neg k2] at h; injection h with h1 h2; exact absurd h2 (by decide)
        rw [if_pos k2] at h
        by_cases p2 : (parseF (strOfNums t2.text)).2 = 0
        case neg => rw [if_neg p2] at h; injection h with h1 h2; exact absurd h2 p2
        rw [if_pos p2, numsF_cons] at h
        by_cases k3 : t3.kind = 2
        case neg => rw [if_neg k3] at h; injection h with h1 h2; exact absurd h2 (by decide)
        rw [if_pos k3] at h
        by_cases p3 : (parseF (strOfNums t3.text)).2 = 0
        case neg => rw [if_neg p3] at h; injection h with h1 h2; exact absurd h2 p3
        rw [if_pos p3, numsF_cons] at h
        by_cases k4 : t4.kind = 2
        case neg => rw [if_neg k4] at h; injection h with h1 h2; exact absurd h2 (by decide)
        rw [if_pos k4] at h
        by_cases p4 : (parseF (strOfNums t4.text)).2 = 0
        case neg => rw [if_neg p4] at h; injection h with h1 h2; exact absurd h2 p4
        rw [if_pos p4] at h
        have q1 := parse_in _ p1
        have q2 := parse_in _ p2
        have q3 := parse_in _ p3
        have q4 := parse_in _ p4
        injection h with h1 h2
        have hkn : known e = true := by
          have : known e = known (firstE t) := by unfold known; rw [hkind]
          rw [this]; exact hk.2
        have e1 : e.task = (parseF (strOfNums t1.text)).1 := by rw [← h1]; rfl
        have e2 : e.slot = (parseF (strOfNums t2.text)).1 := by rw [← h1]; rfl
        have e3 : e.epoch = (parseF (strOfNums t3.text)).1 := by rw [← h1]; rfl
        have e4 : e.tick = (parseF (strOfNums t4.text)).1 := by rw [← h1]; rfl
        unfold pos fine big
        rw [e1, e2, e3, e4]
        exact ⟨⟨q1.1, q2.1, q3.1, q4.1⟩, hkn, by omega, by omega, by omega, by omega⟩
    · rw [if_neg hk] at h
      injection h with h1 h2
      exact absurd h2 (by decide)
theorem R_ok : ∀ (m : Nat) (l : List Tok), l.length = m → Okk false l → ∀ (out o : List Ev), R l out = (o, 0) → (∀ e ∈ out, pos e ∧ fine e) → (∀ e ∈ o, pos e ∧ fine e) ∧ 6 * o.length = 6 * out.length + l.length := by
  intro m
  induction m using Nat.strongRecOn with
  | _ m ih =>
    intro l hm ho out o h hout
    by_cases h0 : l.length = 0
    · rw [R_nil l h0] at h
      injection h with h1 _
      subst h1
      exact ⟨hout, by omega⟩
    · obtain ⟨k, t, ts, rest, e1, e2, e3, e4, e5, e6, e7⟩ := R_step l ho h0 out
      rw [e7] at h
      by_cases hr : (eventF (t :: ts)).2 = 0
      · rw [if_pos hr] at h
        have he : eventF (t :: ts) = ((eventF (t :: ts)).1, 0) := by rw [← hr]
        obtain ⟨g1, g2⟩ := event_ok (t :: ts) _ he
        obtain ⟨a1, a2⟩ := ih rest.length (by omega) rest rfl e5 _ o h (fun e hx => by
          rcases List.mem_append.1 hx with hx | hx
          · exact hout e hx
          · rw [List.mem_singleton.1 hx]; exact g2)
        refine ⟨a1, ?_⟩
        rw [List.length_append, List.length_singleton] at a2
        rw [List.length_cons] at g1
        omega
      · rw [if_neg hr] at h
        injection h with h1 h2
        exact absurd h2 hr
theorem R_bad : ∀ (m : Nat) (l : List Tok), l.length = m → Okk false l → ∀ (out : List Ev), (R l out).2 ≠ 0 → (R l out).1 = [] := by
  intro m
  induction m using Nat.strongRecOn with
  | _ m ih =>
    intro l hm ho out h
    by_cases h0 : l.length = 0
    · rw [R_nil l h0] at h; exact absurd rfl h
    · obtain ⟨k, t, ts, rest, e1, e2, e3, e4, e5, e6, e7⟩ := R_step l ho h0 out
      rw [e7] at h ⊢
      by_cases hr : (eventF (t :: ts)).2 = 0
      · rw [if_pos hr] at h ⊢
        exact ih rest.length (by omega) rest rfl e5 _ h
      · rw [if_neg hr]
theorem Okk_sh (d : Int) : ∀ (l : List Tok) (b : Bool), Okk b l → Okk b (sh d l)
  | [], b, h => h
  | t :: l, b, h => by
    rcases h with ⟨h1, h2⟩ | ⟨h1, h2, h3, h4⟩
    · exact .inl ⟨h1, Okk_sh d l true h2⟩
    · exact .inr ⟨h1, h2, h3, Okk_sh d l false h4⟩
theorem parse_R (X : List Int) (h : (lexF X).2.2 = 0) : parseT X = R (lexF X).1 [] := by
  unfold parseT R
  rw [if_pos h]
/-- Texts that are right, one behind the other. -/
theorem parse_two (X Y : List Int) (hX : X.length ≤ 2000) (hY : Y.length ≤ 2000) (a b : List Ev) (h1 : parseT X = (a, 0)) (h2 : parseT Y = (b, 0)) :
    parseT (X ++ 10 :: Y) = (a ++ b, 0) ∧ (∀ e ∈ a ++ b, pos e ∧ fine e) ∧ (a ++ b).length ≤ 1400 := by
  have lx : ∀ (Z : List Int) (c : List Ev), Z.length ≤ 2000 → parseT Z = (c, 0) → (lexF Z).2.2 = 0 ∧ Okk false (lexF Z).1 ∧ (lexF Z).1.length ≤ 2 * Z.length + 1 := by
    intro Z c hZ hc
    rcases lexF_inv Z (by omega) with ⟨l, _, h⟩ | ⟨toks, h, ho, hj⟩
    · unfold parseT at hc
      rw [h, if_neg (show ¬ (2 : Int) = 0 by decide)] at hc
      injection hc with _ hc
      exact absurd hc (show ¬ (2 : Int) = 0 by decide)
    · rw [h]
      exact ⟨rfl, ho, Nat.le_trans (jn_length toks) hj⟩
  obtain ⟨x1, x2, x3⟩ := lx X a hX h1
  obtain ⟨y1, y2, y3⟩ := lx Y b hY h2
  rw [parse_R X x1] at h1
  rw [parse_R Y y1] at h2
  obtain ⟨d, hd⟩ := two X Y hX hY _ _ rfl x1 rfl y1
  have hsh : R (sh d (lexF Y).1) a = (a ++ b, 0) := by
    have e : R (sh d (lexF Y).1) a = R (lexF Y).1 a := by
      unfold R
      rw [sh_rows, show (sh d (lexF Y).1).length = (lexF Y).1.length from List.length_map ..]
    rw [e]
    obtain ⟨r1, r2⟩ := R_acc _ (lexF Y).1 rfl y2 a
    rw [h2] at r1 r2
    exact Prod.ext (r2 rfl) r1
  have hT : parseT (X ++ 10 :: Y) = (a ++ b, 0) := by
    rw [parse_R _ (by rw [hd]), hd]
    show R ((lexF X).1 ++ sh d (lexF Y).1) [] = _
    rw [R_app (sh d (lexF Y).1) (Okk_sh d _ false y2) _ (lexF X).1 rfl x2 [], h1, if_pos rfl]
    exact hsh
  obtain ⟨f1, g1⟩ := R_ok _ (lexF X).1 rfl x2 [] a h1 (fun _ h => by cases h)
  obtain ⟨f2, g2⟩ := R_ok _ (lexF Y).1 rfl y2 [] b h2 (fun _ h => by cases h)
  refine ⟨hT, fun e he => ?_, ?_⟩
  · rcases List.mem_append.1 he with h | h
    · exact f1 e h
    · exact f2 e h
  · rw [List.length_append]
    simp only [List.length_nil] at g1 g2
    omega
/-- What is wrong says nothing. -/
theorem parse_bad (X : List Int) (hX : X.length ≤ 65536) (h : (parseT X).2 ≠ 0) : (parseT X).1 = [] := by
  rcases lexF_inv X hX with ⟨l, _, hl⟩ | ⟨toks, hl, ho, _⟩
  · unfold parseT
    rw [hl, if_neg (by simp)]
  · have e : parseT X = R (lexF X).1 [] := parse_R X (by rw [hl])
    rw [e] at h ⊢
    rw [hl] at h ⊢
    exact R_bad _ toks rfl ho [] h
theorem itoa_small (n : Int) (h : 0 ≤ n ∧ n ≤ 1048576) : (Lib.itoa n).length ≤ 7 := by
  rw [itoa_pos n h.1]
  exact dec_len 6 n.toNat (by omega)
theorem text_small (l : List Ev) (h : ∀ e ∈ l, pos e ∧ fine e) (hl : l.length ≤ 1400) : (textL l).length ≤ 65536 := by
  have := text_len 7 l (fun e he n hn => by
    obtain ⟨⟨p1, p2, p3, p4⟩, _, f1, f2, f3, f4⟩ := h e he
    unfold big at f1 f2 f3 f4
    simp only [List.mem_cons, List.not_mem_nil, or_false] at hn
    rcases hn with rfl | rfl | rfl | rfl
    · exact itoa_small _ ⟨p1, by omega⟩
    · exact itoa_small _ ⟨p2, by omega⟩
    · exact itoa_small _ ⟨p3, by omega⟩
    · exact itoa_small _ ⟨p4, by omega⟩)
  have h2 : (10 + 4 * 7) * l.length ≤ (10 + 4 * 7) * 1400 := Nat.mul_le_mul_left _ hl
  omega
end Go.Proofs.YtckcepmkfegkiaaDoor.TrR
