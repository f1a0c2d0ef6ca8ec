/- The statement LexLines: lines have nothing to do with each other: for every two lists of bytes the Go function returns true. No condition. -/
import Derived.Test.YtekedpnlodnmnaaPLexLinesx2
import Derived.Test.YtekedpnlodnmnaaBits
import Derived.Test.YtekedpnlodnmnaaLexT
namespace Go.Proofs.Ytekedpnlodnmnaa.Pure
open Go.RowKit Go.Proofs.Ytekedpnlodnmnaa.PLexLines Go.Proofs.YtekedpnlodnmnaaW.PrintWords Go.Proofs.YtekedpnlodnmnaaW.PrintLast LexS LexR

/-! the plain law: two texts, one behind the other -/
def cnt : List Int → Nat
  | [] => 0
  | c :: cs => (if c = 10 then 1 else 0) + cnt cs
theorem cat : ∀ (a cur : List Int) (line : Int) (out : List Tok) (b : List Int),
    (∃ l, refG a cur line out = ([], l, 2) ∧ refG (a ++ 10 :: b) cur line out = ([], l, 2)) ∨ (∃ toks, refG a cur line out = (toks, 0, 0) ∧ refG (a ++ 10 :: b) cur line out = refG b [] (line + cnt a + 1) toks)
  | [], cur, line, out, b => by
    rw [List.nil_append, refG, refG, if_pos rfl]
    cases rowR line cur with
    | none => exact .inl ⟨line, rfl, rfl⟩
    | some l => exact .inr ⟨out ++ l, rfl, by simp [cnt]⟩
  | c :: a, cur, line, out, b => by
    rw [List.cons_append, refG, refG]
    by_cases h : c = 10
    · rw [if_pos h, if_pos h]
      cases rowR line cur with
      | none => exact .inl ⟨line, rfl, rfl⟩
      | some l =>
        rcases cat a [] (line + 1) (out ++ l) b with h1 | ⟨toks, h1, h2⟩
        · exact .inl h1
        · refine .inr ⟨toks, h1, ?_⟩
          show refG (a ++ 10 :: b) [] (line + 1) (out ++ l) = _
          rw [h2, cnt, if_pos h]
          congr 1
          omega
    · rw [if_neg h, if_neg h]
      rcases cat a (cur ++ [c]) line out b with h1 | ⟨toks, h1, h2⟩
      · exact .inl h1
      · refine .inr ⟨toks, h1, ?_⟩
        rw [h2, cnt, if_neg h]
        congr 1
        omega
def sh1 (d : Int) (t : Tok) : Tok := ⟨t.kind, t.text, t.line + d⟩
def sh (d : Int) (l : List Tok) : List Tok := l.map (sh1 d)
theorem sh_addLast (d c : Int) : ∀ l : List Tok, addLast (sh d l) c = sh d (addLast l c)
  | [] => rfl
  | [_] => rfl
  | t :: u :: ts => congrArg (sh1 d t :: ·) (sh_addLast d c (u :: ts))
theorem sh_stepR (d line : Int) (toks : List Tok) (was c : Int) : stepR (line + d) (sh d toks) was c = (stepR line toks was c).map (fun p => (sh d p.1, p.2)) := by
  unfold stepR
  split
  · rfl
  · split
    · rfl
    · split
      · rw [sh_addLast]; rfl
      · simp [sh, sh1]
theorem sh_runR (d line : Int) : ∀ (cs : List Int) (toks : List Tok) (was : Int), runR (line + d) cs (sh d toks) was = (runR line cs toks was).map (sh d)
  | [], _, _ => rfl
  | c :: cs, toks, was => by
    rw [runR, runR, sh_stepR]
    cases stepR line toks was c with
    | none => rfl
    | some p => exact sh_runR d line cs p.1 p.2
theorem sh_rowR (d line : Int) (l : List Int) : rowR (line + d) l = (rowR line l).map (sh d) := by
  unfold rowR
  have h := sh_runR d line (cutR l) [] 3
  have h2 : sh d ([] : List Tok) = [] := rfl
  rw [h2] at h
  rw [h]
  cases runR line (cutR l) [] 3 with
  | none => rfl
  | some toks =>
    simp only [Option.map_some, Option.some.injEq]
    unfold shut
    cases toks with
    | nil => rfl
    | cons t ts => simp [sh, sh1]
theorem shift (d : Int) (out0 : List Tok) : ∀ (b cur : List Int) (line : Int) (out : List Tok),
    (∃ l, refG b cur line out = ([], l, 2) ∧ refG b cur (line + d) (out0 ++ sh d out) = ([], l + d, 2)) ∨ (∃ toks, refG b cur line out = (toks, 0, 0) ∧ refG b cur (line + d) (out0 ++ sh d out) = (out0 ++ sh d toks, 0, 0))
  | [], cur, line, out => by
    rw [refG, refG, sh_rowR]
    cases rowR line cur with
    | none => exact .inl ⟨line, rfl, rfl⟩
    | some l => exact .inr ⟨out ++ l, rfl, by simp [sh]⟩
  | c :: b, cur, line, out => by
    rw [refG, refG, sh_rowR]
    by_cases h : c = 10
    · rw [if_pos h, if_pos h]
      cases rowR line cur with
      | none => exact .inl ⟨line, rfl, rfl⟩
      | some l =>
        have := shift d out0 b [] (line + 1) (out ++ l)
        have e1 : out0 ++ sh d (out ++ l) = out0 ++ sh d out ++ sh d l := by simp [sh]
        rw [e1, show line + 1 + d = line + d + 1 from by omega] at this
        exact this
    · rw [if_neg h, if_neg h]
      exact shift d out0 b (cur ++ [c]) line out
/-! whose lines they are -/
theorem addLast_line (line c : Int) : ∀ l : List Tok, (∀ t ∈ l, t.line = line) → ∀ t ∈ addLast l c, t.line = line
  | [], _, t, ht => by simp [addLast] at ht
  | [u], h, t, ht => by
    rw [List.mem_singleton.1 ht]
    exact h u (by simp)
  | u :: v :: us, h, t, ht => by
    rcases List.mem_cons.1 ht with rfl | ht
    · exact h t (by simp)
    · exact addLast_line line c (v :: us) (fun x hx => h x (by simp at hx ⊢; exact .inr hx)) t ht
theorem runR_line (line : Int) : ∀ (cs : List Int) (toks toks' : List Tok) (was : Int), (∀ t ∈ toks, t.line = line) → runR line cs toks was = some toks' → ∀ t ∈ toks', t.line = line
  | [], toks, toks', was, h, hr => by cases hr; exact h
  | c :: cs, toks, toks', was, h, hr => by
    rw [runR] at hr
    obtain ⟨⟨t1, w1⟩, h1, h2⟩ := Option.bind_eq_some_iff.1 hr
    refine runR_line line cs t1 toks' w1 ?_ h2
    unfold stepR at h1
    split at h1
    · cases h1
    · split at h1
      · cases h1; exact h
      · split at h1
        · simp only [Option.some.injEq, Prod.mk.injEq] at h1
          rw [← h1.1]
          exact addLast_line line c toks h
        · simp only [Option.some.injEq, Prod.mk.injEq] at h1
          rw [← h1.1]
          intro t ht
          rcases List.mem_append.1 ht with ht | ht
          · exact h t ht
          · rw [List.mem_singleton.1 ht]
theorem rowR_line (line : Int) (l : List Int) (ts : List Tok) (h : rowR line l = some ts) : ∀ t ∈ ts, t.line = line := by
  unfold rowR at h
  obtain ⟨toks, h1, rfl⟩ := Option.map_eq_some_iff.1 h
  have h2 := runR_line line _ _ toks 3 (by simp) h1
  unfold shut
  split
  · simp
  · intro t ht
    rcases List.mem_append.1 ht with ht | ht
    · exact h2 t ht
    · rw [List.mem_singleton.1 ht]
theorem refG_line : ∀ (rest cur : List Int) (line : Int) (out : List Tok), 1 ≤ line → (∀ t ∈ out, 1 ≤ t.line ∧ t.line ≤ line) →
    (∃ l, 1 ≤ l ∧ l ≤ line + rest.length ∧ refG rest cur line out = ([], l, 2)) ∨ (∃ toks, refG rest cur line out = (toks, 0, 0) ∧ ∀ t ∈ toks, 1 ≤ t.line ∧ t.line ≤ line + rest.length)
  | [], cur, line, out, h1, ho => by
    rw [refG]
    cases hr : rowR line cur with
    | none => exact .inl ⟨line, h1, by simp, rfl⟩
    | some l =>
      refine .inr ⟨out ++ l, rfl, fun t ht => ?_⟩
      rcases List.mem_append.1 ht with ht | ht
      · have := ho t ht; simp; exact this
      · have := rowR_line line cur l hr t ht
        simp; omega
  | c :: cs, cur, line, out, h1, ho => by
    rw [refG]
    split
    · cases hr : rowR line cur with
      | none => exact .inl ⟨line, h1, by simp; omega, rfl⟩
      | some l =>
        rcases refG_line cs [] (line + 1) (out ++ l) (by omega) (fun t ht => by
          rcases List.mem_append.1 ht with ht | ht
          · have := ho t ht; omega
          · have := rowR_line line cur l hr t ht; omega) with ⟨k, h2, h3, h4⟩ | ⟨toks, h2, h3⟩
        · exact .inl ⟨k, h2, by simp; omega, h4⟩
        · exact .inr ⟨toks, h2, fun t ht => by have := h3 t ht; simp; omega⟩
    · rcases refG_line cs (cur ++ [c]) line out h1 ho with ⟨k, h2, h3, h4⟩ | ⟨toks, h2, h3⟩
      · exact .inl ⟨k, h2, by simp; omega, h4⟩
      · exact .inr ⟨toks, h2, fun t ht => by have := h3 t ht; simp; omega⟩
/-- All of it. -/
theorem two (X Y : List Int) (hX : X.length ≤ 1000) (hY : Y.length ≤ 1000) :
    (∃ l, lexF X = ([], l, 2) ∧ lexF (X ++ 10 :: Y) = ([], l, 2)) ∨
    (∃ x, lexF X = (x, 0, 0) ∧ ((∃ l, 1 ≤ l ∧ l ≤ 1001 ∧ lexF Y = ([], l, 2) ∧ lexF (X ++ 10 :: Y) = ([], l + (1 + cnt X), 2)) ∨
      (∃ y, lexF Y = (y, 0, 0) ∧ (∀ t ∈ y, 1 ≤ t.line ∧ t.line ≤ 1001) ∧ lexF (X ++ 10 :: Y) = (x ++ sh (1 + cnt X) y, 0, 0)))) := by
  have hl : (X ++ 10 :: Y).length ≤ 65536 := by simp; omega
  rw [lexF_eq, lexF_eq, lexF_eq, if_neg (by omega), if_neg (by omega), if_neg (by omega)]
  rcases cat X [] 1 [] Y with h | ⟨x, h1, h2⟩
  · exact .inl h
  · refine .inr ⟨x, h1, ?_⟩
    have hs := shift (1 + cnt X) x Y [] 1 []
    have e : x ++ sh (1 + (cnt X : Int)) [] = x := by simp [sh]
    rw [e, show (1 : Int) + (1 + cnt X) = 1 + cnt X + 1 from by omega, ← h2] at hs
    have hb := refG_line Y [] 1 [] (by omega) (by simp)
    rcases hs with ⟨l, h3, h4⟩ | ⟨y, h3, h4⟩
    · refine .inl ⟨l, ?_, ?_, h3, h4⟩ <;> rcases hb with ⟨k, h5, h6, h7⟩ | ⟨toks, h5, _⟩
      · rw [h3] at h7; cases h7; exact h5
      · rw [h3] at h5; simp at h5
      · rw [h3] at h7; cases h7; omega
      · rw [h3] at h5; simp at h5
    · refine .inr ⟨y, h3, ?_, h4⟩
      rcases hb with ⟨k, h5, h6, h7⟩ | ⟨toks, h5, h6⟩
      · rw [h3] at h7; simp at h7
      · rw [h3] at h5
        simp only [Prod.mk.injEq] at h5
        rw [h5.1]
        intro t ht
        have := h6 t ht
        omega

/-! the loops -/
abbrev TS := S35
def toS (t : Tok) : TS := ⟨t.kind, strOfNums t.text, t.line⟩
theorem rd_at (pre : List Tok) (t : Tok) (ts : List Tok) : rd_T35 ((pre ++ t :: ts).map toS) (pre.length : Int) = toS t := by
  simp [rd_T35, List.getD_eq_getElem?_getD]
theorem ln_l1b (x y : List Tok) (d : Int) (hx : x.length ≤ 100000) (hy : y.length ≤ 100000) (hd : 0 ≤ d ∧ d ≤ 2000) (hb : ∀ t ∈ y, 1 ≤ t.line ∧ t.line ≤ 1001) : ∀ (y2 y1 : List Tok), y = y1 ++ y2 →
    Ev (fun k => millwrightlaw02_LexLines.l1 k true d (x.map toS) (y.map toS) ((x ++ sh d y).map toS) ((x.length : Int) + y1.length)) true
  | [], y1, he => by
    refine Ev.step (f := fun _ => some true) (fun k => ?_) (Ev.now _)
    simp only [millwrightlaw02_LexLines.l1]
    rw [if_neg (by simp [sh, he])]
  | t :: ts, y1, he => by
    have ih := ln_l1b x y d hx hy hd hb ts (y1 ++ [t]) (by rw [he]; simp)
    have hyl : y.length = y1.length + (ts.length + 1) := by rw [he]; simp
    have ht := hb t (by rw [he]; simp)
    have e0 : wrap64 ((x.length : Int) + y1.length - ((x.map toS).length : Int)) = (y1.length : Int) := by
      rw [List.length_map, Bits.wrap64_in (by omega) (by omega)]
      omega
    have e1 : rd_T35 (y.map toS) (y1.length : Int) = toS t := by rw [he]; exact rd_at y1 t ts
    have e2 : rd_T35 ((x ++ sh d y).map toS) ((x.length : Int) + y1.length) = toS (sh1 d t) := by
      have h1 : x ++ sh d y = (x ++ sh d y1) ++ sh1 d t :: sh d ts := by rw [he]; simp [sh]
      have h2 : ((x.length : Int) + y1.length) = ((x ++ sh d y1).length : Int) := by simp [sh]
      rw [h1, h2]
      exact rd_at _ _ _
    refine Ev.step (fun k => ?_) ih
    simp only [millwrightlaw02_LexLines.l1]
    have e3 : wrap64 ((toS t).f2 + d) = t.line + d := Bits.wrap64_in (by show _ ≤ t.line + d; omega) (by show t.line + d ≤ _; omega)
    rw [if_pos (by simp [sh]; omega), if_neg (by simp; omega), e0, if_pos (by omega), if_pos (by rw [List.length_map]; omega), if_pos (by omega), e1, e2, e3, Bits.wrap64_in (by omega) (by omega)]
    rw [if_neg (by simp [toS, sh1])]
    have e4 : (x.length : Int) + y1.length + 1 = (x.length : Int) + ((y1 ++ [t]).length : Int) := by simp; omega
    rw [e4]
theorem ln_l1a (x y : List Tok) (d : Int) (hx : x.length ≤ 100000) (hy : y.length ≤ 100000) (hd : 0 ≤ d ∧ d ≤ 2000) (hb : ∀ t ∈ y, 1 ≤ t.line ∧ t.line ≤ 1001) : ∀ (x2 x1 : List Tok), x = x1 ++ x2 →
    Ev (fun k => millwrightlaw02_LexLines.l1 k true d (x.map toS) (y.map toS) ((x ++ sh d y).map toS) (x1.length : Int)) true
  | [], x1, he => by
    have := ln_l1b x y d hx hy hd hb y [] rfl
    rw [List.append_nil] at he
    rw [← he]
    simpa using this
  | t :: ts, x1, he => by
    have ih := ln_l1a x y d hx hy hd hb ts (x1 ++ [t]) (by rw [he]; simp)
    have hxl : x.length = x1.length + (ts.length + 1) := by rw [he]; simp
    have e1 : rd_T35 (x.map toS) (x1.length : Int) = toS t := by rw [he]; exact rd_at x1 t ts
    have e2 : rd_T35 ((x ++ sh d y).map toS) (x1.length : Int) = toS t := by
      have h1 : x ++ sh d y = x1 ++ t :: (ts ++ sh d y) := by rw [he]; simp
      rw [h1]
      exact rd_at _ _ _
    refine Ev.step (fun k => ?_) ih
    simp only [millwrightlaw02_LexLines.l1]
    rw [if_pos (by simp [sh]; omega), if_pos (by simp; omega), if_pos (by omega), e1, e2, Bits.wrap64_in (by omega) (by omega), if_neg (by simp)]
    simp
theorem rd_nat {X : List Int} {i : Nat} (h : i < X.length) : rd X (i : Int) = X[i] := by simp [rd, List.getD_eq_getElem?_getD, List.getElem?_eq_getElem h]
theorem cnt_append : ∀ a b : List Int, cnt (a ++ b) = cnt a + cnt b
  | [], b => by simp [cnt]
  | c :: a, b => by rw [List.cons_append, cnt, cnt, cnt_append a b]; omega
theorem cnt_le : ∀ a : List Int, cnt a ≤ a.length
  | [] => by simp [cnt]
  | c :: a => by
    have := cnt_le a
    rw [cnt, List.length_cons]
    split <;> omega
theorem lexS_len (X : List Int) : ((lexF X).1.map toS).length ≤ 70000 := by rw [List.length_map]; exact lexF_len X
theorem ln_l0 (X Y : List Int) (hX : X.length ≤ 1000) (hY : Y.length ≤ 1000) : ∀ (d i : Nat), i ≤ X.length → X.length - i = d →
    Ev (fun k => millwrightlaw02_LexLines.l0 k X Y true (1 + (cnt (X.take i) : Int)) i) true
  | 0, i, hi, hd => by
    obtain rfl : i = X.length := by omega
    have hc := cnt_le X
    have e0 : ∀ Z : List Int, lex_Lex.f Z = some ((lexF Z).1.map toS, (lexF Z).2.1, (lexF Z).2.2) := fun Z => rfl
    have step : ∀ k, millwrightlaw02_LexLines.l0 (k + 1) X Y true (1 + (cnt X : Int)) X.length = (if (lexF X).2.2 = 0 then (if (lexF Y).2.2 = 0 then (if (lexF (X ++ 10 :: Y)).2.2 = 0 then (if (lexF (X ++ 10 :: Y)).2.1 = 0 then (millwrightlaw02_LexLines.j1 k true (1 + (cnt X : Int)) ((lexF X).1.map toS) ((lexF Y).1.map toS) ((lexF (X ++ 10 :: Y)).1.map toS) ((((lexF (X ++ 10 :: Y)).1.map toS).length : Int) != (wrap64 ((((lexF X).1.map toS).length : Int) + (((lexF Y).1.map toS).length : Int))))) else (millwrightlaw02_LexLines.j1 k true (1 + (cnt X : Int)) ((lexF X).1.map toS) ((lexF Y).1.map toS) ((lexF (X ++ 10 :: Y)).1.map toS) true)) else (millwrightlaw02_LexLines.j1 k true (1 + (cnt X : Int)) ((lexF X).1.map toS) ((lexF Y).1.map toS) ((lexF (X ++ 10 :: Y)).1.map toS) true)) else (if true = true then (if (lexF (X ++ 10 :: Y)).2.2 = (lexF Y).2.2 then (if (lexF (X ++ 10 :: Y)).2.1 = (wrap64 ((lexF Y).2.1 + (1 + (cnt X : Int)))) then (some ((((lexF (X ++ 10 :: Y)).1.map toS).length : Int) == 0)) else (some false)) else (some false)) else (some false))) else (if true = true then (if (lexF (X ++ 10 :: Y)).2.2 = (lexF X).2.2 then (if (lexF (X ++ 10 :: Y)).2.1 = (lexF X).2.1 then (some ((((lexF (X ++ 10 :: Y)).1.map toS).length : Int) == 0)) else (some false)) else (some false)) else (some false))) := by
      intro k
      simp only [millwrightlaw02_LexLines.l0]
      rw [if_neg (by omega), e0 X, Option.bind_some, e0 Y, Option.bind_some, Option.bind_some, if_pos (by simp; omega), Option.bind_some, if_pos (by simp; omega), Option.bind_some, if_pos (by simp; omega)]
      have e1 : ([] ++ X ++ [10]) ++ Y = X ++ 10 :: Y := by simp
      rw [e1, e0 (X ++ 10 :: Y), Option.bind_some]
    rw [List.take_length]
    rcases two X Y hX hY with ⟨l, h1, h2⟩ | ⟨x, h1, ⟨l, h2, h3, h4, h5⟩ | ⟨y, h2, h3, h4⟩⟩
    · refine Ev.step (f := fun _ => some true) (fun k => ?_) (Ev.now _)
      rw [step, h1, h2, if_neg (by simp), if_pos rfl, if_pos rfl, if_pos rfl]
      rfl
    · refine Ev.step (f := fun _ => some true) (fun k => ?_) (Ev.now _)
      have e2 : wrap64 (l + (1 + (cnt X : Int))) = l + (1 + (cnt X : Int)) := Bits.wrap64_in (by omega) (by omega)
      rw [step, h1, h4, h5, if_pos rfl, if_neg (by simp), if_pos rfl, if_pos rfl]
      simp only
      rw [e2, if_pos rfl]
      rfl
    · have hxl : x.length ≤ 70000 := by have := lexF_len X; rw [h1] at this; exact this
      have hyl : y.length ≤ 70000 := by have := lexF_len Y; rw [h2] at this; exact this
      have e3 : wrap64 (((x.map toS).length : Int) + ((y.map toS).length : Int)) = (x.length : Int) + y.length := by
        rw [List.length_map, List.length_map]
        exact Bits.wrap64_in (by omega) (by omega)
      refine Ev.step (f := fun k => millwrightlaw02_LexLines.j1 k true (1 + (cnt X : Int)) (x.map toS) (y.map toS) ((x ++ sh (1 + cnt X) y).map toS) false) (fun k => ?_) (Ev.step (fun k => ?_) (ln_l1a x y (1 + cnt X) (by omega) (by omega) (by omega) h3 x [] rfl))
      · rw [step, h1, h2, h4, if_pos rfl, if_pos rfl, if_pos rfl, if_pos rfl]
        simp only
        rw [e3]
        congr 1
        simp [sh]
      · simp only [millwrightlaw02_LexLines.j1]
        rw [if_neg (by decide)]
        rfl
  | d + 1, i, hi, hd => by
    have hlt : i < X.length := by omega
    have ih := ln_l0 X Y hX hY d (i + 1) (by omega) (by omega)
    have hc := cnt_le (X.take i)
    rw [List.length_take] at hc
    have htk : X.take (i + 1) = X.take i ++ [X[i]] := by rw [List.take_succ_eq_append_getElem hlt]
    rw [htk, cnt_append] at ih
    refine Ev.step (fun k => ?_) ih
    simp only [millwrightlaw02_LexLines.l0]
    rw [if_pos (by omega), if_pos (by omega), rd_nat hlt]
    by_cases h : X[i] = 10
    · have e : (1 + (cnt (X.take i) : Int) + 1) = 1 + ((cnt (X.take i) + cnt [X[i]] : Nat) : Int) := by rw [h]; simp [cnt]; omega
      rw [if_pos h, Bits.wrap64_in (by omega) (by omega), Bits.wrap64_in (by omega) (by omega), e]
      rfl
    · have e : (1 + (cnt (X.take i) : Int)) = 1 + ((cnt (X.take i) + cnt [X[i]] : Nat) : Int) := by simp [cnt, h]
      rw [if_neg h, Bits.wrap64_in (by omega) (by omega), e]
      rfl
theorem LexLines : millwrightlaw02_LexLines.Pure := by
  intro l0 l1 _ _ _ _ _ _
  have hmn : mn (l0.length : Int) 1000 = ((min l0.length 1000 : Nat) : Int) := by unfold mn; split <;> omega
  have hmn1 : mn (l1.length : Int) 1000 = ((min l1.length 1000 : Nat) : Int) := by unfold mn; split <;> omega
  generalize hXe : l0.take (min l0.length 1000) = X
  generalize hYe : l1.take (min l1.length 1000) = Y
  have hX : X.length ≤ 1000 := by rw [← hXe, List.length_take]; omega
  have hY : Y.length ≤ 1000 := by rw [← hYe, List.length_take]; omega
  obtain ⟨k, hk⟩ := (ln_l0 X Y hX hY X.length 0 (by omega) (by omega)).rounds
  refine ⟨k, ?_⟩
  unfold millwrightlaw02_LexLines.f millwrightlaw02_shown.f
  rw [Option.bind_some, hmn, hmn1, if_pos (by omega), if_pos (by omega), if_pos (by omega), if_pos (by omega), Int.toNat_natCast, Int.toNat_natCast, hXe, hYe]
  exact hk
end Go.Proofs.Ytekedpnlodnmnaa.Pure
