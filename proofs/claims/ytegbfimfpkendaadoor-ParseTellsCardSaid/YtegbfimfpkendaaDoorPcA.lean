/- Plain: the reference's Lex answers the program's tokens. No condition. -/
import Derived.Test.YtegbfimfpkendaaDoorPParseTellsx3
import Derived.Test.YtegbfimfpkendaaDoorMg36
namespace Go.Proofs.YtegbfimfpkendaaDoor.PcA
open Go.RowKit Go.Proofs.YtegbfimfpkendaaDoor.PParseTells Go.Proofs.YtegbfimfpkendaaDoorW.PrintWords Go.Proofs.YtegbfimfpkendaaDoorW.PrintLast LexQ LexR Str
set_option linter.unusedVariables false
set_option linter.unusedSimpArgs false
abbrev T48 := S68
def f48 (t : LexS.Tok) : T48 := ⟨t.kind, strOfNums t.text, t.line⟩
theorem kind_ev (c : Int) : ∀ k, millwrightref02_kind.f (k + 2) c = some (kR c) := by
  intro k
  unfold millwrightref02_kind.f kR
  simp only [millwrightref02_kind.j0, millwrightref02_kind.j1]
  (repeat' split) <;> first | rfl | (exfalso; simp_all; done) | (exfalso; simp_all; omega)
theorem kR_range (c : Int) : kR c = 0 ∨ kR c = 1 ∨ kR c = 2 ∨ kR c = 3 := by
  unfold kR
  (repeat' split) <;> omega
theorem cut_ev {X : List Int} (hX : Bytes X) (hl : X.length ≤ 100000) : ∀ (d i : Nat), i ≤ X.length → X.length - i = d → X.take i = (X.take i).takeWhile notMark →
    Ev (fun k => millwrightref02_cut.l0 k (strOfNums X) i) (strOfNums (cutR X)) := by
  intro d
  induction d with
  | zero =>
    intro i hi hd hp
    obtain rfl : i = X.length := by omega
    rw [List.take_length] at hp
    refine Ev.step (f := fun _ => some (strOfNums X)) (fun k => ?_) (by unfold cutR; rw [← hp]; exact Ev.now _)
    simp only [millwrightref02_cut.l0]
    rw [size_str, if_neg (by omega)]
  | succ d ih =>
    intro i hi hd hp
    have hlt : i < X.length := by omega
    have hb := bt_str hX hlt
    by_cases hc : X[i] = 35
    · refine Ev.step (f := fun _ => some (strOfNums (X.take i))) (fun k => ?_) ?_
      · simp only [millwrightref02_cut.l0]
        rw [size_str, if_pos (by omega), if_pos (by omega), hb, if_pos hc, if_pos (by omega), Int.toNat_natCast, ext_to]
      · have : cutR X = X.take i := by
          unfold cutR
          have e : X = X.take i ++ 35 :: X.drop (i + 1) := by
            rw [← hc, ← List.drop_eq_getElem_cons hlt, List.take_append_drop]
          have h1 := (take_app notMark (35 :: X.drop (i + 1)) (by intro c cs h; cases h; decide) (X.take i)).1
          rw [← e] at h1
          rw [h1, ← hp]
        rw [this]
        exact Ev.now _
    · refine Ev.step (fun k => ?_) (ih (i + 1) (by omega) (by omega) ?_)
      · simp only [millwrightref02_cut.l0]
        rw [size_str, if_pos (by omega), if_pos (by omega), hb, if_neg hc, Bits.wrap64_in (by omega) (by omega)]
        rfl
      · rw [List.take_succ_eq_append_getElem hlt, List.takeWhile_append_of_pos (fun a ha => mem_tw notMark a (X.take i) (hp ▸ ha)), List.takeWhile_cons_of_pos ((notMark_iff _).2 hc)]
        simp
theorem cut_f {X : List Int} (hX : Bytes X) (hl : X.length ≤ 100000) : Ev (fun k => millwrightref02_cut.f k (strOfNums X)) (strOfNums (cutR X)) :=
  cut_ev hX hl X.length 0 (by omega) (by omega) (by simp)
def rres (line : Int) : Option (List LexS.Tok) → List T48 × Bool
  | none => ([], false)
  | some l => ((shut line l).map f48, true)
theorem addLast_map (toks : List LexS.Tok) (c : Int) (h : toks ≠ []) : (LexR.addLast toks c).map f48 = (toks.map f48).set (toks.length - 1) ⟨((toks.map f48).getD (toks.length - 1) z68).f0, ((toks.map f48).getD (toks.length - 1) z68).f1 ++ strOfNums [c], ((toks.map f48).getD (toks.length - 1) z68).f2⟩ := by
  obtain ⟨ts, t, rfl⟩ : ∃ ts t, toks = ts ++ [t] := ⟨toks.dropLast, toks.getLast h, (List.dropLast_concat_getLast h).symm⟩
  rw [addLast_snoc]
  simp [f48, app_str]
theorem addLast_len (toks : List LexS.Tok) (c : Int) : (LexR.addLast toks c).length = toks.length := by
  induction toks with
  | nil => rfl
  | cons a l ih =>
    cases l with
    | nil => rfl
    | cons b l => exact congrArg (· + 1) ih
theorem addLast_text (toks : List LexS.Tok) (c : Int) (n : Nat) (h : ∀ t ∈ toks, t.text.length ≤ n) : ∀ t ∈ LexR.addLast toks c, t.text.length ≤ n + 1 := by
  by_cases he : toks = []
  · subst he
    intro t ht
    cases ht
  · obtain ⟨ts, u, rfl⟩ : ∃ ts t, toks = ts ++ [t] := ⟨toks.dropLast, toks.getLast he, (List.dropLast_concat_getLast he).symm⟩
    rw [addLast_snoc]
    intro t ht
    rcases List.mem_append.1 ht with ht | ht
    · have := h t (by simp [ht])
      omega
    · simp only [List.mem_singleton] at ht
      subst ht
      have := h u (by simp)
      simp
      omega
theorem row_ev {X : List Int} (hX : Bytes X) (hl : X.length ≤ 100000) (line : Int) : ∀ (d i : Nat) (toks : List LexS.Tok) (was : Int), i ≤ X.length → X.length - i = d → toks.length ≤ i → (∀ t ∈ toks, t.text.length ≤ i) → (was = 3 ∨ ((was = 1 ∨ was = 2) ∧ toks ≠ [])) →
    Ev (fun k => millwrightref02_row.l0 k (strOfNums X) line (toks.map f48) was i) (rres line (runR line (X.drop i) toks was)) := by
  intro d
  induction d with
  | zero =>
    intro i toks was hi hd ht htx hw
    obtain rfl : i = X.length := by omega
    rw [List.drop_eq_nil_of_le (by omega)]
    refine Ev.step (f := fun _ => some (rres line (some toks))) (fun k => ?_) (Ev.now _)
    simp only [millwrightref02_row.l0]
    rw [size_str, if_neg (by omega), List.length_map]
    unfold rres shut
    cases toks with
    | nil => simp
    | cons t ts =>
      rw [if_pos (by simp <;> omega), if_pos (by simp at ht; simp <;> omega)]
      simp [f48, nil_str]
  | succ d ih =>
    intro i toks was hi hd ht htx hw
    have hlt : i < X.length := by omega
    have hb := bt_str hX hlt
    have hone := ext_one hlt
    rw [List.drop_eq_getElem_cons hlt]
    generalize hcx : X[i] = c at hb hone
    have hk := kR_range c
    have e1 : wrap64 ((i : Int) + 1) = ((i + 1 : Nat) : Int) := Bits.wrap64_in (by omega) (by omega)
    have hstart : ∀ b : Bool, Ev (fun k => millwrightref02_row.j1 k (strOfNums X) line (toks.map f48) was i (kR c) b) (rres line (runR line (c :: X.drop (i + 1)) toks was)) →
        (∀ k, millwrightref02_row.l0 (k + 2 + 1) (strOfNums X) line (toks.map f48) was i = millwrightref02_row.j1 (k + 2) (strOfNums X) line (toks.map f48) was i (kR c) b) →
        Ev (fun k => millwrightref02_row.l0 k (strOfNums X) line (toks.map f48) was i) (rres line (runR line (c :: X.drop (i + 1)) toks was)) := by
      rintro b ⟨K, hK⟩ h
      refine ⟨K + 3, fun k hk => ?_⟩
      obtain ⟨m, rfl⟩ : ∃ m, k = m + 2 + 1 := ⟨k - 3, by omega⟩
      show millwrightref02_row.l0 (m + 2 + 1) _ _ _ _ _ = _
      rw [h m]
      exact hK (m + 2) (by omega)
    have hwas : 1 ≤ was ∧ was ≤ 3 := by rcases hw with h | h <;> omega
    have ew : wrap64 (kR c + was) = kR c + was := Bits.wrap64_in (by omega) (by omega)
    by_cases hbad : kR c = 0 ∨ (kR c + was = 3 ∧ kR c ≠ 3 ∧ was ≠ 3)
    · have hs : stepR line toks was c = none := if_pos hbad
      refine hstart true ?_ ?_
      · rw [runR, hs]
        refine Ev.step (f := fun _ => some (([] : List T48), false)) (fun k => ?_) (Ev.now _)
        simp only [millwrightref02_row.j1]
        rfl
      · intro k
        simp only [millwrightref02_row.l0]
        rw [size_str, if_pos (by omega), if_pos (by omega), hb, kind_ev, Option.bind_some, ew]
        rcases hbad with h | h
        · rw [if_pos h]
        · rw [if_neg (by omega), if_pos h.1, if_neg h.2.1, bne_iff_ne.2 h.2.2]
    · have hng : kR c ≠ 0 := fun h => hbad (.inl h)
      refine hstart false ?_ ?_
      · by_cases h3 : kR c = 3
        · have hs : stepR line toks was c = some (toks, 3) := by
            unfold stepR
            rw [if_neg hbad, if_pos h3]
          rw [runR, hs]
          refine Ev.step (f := fun k => millwrightref02_row.j2 k (strOfNums X) line (toks.map f48) was i (kR c) false) (fun k => ?_) (Ev.step (fun k => ?_) (ih (i + 1) toks 3 (by omega) (by omega) (by omega) (fun t h => by have := htx t h; omega) (.inl rfl)))
          · simp only [millwrightref02_row.j1]
            rw [if_pos h3]
            rfl
          · simp only [millwrightref02_row.j2]
            rw [if_pos h3, e1, h3]
            rfl
        · by_cases hsame : kR c = was
          · have hne : toks ≠ [] := by
              rcases hw with h | h
              · omega
              · exact h.2
            have hlen : 0 < toks.length := List.length_pos_iff.2 hne
            have hs : stepR line toks was c = some (LexR.addLast toks c, kR c) := by
              unfold stepR
              rw [if_neg hbad, if_neg h3, if_pos hsame]
            have hm := addLast_map toks c hne
            have ej : wrap64 (((toks.map f48).length : Int) - 1) = ((toks.length - 1 : Nat) : Int) := by
              rw [List.length_map, Bits.wrap64_in (by omega) (by omega)]
              omega
            have hsz : ((toks.map f48).getD (toks.length - 1) z68).f1.size ≤ i := by
              rw [List.getD_eq_getElem?_getD, List.getElem?_map, List.getElem?_eq_getElem (by omega : toks.length - 1 < toks.length)]
              show (strOfNums (toks[toks.length - 1]).text).size ≤ i
              rw [size_str]
              exact htx _ (List.getElem_mem _)
            rw [runR, hs]
            refine Ev.step (f := fun k => millwrightref02_row.j2 k (strOfNums X) line (toks.map f48) was i (kR c) true) (fun k => ?_) (Ev.step (fun k => ?_) (ih (i + 1) (LexR.addLast toks c) (kR c) (by omega) (by omega) (by rw [addLast_len]; omega) (addLast_text toks c i htx) (.inr ⟨by omega, by intro h; have := addLast_len toks c; rw [h] at this; simp at this; omega⟩)))
            · simp only [millwrightref02_row.j1]
              rw [if_neg h3, beq_iff_eq.2 hsame]
              rfl
            · simp only [millwrightref02_row.j2, rd_T68]
              rw [if_pos trivial, ej, if_pos (by omega), if_pos (by rw [List.length_map]; omega), if_pos (by omega), e1, if_pos (by omega), size_str, if_pos (by omega)]
              simp only [Int.toNat_natCast, hone]
              rw [if_pos (by rw [size_str]; simp only [List.length_cons, List.length_nil]; omega), Option.bind_some, if_neg h3, if_pos hsame, hm]
          · have hs : stepR line toks was c = some (toks ++ [⟨kR c, [c], line⟩], kR c) := by
              unfold stepR
              rw [if_neg hbad, if_neg h3, if_neg hsame]
            rw [runR, hs]
            refine Ev.step (f := fun k => millwrightref02_row.j2 k (strOfNums X) line (toks.map f48) was i (kR c) false) (fun k => ?_) (Ev.step (fun k => ?_) (ih (i + 1) (toks ++ [⟨kR c, [c], line⟩]) (kR c) (by omega) (by omega) (by simp; omega) ?_ (.inr ⟨by omega, by simp⟩)))
            · simp only [millwrightref02_row.j1]
              rw [if_neg h3, beq_eq_false_iff_ne.2 hsame]
              rfl
            · simp only [millwrightref02_row.j2]
              rw [if_neg (by decide), if_neg h3, if_neg hsame, if_pos (by omega), e1, if_pos (by omega), size_str, if_pos (by omega), if_pos (by rw [List.length_map]; omega), Int.toNat_natCast, Int.toNat_natCast, hone]
              simp [f48]
            · intro t htm
              rcases List.mem_append.1 htm with h | h
              · have := htx t h
                omega
              · simp only [List.mem_singleton] at h
                subst h
                simp
      · intro k
        simp only [millwrightref02_row.l0]
        rw [size_str, if_pos (by omega), if_pos (by omega), hb, kind_ev, Option.bind_some, ew, if_neg hng]
        by_cases h3 : kR c + was = 3
        · rw [if_pos h3]
          by_cases hk3 : kR c = 3
          · rw [if_pos hk3]
          · have : was = 3 := by
              by_cases hw3 : was = 3
              · exact hw3
              · exact absurd (.inr ⟨h3, hk3, hw3⟩) hbad
            omega
        · rw [if_neg h3]
theorem row_f {X : List Int} (hX : Bytes X) (hl : X.length ≤ 100000) (line : Int) : Ev (fun k => millwrightref02_row.f k (strOfNums X) line) (rres line (runR line X [] 3)) := by
  have := row_ev hX hl line X.length 0 [] 3 (by omega) (by omega) (by simp) (by simp) (.inl rfl)
  rw [List.drop_zero] at this
  exact this
def lres : List LexS.Tok × Int × Int → List T48 × Int × Int := fun p => (p.1.map f48, p.2.1, p.2.2)
theorem runR_len (line : Int) : ∀ (X : List Int) (toks : List LexS.Tok) (was : Int) (l : List LexS.Tok), runR line X toks was = some l → l.length ≤ toks.length + X.length
  | [], toks, _, l, h => by
    cases h
    simp
  | c :: cs, toks, was, l, h => by
    rw [runR] at h
    obtain ⟨p, hp, h⟩ := Option.bind_eq_some_iff.1 h
    have := runR_len line cs p.1 p.2 l h
    have : p.1.length ≤ toks.length + 1 := by
      unfold stepR at hp
      (repeat' split at hp) <;> first | (cases hp; simp; done) | (cases hp; simp [addLast_len]; done) | (cases hp)
    simp
    omega
theorem rowR_len (line : Int) (X : List Int) (l : List LexS.Tok) (h : rowR line X = some l) : l.length ≤ X.length + 1 := by
  unfold rowR at h
  obtain ⟨toks, ht, rfl⟩ := Option.map_eq_some_iff.1 h
  have h1 := runR_len line (cutR X) [] 3 toks ht
  have h2 : (cutR X).length ≤ X.length := (List.takeWhile_sublist _).length_le
  unfold shut
  split
  · simp
  · simp at h1 ⊢
    omega
theorem line_ev {X : List Int} (hX : Bytes X) (hl : X.length ≤ 65536) (i from_ : Nat) (line : Int) (out : List LexS.Tok) (hf : from_ ≤ i) (hi : i ≤ X.length) (h0 : 0 ≤ line) (h1 : line ≤ 1 + i) (hout : out.length ≤ 3 * i) (r : List T48 × Int × Int)
    (hr : match rowR line ((X.take i).drop from_) with
      | none => r = ([], line, 2)
      | some l => Ev (fun k => millwrightref02_Lex.l0 k (strOfNums X) ((out ++ l).map f48) (line + 1) ((i + 1 : Nat) : Int) ((i + 1 : Nat) : Int)) r) :
    Ev (fun k => millwrightref02_Lex.j1 k (strOfNums X) (out.map f48) line from_ i false) r := by
  have e1 : wrap64 ((i : Int) + 1) = ((i + 1 : Nat) : Int) := Bits.wrap64_in (by omega) (by omega)
  have e2 : wrap64 (line + 1) = line + 1 := Bits.wrap64_in (by omega) (by omega)
  have hext : (strOfNums X).extract from_ i = strOfNums ((X.take i).drop from_) := by rw [ext_str, List.drop_take]
  have hcb : Bytes ((X.take i).drop from_) := (hX.take i).drop from_
  have hcl : ((X.take i).drop from_).length ≤ i := by simp; omega
  generalize hcur : (X.take i).drop from_ = cur at hr hext hcb hcl
  have hcc : Bytes (cutR cur) := fun x hx => hcb x ((List.takeWhile_sublist _).subset hx)
  have hccl : (cutR cur).length ≤ cur.length := (List.takeWhile_sublist _).length_le
  refine Ev.step (fun k => ?_) (Ev.bind (f := fun k t119 => ((millwrightref02_row.f k t119 line).bind fun bt120 => (if bt120.2 = true then (if (out.map f48).length + bt120.1.length < 4398046511104 then (millwrightref02_Lex.l0 k (strOfNums X) (out.map f48 ++ bt120.1) (line + 1) ((i + 1 : Nat) : Int) ((i + 1 : Nat) : Int)) else none) else (some (([] : List T48), line, 2))))) (cut_f hcb (by omega)) (Ev.bind (f := fun k bt120 => (if bt120.2 = true then (if (out.map f48).length + bt120.1.length < 4398046511104 then (millwrightref02_Lex.l0 k (strOfNums X) (out.map f48 ++ bt120.1) (line + 1) ((i + 1 : Nat) : Int) ((i + 1 : Nat) : Int)) else none) else (some (([] : List T48), line, 2)))) (row_f hcc (by omega) line) ?_))
  · simp only [millwrightref02_Lex.j1]
    rw [if_neg (by decide), if_pos (by omega), if_pos (by omega), size_str, if_pos (by omega), Int.toNat_natCast, Int.toNat_natCast, hext, e1, e2]
  · have hrow : rowR line cur = (runR line (cutR cur) [] 3).map (shut line) := rfl
    cases hrr : runR line (cutR cur) [] 3 with
    | none =>
      rw [hrr] at hrow
      rw [hrow] at hr
      have hr' : r = ([], line, 2) := hr
      subst hr'
      exact Ev.now _
    | some toks =>
      rw [hrr] at hrow
      have hlen := rowR_len line cur _ hrow
      rw [hrow] at hr
      have hr' : Ev (fun k => millwrightref02_Lex.l0 k (strOfNums X) ((out ++ shut line toks).map f48) (line + 1) ((i + 1 : Nat) : Int) ((i + 1 : Nat) : Int)) r := hr
      refine Ev.congr (fun k => ?_) hr'
      show (if true = true then (if (out.map f48).length + ((shut line toks).map f48).length < 4398046511104 then _ else none) else _) = _
      rw [if_pos rfl, if_pos (by rw [List.length_map, List.length_map]; omega), List.map_append]
      rfl
theorem lex_ev {X : List Int} (hX : Bytes X) (hl : X.length ≤ 65536) : ∀ (d i from_ : Nat) (line : Int) (out : List LexS.Tok), from_ ≤ i → i ≤ X.length → X.length - i = d → 0 ≤ line → line ≤ 1 + i → out.length ≤ 3 * from_ →
    Ev (fun k => millwrightref02_Lex.l0 k (strOfNums X) (out.map f48) line from_ i) (lres (refG (X.drop i) ((X.take i).drop from_) line out)) := by
  intro d
  induction d with
  | zero =>
    intro i from_ line out hf hi hd h0 h1 hout
    obtain rfl : i = X.length := by omega
    rw [List.drop_eq_nil_of_le (Nat.le_refl _)]
    refine Ev.step (f := fun k => millwrightref02_Lex.j1 k (strOfNums X) (out.map f48) line from_ X.length false) (fun k => ?_) (line_ev hX hl X.length from_ line out hf hi h0 h1 (by omega) _ ?_)
    · simp only [millwrightref02_Lex.l0]
      rw [size_str, if_pos (by omega), if_neg (by omega)]
    · rw [refG]
      cases rowR line ((X.take X.length).drop from_) with
      | none => rfl
      | some l =>
        refine Ev.step (f := fun _ => some (lres (out ++ l, 0, 0))) (fun k => ?_) (Ev.now _)
        simp only [millwrightref02_Lex.l0]
        rw [size_str, if_neg (by omega)]
        rfl
  | succ d ih =>
    intro i from_ line out hf hi hd h0 h1 hout
    have hlt : i < X.length := by omega
    have hb := bt_str hX hlt
    have e1 : wrap64 ((i : Int) + 1) = ((i + 1 : Nat) : Int) := Bits.wrap64_in (by omega) (by omega)
    have hdr : X.drop i = X[i] :: X.drop (i + 1) := List.drop_eq_getElem_cons hlt
    have htk : (X.take (i + 1)).drop from_ = (X.take i).drop from_ ++ [X[i]] := by
      rw [List.take_succ_eq_append_getElem hlt, List.drop_append_of_le_length (by simp; omega)]
    rw [hdr]
    by_cases h10 : X[i] = 10
    · refine Ev.step (f := fun k => millwrightref02_Lex.j1 k (strOfNums X) (out.map f48) line from_ i false) (fun k => ?_) (line_ev hX hl i from_ line out hf hi h0 h1 (by omega) _ ?_)
      · simp only [millwrightref02_Lex.l0]
        rw [size_str, if_pos (by omega), if_pos (by omega), if_pos (by omega), hb, h10]
        rfl
      · rw [refG, if_pos h10]
        have hcl : ((X.take i).drop from_).length ≤ i - from_ := by simp; omega
        cases hrow : rowR line ((X.take i).drop from_) with
        | none => rfl
        | some l =>
          have hlen := rowR_len line _ l hrow
          have := ih (i + 1) (i + 1) (line + 1) (out ++ l) (by omega) (by omega) (by omega) (by omega) (by omega) (by simp; omega)
          rw [List.drop_eq_nil_of_le (by simp; omega : (X.take (i + 1)).length ≤ i + 1)] at this
          exact this
    · rw [refG, if_neg h10, ← htk]
      refine Ev.step (f := fun k => millwrightref02_Lex.j1 k (strOfNums X) (out.map f48) line from_ i true) (fun k => ?_) (Ev.step (fun k => ?_) (ih (i + 1) from_ line out (by omega) (by omega) (by omega) h0 (by omega) hout))
      · simp only [millwrightref02_Lex.l0]
        rw [size_str, if_pos (by omega), if_pos (by omega), if_pos (by omega), hb, bne_iff_ne.2 h10]
      · simp only [millwrightref02_Lex.j1]
        rw [if_pos trivial, e1]
theorem lex_f {X : List Int} (hX : Bytes X) (hl : X.length ≤ 65536) : Ev (fun k => millwrightref02_Lex.f k (strOfNums X)) (lres (LexS.lexF X)) := by
  have := lex_ev hX hl X.length 0 0 1 [] (by omega) (by omega) (by omega) (by omega) (by omega) (by simp)
  rw [lexF_eq, if_neg (by omega)]
  refine Ev.congr (fun k => ?_) this
  unfold millwrightref02_Lex.f
  rw [size_str, if_neg (by omega)]
  rfl
end Go.Proofs.YtegbfimfpkendaaDoor.PcA
