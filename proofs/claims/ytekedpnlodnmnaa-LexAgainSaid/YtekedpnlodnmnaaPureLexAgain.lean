/- The statement LexAgain: what tokens say is read as they are: for every list of bytes the Go function returns true. No condition. -/
import Derived.Test.YtekedpnlodnmnaaPLexAgainx1
import Derived.Test.YtekedpnlodnmnaaBits
import Derived.Test.YtekedpnlodnmnaaStr
import Derived.Test.YtekedpnlodnmnaaLexT
namespace Go.Proofs.Ytekedpnlodnmnaa.Pure
open Go.RowKit Go.Proofs.Ytekedpnlodnmnaa.PLexAgain Go.Proofs.YtekedpnlodnmnaaW.PrintWords Go.Proofs.YtekedpnlodnmnaaW.PrintLast LexR LexT Str

abbrev TS := S35
def toS (t : LexS.Tok) : TS := ⟨t.kind, strOfNums t.text, t.line⟩
theorem bytes_str {X : List Int} (h : Bytes X) : bytesOf (strOfNums X) = X := by
  have h1 : bytesOf (strOfNums X) = X.map (fun x => (((UInt8.ofNat x.toNat).toNat : Nat) : Int)) := by
    simp [bytesOf, strOfNums]
  rw [h1]
  conv => rhs; rw [← List.map_id X]
  refine List.map_congr_left fun x hx => ?_
  have := h x hx
  rw [UInt8.toNat_ofNat']
  simp
  omega
theorem bytes_jn : ∀ (toks : List LexS.Tok) (b : Bool), Okk b toks → Bytes (jn toks)
  | [], _, _ => by intro x hx; simp [jn] at hx
  | t :: ts, b, h => by
    have hr : Bytes (jn ts) := by
      rcases h with ⟨_, h⟩ | ⟨_, _, _, h⟩
      · exact bytes_jn ts true h
      · exact bytes_jn ts false h
    intro x hx
    rw [jn] at hx
    rcases List.mem_append.1 hx with hx | hx
    · unfold jn1 at hx
      split at hx
      · rw [List.mem_singleton.1 hx]; omega
      · rcases List.mem_append.1 hx with hx | hx
        · rcases h with ⟨hg, _⟩ | ⟨_, hk, ht, _⟩
          · have h1 := hg.2.2 x hx
            have := kR_byte (by rw [h1]; exact hg.1)
            exact ⟨this.1, this.2.1⟩
          · rw [ht] at hx; simp at hx
        · rw [List.mem_singleton.1 hx]; omega
    · exact hr x hx
theorem rd_at (pre : List LexS.Tok) (t : LexS.Tok) (ts : List LexS.Tok) : rd_T35 ((pre ++ t :: ts).map toS) (pre.length : Int) = toS t := by
  simp [rd_T35, List.getD_eq_getElem?_getD]
theorem join_l0 (n : Nat) : ∀ (toks pre : List LexS.Tok), (jn (pre ++ toks)).length ≤ 100000 →
    Ev (fun k => millwrightlaw02_joined.l0 k ((pre ++ toks).map toS) (strOfNums (jn pre)) pre.length) (strOfNums (jn (pre ++ toks)))
  | [], pre, hl => by
    refine Ev.step (f := fun _ => some (strOfNums (jn (pre ++ [])))) (fun k => ?_) (Ev.now _)
    simp only [millwrightlaw02_joined.l0]
    rw [if_neg (by simp), List.append_nil]
  | t :: ts, pre, hl => by
    have hl2 : (jn ((pre ++ [t]) ++ ts)).length ≤ 100000 := by rw [List.append_assoc]; exact hl
    have ih := join_l0 n ts (pre ++ [t]) hl2
    have hpl := jn_length (pre ++ t :: ts)
    rw [List.length_append, List.length_cons] at hpl
    have hj : jn (pre ++ [t]) = jn pre ++ jn1 t := by rw [jn_append]; simp [jn]
    have hjl : (jn (pre ++ [t])).length ≤ 100000 := by
      rw [jn_append, List.length_append] at hl2
      omega
    rw [hj, List.length_append] at hjl
    rw [List.append_assoc, List.length_append, List.length_singleton, hj] at ih
    refine Ev.step (fun k => ?_) ih
    simp only [millwrightlaw02_joined.l0]
    rw [if_pos (by simp; omega), if_pos (by omega), rd_at pre t ts, Bits.wrap64_in (by omega) (by omega)]
    show (if t.kind = 3 then _ else _) = _
    have e10 : (⟨#[10]⟩ : ByteArray) = strOfNums [10] := rfl
    have e32 : (⟨#[32]⟩ : ByteArray) = strOfNums [32] := rfl
    unfold jn1 at hjl ⊢
    by_cases hk : t.kind = 3
    · rw [if_pos hk] at hjl
      rw [if_pos hk, if_pos hk, size_str, if_pos (by simp at hjl; omega), e10, app_str]
      rfl
    · rw [if_neg hk] at hjl
      rw [if_neg hk, if_neg hk]
      show (if (strOfNums (jn pre)).size + (strOfNums t.text).size ≤ 9223372036854775807 then _ else _) = _
      simp only [toS, app_str, e32, size_str]
      rw [if_pos (by simp at hjl; omega), if_pos (by simp at hjl ⊢; omega), List.append_assoc]
      rfl
theorem again_l0 : ∀ (toks pre pre' : List LexS.Tok) (n : Int), pre.length = pre'.length → 1 ≤ n → n ≤ pre.length + 1 → pre.length + toks.length ≤ 100000 →
    Ev (fun k => millwrightlaw02_LexAgain.l0 k true ((pre ++ toks).map toS) ((pre' ++ relin toks n).map toS) n pre'.length) true
  | [], pre, pre', n, hp, h1, h2, hl => by
    refine Ev.step (f := fun _ => some true) (fun k => ?_) (Ev.now _)
    simp only [millwrightlaw02_LexAgain.l0]
    rw [if_neg (by simp [relin])]
  | t :: ts, pre, pre', n, hp, h1, h2, hl => by
    have ih := again_l0 ts (pre ++ [t]) (pre' ++ [⟨t.kind, t.text, n⟩]) (if t.kind = 3 then n + 1 else n) (by simp [hp]) (by split <;> omega) (by simp; split <;> omega) (by simp at hl ⊢; omega)
    rw [List.append_assoc, List.append_assoc, List.length_append, List.length_singleton] at ih
    have hr : relin (t :: ts) n = ⟨t.kind, t.text, n⟩ :: relin ts (if t.kind = 3 then n + 1 else n) := rfl
    have h0 : (0 : Int) ≤ pre'.length := by omega
    have hlt : (pre'.length : Int) < (((pre' ++ relin (t :: ts) n).map toS).length : Int) := by rw [hr]; simp; omega
    have hlt2 : (pre'.length : Int) < (((pre ++ t :: ts).map toS).length : Int) := by simp; omega
    have e1 : rd_T35 ((pre ++ t :: ts).map toS) (pre'.length : Int) = toS t := by rw [← hp]; exact rd_at pre t ts
    have e2 : rd_T35 ((pre' ++ relin (t :: ts) n).map toS) (pre'.length : Int) = toS ⟨t.kind, t.text, n⟩ := by rw [hr]; exact rd_at pre' _ _
    simp only [List.length_cons] at hl
    refine Ev.step (f := fun k => millwrightlaw02_LexAgain.j2 k true ((pre ++ t :: ts).map toS) ((pre' ++ relin (t :: ts) n).map toS) n pre'.length false) (fun k => ?_) (Ev.step (fun k => ?_) ih)
    · simp only [millwrightlaw02_LexAgain.l0]
      rw [if_pos hlt, if_pos h0, if_pos hlt2, e1, e2]
      simp [toS]
    · simp only [millwrightlaw02_LexAgain.j2]
      rw [if_neg (by decide), if_pos h0, if_pos hlt, e2]
      show (if t.kind = 3 then _ else _) = _
      rw [Bits.wrap64_in (by omega) (by omega), Bits.wrap64_in (by omega) (by omega)]
      by_cases hk : t.kind = 3
      · rw [if_pos hk, if_pos hk, hr, if_pos hk]
        simp
      · rw [if_neg hk, if_neg hk, hr, if_neg hk]
        simp
theorem again_j0 (toks : List LexS.Tok) (hl : toks.length ≤ 100000) : Ev (fun k => millwrightlaw02_LexAgain.j0 k true (toks.map toS) ((relin toks 1).map toS) ((((relin toks 1).map toS).length : Int) != ((toks.map toS).length : Int))) true := by
  have := again_l0 toks [] [] 1 rfl (by omega) (by simp) (by simp; exact hl)
  refine Ev.step (fun k => ?_) this
  simp only [millwrightlaw02_LexAgain.j0]
  rw [if_neg (by simp [relin_length])]
  rfl
theorem LexAgain : millwrightlaw02_LexAgain.Pure := by
  intro l0 _ _ hw
  have hmn : mn (l0.length : Int) 3000 = ((min l0.length 3000 : Nat) : Int) := by unfold mn; split <;> omega
  generalize hXe : l0.take (min l0.length 3000) = X
  have hXl : X.length ≤ 3000 := by rw [← hXe, List.length_take]; omega
  have hf : ∀ k, millwrightlaw02_LexAgain.f k l0 = (lex_Lex.f X).bind fun bt105 => (if bt105.2.2 = 0 then ((millwrightlaw02_joined.f k bt105.1).bind fun t110 => (if t110.size ≤ 9223372036854775807 then ((lex_Lex.f (bytesOf t110)).bind fun bt114 => (if bt114.2.2 = 0 then (if bt114.2.1 = 0 then (if bt105.2.1 = 0 then (millwrightlaw02_LexAgain.j0 k true bt105.1 bt114.1 ((bt114.1.length : Int) != (bt105.1.length : Int))) else (millwrightlaw02_LexAgain.j0 k true bt105.1 bt114.1 true)) else (millwrightlaw02_LexAgain.j0 k true bt105.1 bt114.1 true)) else (millwrightlaw02_LexAgain.j0 k true bt105.1 bt114.1 true))) else (none))) else (if true = true then (if bt105.2.2 = 2 then (if bt105.2.1 ≥ 1 then (some ((bt105.1.length : Int) == 0)) else (some false)) else (some false)) else (some false))) := by
    intro k
    unfold millwrightlaw02_LexAgain.f millwrightlaw02_shown.f
    rw [Option.bind_some, hmn, if_pos (by omega), if_pos (by omega), Int.toNat_natCast, hXe]
  have key : Ev (fun k => millwrightlaw02_LexAgain.f k l0) true := by
    rcases lexF_inv X (by omega) with ⟨l, h1, h2⟩ | ⟨toks, h1, h2, h3⟩
    · refine Ev.congr (f := fun _ => some true) (fun k => ?_) (Ev.now _)
      rw [hf k]
      unfold lex_Lex.f
      rw [h2, Option.bind_some]
      show (if (2 : Int) = 0 then _ else _) = _
      rw [if_neg (by decide), if_pos rfl]
      show (if (2 : Int) = 2 then (if l ≥ 1 then _ else _) else _) = _
      rw [if_pos rfl, if_pos h1]
      rfl
    · have hjl : (jn toks).length ≤ 6001 := by omega
      have htl := jn_length toks
      have hb := bytes_jn toks false h2
      have e1 : (LexS.lexF (bytesOf (strOfNums (jn toks)))) = (relin toks 1, 0, 0) := by rw [bytes_str hb]; exact lexF_jn toks h2 (by omega)
      have hj : Ev (fun k => millwrightlaw02_joined.f k (toks.map toS)) (strOfNums (jn toks)) := join_l0 0 toks [] (by show (jn toks).length ≤ _; omega)
      refine Ev.congr (f := fun k => (millwrightlaw02_joined.f k (toks.map toS)).bind fun t110 => (if t110.size ≤ 9223372036854775807 then ((lex_Lex.f (bytesOf t110)).bind fun bt114 => (if bt114.2.2 = 0 then (if bt114.2.1 = 0 then (if (0 : Int) = 0 then (millwrightlaw02_LexAgain.j0 k true (toks.map toS) bt114.1 ((bt114.1.length : Int) != ((toks.map toS).length : Int))) else (millwrightlaw02_LexAgain.j0 k true (toks.map toS) bt114.1 true)) else (millwrightlaw02_LexAgain.j0 k true (toks.map toS) bt114.1 true)) else (millwrightlaw02_LexAgain.j0 k true (toks.map toS) bt114.1 true))) else (none))) (fun k => ?_) (Ev.bind (f := fun k t110 => (if t110.size ≤ 9223372036854775807 then ((lex_Lex.f (bytesOf t110)).bind fun bt114 => (if bt114.2.2 = 0 then (if bt114.2.1 = 0 then (if (0 : Int) = 0 then (millwrightlaw02_LexAgain.j0 k true (toks.map toS) bt114.1 ((bt114.1.length : Int) != ((toks.map toS).length : Int))) else (millwrightlaw02_LexAgain.j0 k true (toks.map toS) bt114.1 true)) else (millwrightlaw02_LexAgain.j0 k true (toks.map toS) bt114.1 true)) else (millwrightlaw02_LexAgain.j0 k true (toks.map toS) bt114.1 true))) else (none))) hj ?_)
      · rw [hf k]
        have e2 : lex_Lex.f X = some (toks.map toS, 0, 0) := by unfold lex_Lex.f; rw [h1]; rfl
        rw [e2, Option.bind_some]
        exact if_pos rfl
      · refine Ev.congr (fun k => ?_) (again_j0 toks (by omega))
        have e3 : lex_Lex.f (bytesOf (strOfNums (jn toks))) = some ((relin toks 1).map toS, 0, 0) := by unfold lex_Lex.f; rw [e1]; rfl
        show (if (strOfNums (jn toks)).size ≤ 9223372036854775807 then _ else none) = _
        rw [if_pos (by rw [size_str]; omega)]
        show (lex_Lex.f (bytesOf (strOfNums (jn toks)))).bind _ = _
        rw [e3, Option.bind_some]
        rfl
  exact key.rounds
end Go.Proofs.Ytekedpnlodnmnaa.Pure
