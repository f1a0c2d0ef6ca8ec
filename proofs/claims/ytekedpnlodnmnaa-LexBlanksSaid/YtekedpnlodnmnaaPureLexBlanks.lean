/- The statement LexBlanks: how many blanks part tokens does not matter: for every two lists of bytes the Go function returns true. No condition. -/
import Derived.Test.YtekedpnlodnmnaaPLexBlanksx3
import Derived.Test.YtekedpnlodnmnaaBits
import Derived.Test.YtekedpnlodnmnaaLexQ
namespace Go.Proofs.Ytekedpnlodnmnaa.Pure
open Go.RowKit Go.Proofs.Ytekedpnlodnmnaa.PLexBlanks Go.Proofs.YtekedpnlodnmnaaW.PrintWords Go.Proofs.YtekedpnlodnmnaaW.PrintLast LexQ

theorem bl_l2 (x : List S35) (b : Bool) (hx : x.length ≤ 100000000) : ∀ (d : Nat) (i : Int), 0 ≤ i → (x.length : Int) - i = d → Ev (fun k => millwrightlaw02_LexBlanks.l2 k b x x i) b
  | 0, i, h0, hd => by
    refine Ev.step (f := fun _ => some b) (fun k => ?_) (Ev.now b)
    simp only [millwrightlaw02_LexBlanks.l2]
    rw [if_neg (by omega)]
  | d + 1, i, h0, hd => by
    refine Ev.step (fun k => ?_) (bl_l2 x b hx d (i + 1) (by omega) (by omega))
    simp only [millwrightlaw02_LexBlanks.l2]
    rw [if_pos (by omega), if_pos h0, if_pos (by omega), Bits.wrap64_in (by omega) (by omega)]
    simp
theorem bl_l1 (x0 x1 : List Int) (x5 : Bool) (x6 : List S35) (x10 x11 : Int) (hx1 : ∀ x ∈ x1, (Lit.int .u8 x).wf = true) (h0 : 0 ≤ x10) (h1 : x10 < x1.length) (h11 : 0 ≤ x11 ∧ x11 ≤ 100000) (h10 : x10 ≤ 100000) (r : Bool) :
    ∀ (e : Nat) (x9 : List Int) (x12 : Int), 0 ≤ x12 → ((rd x1 x10) % 5 - x12).toNat = e → x9.length + e ≤ 100000 →
      (∀ ws : List Int, (∀ c ∈ ws, isBlank c) → ws.length ≤ e → Ev (fun k => millwrightlaw02_LexBlanks.l0 k x0 x1 x5 x6 (x9 ++ ws) (x10 + 1) (x11 + 1)) r) →
      Ev (fun k => millwrightlaw02_LexBlanks.l1 k x0 x1 x5 x6 x9 x10 x11 x12) r := by
  have hw : 0 ≤ rd x1 x10 ∧ rd x1 x10 ≤ 255 := by
    have hm : rd x1 x10 ∈ x1 := by
      unfold rd
      rw [List.getD_eq_getElem?_getD, List.getElem?_eq_getElem (by omega : x10.toNat < x1.length)]
      exact List.getElem_mem _
    have := hx1 _ hm
    simpa [Lit.wf, IntKind.min, IntKind.max, IntKind.signed, IntKind.bits] using this
  have et : wrap64 (Int.tmod (rd x1 x10) 5) = rd x1 x10 % 5 := by
    rw [Bits.tmod_pos _ _ hw.1]
    exact Bits.wrap64_in (by omega) (by omega)
  intro e
  induction e with
  | zero =>
    intro x9 x12 h12 he hl hc
    have hcont := hc [] (by simp) (by simp)
    rw [List.append_nil] at hcont
    refine Ev.step (fun k => ?_) hcont
    simp only [millwrightlaw02_LexBlanks.l1]
    rw [if_pos h0, if_pos h1, et, if_neg (by omega), Bits.wrap64_in (by omega) (by omega), Bits.wrap64_in (by omega) (by omega)]
  | succ e ih =>
    intro x9 x12 h12 he hl hc
    have e3 : Int.tmod x12 3 = x12 % 3 := Bits.tmod_pos _ _ h12
    have hb : isBlank (bt (⟨#[32, 9, 13]⟩ : ByteArray) (x12 % 3)) := by
      rcases (show x12 % 3 = 0 ∨ x12 % 3 = 1 ∨ x12 % 3 = 2 from by omega) with h | h | h <;> rw [h] <;> decide
    refine Ev.step (fun k => ?_) (ih (x9 ++ [bt (⟨#[32, 9, 13]⟩ : ByteArray) (x12 % 3)]) (x12 + 1) (by omega) (by omega) (by simp; omega) ?_)
    · simp only [millwrightlaw02_LexBlanks.l1]
      rw [if_pos h0, if_pos h1, et, if_pos (by omega), e3, if_pos (by omega), if_pos (by omega), if_pos (by omega), Bits.wrap64_in (by omega) (by omega)]
    · intro ws hws hwl
      rw [List.append_assoc]
      refine hc _ ?_ (by simp; omega)
      intro c hcm
      simp only [List.cons_append, List.nil_append, List.mem_cons] at hcm
      rcases hcm with rfl | hcm
      · exact hb
      · exact hws c hcm
theorem bl_l0 (x0 x1 : List Int) (hx0 : x0.length ≤ 1000) (hx1 : ∀ x ∈ x1, (Lit.int .u8 x).wf = true) (hok : (LexS.lexF x0).2.2 = 0) :
    ∀ (d : Nat) (x9 : List Int) (x10 : Int) (i : Nat), i ≤ x0.length → x0.length - i = d → Bl (x0.take i) x9 → x9.length ≤ 5 * i → 0 ≤ x10 → x10 ≤ i →
      Ev (fun k => millwrightlaw02_LexBlanks.l0 k x0 x1 true ((LexS.lexF x0).1.map (fun t : LexS.Tok => (⟨t.kind, strOfNums t.text, t.line⟩ : S35))) x9 x10 i) true := by
  intro d
  induction d with
  | zero =>
    intro x9 x10 i hi hd hbl hl h0 h1
    obtain rfl : i = x0.length := by omega
    rw [List.take_length] at hbl
    have he := lexF_Bl hbl (by omega) (by omega)
    generalize hX : (LexS.lexF x0).1.map (fun t : LexS.Tok => (⟨t.kind, strOfNums t.text, t.line⟩ : S35)) = X
    have hlen : X.length ≤ 100000000 := by
      rcases Nat.lt_or_ge 100000000 X.length with h | h
      · exfalso
        have := LexR.lexF_len x0
        rw [← hX, List.length_map] at h
        omega
      · exact h
    refine Ev.step (f := fun k => millwrightlaw02_LexBlanks.j3 k true X X false) (fun k => ?_) ?_
    · simp only [millwrightlaw02_LexBlanks.l0]
      rw [if_neg (by omega)]
      unfold lex_Lex.f
      rw [he, hX]
      simp [hok]
    · refine Ev.step (fun k => ?_) (bl_l2 X true hlen X.length 0 (by omega) (by omega))
      simp [millwrightlaw02_LexBlanks.j3]
  | succ d ih =>
    intro x9 x10 i hi hd hbl hl h0 h1
    have hlt : i < x0.length := by omega
    have hrd : rd x0 (i : Int) = x0[i] := by simp [rd, List.getD_eq_getElem?_getD, List.getElem?_eq_getElem hlt]
    have htk : x0.take (i + 1) = x0.take i ++ [x0[i]] := by rw [List.take_succ_eq_append_getElem hlt]
    generalize x0[i] = c at hrd htk
    by_cases hb : isBlank c
    · have hj : Ev (fun k => millwrightlaw02_LexBlanks.j1 k x0 x1 true ((LexS.lexF x0).1.map (fun t : LexS.Tok => (⟨t.kind, strOfNums t.text, t.line⟩ : S35))) (x9 ++ [c]) x10 i false) true := by
        have hnext : ∀ ws : List Int, (∀ y ∈ ws, isBlank y) → ws.length ≤ 4 → Ev (fun k => millwrightlaw02_LexBlanks.l0 k x0 x1 true ((LexS.lexF x0).1.map (fun t : LexS.Tok => (⟨t.kind, strOfNums t.text, t.line⟩ : S35))) ((x9 ++ [c]) ++ ws) (x10 + 1) ((i : Int) + 1)) true := by
          intro ws hws hwl
          have := ih ((x9 ++ [c]) ++ ws) (x10 + 1) (i + 1) (by omega) (by omega) (by
            rw [htk]
            have := hbl.append (Bl.more c ws [] [] hb hws .nil)
            simpa using this) (by simp; omega) (by omega) (by omega)
          simpa using this
        by_cases hn : x10 < (x1.length : Int)
        · refine Ev.step (fun k => ?_) (bl_l1 x0 x1 true _ x10 i hx1 h0 hn ⟨by omega, by omega⟩ (by omega) true _ (x9 ++ [c]) 0 (by omega) rfl (by simp; omega) fun ws hws hwl => hnext ws hws (by omega))
          simp only [millwrightlaw02_LexBlanks.j1]
          rw [if_neg (by decide), if_pos hn]
        · have := hnext [] (by simp) (by simp)
          rw [List.append_nil] at this
          refine Ev.step (fun k => ?_) this
          simp only [millwrightlaw02_LexBlanks.j1]
          rw [if_neg (by decide), if_neg hn, Bits.wrap64_in (by omega) (by omega), Bits.wrap64_in (by omega) (by omega)]
      refine Ev.step (fun k => ?_) hj
      simp only [millwrightlaw02_LexBlanks.l0]
      rw [if_pos (by omega), if_pos (by omega), if_pos (by omega), hrd, Option.bind_some]
      rcases hb with rfl | rfl | rfl
      · rw [if_pos rfl]
      · rw [if_neg (by decide), if_pos rfl]
      · rw [if_neg (by decide), if_neg (by decide)]
        rfl
    · have hne : c ≠ 32 ∧ c ≠ 9 ∧ c ≠ 13 := ⟨fun h => hb (.inl h), fun h => hb (.inr (.inl h)), fun h => hb (.inr (.inr h))⟩
      have := ih (x9 ++ [c]) x10 (i + 1) (by omega) (by omega) (by rw [htk]; exact hbl.append (Bl.refl [c])) (by simp; omega) h0 (by omega)
      refine Ev.step (f := fun k => millwrightlaw02_LexBlanks.j1 k x0 x1 true ((LexS.lexF x0).1.map (fun t : LexS.Tok => (⟨t.kind, strOfNums t.text, t.line⟩ : S35))) (x9 ++ [c]) x10 i true) (fun k => ?_) (Ev.step (fun k => ?_) this)
      · simp only [millwrightlaw02_LexBlanks.l0]
        rw [if_pos (by omega), if_pos (by omega), if_pos (by omega), hrd, Option.bind_some, if_neg hne.1, if_neg hne.2.1, bne_iff_ne.2 hne.2.2]
      · simp only [millwrightlaw02_LexBlanks.j1]
        rw [if_pos trivial, Bits.wrap64_in (by omega) (by omega)]
        rfl

theorem LexBlanks : millwrightlaw02_LexBlanks.Pure := by
  intro l0 l1 _ _ _ _ _ hw1
  have hmn : mn (l0.length : Int) 1000 = ((min l0.length 1000 : Nat) : Int) := by unfold mn; split <;> omega
  have hle : min l0.length 1000 ≤ l0.length := by omega
  generalize hX : l0.take (min l0.length 1000) = X
  have hXl : X.length ≤ 1000 := by rw [← hX, List.length_take]; omega
  have h : ∃ k, (if (LexS.lexF X).2.2 = 0 then (millwrightlaw02_LexBlanks.l0 k X l1 true ((LexS.lexF X).1.map (fun t : LexS.Tok => (⟨t.kind, strOfNums t.text, t.line⟩ : S35))) [] 0 0) else some true) = some true := by
    by_cases hok : (LexS.lexF X).2.2 = 0
    · obtain ⟨k, hk⟩ := (bl_l0 X l1 hXl hw1 hok X.length [] 0 0 (by omega) (by omega) (by rw [List.take_zero]; exact .nil) (by simp) (by omega) (by omega)).rounds
      exact ⟨k, by rw [if_pos hok]; exact hk⟩
    · exact ⟨0, by rw [if_neg hok]⟩
  obtain ⟨k, hk⟩ := h
  refine ⟨k, ?_⟩
  unfold millwrightlaw02_LexBlanks.f millwrightlaw02_shown.f
  rw [Option.bind_some, hmn, if_pos (by omega), if_pos (by omega), Int.toNat_natCast, hX]
  unfold lex_Lex.f
  rw [Option.bind_some]
  exact hk

end Go.Proofs.Ytekedpnlodnmnaa.Pure
