/- The statement LexComments: from a # on a line says nothing: for every two lists of bytes and every number the Go function returns true. No condition. -/
import Derived.Test.YtekedpnlodnmnaaPLexCommentsx3
import Derived.Test.YtekedpnlodnmnaaBits
import Derived.Test.YtekedpnlodnmnaaLexQ
namespace Go.Proofs.Ytekedpnlodnmnaa.Pure
open Go.RowKit Go.Proofs.Ytekedpnlodnmnaa.PLexComments Go.Proofs.YtekedpnlodnmnaaW.PrintWords Go.Proofs.YtekedpnlodnmnaaW.PrintLast LexR LexQ

/-! the plain law: a comment at the end of a line says nothing -/
theorem cutR_said (cs : List Int) : ∀ cur : List Int, cutR (cur ++ 35 :: cs) = cutR cur
  | [] => rfl
  | c :: cur => by
    by_cases h : c = 35
    · subst h; rfl
    · rw [List.cons_append, cutR_cons h, cutR_cons h, cutR_said cs cur]
theorem refG_said (cs tail : List Int) (hcs : ∀ c ∈ cs, c ≠ 10) (ht : tail = [] ∨ ∃ r, tail = 10 :: r) : ∀ (pre cur : List Int) (line : Int) (out : List LexS.Tok), refG (pre ++ (35 :: cs) ++ tail) cur line out = refG (pre ++ tail) cur line out
  | [], cur, line, out => by
    rw [List.nil_append, List.nil_append, refG_seg tail line out (35 :: cs) cur (fun c hc => by
      rcases List.mem_cons.1 hc with rfl | hc
      · decide
      · exact hcs c hc)]
    have hrow : rowR line (cur ++ 35 :: cs) = rowR line cur := by unfold rowR; rw [cutR_said]
    rcases ht with rfl | ⟨r, rfl⟩
    · rw [refG, refG, hrow]
    · rw [refG, refG, if_pos rfl, if_pos rfl, hrow]
  | c :: pre, cur, line, out => by
    rw [List.cons_append, List.cons_append, List.cons_append, refG, refG]
    by_cases h : c = 10
    · rw [if_pos h, if_pos h]
      cases rowR line cur with
      | none => rfl
      | some l => exact refG_said cs tail hcs ht pre [] (line + 1) (out ++ l)
    · rw [if_neg h, if_neg h]
      exact refG_said cs tail hcs ht pre (cur ++ [c]) line out
/-- 'o' is 'p', or 'p' with a comment ahead of a line's end, or behind it all. -/
def Said (s p o : List Int) : Prop := o = p ∨ ∃ pre tail, p = pre ++ tail ∧ (tail = [] ∨ ∃ r, tail = 10 :: r) ∧ o = pre ++ s ++ tail
theorem lexF_said {cs p o : List Int} (hcs : ∀ c ∈ cs, c ≠ 10) (h : Said (35 :: cs) p o) (hp : p.length ≤ 65536) (ho : o.length ≤ 65536) : LexS.lexF o = LexS.lexF p := by
  rcases h with rfl | ⟨pre, tail, rfl, ht, rfl⟩
  · rfl
  · rw [lexF_eq, lexF_eq, if_neg (by omega), if_neg (by omega), refG_said cs tail hcs ht]
/-- Within the text: no comment yet, or one ahead of a line's end, of a line that is over. -/
def Mid (s p o : List Int) (line at_ : Int) : Prop := o = p ∨ (at_ < line ∧ ∃ pre r, p = pre ++ 10 :: r ∧ o = pre ++ s ++ 10 :: r)
theorem Mid.said {s p o : List Int} {line at_ : Int} (h : Mid s p o line at_) : Said s p o := by
  rcases h with h | ⟨_, pre, r, h1, h2⟩
  · exact .inl h
  · exact .inr ⟨pre, 10 :: r, h1, .inr ⟨r, rfl⟩, h2⟩
theorem Mid.more {s p o : List Int} {line line' at_ : Int} (h : Mid s p o line at_) (hl : line ≤ line') (c : Int) : Mid s (p ++ [c]) (o ++ [c]) line' at_ := by
  rcases h with rfl | ⟨hlt, pre, r, rfl, rfl⟩
  · exact .inl rfl
  · exact .inr ⟨by omega, pre, r ++ [c], by simp, by simp⟩

/-! the loops -/
theorem cm_l3 (x : List S35) (b : Bool) (hx : x.length ≤ 100000000) : ∀ (d : Nat) (i : Int), 0 ≤ i → (x.length : Int) - i = d → Ev (fun k => millwrightlaw02_LexComments.l3 k b x x i) b
  | 0, i, h0, hd => by
    refine Ev.step (f := fun _ => some b) (fun k => ?_) (Ev.now b)
    simp only [millwrightlaw02_LexComments.l3]
    rw [if_neg (by omega)]
  | d + 1, i, h0, hd => by
    refine Ev.step (fun k => ?_) (cm_l3 x b hx d (i + 1) (by omega) (by omega))
    simp only [millwrightlaw02_LexComments.l3]
    rw [if_pos (by omega), if_pos h0, if_pos (by omega), Bits.wrap64_in (by omega) (by omega)]
    simp
theorem cm_end (x0 cs : List Int) (at_ : Int) (hx0 : x0.length ≤ 1000) (hcs : ∀ c ∈ cs, c ≠ 10) (hcl : cs.length ≤ 100) (hok : (LexS.lexF x0).2.2 = 0) (o : List Int) (line i : Int) (hi : (x0.length : Int) < i) (ho : Said (35 :: cs) x0 o) :
    Ev (fun k => millwrightlaw02_LexComments.l2 k x0 at_ true ((LexS.lexF x0).1.map (fun t : LexS.Tok => (⟨t.kind, strOfNums t.text, t.line⟩ : S35))) (35 :: cs) line o i) true := by
  have hol : o.length ≤ 65536 := by
    rcases ho with rfl | ⟨pre, tail, rfl, _, rfl⟩
    · omega
    · simp at hx0 ⊢; omega
  have he := lexF_said hcs ho (by omega) hol
  generalize hX : (LexS.lexF x0).1.map (fun t : LexS.Tok => (⟨t.kind, strOfNums t.text, t.line⟩ : S35)) = X
  have hlen : X.length ≤ 100000000 := by
    rcases Nat.lt_or_ge 100000000 X.length with h | h
    · exfalso
      have := LexR.lexF_len x0
      rw [← hX, List.length_map] at h
      omega
    · exact h
  refine Ev.step (f := fun k => millwrightlaw02_LexComments.j6 k true X X false) (fun k => ?_) ?_
  · simp only [millwrightlaw02_LexComments.l2]
    rw [if_neg (by omega)]
    unfold lex_Lex.f
    rw [he, hX]
    simp [hok]
  · refine Ev.step (fun k => ?_) (cm_l3 X true hlen X.length 0 (by omega) (by omega))
    simp [millwrightlaw02_LexComments.j6]
theorem cm_l2 (x0 cs : List Int) (at_ : Int) (hx0 : x0.length ≤ 1000) (hcs : ∀ c ∈ cs, c ≠ 10) (hcl : cs.length ≤ 100) (hok : (LexS.lexF x0).2.2 = 0) :
    ∀ (d : Nat) (o : List Int) (line : Int) (i : Nat), i ≤ x0.length → x0.length - i = d → Mid (35 :: cs) (x0.take i) o line at_ → 0 ≤ line → line ≤ i →
      Ev (fun k => millwrightlaw02_LexComments.l2 k x0 at_ true ((LexS.lexF x0).1.map (fun t : LexS.Tok => (⟨t.kind, strOfNums t.text, t.line⟩ : S35))) (35 :: cs) line o i) true := by
  intro d
  have hol : ∀ (i : Nat) (o : List Int) (line : Int), Mid (35 :: cs) (x0.take i) o line at_ → o.length ≤ 2000 := by
    intro i o line h
    have ht : (x0.take i).length ≤ 1000 := by rw [List.length_take]; omega
    rcases h with rfl | ⟨_, pre, r, h1, rfl⟩
    · omega
    · rw [h1] at ht
      simp at ht ⊢
      omega
  induction d with
  | zero =>
    intro o line i hi hd hm h0 h1
    obtain rfl : i = x0.length := by omega
    have hl := hol _ _ _ hm
    rw [List.take_length] at hm
    refine Ev.step (f := fun k => millwrightlaw02_LexComments.j3 k x0 at_ true ((LexS.lexF x0).1.map (fun t : LexS.Tok => (⟨t.kind, strOfNums t.text, t.line⟩ : S35))) (35 :: cs) line o x0.length true) (fun k => ?_) (Ev.step (f := fun k => millwrightlaw02_LexComments.j4 k x0 at_ true ((LexS.lexF x0).1.map (fun t : LexS.Tok => (⟨t.kind, strOfNums t.text, t.line⟩ : S35))) (35 :: cs) line o x0.length true (line == at_)) (fun k => ?_) ?_)
    · simp only [millwrightlaw02_LexComments.l2]
      rw [if_pos (by omega), if_pos trivial]
    · simp only [millwrightlaw02_LexComments.j3]
      rw [if_pos trivial]
    · have hj5 : ∀ o', Said (35 :: cs) x0 o' → Ev (fun k => millwrightlaw02_LexComments.j5 k x0 at_ true ((LexS.lexF x0).1.map (fun t : LexS.Tok => (⟨t.kind, strOfNums t.text, t.line⟩ : S35))) (35 :: cs) line o' x0.length true) true := by
        intro o' ho'
        refine Ev.step (fun k => ?_) (cm_end x0 cs at_ hx0 hcs hcl hok o' (line + 1) ((x0.length : Int) + 1) (by omega) ho')
        simp only [millwrightlaw02_LexComments.j5]
        rw [if_pos trivial, if_neg (by omega), Bits.wrap64_in (by omega) (by omega), Bits.wrap64_in (by omega) (by omega)]
      by_cases hat : line = at_
      · refine Ev.step (fun k => ?_) (hj5 (o ++ 35 :: cs) ?_)
        · simp only [millwrightlaw02_LexComments.j4]
          rw [if_pos (beq_iff_eq.mpr hat), if_pos (by simp; omega)]
        · rcases hm with rfl | ⟨hlt, _⟩
          · exact .inr ⟨_, [], (List.append_nil _).symm, .inl rfl, by simp⟩
          · omega
      · refine Ev.step (fun k => ?_) (hj5 o hm.said)
        simp only [millwrightlaw02_LexComments.j4]
        rw [if_neg (by simpa using hat)]
  | succ d ih =>
    intro o line i hi hd hm h0 h1
    have hlt : i < x0.length := by omega
    have hl := hol _ _ _ hm
    have hrd : rd x0 (i : Int) = x0[i] := by simp [rd, List.getD_eq_getElem?_getD, List.getElem?_eq_getElem hlt]
    have htk : x0.take (i + 1) = x0.take i ++ [x0[i]] := by rw [List.take_succ_eq_append_getElem hlt]
    generalize x0[i] = c at hrd htk
    have ih' : ∀ (o' : List Int) (line' : Int), Mid (35 :: cs) (x0.take i ++ [c]) o' line' at_ → 0 ≤ line' → line' ≤ (i : Int) + 1 → Ev (fun k => millwrightlaw02_LexComments.l2 k x0 at_ true ((LexS.lexF x0).1.map (fun t : LexS.Tok => (⟨t.kind, strOfNums t.text, t.line⟩ : S35))) (35 :: cs) line' o' ((i : Int) + 1)) true := by
      intro o' line' h2 h3 h4
      have := ih o' line' (i + 1) (by omega) (by omega) (by rw [htk]; exact h2) h3 (by omega)
      simpa using this
    refine Ev.step (f := fun k => millwrightlaw02_LexComments.j3 k x0 at_ true ((LexS.lexF x0).1.map (fun t : LexS.Tok => (⟨t.kind, strOfNums t.text, t.line⟩ : S35))) (35 :: cs) line o i (c == 10)) (fun k => ?_) ?_
    · simp only [millwrightlaw02_LexComments.l2]
      rw [if_pos (by omega), if_neg (by omega), if_pos (by omega), if_pos (by omega), hrd]
    by_cases hc : c = 10
    · rw [beq_iff_eq.mpr hc]
      refine Ev.step (f := fun k => millwrightlaw02_LexComments.j4 k x0 at_ true ((LexS.lexF x0).1.map (fun t : LexS.Tok => (⟨t.kind, strOfNums t.text, t.line⟩ : S35))) (35 :: cs) line o i true (line == at_)) (fun k => ?_) ?_
      · simp only [millwrightlaw02_LexComments.j3]
        rw [if_pos trivial]
      have hj5 : ∀ o', o'.length ≤ 3000 → Mid (35 :: cs) (x0.take i ++ [c]) (o' ++ [c]) (line + 1) at_ → Ev (fun k => millwrightlaw02_LexComments.j5 k x0 at_ true ((LexS.lexF x0).1.map (fun t : LexS.Tok => (⟨t.kind, strOfNums t.text, t.line⟩ : S35))) (35 :: cs) line o' i true) true := by
        intro o' hol' ho'
        refine Ev.step (fun k => ?_) (ih' (o' ++ [c]) (line + 1) ho' (by omega) (by omega))
        simp only [millwrightlaw02_LexComments.j5]
        rw [if_pos trivial, if_pos (by omega), if_pos (by omega), if_pos (by omega), hrd, Bits.wrap64_in (by omega) (by omega), Bits.wrap64_in (by omega) (by omega)]
      by_cases hat : line = at_
      · refine Ev.step (fun k => ?_) (hj5 (o ++ 35 :: cs) (by simp; omega) ?_)
        · simp only [millwrightlaw02_LexComments.j4]
          rw [if_pos (beq_iff_eq.mpr hat), if_pos (by simp; omega)]
        · rcases hm with rfl | ⟨hl2, _⟩
          · exact .inr ⟨by omega, x0.take i, [], by rw [hc], by rw [hc]⟩
          · omega
      · refine Ev.step (fun k => ?_) (hj5 o (by omega) (hm.more (by omega) c))
        simp only [millwrightlaw02_LexComments.j4]
        rw [if_neg (by simpa using hat)]
    · rw [beq_eq_false_iff_ne.mpr hc]
      refine Ev.step (f := fun k => millwrightlaw02_LexComments.j4 k x0 at_ true ((LexS.lexF x0).1.map (fun t : LexS.Tok => (⟨t.kind, strOfNums t.text, t.line⟩ : S35))) (35 :: cs) line o i false false) (fun k => ?_) (Ev.step (f := fun k => millwrightlaw02_LexComments.j5 k x0 at_ true ((LexS.lexF x0).1.map (fun t : LexS.Tok => (⟨t.kind, strOfNums t.text, t.line⟩ : S35))) (35 :: cs) line o i false) (fun k => ?_) (Ev.step (fun k => ?_) (ih' (o ++ [c]) line (hm.more (by omega) c) h0 (by omega))))
      · simp only [millwrightlaw02_LexComments.j3]
        rw [if_neg (by decide)]
      · simp only [millwrightlaw02_LexComments.j4]
        rw [if_neg (by decide)]
      · simp only [millwrightlaw02_LexComments.j5]
        rw [if_neg (by decide), if_pos (by omega), if_pos (by omega), if_pos (by omega), hrd, Bits.wrap64_in (by omega) (by omega)]
theorem cm_l1 (x0 cs : List Int) (x2 : Int) (hx0 : x0.length ≤ 1000) (hcs : ∀ c ∈ cs, c ≠ 10) (hcl : cs.length ≤ 100) (hok : (LexS.lexF x0).2.2 = 0) :
    ∀ (d : Nat) (n : Int) (i : Nat), i ≤ x0.length → x0.length - i = d → 1 ≤ n → n ≤ (i : Int) + 1 →
      Ev (fun k => millwrightlaw02_LexComments.l1 k x0 x2 true ((LexS.lexF x0).1.map (fun t : LexS.Tok => (⟨t.kind, strOfNums t.text, t.line⟩ : S35))) (35 :: cs) n i) true
  | 0, n, i, hi, hd, h0, h1 => by
    refine Ev.step (fun k => ?_) (cm_l2 x0 cs (Int.tmod (Go.bits .and .i64 x2 65535) n) hx0 hcs hcl hok x0.length [] 0 0 (by omega) (by omega) (.inl (by simp)) (by omega) (by omega))
    simp only [millwrightlaw02_LexComments.l1]
    rw [if_neg (by omega), if_neg (by omega)]
    rfl
  | d + 1, n, i, hi, hd, h0, h1 => by
    by_cases hc : rd x0 (i : Int) = 10
    · have := cm_l1 x0 cs x2 hx0 hcs hcl hok d (n + 1) (i + 1) (by omega) (by omega) (by omega) (by omega)
      refine Ev.step (fun k => ?_) this
      simp only [millwrightlaw02_LexComments.l1]
      rw [if_pos (by omega), if_pos (by omega), if_pos hc, Bits.wrap64_in (by omega) (by omega), Bits.wrap64_in (by omega) (by omega)]
      rfl
    · have := cm_l1 x0 cs x2 hx0 hcs hcl hok d n (i + 1) (by omega) (by omega) (by omega) (by omega)
      refine Ev.step (fun k => ?_) this
      simp only [millwrightlaw02_LexComments.l1]
      rw [if_pos (by omega), if_pos (by omega), if_neg hc, Bits.wrap64_in (by omega) (by omega)]
      rfl
theorem cm_l0 (x0 x1 : List Int) (x2 : Int) (hx0 : x0.length ≤ 1000) (hx1 : x1.length ≤ 100) (hok : (LexS.lexF x0).2.2 = 0) :
    ∀ (d : Nat) (cs : List Int) (i : Nat), i ≤ x1.length → x1.length - i = d → (∀ c ∈ cs, c ≠ 10) → cs.length ≤ i →
      Ev (fun k => millwrightlaw02_LexComments.l0 k x0 x1 x2 true ((LexS.lexF x0).1.map (fun t : LexS.Tok => (⟨t.kind, strOfNums t.text, t.line⟩ : S35))) (35 :: cs) i) true
  | 0, cs, i, hi, hd, hcs, hl => by
    refine Ev.step (fun k => ?_) (cm_l1 x0 cs x2 hx0 hcs (by omega) hok x0.length 1 0 (by omega) (by omega) (by omega) (by omega))
    simp only [millwrightlaw02_LexComments.l0]
    rw [if_neg (by omega)]
    rfl
  | d + 1, cs, i, hi, hd, hcs, hl => by
    by_cases hc : rd x1 (i : Int) = 10
    · have := cm_l0 x0 x1 x2 hx0 hx1 hok d cs (i + 1) (by omega) (by omega) hcs (by omega)
      refine Ev.step (fun k => ?_) this
      simp only [millwrightlaw02_LexComments.l0]
      rw [if_pos (by omega), if_pos (by omega), if_pos hc, Bits.wrap64_in (by omega) (by omega)]
      rfl
    · have := cm_l0 x0 x1 x2 hx0 hx1 hok d (cs ++ [rd x1 (i : Int)]) (i + 1) (by omega) (by omega) (by
        intro c hcm
        rcases List.mem_append.1 hcm with h | h
        · exact hcs c h
        · rw [List.mem_singleton.1 h]; exact hc) (by simp; omega)
      refine Ev.step (fun k => ?_) this
      simp only [millwrightlaw02_LexComments.l0]
      rw [if_pos (by omega), if_pos (by omega), if_neg hc, if_pos (by simp; omega), Bits.wrap64_in (by omega) (by omega)]
      rfl

theorem LexComments : millwrightlaw02_LexComments.Pure := by
  intro l0 l1 a2 _ _ _ _ _ _ _
  have hmn : mn (l0.length : Int) 1000 = ((min l0.length 1000 : Nat) : Int) := by unfold mn; split <;> omega
  have hmn1 : mn (l1.length : Int) 100 = ((min l1.length 100 : Nat) : Int) := by unfold mn; split <;> omega
  have hle : min l0.length 1000 ≤ l0.length := by omega
  have hle1 : min l1.length 100 ≤ l1.length := by omega
  generalize hX : l0.take (min l0.length 1000) = X
  generalize hY : l1.take (min l1.length 100) = Y
  have hXl : X.length ≤ 1000 := by rw [← hX, List.length_take]; omega
  have hYl : Y.length ≤ 100 := by rw [← hY, List.length_take]; omega
  have h : ∃ k, (if (LexS.lexF X).2.2 = 0 then (millwrightlaw02_LexComments.l0 k X Y a2 true ((LexS.lexF X).1.map (fun t : LexS.Tok => (⟨t.kind, strOfNums t.text, t.line⟩ : S35))) [35] 0) else some true) = some true := by
    by_cases hok : (LexS.lexF X).2.2 = 0
    · obtain ⟨k, hk⟩ := (cm_l0 X Y a2 hXl hYl hok Y.length [] 0 (by omega) (by omega) (by simp) (by simp)).rounds
      exact ⟨k, by rw [if_pos hok]; exact hk⟩
    · exact ⟨0, by rw [if_neg hok]⟩
  obtain ⟨k, hk⟩ := h
  refine ⟨k, ?_⟩
  unfold millwrightlaw02_LexComments.f millwrightlaw02_shown.f
  rw [Option.bind_some, hmn, hmn1, if_pos (by omega), if_pos (by omega), if_pos (by omega), if_pos (by omega), Int.toNat_natCast, Int.toNat_natCast, hX, hY]
  unfold lex_Lex.f
  rw [Option.bind_some]
  exact hk

end Go.Proofs.Ytekedpnlodnmnaa.Pure
