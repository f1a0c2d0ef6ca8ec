/- Plain: what holds behind each event of a trace that is right. No condition. -/
import Derived.Test.YtckcepmkfegkiaaDoorTrT
namespace Go.Proofs.YtckcepmkfegkiaaDoor.TrJ
open Go.RowKit TrS TrU TrT
set_option linter.unusedVariables false
set_option linter.unusedSimpArgs false
def newT (e : Ev) (T : Tk) : Tk :=
  if e.kind = 1 then { T with live := true, begun := true, start := e }
  else { T with live := false, done := if e.kind = 2 then true else T.done, fails := if e.kind = 3 ∨ e.kind = 5 then wrap (T.fails + 1) else T.fails, stops := if e.kind = 6 then wrap (T.stops + 1) else T.stops }
/-- An event that is right. -/
theorem takes_ok {c : Cf} {ks : List Tsk} {ts : List Tk} {t : Int} {e : Ev} (h0 : (takes c ks ts t e).1 = 0) :
    (1 ≤ e.kind ∧ e.kind ≤ 6 ∧ 0 ≤ e.task ∧ e.task < ts.length ∧ 0 ≤ e.slot ∧ e.slot < c.slots ∧ t ≤ e.tick) ∧
    (takes c ks ts t e).2.1 = setT ts e.task (newT e (getT ts e.task)) ∧ (takes c ks ts t e).2.2 = e.tick ∧
    ((e.kind = 1 ∧ (getT ts e.task).live = false ∧ (getT ts e.task).done = false ∧ held ts e.slot = false ∧ (getT ts e.task).fails < c.tries ∧ fits c ks ts e.task = true) ∨
     (e.kind ≠ 1 ∧ (getT ts e.task).live = true ∧ (getT ts e.task).start.slot = e.slot ∧ (e.kind = 6 → (getT ts e.task).stops < c.preempts))) := by
  have hm : may c ts.length t e = true := by
    apply Classical.byContradiction
    intro hm
    unfold takes at h0
    rw [if_neg hm] at h0
    exact absurd h0 (by simp)
  have hm' := hm
  simp only [may, inB, known, Bool.and_eq_true, decide_eq_true_eq] at hm'
  obtain ⟨⟨g1, g2⟩, ⟨g3, g4, g5, g6⟩, g7, g8⟩ := hm'
  refine ⟨⟨by omega, by omega, g3, g4, g5, g6, g8⟩, ?_⟩
  have hg : ∀ x, getT (setT ts e.task x) e.task = x := fun x => by rw [getT_setT ts e.task e.task x g3 g4 g3, if_pos rfl]
  have hoff : ∀ x : Tk, off (setT ts e.task x) e.task = setT ts e.task { x with live := false } := fun x => by unfold off; rw [hg, set_set]
  have hoff0 : off ts e.task = setT ts e.task { getT ts e.task with live := false } := rfl
  unfold takes at h0 ⊢
  rw [if_pos hm] at h0 ⊢
  by_cases k1 : e.kind = 1
  · rw [if_pos k1] at h0 ⊢
    simp only [starts] at h0 ⊢
    by_cases a1 : ((getT ts e.task).live || ((getT ts e.task).done || held ts e.slot)) = true
    · rw [if_pos a1] at h0; exact absurd h0 (by simp)
    · rw [if_neg a1] at h0 ⊢
      by_cases a2 : (getT ts e.task).fails ≥ c.tries
      · rw [if_pos a2] at h0; exact absurd h0 (by simp)
      · rw [if_neg a2] at h0 ⊢
        by_cases a3 : (getT ts e.task).begun = true ∧ e.epoch ≤ (getT ts e.task).start.epoch
        · rw [if_pos a3] at h0; exact absurd h0 (by simp)
        · rw [if_neg a3] at h0 ⊢
          by_cases a4 : fits c ks ts e.task = true
          · rw [if_pos a4]
            simp only [Bool.or_eq_true, not_or, Bool.not_eq_true] at a1
            refine ⟨?_, (by first | rfl | trivial), .inl ⟨k1, a1.1, a1.2.1, a1.2.2, by omega, a4⟩⟩
            show setT ts e.task _ = _
            unfold newT
            rw [if_pos k1]
          · rw [if_neg a4] at h0; exact absurd h0 (by simp)
  · rw [if_neg k1] at h0 ⊢
    by_cases a1 : ((getT ts e.task).live && (getT ts e.task).start.slot == e.slot && (getT ts e.task).start.epoch == e.epoch) = true
    · rw [if_pos a1] at h0 ⊢
      simp only [Bool.and_eq_true, beq_iff_eq] at a1
      have hN : ∀ (d : Bool) (f s : Int), d = (if e.kind = 2 then true else (getT ts e.task).done) → f = (if e.kind = 3 ∨ e.kind = 5 then wrap ((getT ts e.task).fails + 1) else (getT ts e.task).fails) → s = (if e.kind = 6 then wrap ((getT ts e.task).stops + 1) else (getT ts e.task).stops) →
          setT ts e.task { getT ts e.task with live := false, done := d, fails := f, stops := s } = setT ts e.task (newT e (getT ts e.task)) := by
        intro d f s hd hf hs
        unfold newT
        rw [if_neg k1, hd, hf, hs]
      simp only [ends] at h0 ⊢
      by_cases k2 : e.kind = 2
      · rw [if_pos k2]
        refine ⟨?_, (by first | rfl | trivial), .inr ⟨k1, a1.1.1, a1.1.2, fun h => by omega⟩⟩
        show off (setT ts e.task _) e.task = _
        rw [hoff]
        exact hN true _ _ (by rw [if_pos k2]) (by rw [if_neg (by omega)]) (by rw [if_neg (by omega)])
      · rw [if_neg k2] at h0 ⊢
        by_cases k3 : e.kind = 3
        · rw [if_pos k3]
          refine ⟨?_, (by first | rfl | trivial), .inr ⟨k1, a1.1.1, a1.1.2, fun h => by omega⟩⟩
          show off (setT ts e.task _) e.task = _
          rw [hoff]
          exact hN _ _ _ (by rw [if_neg k2]) (by rw [if_pos (.inl k3)]) (by rw [if_neg (by omega)])
        · rw [if_neg k3] at h0 ⊢
          by_cases k4 : e.kind = 4
          · rw [if_pos k4]
            refine ⟨?_, (by first | rfl | trivial), .inr ⟨k1, a1.1.1, a1.1.2, fun h => by omega⟩⟩
            show off ts e.task = _
            rw [hoff0]
            exact hN _ _ _ (by rw [if_neg k2]) (by rw [if_neg (by omega)]) (by rw [if_neg (by omega)])
          · rw [if_neg k4] at h0 ⊢
            by_cases k5 : e.kind = 5
            · rw [if_pos k5] at h0 ⊢
              by_cases b1 : wrap (e.tick - (getT ts e.task).start.tick) < c.timeout
              · rw [if_pos b1] at h0; exact absurd h0 (by simp)
              · rw [if_neg b1]
                refine ⟨?_, (by first | rfl | trivial), .inr ⟨k1, a1.1.1, a1.1.2, fun h => by omega⟩⟩
                show off (setT ts e.task _) e.task = _
                rw [hoff]
                exact hN _ _ _ (by rw [if_neg k2]) (by rw [if_pos (.inr k5)]) (by rw [if_neg (by omega)])
            · rw [if_neg k5] at h0 ⊢
              by_cases b1 : (getT ts e.task).stops ≥ c.preempts
              · rw [if_pos b1] at h0; exact absurd h0 (by simp)
              · rw [if_neg b1]
                have k6 : e.kind = 6 := by omega
                refine ⟨?_, (by first | rfl | trivial), .inr ⟨k1, a1.1.1, a1.1.2, fun _ => by omega⟩⟩
                show off (setT ts e.task _) e.task = _
                rw [hoff]
                exact hN _ _ _ (by rw [if_neg k2]) (by rw [if_neg (by omega)]) (by rw [if_pos k6])
    · rw [if_neg a1] at h0; exact absurd h0 (by simp)
/-- The memory of all that are live. -/
def one (ks : List Tsk) (i : Int) (T : Tk) : Int := if T.live = true then mxI (getK ks i).mem 0 else 0
def S (ks : List Tsk) : List Tk → Int → Int
  | [], _ => 0
  | T :: ts, i => one ks i T + S ks ts (i + 1)
def inR (ks : List Tsk) : Prop := ∀ i, (getK ks i).mem ≤ 9223372036854775807
theorem mx_in (ks : List Tsk) (hk : inR ks) (i : Int) : 0 ≤ mxI (getK ks i).mem 0 ∧ mxI (getK ks i).mem 0 ≤ 9223372036854775807 := by
  have := hk i
  unfold mxI
  split <;> omega
theorem one_in (ks : List Tsk) (hk : inR ks) (i : Int) (T : Tk) : 0 ≤ one ks i T ∧ one ks i T ≤ 9223372036854775807 := by
  have := mx_in ks hk i
  unfold one
  split <;> omega
theorem S_pos (ks : List Tsk) (hk : inR ks) : ∀ (ts : List Tk) (i : Int), 0 ≤ S ks ts i
  | [], _ => Int.le_refl _
  | T :: ts, i => by
    have h1 := one_in ks hk i T
    have h2 := S_pos ks hk ts (i + 1)
    rw [S]
    omega
theorem addI_pos (a b : Int) (ha : 0 ≤ a ∧ a ≤ 9223372036854775807) (hb : 0 ≤ b ∧ b ≤ 9223372036854775807) : addI a b = if a + b ≤ 9223372036854775807 then (a + b, true) else (0, false) := by
  unfold addI
  have hw : wrap (a + b) = if a + b ≤ 9223372036854775807 then a + b else a + b - 18446744073709551616 := by
    show wrap64 (a + b) = _
    unfold wrap64
    split <;> omega
  rw [hw, decide_eq_false (show ¬ b < 0 by omega)]
  by_cases h : a + b ≤ 9223372036854775807
  · rw [if_pos h, if_pos h, decide_eq_false (show ¬ a + b < a by omega)]
    rfl
  · rw [if_neg h, if_neg h, decide_eq_true (show a + b - 18446744073709551616 < a by omega)]
    rfl
theorem fitsL_S (ks : List Tsk) (hk : inR ks) : ∀ (ts : List Tk) (i all : Int), 0 ≤ all ∧ all ≤ 9223372036854775807 → fitsL ks ts i all = if all + S ks ts i ≤ 9223372036854775807 then some (all + S ks ts i) else none
  | [], i, all, h => by
    rw [fitsL, S, Int.add_zero, if_pos h.2]
  | T :: ts, i, all, h => by
    have hx := mx_in ks hk i
    have hp := S_pos ks hk ts (i + 1)
    rw [fitsL, S]
    unfold one
    by_cases hl : T.live = true
    · rw [if_pos hl, if_pos hl, addI_pos _ _ h hx]
      by_cases ha : all + mxI (getK ks i).mem 0 ≤ 9223372036854775807
      · rw [if_pos ha, if_pos rfl, fitsL_S ks hk ts (i + 1) _ ⟨by omega, ha⟩, Int.add_assoc]
      · rw [if_neg ha, if_neg (by simp), if_neg (by omega)]
    · rw [if_neg hl, if_neg hl, fitsL_S ks hk ts (i + 1) all h, Int.zero_add]
theorem S_set (ks : List Tsk) : ∀ (ts : List Tk) (i : Int) (j : Nat) (T x : Tk), ts[j]? = some T → S ks (ts.set j x) i = S ks ts i - one ks (i + j) T + one ks (i + j) x
  | [], _, _, _, _, h => by simp at h
  | U :: ts, i, 0, T, x, h => by
    simp only [List.getElem?_cons_zero, Option.some.injEq] at h
    subst h
    rw [List.set_cons_zero, S, S, Int.natCast_zero, Int.add_zero]
    omega
  | U :: ts, i, j + 1, T, x, h => by
    rw [List.getElem?_cons_succ] at h
    rw [List.set_cons_succ, S, S, S_set ks ts (i + 1) j T x h, show i + ((j + 1 : Nat) : Int) = i + 1 + (j : Int) by omega]
    omega
/-- What holds behind each event. -/
structure BI (c : Cf) (ks : List Tsk) (ts : List Tk) : Prop where
  len : ts.length = ks.length
  slot : ∀ (k : Nat) (T : Tk), ts[k]? = some T → T.live = true → 0 ≤ T.start.slot ∧ T.start.slot < c.slots
  dist : ∀ (j k : Nat) (T U : Tk), j ≠ k → ts[j]? = some T → ts[k]? = some U → T.live = true → U.live = true → T.start.slot ≠ U.start.slot
  sum : S ks ts 0 ≤ mxI c.budget 0
  fl : ∀ (k : Nat) (T : Tk), ts[k]? = some T → 0 ≤ T.fails ∧ T.fails ≤ mxI c.tries 0 ∧ (T.live = true → T.fails < c.tries)
  st : ∀ (k : Nat) (T : Tk), ts[k]? = some T → 0 ≤ T.stops ∧ T.stops ≤ mxI c.preempts 0
  dn : ∀ (k : Nat) (T : Tk), ts[k]? = some T → T.live = true → T.done = false
theorem mx_ge (a b : Int) : a ≤ mxI a b ∧ b ≤ mxI a b := by unfold mxI; split <;> omega
theorem S_nil (ks : List Tsk) : ∀ (n : Nat) (i : Int), S ks (List.replicate n tk0) i = 0
  | 0, _ => rfl
  | n + 1, i => by rw [List.replicate_succ, S, S_nil ks n]; rfl
theorem BI.nil (c : Cf) (ks : List Tsk) : BI c ks (List.replicate ks.length tk0) := by
  have hr : ∀ (k : Nat) (T : Tk), (List.replicate ks.length tk0)[k]? = some T → T = tk0 := fun k T h => by
    rw [List.getElem?_replicate] at h
    split at h
    · exact (Option.some.inj h).symm
    · cases h
  refine ⟨List.length_replicate .., ?_, ?_, ?_, ?_, ?_, ?_⟩
  · intro k T h hl; rw [hr k T h] at hl; cases hl
  · intro j k T U _ h _ hl; rw [hr j T h] at hl; cases hl
  · rw [S_nil]; exact (mx_ge c.budget 0).2
  · intro k T h
    rw [hr k T h]
    exact ⟨Int.le_refl _, (mx_ge c.tries 0).2, fun hl => by cases hl⟩
  · intro k T h
    rw [hr k T h]
    exact ⟨Int.le_refl _, (mx_ge c.preempts 0).2⟩
  · intro k T h hl; rw [hr k T h] at hl; cases hl
theorem get_some (ts : List Tk) (i : Int) (h0 : 0 ≤ i) (h1 : i < ts.length) : ts[i.toNat]? = some (getT ts i) := by
  unfold getT
  rw [List.getD_eq_getElem?_getD, List.getElem?_eq_getElem (by omega)]
  rfl
theorem BI.step {c : Cf} {ks : List Tsk} {ts : List Tk} {t : Int} {e : Ev} (hk : inR ks) (ht : c.tries ≤ 9223372036854775807) (hp : c.preempts ≤ 9223372036854775807) (hb : c.budget ≤ 9223372036854775807) (B : BI c ks ts) (h0 : (takes c ks ts t e).1 = 0) : BI c ks (takes c ks ts t e).2.1 := by
  obtain ⟨⟨g1, g2, g3, g4, g5, g6, g7⟩, hst, _, hcase⟩ := takes_ok h0
  rw [hst]
  have hget := get_some ts e.task g3 g4
  have hF := B.fl _ _ hget
  have hS := B.st _ _ hget
  -- an element of the new row: the new one, or an old one
  have hel : ∀ (k : Nat) (T : Tk), (setT ts e.task (newT e (getT ts e.task)))[k]? = some T → (k = e.task.toNat ∧ T = newT e (getT ts e.task)) ∨ (k ≠ e.task.toNat ∧ ts[k]? = some T) := by
    intro k T h
    unfold setT at h
    by_cases hkk : e.task.toNat = k
    · left
      subst hkk
      rw [List.getElem?_set_self (by omega)] at h
      exact ⟨rfl, (Option.some.inj h).symm⟩
    · right
      rw [List.getElem?_set_ne hkk] at h
      exact ⟨fun x => hkk x.symm, h⟩
  have hsum : S ks (setT ts e.task (newT e (getT ts e.task))) 0 = S ks ts 0 - one ks e.task (getT ts e.task) + one ks e.task (newT e (getT ts e.task)) := by
    unfold setT
    rw [S_set ks ts 0 e.task.toNat _ _ hget]
    have : (0 : Int) + (e.task.toNat : Int) = e.task := by omega
    rw [this]
  have hx := mx_in ks hk e.task
  have hpos := S_pos ks hk ts 0
  rcases hcase with ⟨k1, a1, a2, a3, a4, a5⟩ | ⟨k1, a1, a2, a3⟩
  · have hn : newT e (getT ts e.task) = { getT ts e.task with live := true, begun := true, start := e } := by unfold newT; rw [if_pos k1]
    have hother : ∀ (k : Nat) (T : Tk), ts[k]? = some T → T.live = true → T.start.slot ≠ e.slot := by
      intro k T h hl heq
      have : held ts e.slot = true := by
        unfold held
        rw [List.any_eq_true]
        exact ⟨T, List.mem_of_getElem? h, by simp [hl, heq]⟩
      rw [a3] at this
      cases this
    refine ⟨by rw [setT_len]; exact B.len, ?_, ?_, ?_, ?_, ?_, ?_⟩
    · intro k T h hl
      rcases hel k T h with ⟨_, rfl⟩ | ⟨_, h⟩
      · rw [hn]; exact ⟨g5, g6⟩
      · exact B.slot k T h hl
    · intro j k T U hjk hj hk' hl hu
      rcases hel j T hj with ⟨ej, rfl⟩ | ⟨ej, hj⟩
      · rcases hel k U hk' with ⟨ek, _⟩ | ⟨_, hk'⟩
        · exact absurd (ej.trans ek.symm) hjk
        · rw [hn]
          exact fun x => hother k U hk' hu x.symm
      · rcases hel k U hk' with ⟨_, rfl⟩ | ⟨_, hk'⟩
        · rw [hn]
          exact hother j T hj hl
        · exact B.dist j k T U hjk hj hk' hl hu
    · rw [hsum, hn]
      unfold one
      rw [if_neg (by rw [a1]; simp), if_pos rfl]
      unfold fits at a5
      rw [fitsL_S ks hk ts 0 _ hx] at a5
      by_cases hle : mxI (getK ks e.task).mem 0 + S ks ts 0 ≤ 9223372036854775807
      · rw [if_pos hle] at a5
        have := of_decide_eq_true a5
        have h2 : mxI (getK ks e.task).mem 0 + S ks ts 0 ≤ c.budget := this
        have := (mx_ge c.budget 0).1
        omega
      · rw [if_neg hle] at a5; cases a5
    · intro k T h
      rcases hel k T h with ⟨_, rfl⟩ | ⟨_, h⟩
      · rw [hn]; exact ⟨hF.1, hF.2.1, fun _ => a4⟩
      · exact B.fl k T h
    · intro k T h
      rcases hel k T h with ⟨_, rfl⟩ | ⟨_, h⟩
      · rw [hn]; exact hS
      · exact B.st k T h
    · intro k T h hl
      rcases hel k T h with ⟨_, rfl⟩ | ⟨_, h⟩
      · rw [hn]; exact a2
      · exact B.dn k T h hl
  · have hn : newT e (getT ts e.task) = { getT ts e.task with live := false, done := if e.kind = 2 then true else (getT ts e.task).done, fails := if e.kind = 3 ∨ e.kind = 5 then wrap ((getT ts e.task).fails + 1) else (getT ts e.task).fails, stops := if e.kind = 6 then wrap ((getT ts e.task).stops + 1) else (getT ts e.task).stops } := by unfold newT; rw [if_neg k1]
    have hlive : (newT e (getT ts e.task)).live = false := by rw [hn]
    refine ⟨by rw [setT_len]; exact B.len, ?_, ?_, ?_, ?_, ?_, ?_⟩
    · intro k T h hl
      rcases hel k T h with ⟨_, rfl⟩ | ⟨_, h⟩
      · rw [hlive] at hl; cases hl
      · exact B.slot k T h hl
    · intro j k T U hjk hj hk' hl hu
      rcases hel j T hj with ⟨_, rfl⟩ | ⟨_, hj⟩
      · rw [hlive] at hl; cases hl
      · rcases hel k U hk' with ⟨_, rfl⟩ | ⟨_, hk'⟩
        · rw [hlive] at hu; cases hu
        · exact B.dist j k T U hjk hj hk' hl hu
    · rw [hsum]
      have h1 : one ks e.task (newT e (getT ts e.task)) = 0 := by unfold one; rw [if_neg (by rw [hlive]; simp)]
      have h2 := one_in ks hk e.task (getT ts e.task)
      have := B.sum
      rw [h1]
      omega
    · intro k T h
      rcases hel k T h with ⟨_, rfl⟩ | ⟨_, h⟩
      · refine ⟨?_, ?_, fun hl => by rw [hlive] at hl; cases hl⟩
        · rw [hn]
          show 0 ≤ (if e.kind = 3 ∨ e.kind = 5 then wrap ((getT ts e.task).fails + 1) else (getT ts e.task).fails)
          have hlt := hF.2.2 a1
          split
          · rw [wrap_id _ (by omega) (by omega)]; omega
          · exact hF.1
        · rw [hn]
          show (if e.kind = 3 ∨ e.kind = 5 then wrap ((getT ts e.task).fails + 1) else (getT ts e.task).fails) ≤ _
          have hlt := hF.2.2 a1
          have := (mx_ge c.tries 0).1
          split
          · rw [wrap_id _ (by omega) (by omega)]; omega
          · exact hF.2.1
      · exact B.fl k T h
    · intro k T h
      rcases hel k T h with ⟨_, rfl⟩ | ⟨_, h⟩
      · rw [hn]
        show 0 ≤ (if e.kind = 6 then wrap ((getT ts e.task).stops + 1) else (getT ts e.task).stops) ∧ (if e.kind = 6 then wrap ((getT ts e.task).stops + 1) else (getT ts e.task).stops) ≤ _
        have := (mx_ge c.preempts 0).1
        by_cases k6 : e.kind = 6
        · have := a3 k6
          rw [if_pos k6, wrap_id _ (by omega) (by omega)]
          omega
        · rw [if_neg k6]
          exact hS
      · exact B.st k T h
    · intro k T h hl
      rcases hel k T h with ⟨_, rfl⟩ | ⟨_, h⟩
      · rw [hlive] at hl; cases hl
      · exact B.dn k T h hl
end Go.Proofs.YtckcepmkfegkiaaDoor.TrJ
