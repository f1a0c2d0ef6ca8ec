/- Plain: laws of the audit of a trace: what is cut, what is bounded less, what is later, what is not there. No condition. -/
import Derived.Test.YtckcepmkfegkiaaDoorTrSpec
namespace Go.Proofs.YtckcepmkfegkiaaDoor.TrU
open TrS
theorem range (c : Cf) (ks : List Tsk) : ∀ (l : List Ev) (ts : List Tk) (t i : Int), auditL c ks l ts t i = (-1, 0) ∨ (i ≤ (auditL c ks l ts t i).1 ∧ (auditL c ks l ts t i).1 < i + l.length ∧ (auditL c ks l ts t i).2 ≠ 0)
  | [], _, _, _ => .inl rfl
  | e :: l, ts, t, i => by
    unfold auditL
    split
    · rcases range c ks l (takes c ks ts t e).2.1 (takes c ks ts t e).2.2 (i + 1) with h | ⟨h1, h2, h3⟩
      · exact .inl h
      · exact .inr ⟨by omega, by rw [List.length_cons]; omega, h3⟩
    · rename_i h
      exact .inr ⟨Int.le_refl _, by rw [List.length_cons]; omega, h⟩
theorem prefix_ (c : Cf) (ks : List Tsk) : ∀ (l : List Ev) (ts : List Tk) (t i : Int) (k : Nat), auditL c ks (l.take k) ts t i = if (auditL c ks l ts t i).2 = 0 ∨ (auditL c ks l ts t i).1 ≥ i + k then (-1, 0) else auditL c ks l ts t i
  | [], _, _, _, _ => by simp [auditL]
  | e :: l, ts, t, i, 0 => by
    have := range c ks (e :: l) ts t i
    rw [List.take_zero, if_pos]
    · rfl
    · rcases this with h | ⟨h1, _, _⟩
      · exact .inl (by rw [h])
      · exact .inr (by omega)
  | e :: l, ts, t, i, k + 1 => by
    rw [List.take_succ_cons]
    by_cases h : (takes c ks ts t e).1 = 0
    · have h1 : ∀ l', auditL c ks (e :: l') ts t i = auditL c ks l' (takes c ks ts t e).2.1 (takes c ks ts t e).2.2 (i + 1) := fun l' => by rw [auditL, if_pos h]
      rw [h1, h1, prefix_ c ks l _ _ _ k]
      have : (i + 1 + (k : Int)) = i + ((k + 1 : Nat) : Int) := by omega
      rw [this]
    · have h1 : ∀ l', auditL c ks (e :: l') ts t i = (i, (takes c ks ts t e).1) := fun l' => by rw [auditL, if_neg h]
      rw [h1, h1, if_neg]
      intro hh
      rcases hh with hh | hh
      · exact h hh
      · have : i ≥ i + ((k + 1 : Nat) : Int) := hh
        omega
theorem sim (c d : Cf) (ks ks' : List Tsk) (R : List Tk → Int → List Tk → Int → Prop) (g : Ev → Ev) (P : Ev → Prop) (E : Int → Prop) (hE : ¬ E 0)
    (step : ∀ ts t ts' t' e, P e → R ts t ts' t' → E (takes c ks ts t e).1 ∨ ((takes c ks ts t e).1 = (takes d ks' ts' t' (g e)).1 ∧ ((takes c ks ts t e).1 = 0 → R (takes c ks ts t e).2.1 (takes c ks ts t e).2.2 (takes d ks' ts' t' (g e)).2.1 (takes d ks' ts' t' (g e)).2.2))) :
    ∀ (l : List Ev) (ts : List Tk) (t : Int) (ts' : List Tk) (t' i : Int), (∀ e ∈ l, P e) → R ts t ts' t' →
      (E (auditL c ks l ts t i).2 ∧ ((auditL d ks' (l.map g) ts' t' i).2 = 0 ∧ (auditL d ks' (l.map g) ts' t' i).1 = -1 ∨ (auditL c ks l ts t i).1 ≤ (auditL d ks' (l.map g) ts' t' i).1)) ∨ auditL c ks l ts t i = auditL d ks' (l.map g) ts' t' i
  | [], _, _, _, _, _, _, _ => .inr rfl
  | e :: l, ts, t, ts', t', i, hp, hr => by
    rcases step ts t ts' t' e (hp e (.head _)) hr with hs | ⟨hs, hn⟩
    · left
      have h0 : ¬ (takes c ks ts t e).1 = 0 := fun h => hE (h ▸ hs)
      have h1 : auditL c ks (e :: l) ts t i = (i, (takes c ks ts t e).1) := by rw [auditL, if_neg h0]
      rw [h1]
      refine ⟨hs, ?_⟩
      rcases range d ks' ((e :: l).map g) ts' t' i with h | ⟨h, _⟩
      · exact .inl (by rw [h]; exact ⟨rfl, rfl⟩)
      · exact .inr h
    · by_cases h0 : (takes c ks ts t e).1 = 0
      · have h1 : auditL c ks (e :: l) ts t i = auditL c ks l (takes c ks ts t e).2.1 (takes c ks ts t e).2.2 (i + 1) := by rw [auditL, if_pos h0]
        have h2 : auditL d ks' ((e :: l).map g) ts' t' i = auditL d ks' (l.map g) (takes d ks' ts' t' (g e)).2.1 (takes d ks' ts' t' (g e)).2.2 (i + 1) := by rw [List.map_cons, auditL, if_pos (hs ▸ h0)]
        rw [h1, h2]
        exact sim c d ks ks' R g P E hE step l _ _ _ _ _ (fun x hx => hp x (.tail _ hx)) (hn h0)
      · right
        have h1 : auditL c ks (e :: l) ts t i = (i, (takes c ks ts t e).1) := by rw [auditL, if_neg h0]
        have h2 : auditL d ks' ((e :: l).map g) ts' t' i = (i, (takes d ks' ts' t' (g e)).1) := by rw [List.map_cons, auditL, if_neg (hs ▸ h0)]
        rw [h1, h2, hs]
theorem takes_more (c d : Cf) (ks : List Tsk) (ts : List Tk) (t : Int) (e : Ev) (hb : c.budget ≤ d.budget) (hs : c.slots ≤ d.slots) (ht : c.tries ≤ d.tries) (hp : c.preempts ≤ d.preempts) (ho : d.timeout ≤ c.timeout)
    (h0 : (takes c ks ts t e).1 = 0) : takes d ks ts t e = takes c ks ts t e := by
  have hm : may c ts.length t e = true := by
    apply Classical.byContradiction
    intro hm
    unfold takes at h0
    rw [if_neg hm] at h0
    exact absurd h0 (by simp)
  have hm2 : may d ts.length t e = true := by
    simp only [may, inB, Bool.and_eq_true, decide_eq_true_eq] at hm ⊢
    obtain ⟨h1, ⟨h2, h3, h4, h5⟩, h6⟩ := hm
    exact ⟨h1, ⟨h2, h3, h4, by omega⟩, h6⟩
  unfold takes at h0 ⊢
  rw [if_pos hm] at h0 ⊢
  rw [if_pos hm2]
  by_cases hk : e.kind = 1
  · rw [if_pos hk] at h0 ⊢
    rw [if_pos hk]
    have : starts d ks ts e = starts c ks ts e := by
      simp only [starts] at h0 ⊢
      by_cases a1 : ((getT ts e.task).live || ((getT ts e.task).done || held ts e.slot)) = true
      · rw [if_pos a1] at h0; exact absurd h0 (by simp)
      · rw [if_neg a1] at h0 ⊢
        rw [if_neg a1]
        by_cases a2 : (getT ts e.task).fails ≥ c.tries
        · rw [if_pos a2] at h0; exact absurd h0 (by simp)
        · rw [if_neg a2] at h0 ⊢
          rw [if_neg (by omega)]
          by_cases a3 : (getT ts e.task).begun = true ∧ e.epoch ≤ (getT ts e.task).start.epoch
          · rw [if_pos a3] at h0; exact absurd h0 (by simp)
          · rw [if_neg a3] at h0 ⊢
            rw [if_neg a3]
            by_cases a4 : fits c ks ts e.task = true
            · rw [if_pos a4]
              have : fits d ks ts e.task = true := by
                unfold fits at a4 ⊢
                split at a4
                · exact absurd a4 (by simp)
                · simp only [decide_eq_true_eq] at a4 ⊢
                  omega
              rw [if_pos this]
            · rw [if_neg a4] at h0; exact absurd h0 (by simp)
    rw [this]
  · rw [if_neg hk] at h0 ⊢
    rw [if_neg hk]
    by_cases hl : ((getT ts e.task).live && (getT ts e.task).start.slot == e.slot && (getT ts e.task).start.epoch == e.epoch) = true
    · rw [if_pos hl] at h0 ⊢
      rw [if_pos hl]
      have : ends d ts e = ends c ts e := by
        simp only [ends] at h0 ⊢
        by_cases k2 : e.kind = 2
        · rw [if_pos k2, if_pos k2]
        · rw [if_neg k2] at h0 ⊢
          rw [if_neg k2]
          by_cases k3 : e.kind = 3
          · rw [if_pos k3, if_pos k3]
          · rw [if_neg k3] at h0 ⊢
            rw [if_neg k3]
            by_cases k4 : e.kind = 4
            · rw [if_pos k4, if_pos k4]
            · rw [if_neg k4] at h0 ⊢
              rw [if_neg k4]
              by_cases k5 : e.kind = 5
              · rw [if_pos k5] at h0 ⊢
                rw [if_pos k5]
                by_cases a1 : wrap (e.tick - (getT ts e.task).start.tick) < c.timeout
                · rw [if_pos a1] at h0; exact absurd h0 (by simp)
                · rw [if_neg a1, if_neg (by omega)]
              · rw [if_neg k5] at h0 ⊢
                rw [if_neg k5]
                by_cases a1 : (getT ts e.task).stops ≥ c.preempts
                · rw [if_pos a1] at h0; exact absurd h0 (by simp)
                · rw [if_neg a1, if_neg (by omega)]
      rw [this]
    · rw [if_neg hl] at h0; exact absurd h0 (by simp)
theorem more (c d : Cf) (ks : List Tsk) (l : List Ev) (hb : c.budget ≤ d.budget) (hs : c.slots ≤ d.slots) (ht : c.tries ≤ d.tries) (hp : c.preempts ≤ d.preempts) (ho : d.timeout ≤ c.timeout) :
    ((audit c ks l).2 = 0 → (audit c ks l).1 = -1 ∧ audit d ks l = (-1, 0)) ∧ (audit d ks l = (-1, 0) ∨ ((audit d ks l).2 ≠ 0 ∧ (audit c ks l).1 ≤ (audit d ks l).1)) := by
  have := sim c d ks ks (fun ts t ts' t' => ts = ts' ∧ t = t') id (fun _ => True) (fun x => x ≠ 0) (by simp)
    (fun ts t ts' t' e _ ⟨h1, h2⟩ => by
      subst h1 h2
      by_cases h0 : (takes c ks ts t e).1 = 0
      · right
        rw [id, takes_more c d ks ts t e hb hs ht hp ho h0]
        exact ⟨rfl, fun _ => ⟨rfl, rfl⟩⟩
      · exact .inl h0) l (List.replicate ks.length tk0) 0 (List.replicate ks.length tk0) 0 0 (fun _ _ => trivial) ⟨rfl, rfl⟩
  rw [List.map_id] at this
  have hc := range c ks l (List.replicate ks.length tk0) 0 0
  have hd := range d ks l (List.replicate ks.length tk0) 0 0
  unfold audit
  rcases this with ⟨h1, h2⟩ | h
  · refine ⟨fun h => absurd h h1, ?_⟩
    rcases hd with hd | ⟨hd, hd2, hd3⟩
    · exact .inl hd
    · rcases h2 with ⟨h2, _⟩ | h2
      · exact absurd h2 hd3
      · exact .inr ⟨hd3, h2⟩
  · rw [← h]
    refine ⟨fun h0 => ?_, ?_⟩
    · rcases hc with hc | ⟨_, _, hc⟩
      · rw [hc]; exact ⟨rfl, rfl⟩
      · exact absurd h0 hc
    · rcases hc with hc | ⟨_, _, hc⟩
      · exact .inl hc
      · exact .inr ⟨hc, Int.le_refl _⟩
end Go.Proofs.YtckcepmkfegkiaaDoor.TrU
