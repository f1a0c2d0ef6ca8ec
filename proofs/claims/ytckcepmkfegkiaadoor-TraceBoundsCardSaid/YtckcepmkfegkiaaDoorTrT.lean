/- Plain: the audit's state, told by what has happened. No condition. -/
import Derived.Test.YtckcepmkfegkiaaDoorTrU2
namespace Go.Proofs.YtckcepmkfegkiaaDoor.TrT
open Go.RowKit TrS TrU
set_option linter.unusedVariables false
set_option linter.unusedSimpArgs false
def lastE (h : List Ev) (k : Int) : Option Ev := (h.filter fun e => e.task == k).getLast?
def manyE (h : List Ev) (k kd : Int) : Nat := h.countP fun e => e.task == k && e.kind == kd
theorem lastE_snoc (h : List Ev) (e : Ev) (k : Int) : lastE (h ++ [e]) k = if e.task = k then some e else lastE h k := by
  unfold lastE
  rw [List.filter_append]
  by_cases hk : e.task = k
  · rw [if_pos hk]
    have : [e].filter (fun e => e.task == k) = [e] := by simp [hk]
    rw [this, List.getLast?_concat]
  · rw [if_neg hk]
    have : [e].filter (fun e => e.task == k) = [] := by simp [hk]
    rw [this, List.append_nil]
theorem manyE_snoc (h : List Ev) (e : Ev) (k kd : Int) : manyE (h ++ [e]) k kd = manyE h k kd + if e.task = k ∧ e.kind = kd then 1 else 0 := by
  unfold manyE
  rw [List.countP_append, List.countP_singleton]
  congr 1
  by_cases h1 : e.task = k <;> by_cases h2 : e.kind = kd <;> simp [h1, h2]
theorem manyE_le (h : List Ev) (k kd : Int) : manyE h k kd ≤ h.length := List.countP_le_length
structure RT (h : List Ev) (k : Int) (T : Tk) : Prop where
  live : T.live = true ↔ ∃ e, lastE h k = some e ∧ e.kind = 1
  at_ : T.live = true → lastE h k = some T.start
  done : T.done = true ↔ manyE h k 2 ≠ 0
  fails : T.fails = (manyE h k 3 : Int) + manyE h k 5
  stops : T.stops = manyE h k 6
  begun : (∃ x ∈ h, x.task = k ∧ x.kind = 1) → T.begun = true
  up : ∀ x ∈ h, x.task = k → x.kind = 1 → x.epoch ≤ T.start.epoch
  one : T.begun = true → ∃ x ∈ h, x.task = k ∧ x.kind = 1 ∧ x.epoch = T.start.epoch
theorem RT.nil (k : Int) : RT [] k tk0 where
  live := ⟨fun h => (by cases h), fun ⟨e, h, _⟩ => (by cases h)⟩
  at_ := fun h => by cases h
  done := ⟨fun h => (by cases h), fun h => absurd rfl h⟩
  fails := rfl
  stops := rfl
  begun := fun ⟨x, h, _⟩ => by cases h
  up := fun x h => by cases h
  one := fun h => by cases h
theorem RT.other {h : List Ev} {e : Ev} {k : Int} {T : Tk} (R : RT h k T) (hne : ¬ e.task = k) : RT (h ++ [e]) k T := by
  have hl : lastE (h ++ [e]) k = lastE h k := by rw [lastE_snoc, if_neg hne]
  have hm : ∀ kd, manyE (h ++ [e]) k kd = manyE h k kd := fun kd => by rw [manyE_snoc, if_neg (fun x : e.task = k ∧ e.kind = kd => hne x.1), Nat.add_zero]
  have hmem : ∀ x, x ∈ h ++ [e] → x.task = k → x ∈ h := fun x hx hk => by
    rcases List.mem_append.1 hx with hx | hx
    · exact hx
    · rw [List.mem_singleton.1 hx] at hk; exact absurd hk hne
  refine ⟨by rw [hl]; exact R.live, by rw [hl]; exact R.at_, by rw [hm]; exact R.done, by rw [hm, hm]; exact R.fails, by rw [hm]; exact R.stops, ?_, ?_, ?_⟩
  · rintro ⟨x, hx, hk, h1⟩
    exact R.begun ⟨x, hmem x hx hk, hk, h1⟩
  · exact fun x hx hk h1 => R.up x (hmem x hx hk) hk h1
  · intro hb
    obtain ⟨x, hx, h2⟩ := R.one hb
    exact ⟨x, List.mem_append_left _ hx, h2⟩
theorem RT.start_ {h : List Ev} {e : Ev} {k : Int} {T : Tk} (R : RT h k T) (hk : e.task = k) (h1 : e.kind = 1) (hb : ¬ (T.begun = true ∧ e.epoch ≤ T.start.epoch)) : RT (h ++ [e]) k { T with live := true, begun := true, start := e } := by
  have hl : lastE (h ++ [e]) k = some e := by rw [lastE_snoc, if_pos hk]
  have hm : ∀ kd, kd ≠ 1 → manyE (h ++ [e]) k kd = manyE h k kd := fun kd hkd => by rw [manyE_snoc, if_neg (fun x : e.task = k ∧ e.kind = kd => hkd (x.2.symm.trans h1)), Nat.add_zero]
  refine ⟨⟨fun _ => ⟨e, hl, h1⟩, fun _ => rfl⟩, fun _ => hl, by rw [hm 2 (by decide)]; exact R.done, by rw [hm 3 (by decide), hm 5 (by decide)]; exact R.fails, by rw [hm 6 (by decide)]; exact R.stops, fun _ => rfl, ?_, fun _ => ⟨e, List.mem_append_right _ (.head _), hk, h1, rfl⟩⟩
  intro x hx hxk hx1
  rcases List.mem_append.1 hx with hx | hx
  · have := R.up x hx hxk hx1
    have hbg := R.begun ⟨x, hx, hxk, hx1⟩
    show x.epoch ≤ e.epoch
    have : ¬ e.epoch ≤ T.start.epoch := fun z => hb ⟨hbg, z⟩
    omega
  · rw [List.mem_singleton.1 hx]; exact Int.le_refl _
theorem RT.end_ {h : List Ev} {e : Ev} {k : Int} {T : Tk} (R : RT h k T) (hk : e.task = k) (h1 : ¬ e.kind = 1) (d : Bool) (f s : Int) (hd : d = true ↔ manyE (h ++ [e]) k 2 ≠ 0) (hf : f = (manyE (h ++ [e]) k 3 : Int) + manyE (h ++ [e]) k 5) (hs : s = manyE (h ++ [e]) k 6) :
    RT (h ++ [e]) k { T with live := false, done := d, fails := f, stops := s } := by
  have hl : lastE (h ++ [e]) k = some e := by rw [lastE_snoc, if_pos hk]
  have hmem : ∀ x, x ∈ h ++ [e] → x.kind = 1 → x ∈ h := fun x hx hk => by
    rcases List.mem_append.1 hx with hx | hx
    · exact hx
    · rw [List.mem_singleton.1 hx] at hk; exact absurd hk h1
  refine ⟨⟨fun h => (by cases h), fun ⟨x, hx, hx1⟩ => ?_⟩, fun h => (by cases h), hd, hf, hs, ?_, ?_, ?_⟩
  · rw [hl] at hx
    rw [← Option.some.inj hx] at hx1
    exact absurd hx1 h1
  · rintro ⟨x, hx, hk, h1⟩
    exact R.begun ⟨x, hmem x hx h1, hk, h1⟩
  · exact fun x hx hk h1 => R.up x (hmem x hx h1) hk h1
  · intro hb
    obtain ⟨x, hx, h2⟩ := R.one hb
    exact ⟨x, List.mem_append_left _ hx, h2⟩
theorem getT_setT (ts : List Tk) (i j : Int) (x : Tk) (hi : 0 ≤ i) (hi2 : i < ts.length) (hj : 0 ≤ j) : getT (setT ts i x) j = if j = i then x else getT ts j := by
  unfold getT setT
  rw [List.getD_eq_getElem?_getD, List.getD_eq_getElem?_getD]
  by_cases h : j = i
  · subst h
    rw [if_pos rfl, List.getElem?_set_self (by omega)]
    rfl
  · rw [if_neg h, List.getElem?_set_ne (by omega)]
def tickOf (h : List Ev) : Int := match h.getLast? with
  | some e => e.tick
  | none => 0
structure Inv (n : Nat) (h : List Ev) (ts : List Tk) (t : Int) : Prop where
  len : ts.length = n
  tick : t = tickOf h
  pos : 0 ≤ t
  rt : ∀ k : Int, 0 ≤ k → k < n → RT h k (getT ts k)
theorem Inv.nil (n : Nat) : Inv n [] (List.replicate n tk0) 0 :=
  ⟨List.length_replicate .., rfl, Int.le_refl _, fun k h0 h1 => by
    have : getT (List.replicate n tk0) k = tk0 := by
      unfold getT
      rw [List.getD_eq_getElem?_getD, List.getElem?_replicate]
      split <;> rfl
    rw [this]
    exact RT.nil k⟩
theorem Inv.set {n : Nat} {h : List Ev} {ts : List Tk} {t : Int} {e : Ev} (I : Inv n h ts t) (h0 : 0 ≤ e.task) (h1 : e.task < n) (hp : 0 ≤ e.tick) (x : Tk) (hx : RT (h ++ [e]) e.task x) : Inv n (h ++ [e]) (setT ts e.task x) e.tick :=
  ⟨by rw [setT_len]; exact I.len, by unfold tickOf; rw [List.getLast?_concat], hp, fun k a b => by
    rw [getT_setT ts e.task k x h0 (by rw [I.len]; exact h1) a]
    by_cases hk : k = e.task
    · rw [if_pos hk, hk]; exact hx
    · rw [if_neg hk]
      exact (I.rt k a b).other (fun z => hk z.symm)⟩
theorem set_set (ts : List Tk) (i : Int) (x y : Tk) : setT (setT ts i x) i y = setT ts i y := by unfold setT; rw [List.set_set]
theorem Inv.step {c : Cf} {ks : List Tsk} {h : List Ev} {ts : List Tk} {t : Int} {e : Ev} (I : Inv ks.length h ts t) (hl : h.length ≤ 1099511627776) (h0 : (takes c ks ts t e).1 = 0) : Inv ks.length (h ++ [e]) (takes c ks ts t e).2.1 (takes c ks ts t e).2.2 := by
  have hm : may c ts.length t e = true := by
    apply Classical.byContradiction
    intro hm
    unfold takes at h0
    rw [if_neg hm] at h0
    exact absurd h0 (by simp)
  have hm' := hm
  simp only [may, inB, known, Bool.and_eq_true, decide_eq_true_eq] at hm'
  obtain ⟨⟨g1, g2⟩, ⟨g3, g4, g5, g6⟩, g7, g8⟩ := hm'
  have g4' := g4
  rw [I.len] at g4'
  have R := I.rt e.task g3 g4'
  have g2' : e.kind ≤ 6 := g2
  have g1' : e.kind ≥ 1 := g1
  have hp : 0 ≤ e.tick := by have := I.pos; omega
  unfold takes at h0 ⊢
  rw [if_pos hm] at h0 ⊢
  by_cases k1 : e.kind = 1
  · rw [if_pos k1] at h0 ⊢
    simp only [starts] at h0 ⊢
    by_cases a1 : ((getT ts e.task).live || ((getT ts e.task).done || held ts e.slot)) = true
    · rw [if_pos a1] at h0; exact absurd h0 (by simp)
    · rw [if_neg a1] at h0 ⊢
      by_cases a2 : (getT ts e.task).fails ≥ c.tries
      · rw [if_pos a2] at h0; exact absurd h0 (by simp)
      · rw [if_neg a2] at h0 ⊢
        by_cases a3 : (getT ts e.task).begun = true ∧ e.epoch ≤ (getT ts e.task).start.epoch
        · rw [if_pos a3] at h0; exact absurd h0 (by simp)
        · rw [if_neg a3] at h0 ⊢
          by_cases a4 : fits c ks ts e.task = true
          · rw [if_pos a4]
            exact I.set g3 g4' hp _ (R.start_ rfl k1 a3)
          · rw [if_neg a4] at h0; exact absurd h0 (by simp)
  · rw [if_neg k1] at h0 ⊢
    by_cases a1 : ((getT ts e.task).live && (getT ts e.task).start.slot == e.slot && (getT ts e.task).start.epoch == e.epoch) = true
    · rw [if_pos a1] at h0 ⊢
      have m3 := manyE_le h e.task 3
      have m5 := manyE_le h e.task 5
      have m6 := manyE_le h e.task 6
      have hf1 : wrap ((getT ts e.task).fails + 1) = (getT ts e.task).fails + 1 := wrap_id _ (by rw [R.fails]; omega) (by rw [R.fails]; omega)
      have hs1 : wrap ((getT ts e.task).stops + 1) = (getT ts e.task).stops + 1 := wrap_id _ (by rw [R.stops]; omega) (by rw [R.stops]; omega)
      have key : ∀ (d : Bool) (f s : Int) , (d = true ↔ manyE (h ++ [e]) e.task 2 ≠ 0) → (f = (manyE (h ++ [e]) e.task 3 : Int) + manyE (h ++ [e]) e.task 5) → (s = manyE (h ++ [e]) e.task 6) →
          Inv ks.length (h ++ [e]) (setT ts e.task { getT ts e.task with live := false, done := d, fails := f, stops := s }) e.tick :=
        fun d f s hd hf hs => I.set g3 g4' hp _ (R.end_ rfl k1 d f s hd hf hs)
      have hm2 : ∀ kd, ¬ e.kind = kd → manyE (h ++ [e]) e.task kd = manyE h e.task kd := fun kd hkd => by rw [manyE_snoc, if_neg (fun x : e.task = e.task ∧ e.kind = kd => hkd x.2), Nat.add_zero]
      have hm1 : manyE (h ++ [e]) e.task e.kind = manyE h e.task e.kind + 1 := by rw [manyE_snoc, if_pos ⟨rfl, rfl⟩]
      have hg : ∀ x, getT (setT ts e.task x) e.task = x := fun x => by rw [getT_setT ts e.task e.task x g3 g4 g3, if_pos rfl]
      have hoff : ∀ x : Tk, off (setT ts e.task x) e.task = setT ts e.task { x with live := false } := fun x => by unfold off; rw [hg, set_set]
      have hoff0 : off ts e.task = setT ts e.task { getT ts e.task with live := false } := rfl
      simp only [ends] at h0 ⊢
      by_cases k2 : e.kind = 2
      · rw [if_pos k2]
        rw [k2] at hm1
        show Inv ks.length (h ++ [e]) (off (setT ts e.task _) e.task) e.tick
        rw [hoff]
        exact key true _ _ ⟨fun _ => by rw [hm1]; omega, fun _ => rfl⟩ (by rw [hm2 3 (by omega), hm2 5 (by omega)]; exact R.fails) (by rw [hm2 6 (by omega)]; exact R.stops)
      · rw [if_neg k2] at h0 ⊢
        by_cases k3 : e.kind = 3
        · rw [if_pos k3]
          rw [k3] at hm1
          show Inv ks.length (h ++ [e]) (off (setT ts e.task _) e.task) e.tick
          rw [hoff, hf1]
          exact key _ _ _ (by rw [hm2 2 (by omega)]; exact R.done) (by show (getT ts e.task).fails + 1 = _; rw [hm1, hm2 5 (by omega), R.fails]; omega) (by rw [hm2 6 (by omega)]; exact R.stops)
        · rw [if_neg k3] at h0 ⊢
          by_cases k4 : e.kind = 4
          · rw [if_pos k4]
            show Inv ks.length (h ++ [e]) (off ts e.task) e.tick
            rw [hoff0]
            exact key _ _ _ (by rw [hm2 2 (by omega)]; exact R.done) (by rw [hm2 3 (by omega), hm2 5 (by omega)]; exact R.fails) (by rw [hm2 6 (by omega)]; exact R.stops)
          · rw [if_neg k4] at h0 ⊢
            by_cases k5 : e.kind = 5
            · rw [if_pos k5] at h0 ⊢
              by_cases b1 : wrap (e.tick - (getT ts e.task).start.tick) < c.timeout
              · rw [if_pos b1] at h0; exact absurd h0 (by simp)
              · rw [if_neg b1]
                rw [k5] at hm1
                show Inv ks.length (h ++ [e]) (off (setT ts e.task _) e.task) e.tick
                rw [hoff, hf1]
                exact key _ _ _ (by rw [hm2 2 (by omega)]; exact R.done) (by show (getT ts e.task).fails + 1 = _; rw [hm1, hm2 3 (by omega), R.fails]; omega) (by rw [hm2 6 (by omega)]; exact R.stops)
            · rw [if_neg k5] at h0 ⊢
              by_cases b1 : (getT ts e.task).stops ≥ c.preempts
              · rw [if_pos b1] at h0; exact absurd h0 (by simp)
              · rw [if_neg b1]
                have k6 : e.kind = 6 := by omega
                rw [k6] at hm1
                show Inv ks.length (h ++ [e]) (off (setT ts e.task _) e.task) e.tick
                rw [hoff, hs1]
                exact key _ _ _ (by rw [hm2 2 (by omega)]; exact R.done) (by rw [hm2 3 (by omega), hm2 5 (by omega)]; exact R.fails) (by show (getT ts e.task).stops + 1 = _; rw [hm1, R.stops]; omega)
    · rw [if_neg a1] at h0; exact absurd h0 (by simp)
end Go.Proofs.YtckcepmkfegkiaaDoor.TrT
