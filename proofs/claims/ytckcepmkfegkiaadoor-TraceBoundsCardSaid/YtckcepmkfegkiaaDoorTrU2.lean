/- Plain: laws of the audit of a trace: what is later, what is not there. No condition. -/
import Derived.Test.YtckcepmkfegkiaaDoorTrU
namespace Go.Proofs.YtckcepmkfegkiaaDoor.TrU
open Go.RowKit TrS
theorem getT_map (f : Tk → Tk) (hf : f tk0 = tk0) (ts : List Tk) (i : Int) : getT (ts.map f) i = f (getT ts i) := by
  unfold getT
  rw [List.getD_eq_getElem?_getD, List.getD_eq_getElem?_getD, List.getElem?_map]
  cases ts[i.toNat]? with
  | none => exact hf.symm
  | some x => rfl
theorem setT_map (f : Tk → Tk) (ts : List Tk) (i : Int) (x : Tk) : setT (ts.map f) i (f x) = (setT ts i x).map f := by
  unfold setT
  rw [List.map_set]
theorem getT_mem (ts : List Tk) (i : Int) : getT ts i ∈ ts ∨ getT ts i = tk0 := by
  unfold getT
  rw [List.getD_eq_getElem?_getD]
  cases h : ts[i.toNat]? with
  | none => exact .inr rfl
  | some x => exact .inl (List.mem_of_getElem? h)
theorem setT_mem {ts : List Tk} {i : Int} {x y : Tk} (h : y ∈ setT ts i x) : y ∈ ts ∨ y = x := by
  unfold setT at h
  exact List.mem_or_eq_of_mem_set h
theorem setT_all {I : Tk → Prop} {ts : List Tk} {i : Int} {x : Tk} (h : ∀ y ∈ ts, I y) (hx : I x) : ∀ y ∈ setT ts i x, I y := fun y hy => by
  rcases setT_mem hy with h' | rfl
  · exact h y h'
  · exact hx
theorem setT_len (ts : List Tk) (i : Int) (x : Tk) : (setT ts i x).length = ts.length := by unfold setT; rw [List.length_set]
theorem held_map (f : Tk → Tk) (ts : List Tk) (s : Int) (h : ∀ t, (f t).live = t.live ∧ (f t).start.slot = t.start.slot) : held (ts.map f) s = held ts s := by
  unfold held
  rw [List.any_map]
  congr 1
  funext t
  simp only [Function.comp, (h t).1, (h t).2]
theorem fitsL_map (f : Tk → Tk) (h : ∀ t, (f t).live = t.live) (ks : List Tsk) : ∀ (ts : List Tk) (i all : Int), fitsL ks (ts.map f) i all = fitsL ks ts i all
  | [], _, _ => rfl
  | t :: ts, i, all => by
    rw [List.map_cons, fitsL, fitsL, h t, fitsL_map f h ks ts, fitsL_map f h ks ts]
theorem fitsL_congr (ks ks' : List Tsk) : ∀ (ts : List Tk) (i all : Int), (∀ j, i ≤ j → j < i + ts.length → (getK ks j).mem = (getK ks' j).mem) → fitsL ks ts i all = fitsL ks' ts i all
  | [], _, _, _ => rfl
  | t :: ts, i, all, h => by
    have h1 := h i (Int.le_refl _) (by rw [List.length_cons]; omega)
    have h2 : ∀ all, fitsL ks ts (i + 1) all = fitsL ks' ts (i + 1) all := fun all => fitsL_congr ks ks' ts (i + 1) all fun j a b => h j (by omega) (by rw [List.length_cons]; omega)
    rw [fitsL, fitsL, h1, h2, h2]
theorem fitsL_app (ks : List Tsk) (k : Nat) : ∀ (ts : List Tk) (i all : Int), fitsL ks (ts ++ List.replicate k tk0) i all = fitsL ks ts i all
  | [], i, all => by
    rw [List.nil_append]
    induction k generalizing i with
    | zero => rfl
    | succ k ih =>
      have h : fitsL ks (tk0 :: List.replicate k tk0) i all = fitsL ks (List.replicate k tk0) (i + 1) all := by simp [fitsL, tk0]
      rw [List.replicate_succ, h, ih]; rfl
  | t :: ts, i, all => by rw [List.cons_append, fitsL, fitsL, fitsL_app ks k ts, fitsL_app ks k ts]
def shE (b : Int) (e : Ev) : Ev := { e with tick := e.tick + b }
def shT (b : Int) (t : Tk) : Tk := if t.begun = true then { t with start := shE b t.start } else t
def IT (t : Tk) : Prop := (t.live = true → t.begun = true) ∧ (t.begun = true → 0 ≤ t.start.tick ∧ t.start.tick < 1099511627776)
theorem shT_tk0 (b : Int) : shT b tk0 = tk0 := by unfold shT; rw [if_neg (by simp [tk0])]
theorem shT_same (b : Int) (t : Tk) : (shT b t).live = t.live ∧ (shT b t).begun = t.begun ∧ (shT b t).done = t.done ∧ (shT b t).fails = t.fails ∧ (shT b t).stops = t.stops ∧ (shT b t).start.slot = t.start.slot ∧ (shT b t).start.epoch = t.start.epoch := by
  unfold shT
  split <;> simp [shE]
theorem IT_tk0 : IT tk0 := ⟨fun h => h, fun h => absurd h (by simp [tk0])⟩
theorem IT_get {ts : List Tk} (h : ∀ x ∈ ts, IT x) (i : Int) : IT (getT ts i) := by
  rcases getT_mem ts i with h' | h'
  · exact h _ h'
  · rw [h']; exact IT_tk0
def RL (b : Int) (ts : List Tk) (t : Int) (ts' : List Tk) (t' : Int) : Prop := ts' = ts.map (shT b) ∧ (∀ x ∈ ts, IT x) ∧ (t = 0 ∧ t' = 0 ∨ t' = t + b)
theorem wrap_id (n : Int) (h : -9223372036854775808 ≤ n) (h2 : n ≤ 9223372036854775807) : wrap n = n := by
  show wrap64 n = n
  unfold wrap64
  omega
theorem takes_later (c : Cf) (ks : List Tsk) (b : Int) (hb : 0 ≤ b) (hb2 : b < 4294967296) (ts : List Tk) (t : Int) (ts' : List Tk) (t' : Int) (e : Ev) (he : 0 ≤ e.tick ∧ e.tick < 1099511627776) (hr : RL b ts t ts' t') :
    False ∨ ((takes c ks ts t e).1 = (takes c ks ts' t' (shE b e)).1 ∧ ((takes c ks ts t e).1 = 0 → RL b (takes c ks ts t e).2.1 (takes c ks ts t e).2.2 (takes c ks ts' t' (shE b e)).2.1 (takes c ks ts' t' (shE b e)).2.2)) := by
  right
  obtain ⟨rfl, hI, ht⟩ := hr
  have hm : may c (ts.map (shT b)).length t' (shE b e) = may c ts.length t e := by
    have hiff : e.tick + b ≥ t' ↔ e.tick ≥ t := by
      rcases ht with ⟨rfl, rfl⟩ | rfl
      · constructor <;> intro _ <;> omega
      · constructor <;> intro _ <;> omega
    rw [Bool.eq_iff_iff]
    simp only [may, inB, Bool.and_eq_true, List.length_map]
    exact ⟨fun ⟨a, c, d, h⟩ => ⟨a, c, d, decide_eq_true (hiff.1 (of_decide_eq_true h))⟩, fun ⟨a, c, d, h⟩ => ⟨a, c, d, decide_eq_true (hiff.2 (of_decide_eq_true h))⟩⟩
  have hg : getT (ts.map (shT b)) e.task = shT b (getT ts e.task) := getT_map _ (shT_tk0 b) ts e.task
  obtain ⟨g1, g2, g3, g4, g5, g6, g7⟩ := shT_same b (getT ts e.task)
  have hGI := IT_get hI e.task
  unfold takes
  rw [hm]
  by_cases a0 : may c ts.length t e = true
  · rw [if_pos a0, if_pos a0]
    have k1 : (shE b e).kind = e.kind := rfl
    rw [k1]
    by_cases a1 : e.kind = 1
    · rw [if_pos a1, if_pos a1]
      have hs : (starts c ks (ts.map (shT b)) (shE b e)).1 = (starts c ks ts e).1 ∧ (starts c ks (ts.map (shT b)) (shE b e)).2 = (starts c ks ts e).2.map (shT b) ∧ ∀ x ∈ (starts c ks ts e).2, IT x := by
        unfold starts
        have k2 : (shE b e).task = e.task := rfl
        have k3 : (shE b e).slot = e.slot := rfl
        have k4 : (shE b e).epoch = e.epoch := rfl
        rw [k2, k3, k4, hg, g1, g2, g3, g4, g7, held_map (shT b) ts e.slot fun t => ⟨(shT_same b t).1, (shT_same b t).2.2.2.2.2.1⟩]
        have hf : fits c ks (ts.map (shT b)) e.task = fits c ks ts e.task := by unfold fits; rw [fitsL_map (shT b) (fun t => (shT_same b t).1)]
        rw [hf]
        split
        · exact ⟨rfl, rfl, hI⟩
        · split
          · exact ⟨rfl, rfl, hI⟩
          · split
            · exact ⟨rfl, rfl, hI⟩
            · split
              · refine ⟨rfl, ?_, setT_all hI ⟨fun _ => rfl, fun _ => he⟩⟩
                rw [← setT_map]
                congr 1
                unfold shT
                split <;> rfl
              · exact ⟨rfl, rfl, hI⟩
      refine ⟨hs.1.symm, fun _ => ⟨hs.2.1, hs.2.2, ?_⟩⟩
      exact .inr rfl
    · rw [if_neg a1, if_neg a1]
      have k2 : (shE b e).task = e.task := rfl
      have k3 : (shE b e).slot = e.slot := rfl
      have k4 : (shE b e).epoch = e.epoch := rfl
      rw [k2, k3, k4, hg, g1, g6, g7]
      by_cases a2 : ((getT ts e.task).live && (getT ts e.task).start.slot == e.slot && (getT ts e.task).start.epoch == e.epoch) = true
      · rw [if_pos a2, if_pos a2]
        have hl : (getT ts e.task).live = true := by
          simp only [Bool.and_eq_true] at a2
          exact a2.1.1
        have hbg := hGI.1 hl
        have htk := hGI.2 hbg
        have hs : (ends c (ts.map (shT b)) (shE b e)).1 = (ends c ts e).1 ∧ (ends c (ts.map (shT b)) (shE b e)).2 = (ends c ts e).2.map (shT b) ∧ ∀ x ∈ (ends c ts e).2, IT x := by
          unfold ends
          rw [k1, k2, hg, g4, g5]
          have hw : wrap ((shE b e).tick - (shT b (getT ts e.task)).start.tick) = wrap (e.tick - (getT ts e.task).start.tick) := by
            have : (shT b (getT ts e.task)).start.tick = (getT ts e.task).start.tick + b := by unfold shT; rw [if_pos hbg]; rfl
            rw [this]
            show wrap (e.tick + b - _) = _
            congr 1
            omega
          rw [hw]
          have hset : ∀ (x y : Tk), shT b x = y → setT (ts.map (shT b)) e.task y = (setT ts e.task x).map (shT b) := fun x y h => by rw [← h, setT_map]
          have d1 : shT b { getT ts e.task with done := true } = { shT b (getT ts e.task) with done := true } := by unfold shT; rw [if_pos hbg, if_pos hbg]
          have d2 : shT b { getT ts e.task with fails := wrap ((getT ts e.task).fails + 1) } = { shT b (getT ts e.task) with fails := wrap ((getT ts e.task).fails + 1) } := by unfold shT; rw [if_pos hbg, if_pos hbg]
          have d3 : shT b { getT ts e.task with stops := wrap ((getT ts e.task).stops + 1) } = { shT b (getT ts e.task) with stops := wrap ((getT ts e.task).stops + 1) } := by unfold shT; rw [if_pos hbg, if_pos hbg]
          split
          · exact ⟨rfl, hset _ _ d1, setT_all hI hGI⟩
          · split
            · exact ⟨rfl, hset _ _ d2, setT_all hI hGI⟩
            · split
              · exact ⟨rfl, rfl, hI⟩
              · split
                · split
                  · exact ⟨rfl, rfl, hI⟩
                  · exact ⟨rfl, hset _ _ d2, setT_all hI hGI⟩
                · split
                  · exact ⟨rfl, rfl, hI⟩
                  · exact ⟨rfl, hset _ _ d3, setT_all hI hGI⟩
        refine ⟨hs.1.symm, fun _ => ⟨?_, ?_, .inr rfl⟩⟩
        · show off (ends c (ts.map (shT b)) (shE b e)).2 e.task = (off (ends c ts e).2 e.task).map (shT b)
          rw [hs.2.1]
          unfold off
          rw [getT_map _ (shT_tk0 b), ← setT_map]
          congr 1
          unfold shT
          split <;> rfl
        · show ∀ x ∈ off (ends c ts e).2 e.task, IT x
          unfold off
          have := IT_get hs.2.2 e.task
          exact setT_all hs.2.2 ⟨fun h => absurd h (by simp), this.2⟩
      · rw [if_neg a2, if_neg a2]
        exact ⟨rfl, fun h => absurd h (by simp)⟩
  · rw [if_neg a0, if_neg a0]
    exact ⟨rfl, fun h => absurd h (by simp)⟩
theorem later (c : Cf) (ks : List Tsk) (l : List Ev) (b : Int) (hb : 0 ≤ b) (hb2 : b < 4294967296) (hl : ∀ e ∈ l, 0 ≤ e.tick ∧ e.tick < 1099511627776) : audit c ks (l.map (shE b)) = audit c ks l := by
  have := sim c c ks ks (RL b) (shE b) (fun e => 0 ≤ e.tick ∧ e.tick < 1099511627776) (fun _ => False) (fun h => h) (fun ts t ts' t' e he hr => takes_later c ks b hb hb2 ts t ts' t' e he hr) l
    (List.replicate ks.length tk0) 0 (List.replicate ks.length tk0) 0 0 hl
    ⟨by rw [List.map_replicate, shT_tk0], fun x hx => by rw [(List.mem_replicate.1 hx).2]; exact IT_tk0, .inl ⟨rfl, rfl⟩⟩
  rcases this with h | h
  · exact h.1.elim
  · exact h.symm
theorem takes_mem (c : Cf) (ks ks' : List Tsk) (h : ∀ j, (getK ks j).mem = (getK ks' j).mem) (ts : List Tk) (t : Int) (e : Ev) : takes c ks ts t e = takes c ks' ts t e := by
  have hs : starts c ks ts e = starts c ks' ts e := by
    unfold starts fits
    rw [h e.task, fitsL_congr ks ks' ts 0 _ fun j _ _ => h j]
  unfold takes
  rw [hs]
theorem cost (c : Cf) (ks ks' : List Tsk) (hn : ks.length = ks'.length) (h : ∀ j, (getK ks j).mem = (getK ks' j).mem) (l : List Ev) : audit c ks l = audit c ks' l := by
  unfold audit
  rw [hn]
  generalize List.replicate ks'.length tk0 = ts
  generalize (0 : Int) = t
  suffices ∀ (l : List Ev) ts t i, auditL c ks l ts t i = auditL c ks' l ts t i from this ..
  intro l
  induction l with
  | nil => intros; rfl
  | cons e l ih => intro ts t i; unfold auditL; rw [takes_mem c ks ks' h, ih]
def RA (n k : Nat) (ts : List Tk) (t : Int) (ts' : List Tk) (t' : Int) : Prop := ts.length = n ∧ ts' = ts ++ List.replicate k tk0 ∧ t = t'
theorem getT_app (ts : List Tk) (k : Nat) (i : Int) : getT (ts ++ List.replicate k tk0) i = getT ts i := by
  unfold getT
  rw [List.getD_eq_getElem?_getD, List.getD_eq_getElem?_getD]
  by_cases h : i.toNat < ts.length
  · rw [List.getElem?_append_left h]
  · rw [List.getElem?_append_right (by omega), List.getElem?_replicate, List.getElem?_eq_none (l := ts) (by omega)]
    split <;> rfl
theorem setT_app (ts : List Tk) (k : Nat) (i : Int) (h : 0 ≤ i) (h2 : i < ts.length) (x : Tk) : setT (ts ++ List.replicate k tk0) i x = setT ts i x ++ List.replicate k tk0 := by
  unfold setT
  rw [List.set_append_left _ _ (by omega)]
theorem held_app (ts : List Tk) (k : Nat) (s : Int) : held (ts ++ List.replicate k tk0) s = held ts s := by
  unfold held
  rw [List.any_append]
  have : (List.replicate k tk0).any (fun t => t.live && t.start.slot == s) = false := by
    rw [List.any_eq_false]
    intro x hx
    rw [(List.mem_replicate.1 hx).2]
    simp [tk0]
  rw [this, Bool.or_false]
theorem takes_apart (c : Cf) (ks more : List Tsk) (ts : List Tk) (t : Int) (ts' : List Tk) (t' : Int) (e : Ev) (hr : RA ks.length more.length ts t ts' t') :
    (takes c ks ts t e).1 = 1 ∨ ((takes c ks ts t e).1 = (takes c (ks ++ more) ts' t' e).1 ∧ ((takes c ks ts t e).1 = 0 → RA ks.length more.length (takes c ks ts t e).2.1 (takes c ks ts t e).2.2 (takes c (ks ++ more) ts' t' e).2.1 (takes c (ks ++ more) ts' t' e).2.2)) := by
  obtain ⟨hn, rfl, rfl⟩ := hr
  by_cases a0 : may c ts.length t e = true
  · right
    have hm := a0
    simp only [may, inB, Bool.and_eq_true, decide_eq_true_eq] at hm
    obtain ⟨h1, ⟨h2, h3, h4, h5⟩, h6, h7⟩ := hm
    have a1 : may c (ts ++ List.replicate more.length tk0).length t e = true := by
      simp only [may, inB, Bool.and_eq_true, decide_eq_true_eq, List.length_append]
      exact ⟨h1, ⟨h2, by omega, h4, h5⟩, h6, h7⟩
    have hS : ∀ x, setT (ts ++ List.replicate more.length tk0) e.task x = setT ts e.task x ++ List.replicate more.length tk0 := fun x => setT_app ts _ _ h2 h3 x
    unfold takes
    rw [if_pos a0, if_pos a1]
    by_cases b1 : e.kind = 1
    · rw [if_pos b1, if_pos b1]
      have hs : (starts c (ks ++ more) (ts ++ List.replicate more.length tk0) e).1 = (starts c ks ts e).1 ∧ (starts c (ks ++ more) (ts ++ List.replicate more.length tk0) e).2 = (starts c ks ts e).2 ++ List.replicate more.length tk0 ∧ (starts c ks ts e).2.length = ts.length := by
        have hK : ∀ j : Int, j < ks.length → (getK (ks ++ more) j).mem = (getK ks j).mem := by
          intro j hj
          unfold getK
          rw [List.getD_eq_getElem?_getD, List.getD_eq_getElem?_getD]
          by_cases hk : j.toNat < ks.length
          · rw [List.getElem?_append_left hk]
          · have : j.toNat = 0 ∧ ks.length = 0 := by omega
            omega
        have hf : fits c (ks ++ more) (ts ++ List.replicate more.length tk0) e.task = fits c ks ts e.task := by
          unfold fits
          rw [fitsL_app, hK _ (by omega), fitsL_congr (ks ++ more) ks ts 0 _ fun j _ hj => hK j (by omega)]
        unfold starts
        rw [getT_app, held_app, hf, hS]
        split
        · exact ⟨rfl, rfl, rfl⟩
        · split
          · exact ⟨rfl, rfl, rfl⟩
          · split
            · exact ⟨rfl, rfl, rfl⟩
            · split
              · exact ⟨rfl, rfl, setT_len ..⟩
              · exact ⟨rfl, rfl, rfl⟩
      exact ⟨hs.1.symm, fun _ => ⟨by show (starts c ks ts e).2.length = _; rw [hs.2.2, hn], hs.2.1, rfl⟩⟩
    · rw [if_neg b1, if_neg b1, getT_app]
      by_cases b2 : ((getT ts e.task).live && (getT ts e.task).start.slot == e.slot && (getT ts e.task).start.epoch == e.epoch) = true
      · rw [if_pos b2, if_pos b2]
        have hs : (ends c (ts ++ List.replicate more.length tk0) e).1 = (ends c ts e).1 ∧ (ends c (ts ++ List.replicate more.length tk0) e).2 = (ends c ts e).2 ++ List.replicate more.length tk0 ∧ (ends c ts e).2.length = ts.length := by
          unfold ends
          rw [getT_app, hS, hS, hS]
          split
          · exact ⟨rfl, rfl, setT_len ..⟩
          · split
            · exact ⟨rfl, rfl, setT_len ..⟩
            · split
              · exact ⟨rfl, rfl, rfl⟩
              · split
                · split
                  · exact ⟨rfl, rfl, rfl⟩
                  · exact ⟨rfl, rfl, setT_len ..⟩
                · split
                  · exact ⟨rfl, rfl, rfl⟩
                  · exact ⟨rfl, rfl, setT_len ..⟩
        refine ⟨hs.1.symm, fun _ => ⟨?_, ?_, rfl⟩⟩
        · show (off (ends c ts e).2 e.task).length = _
          unfold off
          rw [setT_len, hs.2.2, hn]
        · show off (ends c (ts ++ List.replicate more.length tk0) e).2 e.task = off (ends c ts e).2 e.task ++ _
          rw [hs.2.1]
          unfold off
          rw [getT_app, setT_app _ _ _ h2 (by rw [hs.2.2]; exact h3)]
      · rw [if_neg b2, if_neg b2]
        exact ⟨rfl, fun h => absurd h (by simp)⟩
  · left
    unfold takes
    rw [if_neg a0]
theorem apart (c : Cf) (ks more : List Tsk) (l : List Ev) : (audit c ks l).2 = 1 ∨ audit c (ks ++ more) l = audit c ks l := by
  have := sim c c ks (ks ++ more) (RA ks.length more.length) id (fun _ => True) (fun x => x = 1) (by simp) (fun ts t ts' t' e _ hr => takes_apart c ks more ts t ts' t' e hr) l
    (List.replicate ks.length tk0) 0 (List.replicate (ks ++ more).length tk0) 0 0 (fun _ _ => trivial)
    ⟨List.length_replicate .., by rw [List.length_append, List.replicate_append_replicate], rfl⟩
  rw [List.map_id] at this
  rcases this with h | h
  · exact .inl h.1
  · exact .inr h.symm
end Go.Proofs.YtckcepmkfegkiaaDoor.TrU
