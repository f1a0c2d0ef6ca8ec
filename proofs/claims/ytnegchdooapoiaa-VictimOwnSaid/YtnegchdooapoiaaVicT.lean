/- The plain law of victim.Choose: who may be stopped, sorted, as long as there is no room. No condition. -/
import Derived.Test.YtnegchdooapoiaaVicS
namespace Go.Proofs.Ytnegchdooapoiaa.VicT
open Go.RowKit Go.Proofs.Ytnegchdooapoiaa.PVic Go.Proofs.Ytnegchdooapoiaa.VicP Go.Proofs.Ytnegchdooapoiaa.VicS Go.Proofs.YtnegchdooapoiaaW.PrintWords Go.Proofs.YtnegchdooapoiaaW.PrintMore
theorem s27_4 (k : Nat) (D : List S27) (x1 x2 x3 : Int) (x4 : Bool) (x18 x19 x20 x21 x22 : Int) : victim_Run_27.l4 (k + 1) D x1 x2 x3 x4 x18 x19 x20 x21 x22 = if x20 < x21 then (if 0 ≤ wrap64 (x22 - hf x20 x21) then (if wrap64 (x22 - hf x20 x21) < (D.length : Int) then (if 0 ≤ hf x20 x21 then (if hf x20 x21 < (D.length : Int) then ((cmpF k (rd_T27 D (wrap64 (x22 - hf x20 x21))) (rd_T27 D (hf x20 x21))).bind fun t => if t < 0 then victim_Run_27.l4 k D x1 x2 x3 x4 x18 x19 x20 (hf x20 x21) x22 else victim_Run_27.l4 k D x1 x2 x3 x4 x18 x19 (wrap64 (hf x20 x21 + 1)) x21 x22) else none) else none) else none) else none) else (if x20 < x2 then victim_Run_27.j6 k D x1 x2 x3 x4 x18 x20 (wrap64 (x19 - x20)) (decide (x2 < wrap64 (x19 - x20))) else victim_Run_27.j6 k D x1 x2 x3 x4 x18 x20 (wrap64 (x19 - x20)) false) := by simp only [victim_Run_27.l4]
theorem s27_j6 (k : Nat) (D : List S27) (x1 x2 x3 : Int) (x4 : Bool) (x18 x20 x24 : Int) (c : Bool) : victim_Run_27.j6 (k + 1) D x1 x2 x3 x4 x18 x20 x24 c = if c = true then ((victim_Run_29.f k D x20 x2 x24 x4).bind fun t => victim_Run_27.j7 k t x1 x3 x4 x18 x20 x24) else victim_Run_27.j7 k D x1 x3 x4 x18 x20 x24 := by simp only [victim_Run_27.j6]
theorem s27_j7 (k : Nat) (D : List S27) (x1 x3 : Int) (x4 : Bool) (x18 x20 x24 : Int) : victim_Run_27.j7 (k + 1) D x1 x3 x4 x18 x20 x24 = if x1 < x20 then victim_Run_27.j8 k D x1 x3 x4 x18 x20 x24 (decide (x20 < x18)) else victim_Run_27.j8 k D x1 x3 x4 x18 x20 x24 false := by simp only [victim_Run_27.j7]
theorem s27_j8 (k : Nat) (D : List S27) (x1 x3 : Int) (x4 : Bool) (x18 x20 x24 : Int) (c : Bool) : victim_Run_27.j8 (k + 1) D x1 x3 x4 x18 x20 x24 c = if c = true then ((victim_Run_27.f k D x1 x20 x18 x4).bind fun t => if x18 < x24 then (if x24 < x3 then ((victim_Run_27.f k t x18 x24 x3 x4).bind fun t => some t) else some t) else some t) else (if x18 < x24 then (if x24 < x3 then ((victim_Run_27.f k D x18 x24 x3 x4).bind fun t => some t) else some D) else some D) := by simp only [victim_Run_27.j8]
theorem s27_j4 (k : Nat) (D : List S27) (x1 x2 x3 : Int) (x4 : Bool) (x18 x19 x20 x21 : Int) : victim_Run_27.j4 (k + 1) D x1 x2 x3 x4 x18 x19 x20 x21 = victim_Run_27.l4 k D x1 x2 x3 x4 x18 x19 x20 x21 (wrap64 (x19 - 1)) := by simp only [victim_Run_27.j4]
theorem s27_f (k : Nat) (D : List S27) (a1 a2 a3 : Int) (a4 : Bool) : victim_Run_27.f (k + 1) D a1 a2 a3 a4 = if wrap64 (a2 - a1) = 1 then victim_Run_27.l0 k D a1 a2 a3 else (if wrap64 (a3 - a2) = 1 then victim_Run_27.l2 k D a2 a1 a2 else (if a2 > hf a1 a3 then victim_Run_27.j4 k D a1 a2 a3 a4 (hf a1 a3) (wrap64 (hf a1 a3 + a2)) (wrap64 ((wrap64 (hf a1 a3 + a2)) - a3)) (hf a1 a3) else victim_Run_27.j4 k D a1 a2 a3 a4 (hf a1 a3) (wrap64 (hf a1 a3 + a2)) a1 a2)) := by simp only [victim_Run_27.f]
theorem bind_some' {g : Nat → Option (List S27)} {r : List S27} (h : Ev g r) : Ev (fun k => (g k).bind fun t => some t) r := by
  obtain ⟨K, h⟩ := h
  exact ⟨K, fun k hk => by simp only [h k hk, Option.bind_some]⟩
theorem tail27 (bb : Bool) (P X1 X2 Y1 Y2 Q : List S27) {a m b mid s e : Int} (ea : a = P.length) (es : s = P.length + X1.length) (em : m = P.length + X1.length + X2.length) (ee : e = P.length + X1.length + X2.length + Y1.length) (emid : mid = P.length + X1.length + Y1.length) (eb : b = P.length + X1.length + X2.length + Y1.length + Y2.length)
    (hb : (P ++ (X1 ++ (X2 ++ (Y1 ++ (Y2 ++ Q))))).length ≤ BIG) (hX : Srt ltR (X1 ++ X2)) (hY : Srt ltR (Y1 ++ Y2))
    (hA : ∀ x ∈ X1, ∀ y ∈ Y2, ltR y x = false) (hB : ∀ y ∈ Y1, ∀ x ∈ X2, ltR y x = true)
    (ih : ∀ (P X Y Q : List S27) (a m b : Int), X.length + Y.length < X1.length + X2.length + Y1.length + Y2.length → 0 < X.length → 0 < Y.length → a = P.length → m = P.length + X.length → b = P.length + X.length + Y.length → Srt ltR X → Srt ltR Y → (P ++ (X ++ (Y ++ Q))).length ≤ BIG → Ev (fun k => victim_Run_27.f k (P ++ (X ++ (Y ++ Q))) a m b bb) (P ++ (mrg ltR X Y ++ Q)))
    (hsz : 0 < X1.length + Y1.length) (hsz2 : 0 < X2.length + Y2.length) :
    Ev (fun k => if s < m then victim_Run_27.j6 k (P ++ (X1 ++ (X2 ++ (Y1 ++ (Y2 ++ Q))))) a m b bb mid s e (decide (m < e)) else victim_Run_27.j6 k (P ++ (X1 ++ (X2 ++ (Y1 ++ (Y2 ++ Q))))) a m b bb mid s e false) (P ++ (mrg ltR (X1 ++ X2) (Y1 ++ Y2) ++ Q)) := by
  have hb' := hb
  simp only [List.length_append, BIG] at hb'
  have sX := srt_append.1 hX
  have sY := srt_append.1 hY
  rw [mrg_split _ X1 X2 Y1 Y2 (Nat.le_refl _) hA hB]
  -- the second half
  have H2 : Ev (fun k => if mid < e then (if e < b then ((victim_Run_27.f k (P ++ (mrg ltR X1 Y1 ++ (X2 ++ (Y2 ++ Q)))) mid e b bb).bind fun t => some t) else some (P ++ (mrg ltR X1 Y1 ++ (X2 ++ (Y2 ++ Q))))) else some (P ++ (mrg ltR X1 Y1 ++ (X2 ++ (Y2 ++ Q))))) (P ++ (mrg ltR X1 Y1 ++ mrg ltR X2 Y2 ++ Q)) := by
    have hlen := mrg_len ltR _ X1 Y1 (Nat.le_refl _)
    rcases Nat.eq_zero_or_pos X2.length with h0 | h0
    · have : X2 = [] := List.eq_nil_of_length_eq_zero h0
      subst this
      refine Ev.congr (f := fun _ => some _) (fun k => ?_) (Ev.now _)
      rw [if_neg (by simp only [List.length_nil] at ee; omega), mrg_nil_l]
      simp
    · rcases Nat.eq_zero_or_pos Y2.length with h1 | h1
      · have : Y2 = [] := List.eq_nil_of_length_eq_zero h1
        subst this
        refine Ev.congr (f := fun _ => some _) (fun k => ?_) (Ev.now _)
        rw [if_pos (by omega), if_neg (by simp only [List.length_nil] at eb; omega), mrg_nil_r]
        simp
      · have h3 := bind_some' (ih (P ++ mrg ltR X1 Y1) X2 Y2 Q mid e b (by omega) h0 h1 (by rw [List.length_append, hlen]; omega) (by rw [List.length_append, hlen]; omega) (by rw [List.length_append, hlen]; omega) sX.2.1 sY.2.1 (by simp only [List.length_append, hlen, BIG]; omega))
        refine Ev.congr (fun k => ?_) (by simpa using h3)
        rw [if_pos (by omega), if_pos (by omega)]
        simp
  -- both halves
  have H1 : Ev (fun k => victim_Run_27.j7 k (P ++ (X1 ++ (Y1 ++ (X2 ++ (Y2 ++ Q))))) a b bb mid s e) (P ++ (mrg ltR X1 Y1 ++ mrg ltR X2 Y2 ++ Q)) := by
    rcases Nat.eq_zero_or_pos X1.length with h0 | h0
    · have : X1 = [] := List.eq_nil_of_length_eq_zero h0
      subst this
      rw [mrg_nil_l] at H2 ⊢
      refine Ev.step (f := fun k => victim_Run_27.j8 k (P ++ (Y1 ++ (X2 ++ (Y2 ++ Q)))) a b bb mid s e false) (fun k => ?_) (Ev.step (fun k => ?_) H2)
      · rw [s27_j7, if_neg (by simp only [List.length_nil] at es; omega)]
        simp
      · rw [s27_j8, if_neg (by decide)]
    · rcases Nat.eq_zero_or_pos Y1.length with h1 | h1
      · have : Y1 = [] := List.eq_nil_of_length_eq_zero h1
        subst this
        rw [mrg_nil_r] at H2 ⊢
        refine Ev.step (f := fun k => victim_Run_27.j8 k (P ++ (X1 ++ (X2 ++ (Y2 ++ Q)))) a b bb mid s e false) (fun k => ?_) (Ev.step (fun k => ?_) H2)
        · rw [s27_j7, if_pos (by omega), decide_eq_false (by simp only [List.length_nil] at emid; omega)]
          simp
        · rw [s27_j8, if_neg (by decide)]
      · have h3 := ih P X1 Y1 (X2 ++ (Y2 ++ Q)) a s mid (by omega) h0 h1 ea es emid sX.1 sY.1 (by simp only [List.length_append, BIG]; omega)
        have h4 := Ev.bind h3 (f := fun k t => if mid < e then (if e < b then ((victim_Run_27.f k t mid e b bb).bind fun t => some t) else some t) else some t) (r := P ++ (mrg ltR X1 Y1 ++ mrg ltR X2 Y2 ++ Q)) H2
        refine Ev.step (f := fun k => victim_Run_27.j8 k (P ++ (X1 ++ (Y1 ++ (X2 ++ (Y2 ++ Q))))) a b bb mid s e true) (fun k => ?_) (Ev.step (fun k => ?_) h4)
        · rw [s27_j7, if_pos (by omega), decide_eq_true (by omega)]
        · rw [s27_j8, if_pos rfl]
  -- the exchange
  rcases Nat.eq_zero_or_pos X2.length with h0 | h0
  · have : X2 = [] := List.eq_nil_of_length_eq_zero h0
    subst this
    refine Ev.congr (f := fun k => victim_Run_27.j6 k (P ++ (X1 ++ (Y1 ++ (Y2 ++ Q)))) a m b bb mid s e false) (fun k => ?_) (Ev.step (fun k => ?_) (by simpa using H1))
    · rw [if_neg (by simp only [List.length_nil] at em; omega)]
      simp
    · rw [s27_j6, if_neg (by decide)]
  · rcases Nat.eq_zero_or_pos Y1.length with h1 | h1
    · have : Y1 = [] := List.eq_nil_of_length_eq_zero h1
      subst this
      refine Ev.congr (f := fun k => victim_Run_27.j6 k (P ++ (X1 ++ (X2 ++ (Y2 ++ Q)))) a m b bb mid s e false) (fun k => ?_) (Ev.step (fun k => ?_) (by simpa using H1))
      · rw [if_pos (by omega), decide_eq_false (by simp only [List.length_nil] at ee; omega)]
        simp
      · rw [s27_j6, if_neg (by decide)]
    · have h3 := f29 bb (P ++ X1) X2 Y1 (Y2 ++ Q) (x1 := s) (x2 := m) (x3 := e) h0 h1 (by rw [List.length_append]; omega) (by rw [List.length_append]; omega) (by rw [List.length_append]; omega) (by simp only [List.length_append, BIG]; omega)
      have h4 := Ev.bind h3 (f := fun k t => victim_Run_27.j7 k t a b bb mid s e) (r := P ++ (mrg ltR X1 Y1 ++ mrg ltR X2 Y2 ++ Q)) (by simpa using H1)
      refine Ev.congr (f := fun k => victim_Run_27.j6 k (P ++ (X1 ++ (X2 ++ (Y1 ++ (Y2 ++ Q))))) a m b bb mid s e true) (fun k => ?_) (Ev.step (fun k => ?_) h4)
      · rw [if_pos (by omega), decide_eq_true (by omega)]
      · rw [s27_j6, if_pos rfl]
        simp
theorem irr (a : S27) : ltR a a = false := by
  rcases h : ltR a a with _ | _
  · rfl
  · have := weakR.asymm a a h
    rw [h] at this
    exact this
theorem srt_le {l : List S27} (h : Srt ltR l) {i j : Nat} (hij : i ≤ j) (hj : j < l.length) : ltR l[j] (l[i]'(by omega)) = false := by
  rcases Nat.eq_or_lt_of_le hij with e | e
  · subst e
    exact irr _
  · exact srt_get h e hj
theorem l27_4 (bb : Bool) (P X Y Q : List S27) {a m b mid n p s0 r0 : Int} (hX : Srt ltR X) (hY : Srt ltR Y) (hx : 2 ≤ X.length) (hy : 2 ≤ Y.length) (ea : a = P.length) (em : m = P.length + X.length) (eb : b = P.length + X.length + Y.length) (emid : mid = (a + b) / 2) (en : n = mid + m) (ep : p = n - 1)
    (h0 : (m > mid ∧ s0 = n - b ∧ r0 = mid) ∨ (m ≤ mid ∧ s0 = a ∧ r0 = m)) (hb : (P ++ (X ++ (Y ++ Q))).length ≤ BIG)
    (ih : ∀ (P X' Y' Q : List S27) (a m b : Int), X'.length + Y'.length < X.length + Y.length → 0 < X'.length → 0 < Y'.length → a = P.length → m = P.length + X'.length → b = P.length + X'.length + Y'.length → Srt ltR X' → Srt ltR Y' → (P ++ (X' ++ (Y' ++ Q))).length ≤ BIG → Ev (fun k => victim_Run_27.f k (P ++ (X' ++ (Y' ++ Q))) a m b bb) (P ++ (mrg ltR X' Y' ++ Q))) :
    ∀ (d : Nat) (s r : Int), (r - s).toNat ≤ d → s ≤ r → s0 ≤ s → r ≤ r0 → (s = s0 ∨ ltR (rd_T27 (P ++ (X ++ (Y ++ Q))) (p - (s - 1))) (rd_T27 (P ++ (X ++ (Y ++ Q))) (s - 1)) = false) → (r = r0 ∨ ltR (rd_T27 (P ++ (X ++ (Y ++ Q))) (p - r)) (rd_T27 (P ++ (X ++ (Y ++ Q))) r) = true) →
      Ev (fun k => victim_Run_27.l4 k (P ++ (X ++ (Y ++ Q))) a m b bb mid n s r p) (P ++ (mrg ltR X Y ++ Q)) := by
  have hb' := hb
  simp only [List.length_append, BIG] at hb'
  intro d
  have stop : ∀ (s r : Int), s = r → s0 ≤ s → r ≤ r0 → (s = s0 ∨ ltR (rd_T27 (P ++ (X ++ (Y ++ Q))) (p - (s - 1))) (rd_T27 (P ++ (X ++ (Y ++ Q))) (s - 1)) = false) → (r = r0 ∨ ltR (rd_T27 (P ++ (X ++ (Y ++ Q))) (p - r)) (rd_T27 (P ++ (X ++ (Y ++ Q))) r) = true) →
      Ev (fun k => victim_Run_27.l4 k (P ++ (X ++ (Y ++ Q))) a m b bb mid n s r p) (P ++ (mrg ltR X Y ++ Q)) := by
    intro s r esr hs hr hl hh
    subst esr
    obtain ⟨u, hu⟩ : ∃ u : Nat, s = P.length + u := ⟨(s - P.length).toNat, by omega⟩
    obtain ⟨v, hv⟩ : ∃ v : Nat, n - s = P.length + X.length + v := ⟨(n - s - P.length - X.length).toNat, by omega⟩
    have hux : u ≤ X.length := by omega
    have hvy : v ≤ Y.length := by omega
    have eX : X = X.take u ++ X.drop u := (List.take_append_drop _ _).symm
    have eY : Y = Y.take v ++ Y.drop v := (List.take_append_drop _ _).symm
    have lX1 : (X.take u).length = u := by rw [List.length_take]; omega
    have lX2 : (X.drop u).length = X.length - u := List.length_drop ..
    have lY1 : (Y.take v).length = v := by rw [List.length_take]; omega
    have lY2 : (Y.drop v).length = Y.length - v := List.length_drop ..
    have hA : ∀ x ∈ X.take u, ∀ y ∈ Y.drop v, ltR y x = false := by
      intro x hx' y hy'
      obtain ⟨i, hi, rfl⟩ := List.getElem_of_mem hx'
      obtain ⟨j, hj, rfl⟩ := List.getElem_of_mem hy'
      rw [List.getElem_take, List.getElem_drop]
      rw [lX1] at hi
      rw [lY2] at hj
      rcases hl with hl | hl
      · omega
      · rw [rdI P X (Y ++ Q) (i := s - 1) (u - 1) (by omega) (by omega), show P ++ (X ++ (Y ++ Q)) = (P ++ X) ++ (Y ++ Q) by simp, rdI (P ++ X) Y Q (i := p - (s - 1)) v (by omega) (by rw [List.length_append]; omega)] at hl
        have g1 := srt_le hX (i := i) (j := u - 1) (by omega) (by omega)
        have g2 := srt_le hY (i := v) (j := v + j) (by omega) (by omega)
        exact weakR.ntrans _ _ _ (weakR.ntrans _ _ _ g1 hl) g2
    have hB : ∀ y ∈ Y.take v, ∀ x ∈ X.drop u, ltR y x = true := by
      intro y hy' x hx'
      obtain ⟨i, hi, rfl⟩ := List.getElem_of_mem hx'
      obtain ⟨j, hj, rfl⟩ := List.getElem_of_mem hy'
      rw [List.getElem_take, List.getElem_drop]
      rw [lX2] at hi
      rw [lY1] at hj
      rcases hh with hh | hh
      · omega
      · rw [rdI P X (Y ++ Q) (i := s) u (by omega) (by omega), show P ++ (X ++ (Y ++ Q)) = (P ++ X) ++ (Y ++ Q) by simp, rdI (P ++ X) Y Q (i := p - s) (v - 1) (by omega) (by rw [List.length_append]; omega)] at hh
        have g1 := srt_le hX (i := u) (j := u + i) (by omega) (by omega)
        have g2 := srt_le hY (i := j) (j := v - 1) (by omega) (by omega)
        rcases hc : ltR (Y[j]'(by omega)) (X[u + i]'(by omega)) with _ | _
        · have := weakR.ntrans _ _ _ (weakR.ntrans _ _ _ g1 hc) g2
          rw [hh] at this
          exact this.symm
        · rfl
    have h1 := tail27 bb P (X.take u) (X.drop u) (Y.take v) (Y.drop v) Q (a := a) (m := m) (b := b) (mid := mid) (s := s) (e := n - s) ea (by omega) (by omega) (by omega) (by omega) (by omega) (by rw [← List.append_assoc (X.take u), List.take_append_drop, ← List.append_assoc (Y.take v), List.take_append_drop]; exact hb) (by rw [List.take_append_drop]; exact hX) (by rw [List.take_append_drop]; exact hY) hA hB
      (fun P' X' Y' Q' a' m' b' hlt => ih P' X' Y' Q' a' m' b' (by omega)) (by omega) (by omega)
    rw [← List.append_assoc (X.take u), List.take_append_drop, ← List.append_assoc (Y.take v), List.take_append_drop] at h1
    refine Ev.step (fun k => ?_) h1
    rw [s27_4, if_neg (by omega), w64 (by omega) (by omega)]
  induction d with
  | zero =>
    intro s r hd hsr hs hr hl hh
    exact stop s r (by omega) hs hr hl hh
  | succ d ihd =>
    intro s r hd hsr hs hr hl hh
    rcases Int.lt_or_le s r with hlt | hge
    · obtain ⟨c, hc⟩ : ∃ c : Int, hf s r = c ∧ s ≤ c ∧ c < r := ⟨(s + r) / 2, by
        unfold hf
        rw [half (by omega) (by omega) (by omega)]
        omega⟩
      have hw : wrap64 (p - c) = p - c := w64 (by omega) (by omega)
      have hll : (P ++ (X ++ (Y ++ Q))).length = P.length + X.length + Y.length + Q.length := by simp only [List.length_append]; omega
      rcases hcm : ltR (rd_T27 (P ++ (X ++ (Y ++ Q))) (p - c)) (rd_T27 (P ++ (X ++ (Y ++ Q))) c) with _ | _
      · have hn : ¬ cmpI (rd_T27 (P ++ (X ++ (Y ++ Q))) (p - c)) (rd_T27 (P ++ (X ++ (Y ++ Q))) c) < 0 := fun h => by rw [(cmpI_lt _ _).1 h] at hcm; cases hcm
        have h1 := ihd (c + 1) r (by omega) (by omega) (by omega) hr (Or.inr (by rw [show c + 1 - 1 = c by omega]; exact hcm)) hh
        have h2 := Ev.bind (cmp_ev (rd_T27 (P ++ (X ++ (Y ++ Q))) (p - c)) (rd_T27 (P ++ (X ++ (Y ++ Q))) c)) (f := fun k t => if t < 0 then victim_Run_27.l4 k (P ++ (X ++ (Y ++ Q))) a m b bb mid n s c p else victim_Run_27.l4 k (P ++ (X ++ (Y ++ Q))) a m b bb mid n (c + 1) r p) (r := P ++ (mrg ltR X Y ++ Q)) (by simp only [hn, if_false]; exact h1)
        refine Ev.step (fun k => ?_) h2
        rw [s27_4, hc.1, hw, hll, if_pos hlt, if_pos (by omega), if_pos (by omega), if_pos (by omega), if_pos (by omega), w64 (x := c + 1) (by omega) (by omega)]
      · have hn := (cmpI_lt _ _).2 hcm
        have h1 := ihd s c (by omega) (by omega) hs (by omega) hl (Or.inr hcm)
        have h2 := Ev.bind (cmp_ev (rd_T27 (P ++ (X ++ (Y ++ Q))) (p - c)) (rd_T27 (P ++ (X ++ (Y ++ Q))) c)) (f := fun k t => if t < 0 then victim_Run_27.l4 k (P ++ (X ++ (Y ++ Q))) a m b bb mid n s c p else victim_Run_27.l4 k (P ++ (X ++ (Y ++ Q))) a m b bb mid n (c + 1) r p) (r := P ++ (mrg ltR X Y ++ Q)) (by simp only [hn, if_true]; exact h1)
        refine Ev.step (fun k => ?_) h2
        rw [s27_4, hc.1, hw, hll, if_pos hlt, if_pos (by omega), if_pos (by omega), if_pos (by omega), if_pos (by omega), w64 (x := c + 1) (by omega) (by omega)]
    · exact stop s r (by omega) hs hr hl hh
theorem f27 (bb : Bool) : ∀ (N : Nat) (P X Y Q : List S27) (a m b : Int), X.length + Y.length ≤ N → 0 < X.length → 0 < Y.length → a = P.length → m = P.length + X.length → b = P.length + X.length + Y.length → Srt ltR X → Srt ltR Y → (P ++ (X ++ (Y ++ Q))).length ≤ BIG → Ev (fun k => victim_Run_27.f k (P ++ (X ++ (Y ++ Q))) a m b bb) (P ++ (mrg ltR X Y ++ Q)) := by
  intro N
  induction N with
  | zero => intro P X Y Q a m b h hx; omega
  | succ N ih =>
    intro P X Y Q a m b h hx hy ea em eb hX hY hb
    have hb' := hb
    simp only [List.length_append, BIG] at hb'
    have w1 : wrap64 (m - a) = X.length := by rw [w64 (by omega) (by omega)]; omega
    have w2 : wrap64 (b - m) = Y.length := by rw [w64 (by omega) (by omega)]; omega
    by_cases h1 : X.length = 1
    · obtain ⟨x, rfl⟩ := List.length_eq_one_iff.1 h1
      have h2 := l27_0 P Q x Y a ea hY (by simpa using hb) Y.length 0 Y.length m b (by omega) (by omega) (by omega) (by simp at em; omega) (by simp at eb; omega) (fun t _ h => by omega) (fun t h h' => by omega)
      refine Ev.step (fun k => ?_) h2
      rw [s27_f, w1, if_pos (by rw [h1]; rfl)]
      rfl
    · by_cases h2 : Y.length = 1
      · obtain ⟨y, rfl⟩ := List.length_eq_one_iff.1 h2
        have h3 := l27_2 P Q y X m em hX (by simpa using hb) X.length 0 X.length a m (by omega) (by omega) (by omega) (by omega) (by omega) (fun t _ h => by omega) (fun t h h' => by omega)
        refine Ev.step (fun k => ?_) h3
        rw [s27_f, w1, w2, if_neg (by omega), if_pos (by rw [h2]; rfl)]
        rfl
      · have hmid : hf a b = (a + b) / 2 := half (by omega) (by omega) (by omega)
        have w3 : wrap64 (hf a b + m) = (a + b) / 2 + m := by rw [hmid, w64 (by omega) (by omega)]
        have w4 : wrap64 ((a + b) / 2 + m - b) = (a + b) / 2 + m - b := w64 (by omega) (by omega)
        have w5 : wrap64 ((a + b) / 2 + m - 1) = (a + b) / 2 + m - 1 := w64 (by omega) (by omega)
        by_cases h3 : m > (a + b) / 2
        · have h4 := l27_4 bb P X Y Q (s0 := (a + b) / 2 + m - b) (r0 := (a + b) / 2) hX hY (by omega) (by omega) ea em eb rfl rfl rfl (Or.inl ⟨h3, rfl, rfl⟩) hb (fun P' X' Y' Q' a' m' b' hl => ih P' X' Y' Q' a' m' b' (by omega)) _ ((a + b) / 2 + m - b) ((a + b) / 2) (Nat.le_refl _) (by omega) (by omega) (by omega) (Or.inl rfl) (Or.inl rfl)
          refine Ev.step (f := fun k => victim_Run_27.j4 k (P ++ (X ++ (Y ++ Q))) a m b bb ((a + b) / 2) ((a + b) / 2 + m) ((a + b) / 2 + m - b) ((a + b) / 2)) (fun k => ?_) (Ev.step (fun k => ?_) h4)
          · rw [s27_f, w1, w2, w3, hmid, w4, if_neg (by omega), if_neg (by omega), if_pos h3]
          · rw [s27_j4, w5]
        · have h4 := l27_4 bb P X Y Q (s0 := a) (r0 := m) hX hY (by omega) (by omega) ea em eb rfl rfl rfl (Or.inr ⟨by omega, rfl, rfl⟩) hb (fun P' X' Y' Q' a' m' b' hl => ih P' X' Y' Q' a' m' b' (by omega)) _ a m (Nat.le_refl _) (by omega) (by omega) (by omega) (Or.inl rfl) (Or.inl rfl)
          refine Ev.step (f := fun k => victim_Run_27.j4 k (P ++ (X ++ (Y ++ Q))) a m b bb ((a + b) / 2) ((a + b) / 2 + m) a m) (fun k => ?_) (Ev.step (fun k => ?_) h4)
          · rw [s27_f, w1, w2, w3, hmid, if_neg (by omega), if_neg (by omega), if_neg h3]
          · rw [s27_j4, w5]
def bs (s : Nat) (L : List S27) : List S27 := if _h : s = 0 ∨ L.length ≤ s then isort ltR L else isort ltR (L.take s) ++ bs s (L.drop s)
termination_by L.length
decreasing_by
  rw [List.length_drop]
  omega
theorem bs_small {s : Nat} {L : List S27} (h : L.length ≤ s) : bs s L = isort ltR L := by rw [bs, dif_pos (Or.inr h)]
theorem bs_ge {s : Nat} {L : List S27} (h0 : 0 < s) (h : s ≤ L.length) : bs s L = isort ltR (L.take s) ++ bs s (L.drop s) := by
  rcases Nat.eq_or_lt_of_le h with e | e
  · rw [bs_small (by omega), List.take_of_length_le (by omega), List.drop_eq_nil_of_le (by omega), bs_small (L := []) (by simp)]
    simp [isort_nil]
  · rw [bs, dif_neg (by omega)]
theorem bs_len {s : Nat} (h0 : 0 < s) : ∀ (n : Nat) (L : List S27), L.length ≤ n → (bs s L).length = L.length := by
  intro n
  induction n with
  | zero => intro L h; rw [bs_small (by omega), isort_len]
  | succ n ih =>
    intro L h
    rcases Nat.lt_or_ge s L.length with e | e
    · rw [bs_ge h0 (by omega), List.length_append, isort_len, ih _ (by rw [List.length_drop]; omega), List.length_take, List.length_drop]
      omega
    · rw [bs_small e, isort_len]
theorem s23_0 (k : Nat) (D : List S27) (x1 : Int) (x2 : Bool) (x6 x7 x8 : Int) : victim_Run_23.l0 (k + 1) D x1 x2 x6 x7 x8 = if x8 ≤ x1 then ((victim_Run_26.f k D x7 x8 x2).bind fun t => victim_Run_23.l0 k t x1 x2 x6 x8 (wrap64 (x8 + x6))) else ((victim_Run_26.f k D x7 x1 x2).bind fun t => victim_Run_23.l1 k t x1 x2 x6) := by simp only [victim_Run_23.l0]
theorem s23_1 (k : Nat) (D : List S27) (x1 : Int) (x2 : Bool) (x6 : Int) : victim_Run_23.l1 (k + 1) D x1 x2 x6 = if x6 < x1 then victim_Run_23.l2 k D x1 x2 x6 0 (wrap64 (2 * x6)) else some D := by simp only [victim_Run_23.l1]
theorem s23_2 (k : Nat) (D : List S27) (x1 : Int) (x2 : Bool) (x6 x7 x8 : Int) : victim_Run_23.l2 (k + 1) D x1 x2 x6 x7 x8 = if x8 ≤ x1 then ((victim_Run_27.f k D x7 (wrap64 (x7 + x6)) x8 x2).bind fun t => victim_Run_23.l2 k t x1 x2 x6 x8 (wrap64 (x8 + (wrap64 (2 * x6))))) else (if wrap64 (x7 + x6) < x1 then ((victim_Run_27.f k D x7 (wrap64 (x7 + x6)) x1 x2).bind fun t => victim_Run_23.l1 k t x1 x2 (wrap64 (x6 * 2))) else victim_Run_23.l1 k D x1 x2 (wrap64 (x6 * 2))) := by simp only [victim_Run_23.l2]
theorem p1 (bb : Bool) (r : List S27) (N : Int) : ∀ (n : Nat) (L D0 : List S27) (a b : Int), L.length ≤ n → a = D0.length → b = D0.length + 20 → N = D0.length + L.length → (D0 ++ L).length ≤ BIG →
    Ev (fun k => victim_Run_23.l1 k (D0 ++ bs 20 L) N bb 20) r → Ev (fun k => victim_Run_23.l0 k (D0 ++ L) N bb 20 a b) r := by
  intro n
  induction n with
  | zero =>
    intro L D0 a b h ea eb eN hb hr
    have : L = [] := List.eq_nil_of_length_eq_zero (by omega)
    subst this
    have h1 := f26 bb D0 [] [] (a := a) (b := N) ea (by rw [eN]) (by simpa using hb)
    have h2 := Ev.bind h1 (f := fun k t => victim_Run_23.l1 k t N bb 20) (r := r) (by simpa [bs_small, isort_nil] using hr)
    refine Ev.step (fun k => ?_) (by simpa using h2)
    rw [s23_0, if_neg (by simp only [List.length_nil] at eN; omega)]
    simp
  | succ n ih =>
    intro L D0 a b h ea eb eN hb hr
    have hb' := hb
    simp only [List.length_append, BIG] at hb'
    by_cases h20 : b ≤ N
    · have eL : L = L.take 20 ++ L.drop 20 := (List.take_append_drop _ _).symm
      have l1 : (L.take 20).length = 20 := by rw [List.length_take]; omega
      have h1 := f26 bb D0 (L.take 20) (L.drop 20) (a := a) (b := b) ea (by rw [l1, eb]; rfl) (by rw [List.take_append_drop]; exact hb)
      rw [List.take_append_drop] at h1
      have h2 := ih (L.drop 20) (D0 ++ isort ltR (L.take 20)) b (b + 20) (by rw [List.length_drop]; omega) (by rw [List.length_append, isort_len, l1]; omega) (by rw [List.length_append, isort_len, l1]; omega) (by rw [List.length_append, isort_len, l1, List.length_drop]; omega) (by rw [List.length_append, List.length_append, isort_len, l1, List.length_drop, BIG]; omega) (by rw [bs_ge (by decide) (by omega)] at hr; simpa using hr)
      have h3 := Ev.bind h1 (f := fun k t => victim_Run_23.l0 k t N bb 20 b (b + 20)) (r := r) (by simpa using h2)
      refine Ev.step (fun k => ?_) h3
      rw [s23_0, if_pos h20, w64 (x := b + 20) (by omega) (by omega)]
    · have h1 := f26 bb D0 L [] (a := a) (b := N) ea eN (by simpa using hb)
      have h2 := Ev.bind h1 (f := fun k t => victim_Run_23.l1 k t N bb 20) (r := r) (by rw [bs_small (by omega)] at hr; simpa using hr)
      refine Ev.step (fun k => ?_) (by simpa using h2)
      rw [s23_0, if_neg h20]
theorem isort_two (A B : List S27) : mrg ltR (isort ltR A) (isort ltR B) = isort ltR (A ++ B) := (isort_append weakR A B).symm
theorem p2 (bb : Bool) (r : List S27) (N : Int) (s : Nat) (hs0 : 0 < s) (hs1 : s ≤ BIG) (si : Int) (esi : si = s) : ∀ (n : Nat) (L D0 : List S27) (a b : Int), L.length ≤ n → a = D0.length → b = D0.length + 2 * s → N = D0.length + L.length → (D0 ++ L).length ≤ BIG →
    Ev (fun k => victim_Run_23.l1 k (D0 ++ bs (2 * s) L) N bb (2 * si)) r → Ev (fun k => victim_Run_23.l2 k (D0 ++ bs s L) N bb si a b) r := by
  intro n
  induction n with
  | zero =>
    intro L D0 a b h ea eb eN hb hr
    have : L = [] := List.eq_nil_of_length_eq_zero (by omega)
    subst this
    rw [bs_small (by simp)] at hr ⊢
    refine Ev.step (fun k => ?_) hr
    simp only [List.length_nil] at eN
    simp only [BIG] at hs1
    simp only [List.length_append, BIG] at hb
    rw [s23_2, if_neg (by omega), w64 (x := a + si) (by omega) (by omega), if_neg (by omega), w64 (x := si * 2) (by omega) (by omega), Int.mul_comm]
  | succ n ih =>
    intro L D0 a b h ea eb eN hb hr
    have hb' := hb
    simp only [List.length_append, BIG] at hb'
    have hs1' := hs1
    simp only [BIG] at hs1'
    have wa : wrap64 (a + si) = a + si := w64 (by omega) (by omega)
    by_cases h2s : b ≤ N
    · have l1 : (L.take s).length = s := by rw [List.length_take]; omega
      have l2 : ((L.drop s).take s).length = s := by rw [List.length_take, List.length_drop]; omega
      have l3 : ((L.drop s).drop s).length = L.length - 2 * s := by rw [List.length_drop, List.length_drop]; omega
      have eB : bs s L = isort ltR (L.take s) ++ (isort ltR ((L.drop s).take s) ++ bs s ((L.drop s).drop s)) := by rw [bs_ge hs0 (by omega), bs_ge (L := L.drop s) hs0 (by rw [List.length_drop]; omega)]
      have e2 : (L.take s) ++ ((L.drop s).take s) = L.take (2 * s) := by
        rw [show 2 * s = s + s by omega, List.take_add]
      have e3 : (L.drop s).drop s = L.drop (2 * s) := by rw [List.drop_drop, show s + s = 2 * s by omega]
      have h1 := f27 bb _ D0 (isort ltR (L.take s)) (isort ltR ((L.drop s).take s)) (bs s ((L.drop s).drop s)) a (a + si) b (Nat.le_refl _) (by rw [isort_len]; omega) (by rw [isort_len]; omega) ea (by rw [isort_len]; omega) (by rw [isort_len, isort_len]; omega) (isort_srt weakR _) (isort_srt weakR _) (by simp only [List.length_append, isort_len, bs_len hs0 _ _ (Nat.le_refl _), l1, l2, l3, BIG]; omega)
      rw [isort_two, e2, e3] at h1
      have hl2 : (L.take (2 * s)).length = 2 * s := by rw [List.length_take]; omega
      have h2 := ih (L.drop (2 * s)) (D0 ++ isort ltR (L.take (2 * s))) b (b + 2 * s) (by rw [List.length_drop]; omega) (by rw [List.length_append, isort_len, hl2]; omega) (by rw [List.length_append, isort_len, hl2]; omega) (by rw [List.length_append, isort_len, hl2, List.length_drop]; omega) (by rw [List.length_append, List.length_append, isort_len, hl2, List.length_drop, BIG]; omega) (by rw [bs_ge (by omega) (by omega)] at hr; simpa using hr)
      have h3 := Ev.bind h1 (f := fun k t => victim_Run_23.l2 k t N bb si b (b + 2 * s)) (r := r) (by simpa using h2)
      rw [eB, e3]
      refine Ev.step (fun k => ?_) h3
      rw [s23_2, if_pos h2s, wa, w64 (x := 2 * si) (by omega) (by omega), w64 (x := b + 2 * si) (by omega) (by omega), esi]
    · by_cases hsl : s < L.length
      · have l1 : (L.take s).length = s := by rw [List.length_take]; omega
        have eB : bs s L = isort ltR (L.take s) ++ (isort ltR (L.drop s) ++ []) := by rw [bs_ge hs0 (by omega), bs_small (L := L.drop s) (by rw [List.length_drop]; omega), List.append_nil]
        have h1 := f27 bb _ D0 (isort ltR (L.take s)) (isort ltR (L.drop s)) [] a (a + si) N (Nat.le_refl _) (by rw [isort_len]; omega) (by rw [isort_len, List.length_drop]; omega) ea (by rw [isort_len]; omega) (by rw [isort_len, isort_len, l1, List.length_drop]; omega) (isort_srt weakR _) (isort_srt weakR _) (by simp only [List.length_append, isort_len, l1, List.length_drop, List.length_nil, BIG]; omega)
        rw [isort_two, List.take_append_drop] at h1
        have h3 := Ev.bind h1 (f := fun k t => victim_Run_23.l1 k t N bb (2 * si)) (r := r) (by rw [bs_small (by omega)] at hr; simpa using hr)
        rw [eB]
        refine Ev.step (fun k => ?_) h3
        rw [s23_2, if_neg h2s, wa, if_pos (by omega), w64 (x := si * 2) (by omega) (by omega), Int.mul_comm si 2]
      · rw [bs_small (by omega)] at hr ⊢
        refine Ev.step (fun k => ?_) hr
        rw [s23_2, if_neg h2s, wa, if_neg (by omega), w64 (x := si * 2) (by omega) (by omega), Int.mul_comm si 2]
theorem p3 (bb : Bool) (L : List S27) (hb : L.length ≤ BIG) (N : Int) (eN : N = L.length) : ∀ (d s : Nat), 0 < s → L.length - s ≤ d → s ≤ 2 * BIG → Ev (fun k => victim_Run_23.l1 k (bs s L) N bb (s : Int)) (isort ltR L) := by
  intro d
  have stop : ∀ s : Nat, L.length ≤ s → Ev (fun k => victim_Run_23.l1 k (bs s L) N bb (s : Int)) (isort ltR L) := by
    intro s h
    rw [bs_small h]
    refine Ev.step (f := fun _ => some _) (fun k => ?_) (Ev.now _)
    rw [s23_1, if_neg (by omega)]
  induction d with
  | zero => intro s h0 hd hs; exact stop s (by omega)
  | succ d ih =>
    intro s h0 hd hs
    rcases Nat.lt_or_ge s L.length with h | h
    · have h1 := ih (2 * s) (by omega) (by omega) (by omega)
      have h2 := p2 bb (isort ltR L) N s h0 (by omega) (s : Int) rfl _ L [] 0 (2 * (s : Int)) (Nat.le_refl _) rfl (by simp) (by simp [eN]) (by simpa using hb) (by simpa using h1)
      refine Ev.step (fun k => ?_) (by simpa using h2)
      simp only [BIG] at hb hs
      rw [s23_1, if_pos (by omega), w64 (by omega) (by omega)]
    · exact stop s h
theorem f17 (bb : Bool) (L : List S27) (hb : L.length ≤ BIG) : Ev (fun k => victim_Run_17.f k L bb) (isort ltR L) := by
  unfold victim_Run_17.f victim_Run_23.f
  exact bind_some' (p1 bb (isort ltR L) _ _ L [] 0 20 (Nat.le_refl _) rfl rfl (by simp) (by simpa using hb) (by simpa using p3 bb L hb _ rfl _ 20 (by decide) (Nat.le_refl _) (by decide)))
def sp (n : Nd) (x : S27) : Bool := decide (x.f1 ≥ n.p) || decide (x.f3 ≥ n.q)
theorem spares_f (n : Nd) (x : S27) : victim_need_spares.f n x.f0 x.f1 x.f2 x.f3 x.f4 = some (sp n x) := by
  unfold victim_need_spares.f victim_need_spares0.f sp
  split
  · rename_i h
    rw [decide_eq_true h]
    rfl
  · rename_i h
    rw [decide_eq_false h]
    rfl
theorem s22 (k : Nat) (D : List S27) (n : Nd) (x7 x8 : Int) : victim_Run_22.l0 (k + 1) D n x7 x8 = if x8 < x7 then (if 0 ≤ x8 then (if x8 < (D.length : Int) then ((victim_need_spares.f n (rd_T27 D x8).f0 (rd_T27 D x8).f1 (rd_T27 D x8).f2 (rd_T27 D x8).f3 (rd_T27 D x8).f4).bind fun t => if t = true then some x8 else victim_Run_22.l0 k D n x7 (wrap64 (x8 + 1))) else none) else none) else some (-1) := rfl
theorem l22 (n : Nd) : ∀ (B A : List S27) (x7 x8 : Int), x8 = A.length → x7 = A.length + B.length → (A ++ B).length ≤ BIG → (∀ x ∈ A, sp n x = false) →
    ∃ t : Int, Ev (fun k => victim_Run_22.l0 k (A ++ B) n x7 x8) t ∧ ((t = -1 ∧ ∀ x ∈ A ++ B, sp n x = false) ∨ ∃ A' x B', A ++ B = A' ++ x :: B' ∧ t = A'.length ∧ (∀ y ∈ A', sp n y = false) ∧ sp n x = true)
  | [], A, x7, x8, e8, e7, hb, hA => by
    refine ⟨-1, Ev.step (f := fun _ => some _) (fun k => ?_) (Ev.now _), Or.inl ⟨rfl, by simpa using hA⟩⟩
    rw [s22, if_neg (by simp only [List.length_nil] at e7; omega)]
  | x :: B, A, x7, x8, e8, e7, hb, hA => by
    have hb' := hb
    simp only [List.length_append, List.length_cons, BIG] at hb' e7
    have r1 : rd_T27 (A ++ x :: B) x8 = x := rdA _ _ _ e8
    have hl : (A ++ x :: B).length = A.length + B.length + 1 := by simp; omega
    rcases hc : sp n x with _ | _
    · obtain ⟨t, h1, h2⟩ := l22 n B (A ++ [x]) x7 (x8 + 1) (by simp; omega) (by simp; omega) (by simpa using hb) (fun y hy => by
        rcases List.mem_append.1 hy with hy | hy
        · exact hA y hy
        · rcases List.mem_singleton.1 hy with rfl
          exact hc)
      refine ⟨t, Ev.step (fun k => ?_) (by simpa using h1), by simpa using h2⟩
      rw [s22, hl, if_pos (by omega), if_pos (by omega), if_pos (by omega), r1, spares_f, hc, Option.bind_some, if_neg (by decide), w64 (by omega) (by omega)]
    · refine ⟨x8, Ev.step (f := fun _ => some _) (fun k => ?_) (Ev.now _), Or.inr ⟨A, x, B, rfl, e8, hA, hc⟩⟩
      rw [s22, hl, if_pos (by omega), if_pos (by omega), if_pos (by omega), r1, spares_f, hc, Option.bind_some, if_pos rfl]
theorem s14 (k : Nat) (D : List S27) (n : Nd) (x5 x6 : Int) : victim_Run_14.l0 (k + 1) D n x5 x6 = if x6 < (D.length : Int) then (if 0 ≤ x6 then ((victim_need_spares.f n (rd_T27 D x6).f0 (rd_T27 D x6).f1 (rd_T27 D x6).f2 (rd_T27 D x6).f3 (rd_T27 D x6).f4).bind fun t => if t = true then victim_Run_14.l0 k D n x5 (wrap64 (x6 + 1)) else (if 0 ≤ x5 then (if x5 < (D.length : Int) then victim_Run_14.l0 k (D.set x5.toNat (rd_T27 D x6)) n (wrap64 (x5 + 1)) (wrap64 (x6 + 1)) else none) else none)) else none) else (if 0 ≤ x5 then (if x5 ≤ (D.length : Int) then some (D.take x5.toNat) else none) else none) := rfl
theorem l14 (n : Nd) : ∀ (R F G : List S27) (x5 x6 : Int), 0 < G.length → x5 = F.length → x6 = F.length + G.length → (F ++ (G ++ R)).length ≤ BIG →
    Ev (fun k => victim_Run_14.l0 k (F ++ (G ++ R)) n x5 x6) (F ++ R.filter (fun x => !sp n x))
  | [], F, G, x5, x6, hG, e5, e6, hb => by
    have hb' := hb
    simp only [List.length_append, List.length_nil, BIG] at hb'
    refine Ev.step (f := fun _ => some _) (fun k => ?_) (Ev.now _)
    have hl : (F ++ (G ++ [])).length = F.length + G.length := by simp
    have ht : (F ++ (G ++ [])).take x5.toNat = F := by rw [e5, Int.toNat_natCast, List.take_left]
    rw [s14, hl, if_neg (by omega), if_pos (by omega), if_pos (by omega), ht]
    simp
  | x :: R, F, G, x5, x6, hG, e5, e6, hb => by
    have hb' := hb
    simp only [List.length_append, List.length_cons, BIG] at hb'
    have hl : (F ++ (G ++ x :: R)).length = F.length + G.length + R.length + 1 := by simp; omega
    have r1 : rd_T27 (F ++ (G ++ x :: R)) x6 = x := by
      have := rdA (F ++ G) R x (i := x6) (by rw [List.length_append]; omega)
      simpa using this
    have w6 : wrap64 (x6 + 1) = x6 + 1 := w64 (by omega) (by omega)
    rcases hc : sp n x with _ | _
    · cases G with
      | nil => simp at hG
      | cons g G =>
        simp only [List.length_cons] at e6 hb' hl
        have h1 := l14 n R (F ++ [x]) (G ++ [x]) (x5 + 1) (x6 + 1) (by simp) (by simp; omega) (by simp; omega) (by simp only [List.length_append, List.length_cons, List.length_nil, BIG]; omega)
        have hset : (F ++ (g :: G ++ x :: R)).set x5.toNat x = F ++ (x :: G ++ x :: R) := by
          rw [e5, Int.toNat_natCast, List.set_append_right _ _ (Nat.le_refl _), Nat.sub_self]
          rfl
        refine Ev.step (fun k => ?_) (by simpa [hc] using h1)
        rw [s14, hl, if_pos (by omega), if_pos (by omega), r1, spares_f, hc, Option.bind_some, if_neg (by decide), if_pos (by omega), if_pos (by omega), hset, w6, w64 (x := x5 + 1) (by omega) (by omega)]
        simp
    · have h1 := l14 n R F (G ++ [x]) x5 (x6 + 1) (by simp) e5 (by simp; omega) (by simp only [List.length_append, List.length_cons, List.length_nil, BIG]; omega)
      refine Ev.step (fun k => ?_) (by simpa [hc] using h1)
      rw [s14, hl, if_pos (by omega), if_pos (by omega), r1, spares_f, hc, Option.bind_some, if_pos rfl, w6]
theorem f14 (n : Nd) (L : List S27) (hb : L.length ≤ BIG) : Ev (fun k => victim_Run_14.f k L n) (L.filter (fun x => !sp n x)) := by
  obtain ⟨t, h1, h2⟩ := l22 n L [] (L.length : Int) 0 rfl (by simp) (by simpa using hb) (fun _ h => by cases h)
  have hb' := hb
  simp only [BIG] at hb'
  refine Ev.bind (g := fun k => victim_Run_22.f k L n) (by simpa [victim_Run_22.f] using h1) ?_
  rcases h2 with ⟨rfl, hall⟩ | ⟨A, x, B, hL, rfl, hA, hx⟩
  · refine Ev.congr (f := fun _ => some _) (fun k => ?_) (Ev.now _)
    rw [if_pos rfl]
    congr 1
    rw [List.filter_eq_self.2]
    intro y hy
    rw [hall y (by simpa using hy)]
    rfl
  · simp only [List.nil_append] at hL
    subst hL
    have h3 := l14 n B A [x] (A.length : Int) (A.length + 1 : Int) (by simp) rfl (by simp) (by simpa using hb)
    have hf : (A ++ x :: B).filter (fun x => !sp n x) = A ++ B.filter (fun x => !sp n x) := by
      rw [List.filter_append, List.filter_cons, hx, List.filter_eq_self.2 (fun y hy => by rw [hA y hy]; rfl)]
      rfl
    rw [hf]
    simp only [List.length_append, List.length_cons] at hb'
    refine Ev.congr (fun k => ?_) (by simpa using h3)
    rw [if_neg (by omega), w64 (x := (A.length : Int) + 1) (by omega) (by omega)]
def memF (a : Int) : Int := mn (mx a 0) 1048576
theorem memory_f (a : Int) : victim_memory.f a = some (memF a) := rfl
theorem memF_in (a : Int) : 0 ≤ memF a ∧ memF a ≤ 1048576 := by unfold memF mn mx; repeat' split <;> omega
def has (m free slots : Int) : Bool := decide (slots ≥ 1) && decide (m ≤ free)
theorem has_f (free slots p m q : Int) : victim_room_has.f free slots p m q = some (has m free slots) := by
  unfold victim_room_has.f has
  split
  · rename_i h
    rw [decide_eq_true h]
    rfl
  · rename_i h
    rw [decide_eq_false h]
    rfl
def chs (m : Int) : List S27 → List Int → Int → Int → List Int × Bool
  | [], out, free, slots => if has m free slots = true then (out, true) else ([], false)
  | x :: R, out, free, slots => if has m free slots = true then (out, true) else chs m R (out ++ [x.f0]) (free + memF x.f2) (slots + 1)
theorem sC (k : Nat) (out : List Int) (D : List S27) (N i p m q free slots : Int) : victim_Choose.l0 (k + 1) out D N i p m q free slots = if i < N then (if 0 ≤ i then (if i < (D.length : Int) then ((victim_room_has.f free slots p m q).bind fun t => if t = true then ((victim_room_has.f free slots p m q).bind fun t => if t = true then some (out, true) else some (([] : List Int), false)) else ((victim_memory.f (rd_T27 D i).f2).bind fun t => if out.length < 17592186044416 then victim_Choose.l0 k (out ++ [(rd_T27 D i).f0]) D N (wrap64 (i + 1)) p m q (wrap64 (free + t)) (wrap64 (slots + 1)) else none)) else none) else none) else ((victim_room_has.f free slots p m q).bind fun t => if t = true then some (out, true) else some (([] : List Int), false)) := rfl
theorem lC (p m q : Int) : ∀ (R A : List S27) (out : List Int) (N i free slots : Int), i = A.length → N = A.length + R.length → out.length = A.length → (A ++ R).length ≤ BIG → 0 ≤ free → free ≤ 1048576 * (A.length + 1) → 0 ≤ slots → slots ≤ A.length + 1 →
    Ev (fun k => victim_Choose.l0 k out (A ++ R) N i p m q free slots) (chs m R out free slots)
  | [], A, out, N, i, free, slots, ei, eN, eo, hb, hf0, hf1, hs0, hs1 => by
    refine Ev.step (f := fun _ => some _) (fun k => ?_) (Ev.now _)
    rw [sC, if_neg (by simp only [List.length_nil] at eN; omega), has_f, Option.bind_some, chs]
    split <;> rfl
  | x :: R, A, out, N, i, free, slots, ei, eN, eo, hb, hf0, hf1, hs0, hs1 => by
    have hb' := hb
    simp only [List.length_append, List.length_cons, BIG] at hb' eN
    have r1 : rd_T27 (A ++ x :: R) i = x := rdA _ _ _ ei
    have hl : (A ++ x :: R).length = A.length + R.length + 1 := by simp; omega
    have hm := memF_in x.f2
    by_cases hh : has m free slots = true
    · refine Ev.step (f := fun _ => some _) (fun k => ?_) (Ev.now _)
      rw [sC, hl, if_pos (by omega), if_pos (by omega), if_pos (by omega), has_f, Option.bind_some, if_pos hh, Option.bind_some, if_pos hh, chs, if_pos hh]
    · have h1 := lC p m q R (A ++ [x]) (out ++ [x.f0]) N (i + 1) (free + memF x.f2) (slots + 1) (by simp; omega) (by simp; omega) (by simp [eo]) (by simpa using hb) (by omega) (by simp; omega) (by omega) (by simp; omega)
      rw [chs, if_neg hh]
      refine Ev.step (fun k => ?_) (by simpa using h1)
      rw [sC, hl, if_pos (by omega), if_pos (by omega), if_pos (by omega), has_f, Option.bind_some, if_neg hh, memory_f, Option.bind_some, if_pos (by omega), r1, w64 (x := i + 1) (by omega) (by omega), w64 (x := free + memF x.f2) (by omega) (by omega), w64 (x := slots + 1) (by omega) (by omega)]
def chooseS (L : List S27) (prio mem free slots most : Int) : List Int × Bool :=
  chs (memF mem) (isort ltR (L.filter (fun x => !sp ⟨prio, memF mem, most⟩ x))) [] (memF free) (mn (mx slots 0) 1)
theorem choose_ev (L : List S27) (prio mem free slots most : Int) (hb : L.length ≤ 1073741824) : Ev (fun k => victim_Choose.f k L prio mem free slots most) (chooseS L prio mem free slots most) := by
  unfold victim_Choose.f
  simp only [memory_f, Option.bind_some]
  have h15 : victim_Run_15.f L = some L := by
    unfold victim_Run_15.f
    rw [Option.bind_some, if_pos (by simp; omega)]
    rfl
  simp only [h15, Option.bind_some]
  have hfl : (L.filter (fun x => !sp ⟨prio, memF mem, most⟩ x)).length ≤ L.length := List.length_filter_le _ _
  refine Ev.bind (f14 ⟨prio, memF mem, most⟩ L (by simp only [BIG]; omega)) (Ev.bind (f17 true _ (by simp only [BIG]; omega)) ?_)
  have h1 := memF_in free
  have h2 : 0 ≤ mn (mx slots 0) 1 ∧ mn (mx slots 0) 1 ≤ 1 := by unfold mn mx; repeat' split <;> omega
  have := lC prio (memF mem) most (isort ltR (L.filter (fun x => !sp ⟨prio, memF mem, most⟩ x))) [] [] ((L.filter (fun x => !sp ⟨prio, memF mem, most⟩ x)).length : Int) 0 (memF free) (mn (mx slots 0) 1) rfl (by rw [isort_len]; simp) rfl (by simp only [List.nil_append, isort_len, BIG]; omega) h1.1 (by simp; omega) h2.1 (by simp; omega)
  exact this
end Go.Proofs.Ytnegchdooapoiaa.VicT
