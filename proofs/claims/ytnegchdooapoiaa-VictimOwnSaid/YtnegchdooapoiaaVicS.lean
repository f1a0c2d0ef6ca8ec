/- The plain law of the stable sort's parts: swapRange, rotate, insertion sort, the merges by one element. No condition. -/
import Derived.Test.YtnegchdooapoiaaVicC
import Derived.Test.YtnegchdooapoiaaVicP
namespace Go.Proofs.Ytnegchdooapoiaa.VicS
open Go.RowKit Go.Proofs.Ytnegchdooapoiaa.PVic Go.Proofs.Ytnegchdooapoiaa.VicP Go.Proofs.YtnegchdooapoiaaW.PrintWords Go.Proofs.YtnegchdooapoiaaW.PrintMore
theorem w64 {x : Int} (h1 : -9223372036854775808 ≤ x) (h2 : x ≤ 9223372036854775807) : wrap64 x = x := by unfold wrap64; omega
theorem half {a b : Int} (h1 : 0 ≤ a) (h2 : 0 ≤ b) (h3 : a + b ≤ 9223372036854775807) : wrap64 ((IntKind.u64.wrap (wrap64 (a + b))) / 2) = (a + b) / 2 := by
  rw [w64 (x := a + b) (by omega) h3]
  have : IntKind.u64.wrap (a + b) = a + b := by simp [IntKind.wrap, IntKind.bits, IntKind.signed]; omega
  rw [this, w64 (by omega) (by omega)]
def c3 (x y : Int) : Int := if x < y then -1 else if x > y then 1 else 0
theorem compare3 (x y : Int) : cmp_Compare_int.f x y = some (c3 x y) := by
  unfold cmp_Compare_int.f cmp_isNaN_int.f c3
  simp only [bne_self_eq_false, Option.bind_some, Bool.false_eq_true, if_false]
  split
  · rfl
  · split <;> rfl
theorem or3 (k : Nat) (x y z : Int) : cmp_Or_int.f (k + 4) [x, y, z] = some (if x = 0 then (if y = 0 then z else y) else x) := by
  simp [cmp_Or_int.f, cmp_Or_int.l0, rd, wrap64]
  repeat' split
  all_goals simp_all
def cmpI (a b : S27) : Int := if c3 a.f1 b.f1 = 0 then (if c3 b.f4 a.f4 = 0 then c3 b.f0 a.f0 else c3 b.f4 a.f4) else c3 a.f1 b.f1
theorem compare_f (k : Nat) (a b : S27) : victim_Run_compare.f (k + 4) a.f0 a.f1 a.f2 a.f3 a.f4 b.f0 b.f1 b.f2 b.f3 b.f4 = some (cmpI a b) := by
  unfold victim_Run_compare.f
  rw [compare3, compare3, compare3]
  simp only [Option.bind_some]
  rw [or3]
  rfl
def ltR (a b : S27) : Bool := decide (a.f1 < b.f1) || (decide (a.f1 = b.f1) && (decide (b.f4 < a.f4) || (decide (b.f4 = a.f4) && decide (b.f0 < a.f0))))
theorem cmpI_lt (a b : S27) : cmpI a b < 0 ↔ ltR a b = true := by
  unfold cmpI c3 ltR
  simp only [Bool.or_eq_true, Bool.and_eq_true, decide_eq_true_eq]
  repeat' split
  all_goals omega
theorem weakR : Weak ltR := by
  refine ⟨fun a b h => ?_, fun a b c h1 h2 => ?_, fun a b c h1 h2 => ?_⟩
  · rw [Bool.eq_false_iff]
    intro h'
    unfold ltR at h h'
    simp only [Bool.or_eq_true, Bool.and_eq_true, decide_eq_true_eq] at h h'
    omega
  · unfold ltR at h1 h2 ⊢
    simp only [Bool.or_eq_true, Bool.and_eq_true, decide_eq_true_eq] at h1 h2 ⊢
    omega
  · rw [Bool.eq_false_iff] at h1 h2 ⊢
    intro h'
    unfold ltR at h1 h2 h'
    simp only [ne_eq, Bool.or_eq_true, Bool.and_eq_true, decide_eq_true_eq] at h1 h2 h'
    omega
theorem cmp_ev (a b : S27) : Ev (fun k => victim_Run_compare.f k a.f0 a.f1 a.f2 a.f3 a.f4 b.f0 b.f1 b.f2 b.f3 b.f4) (cmpI a b) :=
  ⟨4, fun k hk => by obtain ⟨m, rfl⟩ : ∃ m, k = m + 4 := ⟨k - 4, by omega⟩; exact compare_f m a b⟩
theorem rdA (U W : List S27) (a : S27) {i : Int} (hi : i = U.length) : rd_T27 (U ++ a :: W) i = a := by
  subst hi
  unfold rd_T27
  rw [Int.toNat_natCast, List.getD_eq_getElem?_getD, List.getElem?_append_right (Nat.le_refl _), Nat.sub_self]
  rfl
theorem swp (U V W : List S27) (a b : S27) {i j : Int} (hi : i = U.length) (hj : j = U.length + 1 + V.length) :
    ((U ++ a :: (V ++ b :: W)).set i.toNat b).set j.toNat a = U ++ b :: (V ++ a :: W) := by
  subst hi
  obtain ⟨n, hn⟩ : ∃ n : Nat, n = U.length + 1 + V.length := ⟨_, rfl⟩
  have : j = (n : Int) := by omega
  subst this
  rw [Int.toNat_natCast, Int.toNat_natCast, List.set_append_right _ _ (Nat.le_refl _), Nat.sub_self, List.set_append_right _ _ (by omega), List.set_cons_zero, show n - U.length = V.length + 1 by omega, List.set_cons_succ, List.set_append_right _ _ (Nat.le_refl _), Nat.sub_self, List.set_cons_zero]
theorem swp' (U V W : List S27) (a b : S27) {i j : Int} (hi : i = U.length) (hj : j = U.length + 1 + V.length) :
    ((U ++ a :: (V ++ b :: W)).set j.toNat a).set i.toNat b = U ++ b :: (V ++ a :: W) := by
  subst hi
  obtain ⟨n, hn⟩ : ∃ n : Nat, n = U.length + 1 + V.length := ⟨_, rfl⟩
  have : j = (n : Int) := by omega
  subst this
  rw [Int.toNat_natCast, Int.toNat_natCast, List.set_append_right _ _ (by omega), show n - U.length = V.length + 1 by omega, List.set_cons_succ, List.set_append_right _ _ (Nat.le_refl _), Nat.sub_self, List.set_cons_zero, List.set_append_right _ _ (Nat.le_refl _), Nat.sub_self, List.set_cons_zero]
def BIG : Nat := 1099511627776
theorem s30 (k : Nat) (D : List S27) (x1 x2 x3 x10 : Int) : victim_Run_30.l0 (k + 1) D x1 x2 x3 x10 = if x10 < x3 then (if 0 ≤ wrap64 (x2 + x10) then (if wrap64 (x2 + x10) < (D.length : Int) then (if 0 ≤ wrap64 (x1 + x10) then (if wrap64 (x1 + x10) < (D.length : Int) then victim_Run_30.l0 k ((D.set (wrap64 (x1 + x10)).toNat (rd_T27 D (wrap64 (x2 + x10)))).set (wrap64 (x2 + x10)).toNat (rd_T27 D (wrap64 (x1 + x10)))) x1 x2 x3 (wrap64 (x10 + 1)) else none) else none) else none) else none) else some D := rfl
theorem l30 : ∀ (A2 B2 A1 B1 P M Q : List S27) (x1 x2 x3 x10 : Int), A2.length = B2.length → A1.length = B1.length → x1 = P.length → x2 = P.length + B1.length + A2.length + M.length → x3 = B1.length + A2.length → x10 = B1.length →
    (P ++ (B1 ++ (A2 ++ (M ++ (A1 ++ (B2 ++ Q)))))).length ≤ BIG →
    Ev (fun k => victim_Run_30.l0 k (P ++ (B1 ++ (A2 ++ (M ++ (A1 ++ (B2 ++ Q)))))) x1 x2 x3 x10) (P ++ (B1 ++ (B2 ++ (M ++ (A1 ++ (A2 ++ Q))))))
  | [], B2, A1, B1, P, M, Q, x1, x2, x3, x10 => by
    intro h1 h2 e1 e2 e3 e4 hb
    have : B2 = [] := List.eq_nil_of_length_eq_zero (by rw [← h1]; rfl)
    subst this
    refine Ev.step (f := fun _ => some _) (fun k => ?_) (Ev.now _)
    rw [s30, if_neg (by simp only [List.length_nil] at e3; omega)]
  | a :: A2, B2, A1, B1, P, M, Q, x1, x2, x3, x10 => by
    intro h1 h2 e1 e2 e3 e4 hb
    cases B2 with
    | nil => simp at h1
    | cons b B2 =>
      simp only [List.length_cons] at h1 e2 e3
      have hb' := hb
      simp only [List.length_append, List.length_cons, BIG] at hb'
      have ih := l30 A2 B2 (A1 ++ [a]) (B1 ++ [b]) P M Q x1 x2 x3 (x10 + 1) (by omega) (by simp [h2]) e1 (by rw [e2]; simp; omega) (by rw [e3]; simp; omega) (by rw [e4]; simp) (by simp only [List.length_append, List.length_cons, List.length_nil, BIG]; omega)
      refine Ev.step (f := fun k => victim_Run_30.l0 k (P ++ ((B1 ++ [b]) ++ (A2 ++ (M ++ ((A1 ++ [a]) ++ (B2 ++ Q)))))) x1 x2 x3 (x10 + 1)) (fun k => ?_) (by simpa using ih)
      have eD : P ++ (B1 ++ (a :: A2 ++ (M ++ (A1 ++ (b :: B2 ++ Q))))) = (P ++ B1) ++ a :: ((A2 ++ (M ++ A1)) ++ b :: (B2 ++ Q)) := by simp
      have eD2 : P ++ ((B1 ++ [b]) ++ (A2 ++ (M ++ ((A1 ++ [a]) ++ (B2 ++ Q))))) = (P ++ B1) ++ b :: ((A2 ++ (M ++ A1)) ++ a :: (B2 ++ Q)) := by simp
      have i1 : wrap64 (x1 + x10) = ((P ++ B1).length : Int) := by rw [w64 (by omega) (by omega)]; simp; omega
      have i2 : wrap64 (x2 + x10) = ((P ++ B1).length : Int) + 1 + ((A2 ++ (M ++ A1)).length : Int) := by rw [w64 (by omega) (by omega)]; simp; omega
      have hl : ((P ++ B1) ++ a :: ((A2 ++ (M ++ A1)) ++ b :: (B2 ++ Q))).length = P.length + B1.length + A2.length + M.length + A1.length + B2.length + Q.length + 2 := by simp; omega
      have r1 : rd_T27 ((P ++ B1) ++ a :: ((A2 ++ (M ++ A1)) ++ b :: (B2 ++ Q))) (wrap64 (x1 + x10)) = a := rdA _ _ _ i1
      have r2 : rd_T27 ((P ++ B1) ++ a :: ((A2 ++ (M ++ A1)) ++ b :: (B2 ++ Q))) (wrap64 (x2 + x10)) = b := by
        have := rdA ((P ++ B1) ++ a :: (A2 ++ (M ++ A1))) (B2 ++ Q) b (i := wrap64 (x2 + x10)) (by rw [i2]; simp; omega)
        simpa using this
      rw [s30, eD, eD2, r1, r2, swp _ _ _ _ _ i1 i2, w64 (x := x10 + 1) (by omega) (by omega), hl]
      simp only [List.length_append] at i1 i2
      rw [if_pos (by omega), if_pos (by omega), if_pos (by omega), if_pos (by omega), if_pos (by omega)]
theorem f30 (A B P M Q : List S27) {x1 x2 x3 : Int} (bb : Bool) (h : A.length = B.length) (e1 : x1 = P.length) (e2 : x2 = P.length + A.length + M.length) (e3 : x3 = A.length) (hb : (P ++ (A ++ (M ++ (B ++ Q)))).length ≤ BIG) :
    Ev (fun k => victim_Run_30.f k (P ++ (A ++ (M ++ (B ++ Q)))) x1 x2 x3 bb) (P ++ (B ++ (M ++ (A ++ Q)))) := by
  have := l30 A B [] [] P M Q x1 x2 x3 0 h rfl e1 (by rw [e2]; simp) (by rw [e3]; simp) rfl (by simpa using hb)
  simpa [victim_Run_30.f] using this
theorem s29 (k : Nat) (D : List S27) (x2 : Int) (x4 : Bool) (x10 x11 : Int) : victim_Run_29.l0 (k + 1) D x2 x4 x10 x11 = if x10 = x11 then ((victim_Run_30.f k D (wrap64 (x2 - x10)) x2 x10 x4).bind fun t => some t) else (if x10 > x11 then ((victim_Run_30.f k D (wrap64 (x2 - x10)) x2 x11 x4).bind fun t => victim_Run_29.l0 k t x2 x4 (wrap64 (x10 - x11)) x11) else ((victim_Run_30.f k D (wrap64 (x2 - x10)) (wrap64 ((wrap64 (x2 + x11)) - x10)) x10 x4).bind fun t => victim_Run_29.l0 k t x2 x4 x10 (wrap64 (x11 - x10)))) := rfl
theorem l29 (bb : Bool) : ∀ (n : Nat) (P U V Q : List S27) (x2 x10 x11 : Int), U.length + V.length ≤ n → 0 < U.length → 0 < V.length → x2 = P.length + U.length → x10 = U.length → x11 = V.length → (P ++ (U ++ (V ++ Q))).length ≤ BIG →
    Ev (fun k => victim_Run_29.l0 k (P ++ (U ++ (V ++ Q))) x2 bb x10 x11) (P ++ (V ++ (U ++ Q))) := by
  intro n
  induction n with
  | zero => intro P U V Q x2 x10 x11 h hu; omega
  | succ n ih =>
    intro P U V Q x2 x10 x11 h hu hv e2 e10 e11 hb
    have hb' := hb
    simp only [List.length_append, BIG] at hb'
    have i1 : wrap64 (x2 - x10) = (P.length : Int) := by rw [w64 (by omega) (by omega)]; omega
    rcases Nat.lt_trichotomy U.length V.length with hlt | heq | hgt
    · -- the right block is longer
      obtain ⟨V1, V2, rfl, hV⟩ : ∃ V1 V2, V = V1 ++ V2 ∧ V2.length = U.length := ⟨V.take (V.length - U.length), V.drop (V.length - U.length), (List.take_append_drop _ _).symm, by rw [List.length_drop]; omega⟩
      simp only [List.length_append] at h hlt e11 hb'
      have i2 : wrap64 ((wrap64 (x2 + x11)) - x10) = P.length + U.length + V1.length := by rw [w64 (x := x2 + x11) (by omega) (by omega), w64 (by omega) (by omega)]; omega
      have i3 : wrap64 (x11 - x10) = (V1.length : Int) := by rw [w64 (by omega) (by omega)]; omega
      have h1 := f30 U V2 P V1 Q (x1 := wrap64 (x2 - x10)) (x2 := wrap64 ((wrap64 (x2 + x11)) - x10)) (x3 := x10) bb hV.symm i1 i2 e10 (by simp only [List.length_append, BIG]; omega)
      have h2 := ih P V2 V1 (U ++ Q) x2 x10 (wrap64 (x11 - x10)) (by omega) (by omega) (by omega) (by omega) (by omega) i3 (by simp only [List.length_append, BIG]; omega)
      have h3 := Ev.bind (g := fun k => victim_Run_30.f k (P ++ (U ++ (V1 ++ (V2 ++ Q)))) (wrap64 (x2 - x10)) (wrap64 ((wrap64 (x2 + x11)) - x10)) x10 bb) (f := fun k t => victim_Run_29.l0 k t x2 bb x10 (wrap64 (x11 - x10))) (a := P ++ (V2 ++ (V1 ++ (U ++ Q)))) (r := P ++ (V1 ++ (V2 ++ (U ++ Q)))) h1 h2
      refine Ev.step (fun k => ?_) (by simpa using h3)
      rw [s29, if_neg (by omega), if_neg (by omega)]
      simp
    · obtain ⟨K, hK⟩ := f30 U V P [] Q (x1 := wrap64 (x2 - x10)) (x2 := x2) (x3 := x10) bb heq i1 (by rw [e2]; simp) e10 (by simp only [List.length_append, List.length_nil, BIG]; omega)
      refine Ev.step (f := fun k => (victim_Run_30.f k (P ++ (U ++ (V ++ Q))) (wrap64 (x2 - x10)) x2 x10 bb).bind fun t => some t) (fun k => ?_) ⟨K, fun k hk => ?_⟩
      · rw [s29, if_pos (by omega)]
      · have := hK k hk
        simp only [List.nil_append] at this
        simp only [this, Option.bind_some]
    · obtain ⟨U1, U2, rfl, hU⟩ : ∃ U1 U2, U = U1 ++ U2 ∧ U1.length = V.length := ⟨U.take V.length, U.drop V.length, (List.take_append_drop _ _).symm, by rw [List.length_take]; omega⟩
      simp only [List.length_append] at h hgt e10 e2 hb'
      have i3 : wrap64 (x10 - x11) = (U2.length : Int) := by rw [w64 (by omega) (by omega)]; omega
      have h1 := f30 U1 V P U2 Q (x1 := wrap64 (x2 - x10)) (x2 := x2) (x3 := x11) bb hU i1 (by rw [e2]; omega) (by omega) (by simp only [List.length_append, BIG]; omega)
      have h2 := ih (P ++ V) U2 U1 Q x2 (wrap64 (x10 - x11)) x11 (by omega) (by omega) (by omega) (by simp only [List.length_append]; omega) i3 (by omega) (by simp only [List.length_append, BIG]; omega)
      have h3 := Ev.bind (g := fun k => victim_Run_30.f k (P ++ (U1 ++ (U2 ++ (V ++ Q)))) (wrap64 (x2 - x10)) x2 x11 bb) (f := fun k t => victim_Run_29.l0 k t x2 bb (wrap64 (x10 - x11)) x11) (a := P ++ (V ++ (U2 ++ (U1 ++ Q)))) (r := (P ++ V) ++ (U1 ++ (U2 ++ Q))) h1 (by simpa using h2)
      refine Ev.step (fun k => ?_) (by simpa using h3)
      rw [s29, if_neg (by omega), if_pos (by omega)]
      simp
theorem f29 (bb : Bool) (P U V Q : List S27) {x1 x2 x3 : Int} (hu : 0 < U.length) (hv : 0 < V.length) (e1 : x1 = P.length) (e2 : x2 = P.length + U.length) (e3 : x3 = P.length + U.length + V.length) (hb : (P ++ (U ++ (V ++ Q))).length ≤ BIG) :
    Ev (fun k => victim_Run_29.f k (P ++ (U ++ (V ++ Q))) x1 x2 x3 bb) (P ++ (V ++ (U ++ Q))) := by
  have hb' := hb
  simp only [List.length_append, BIG] at hb'
  exact l29 bb _ P U V Q x2 _ _ (Nat.le_refl _) hu hv e2 (by rw [w64 (by omega) (by omega)]; omega) (by rw [w64 (by omega) (by omega)]; omega) hb
abbrev cmpF (k : Nat) (a b : S27) : Option Int := victim_Run_compare.f k a.f0 a.f1 a.f2 a.f3 a.f4 b.f0 b.f1 b.f2 b.f3 b.f4
theorem s26_0 (k : Nat) (D : List S27) (a b x8 : Int) : victim_Run_26.l0 (k + 1) D a b x8 = if x8 < b then victim_Run_26.l1 k D a b x8 x8 else some D := by simp only [victim_Run_26.l0]
theorem s26_1 (k : Nat) (D : List S27) (a b x8 x9 : Int) : victim_Run_26.l1 (k + 1) D a b x8 x9 = if x9 > a then (if 0 ≤ x9 then (if x9 < (D.length : Int) then (if 0 ≤ wrap64 (x9 - 1) then (if wrap64 (x9 - 1) < (D.length : Int) then ((cmpF k (rd_T27 D x9) (rd_T27 D (wrap64 (x9 - 1)))).bind fun t => if t < 0 then victim_Run_26.l1 k ((D.set x9.toNat (rd_T27 D (wrap64 (x9 - 1)))).set (wrap64 (x9 - 1)).toNat (rd_T27 D x9)) a b x8 (wrap64 (x9 - 1)) else victim_Run_26.l0 k D a b (wrap64 (x8 + 1))) else none) else none) else none) else none) else victim_Run_26.l0 k D a b (wrap64 (x8 + 1)) := by simp only [victim_Run_26.l1]
theorem l26_1 (P Q : List S27) (x : S27) (a b : Int) (r : List S27) (ea : a = P.length) : ∀ (n : Nat) (L1 L2 : List S27) (x8 x9 : Int), L1.length = n → x9 = P.length + L1.length → x8 = P.length + L1.length + L2.length → Srt ltR (L1 ++ L2) → (∀ z ∈ L2, ltR x z = true) → (P ++ (L1 ++ (x :: (L2 ++ Q)))).length ≤ BIG →
    Ev (fun k => victim_Run_26.l0 k (P ++ (ins ltR x (L1 ++ L2) ++ Q)) a b (x8 + 1)) r → Ev (fun k => victim_Run_26.l1 k (P ++ (L1 ++ (x :: (L2 ++ Q)))) a b x8 x9) r := by
  intro n
  induction n with
  | zero =>
    intro L1 L2 x8 x9 hn e9 e8 hs hx hb hr
    have : L1 = [] := List.eq_nil_of_length_eq_zero hn
    subst this
    simp only [List.length_append, List.length_cons, List.length_nil, BIG] at hb e9 e8
    have hi : ins ltR x ([] ++ L2) = [] ++ x :: L2 := ins_split (fun _ h => by cases h) hx
    rw [hi] at hr
    refine Ev.step (fun k => ?_) (by simpa using hr)
    rw [s26_1, if_neg (by omega), w64 (by omega) (by omega)]
    simp
  | succ n ih =>
    intro L1 L2 x8 x9 hn e9 e8 hs hx hb hr
    obtain ⟨L1', y, rfl⟩ : ∃ L1' y, L1 = L1' ++ [y] := by
      cases hL : L1.reverse with
      | nil => rw [List.reverse_eq_nil_iff] at hL; rw [hL] at hn; cases hn
      | cons y t => exact ⟨t.reverse, y, by rw [← List.reverse_reverse L1, hL, List.reverse_cons]⟩
    have hb' := hb
    simp only [List.length_append, List.length_cons, List.length_nil, BIG] at hb' e9 e8 hn
    have eD : P ++ ((L1' ++ [y]) ++ (x :: (L2 ++ Q))) = (P ++ L1') ++ y :: ([] ++ x :: (L2 ++ Q)) := by simp
    have i1 : wrap64 (x9 - 1) = ((P ++ L1').length : Int) := by rw [w64 (by omega) (by omega)]; simp; omega
    have i2 : x9 = ((P ++ L1').length : Int) + 1 + (([] : List S27).length : Int) := by simp; omega
    have r1 : rd_T27 ((P ++ L1') ++ y :: ([] ++ x :: (L2 ++ Q))) (wrap64 (x9 - 1)) = y := rdA _ _ _ i1
    have r2 : rd_T27 ((P ++ L1') ++ y :: ([] ++ x :: (L2 ++ Q))) x9 = x := by
      have := rdA ((P ++ L1') ++ [y]) (L2 ++ Q) x (i := x9) (by simp; omega)
      simpa using this
    have hl : ((P ++ L1') ++ y :: ([] ++ x :: (L2 ++ Q))).length = P.length + L1'.length + L2.length + Q.length + 2 := by simp; omega
    have hsp := srt_append.1 hs
    by_cases hc : ltR x y = true
    · have hlt : cmpI x y < 0 := (cmpI_lt x y).2 hc
      have hr' : Ev (fun k => victim_Run_26.l0 k (P ++ (ins ltR x (L1' ++ (y :: L2)) ++ Q)) a b (x8 + 1)) r := by simpa using hr
      have h1 := ih L1' (y :: L2) x8 (x9 - 1) (by omega) (by omega) (by simp; omega) (by simpa using hs) (fun z hz => by
        rcases List.mem_cons.1 hz with rfl | hz
        · exact hc
        · exact hx z hz) (by simp only [List.length_append, List.length_cons, BIG]; omega) hr'
      have h2 := Ev.bind (cmp_ev x y) (f := fun k t => if t < 0 then victim_Run_26.l1 k (P ++ (L1' ++ (x :: ((y :: L2) ++ Q)))) a b x8 (x9 - 1) else victim_Run_26.l0 k (P ++ ((L1' ++ [y]) ++ (x :: (L2 ++ Q)))) a b (wrap64 (x8 + 1))) (r := r) (by simp only [hlt, if_true]; exact h1)
      refine Ev.step (fun k => ?_) h2
      rw [eD, s26_1, if_pos (by omega), if_pos (by omega), hl, if_pos (by omega), if_pos (by simp only [List.length_append] at i1; omega), if_pos (by simp only [List.length_append] at i1; omega), r1, r2, swp' _ _ _ _ _ i1 i2, w64 (x := x9 - 1) (by omega) (by omega)]
      simp
    · have hge : ¬ cmpI x y < 0 := fun h => hc ((cmpI_lt x y).1 h)
      rw [Bool.not_eq_true] at hc
      have hi : ins ltR x ((L1' ++ [y]) ++ L2) = (L1' ++ [y]) ++ x :: L2 := ins_split (fun z hz => by
        rcases List.mem_append.1 hz with hz | hz
        · have := (srt_append.1 hsp.1).2.2 z hz y (by simp)
          exact weakR.ntrans _ _ _ this hc
        · rcases List.mem_singleton.1 hz with rfl
          exact hc) hx
      rw [hi] at hr
      have h2 := Ev.bind (cmp_ev x y) (f := fun k t => if t < 0 then victim_Run_26.l1 k (P ++ (L1' ++ (x :: ((y :: L2) ++ Q)))) a b x8 (x9 - 1) else victim_Run_26.l0 k (P ++ ((L1' ++ [y]) ++ (x :: (L2 ++ Q)))) a b (x8 + 1)) (r := r) (by simp only [hge, if_false]; simpa using hr)
      refine Ev.step (fun k => ?_) h2
      rw [eD, s26_1, if_pos (by omega), if_pos (by omega), hl, if_pos (by omega), if_pos (by simp only [List.length_append] at i1; omega), if_pos (by simp only [List.length_append] at i1; omega), r1, r2, swp' _ _ _ _ _ i1 i2, w64 (x := x9 - 1) (by omega) (by omega), w64 (x := x8 + 1) (by omega) (by omega)]
      simp
theorem l26_0 (P Q : List S27) (a b : Int) (ea : a = P.length) : ∀ (R D0 : List S27) (x8 : Int), x8 = P.length + D0.length → b = P.length + D0.length + R.length → (P ++ (D0 ++ (R ++ Q))).length ≤ BIG →
    Ev (fun k => victim_Run_26.l0 k (P ++ (isort ltR D0 ++ (R ++ Q))) a b x8) (P ++ (isort ltR (D0 ++ R) ++ Q))
  | [], D0, x8, e8, eb, hb => by
    refine Ev.step (f := fun _ => some _) (fun k => ?_) (Ev.now _)
    rw [s26_0, if_neg (by simp only [List.length_nil] at eb; omega)]
    simp
  | x :: R, D0, x8, e8, eb, hb => by
    have hb' := hb
    simp only [List.length_append, List.length_cons, BIG] at hb' eb
    have ih := l26_0 P Q a b ea R (D0 ++ [x]) (x8 + 1) (by simp; omega) (by simp; omega) (by simp only [List.length_append, List.length_cons, List.length_nil, BIG]; omega)
    rw [isort_snoc] at ih
    have h1 := l26_1 P (R ++ Q) x a b _ ea _ (isort ltR D0) [] x8 x8 rfl (by rw [isort_len]; omega) (by rw [isort_len]; simp; omega) (by simpa using isort_srt weakR D0) (fun _ h => by cases h) (by simp only [List.length_append, List.length_cons, List.length_nil, isort_len, BIG]; omega) (by simpa using ih)
    refine Ev.step (fun k => ?_) (by simpa using h1)
    rw [s26_0, if_pos (by omega)]
    simp
theorem f26 (bb : Bool) (P R Q : List S27) {a b : Int} (ea : a = P.length) (eb : b = P.length + R.length) (hb : (P ++ (R ++ Q)).length ≤ BIG) :
    Ev (fun k => victim_Run_26.f k (P ++ (R ++ Q)) a b bb) (P ++ (isort ltR R ++ Q)) := by
  have hb' := hb
  simp only [List.length_append, BIG] at hb'
  unfold victim_Run_26.f
  rw [w64 (x := a + 1) (by omega) (by omega)]
  cases R with
  | nil =>
    refine Ev.step (f := fun _ => some _) (fun k => ?_) (Ev.now _)
    rw [s26_0, if_neg (by simp only [List.length_nil] at eb; omega)]
    simp [isort_nil]
  | cons x R =>
    have := l26_0 P Q a b ea R [x] (a + 1) (by simp; omega) (by simp only [List.length_cons, List.length_nil] at eb ⊢; omega) (by simpa using hb)
    simpa [isort_one] using this
theorem rdI (P Y Q : List S27) {i : Int} (t : Nat) (ht : t < Y.length) (hi : i = P.length + t) : rd_T27 (P ++ (Y ++ Q)) i = Y[t] := by
  obtain ⟨n, hn⟩ : ∃ n : Nat, n = P.length + t := ⟨_, rfl⟩
  have : i = (n : Int) := by omega
  subst this
  unfold rd_T27
  rw [Int.toNat_natCast, List.getD_eq_getElem?_getD, List.getElem?_append_right (by omega), List.getElem?_append_left (by omega), show n - P.length = t by omega, List.getElem?_eq_getElem ht]
  rfl
abbrev hf (i j : Int) : Int := wrap64 ((IntKind.u64.wrap (wrap64 (i + j))) / 2)
theorem srt_get {l : List S27} (h : Srt ltR l) {i j : Nat} (hij : i < j) (hj : j < l.length) : ltR l[j] l[i] = false := List.pairwise_iff_getElem.1 h i j (by omega) hj hij
theorem s27_0 (k : Nat) (D : List S27) (x1 i j : Int) : victim_Run_27.l0 (k + 1) D x1 i j = if i < j then (if 0 ≤ hf i j then (if hf i j < (D.length : Int) then (if 0 ≤ x1 then (if x1 < (D.length : Int) then ((cmpF k (rd_T27 D (hf i j)) (rd_T27 D x1)).bind fun t => if t < 0 then victim_Run_27.l0 k D x1 (wrap64 (hf i j + 1)) j else victim_Run_27.l0 k D x1 i (hf i j)) else none) else none) else none) else none) else victim_Run_27.l1 k D i x1 := by simp only [victim_Run_27.l0]
theorem s27_1 (k : Nat) (D : List S27) (x10 x13 : Int) : victim_Run_27.l1 (k + 1) D x10 x13 = if x13 < wrap64 (x10 - 1) then (if 0 ≤ wrap64 (x13 + 1) then (if wrap64 (x13 + 1) < (D.length : Int) then (if 0 ≤ x13 then (if x13 < (D.length : Int) then victim_Run_27.l1 k ((D.set x13.toNat (rd_T27 D (wrap64 (x13 + 1)))).set (wrap64 (x13 + 1)).toNat (rd_T27 D x13)) x10 (wrap64 (x13 + 1)) else none) else none) else none) else none) else some D := by simp only [victim_Run_27.l1]
theorem l27_1 (x : S27) : ∀ (Y1 P Q : List S27) (x10 x13 : Int), x13 = P.length → x10 = P.length + 1 + Y1.length → (P ++ (x :: (Y1 ++ Q))).length ≤ BIG →
    Ev (fun k => victim_Run_27.l1 k (P ++ (x :: (Y1 ++ Q))) x10 x13) (P ++ (Y1 ++ (x :: Q)))
  | [], P, Q, x10, x13, e13, e10, hb => by
    have hb' := hb
    simp only [List.length_append, List.length_cons, List.length_nil, BIG] at hb' e10
    refine Ev.step (f := fun _ => some _) (fun k => ?_) (Ev.now _)
    rw [s27_1, if_neg (by rw [w64 (by omega) (by omega)]; omega)]
    simp
  | y :: Y1, P, Q, x10, x13, e13, e10, hb => by
    have hb' := hb
    simp only [List.length_append, List.length_cons, BIG] at hb' e10
    have ih := l27_1 x Y1 (P ++ [y]) Q x10 (x13 + 1) (by simp; omega) (by simp; omega) (by simp only [List.length_append, List.length_cons, List.length_nil, BIG]; omega)
    have eD : P ++ (x :: (y :: Y1 ++ Q)) = P ++ x :: ([] ++ y :: (Y1 ++ Q)) := by simp
    have i2 : wrap64 (x13 + 1) = (P.length : Int) + 1 + (([] : List S27).length : Int) := by rw [w64 (by omega) (by omega)]; simp; omega
    have r1 : rd_T27 (P ++ x :: ([] ++ y :: (Y1 ++ Q))) x13 = x := rdA _ _ _ e13
    have r2 : rd_T27 (P ++ x :: ([] ++ y :: (Y1 ++ Q))) (wrap64 (x13 + 1)) = y := by
      have := rdA (P ++ [x]) (Y1 ++ Q) y (i := wrap64 (x13 + 1)) (by rw [i2]; simp)
      simpa using this
    have hl : (P ++ x :: ([] ++ y :: (Y1 ++ Q))).length = P.length + Y1.length + Q.length + 2 := by simp; omega
    refine Ev.step (fun k => ?_) (by simpa using ih)
    simp only [List.length_nil] at i2
    rw [eD, s27_1, r1, r2, swp _ _ _ _ _ e13 (by simpa using i2), hl, if_pos (by rw [w64 (x := x10 - 1) (by omega) (by omega)]; omega), if_pos (by omega), if_pos (by omega), if_pos (by omega), if_pos (by omega), w64 (x := x13 + 1) (by omega) (by omega)]
    simp
theorem l27_0 (P Q : List S27) (x : S27) (Y : List S27) (x1 : Int) (e1 : x1 = P.length) (hs : Srt ltR Y) (hb : (P ++ (x :: (Y ++ Q))).length ≤ BIG) : ∀ (n p q : Nat) (i j : Int), q - p ≤ n → p ≤ q → q ≤ Y.length → i = P.length + 1 + p → j = P.length + 1 + q →
    (∀ t (h : t < Y.length), t < p → ltR Y[t] x = true) → (∀ t (h : t < Y.length), q ≤ t → ltR Y[t] x = false) →
    Ev (fun k => victim_Run_27.l0 k (P ++ (x :: (Y ++ Q))) x1 i j) (P ++ (mrg ltR [x] Y ++ Q)) := by
  intro n
  have hb' := hb
  simp only [List.length_append, List.length_cons, BIG] at hb'
  have stop : ∀ (p : Nat) (i j : Int), p ≤ Y.length → i = P.length + 1 + p → j = i → (∀ t (h : t < Y.length), t < p → ltR Y[t] x = true) → (∀ t (h : t < Y.length), p ≤ t → ltR Y[t] x = false) → Ev (fun k => victim_Run_27.l0 k (P ++ (x :: (Y ++ Q))) x1 i j) (P ++ (mrg ltR [x] Y ++ Q)) := by
    intro p i j hp ei ej h1 h2
    have hm : mrg ltR [x] Y = Y.take p ++ x :: Y.drop p := by
      have hY : Y = Y.take p ++ Y.drop p := (List.take_append_drop _ _).symm
      have g1 : ∀ y ∈ Y.take p, ∀ z ∈ [x], ltR y z = true := fun y hy z hz => by
        rcases List.mem_singleton.1 hz with rfl
        obtain ⟨t, ht, rfl⟩ := List.getElem_of_mem hy
        rw [List.getElem_take]
        rw [List.length_take] at ht
        exact h1 t (by omega) (by omega)
      have g2 : ∀ z ∈ [x], ∀ y ∈ Y.drop p, ltR y z = false := fun z hz y hy => by
        rcases List.mem_singleton.1 hz with rfl
        obtain ⟨t, ht, rfl⟩ := List.getElem_of_mem hy
        rw [List.getElem_drop]
        rw [List.length_drop] at ht
        exact h2 (p + t) (by omega) (by omega)
      have a1 := mrg_split (lt := ltR) _ [] [x] (Y.take p) (Y.drop p) (Nat.le_refl _) (fun _ h => by cases h) g1
      have a2 := mrg_split (lt := ltR) _ [x] [] [] (Y.drop p) (Nat.le_refl _) g2 (fun _ h => by cases h)
      simp only [List.nil_append, List.append_nil, mrg_nil_l, mrg_nil_r] at a1 a2
      rw [← hY] at a1
      rw [a1, a2]
      rfl
    have h3 := l27_1 x (Y.take p) P (Y.drop p ++ Q) i x1 e1 (by rw [List.length_take, ei]; omega) (by simp only [List.length_append, List.length_cons, List.length_take, List.length_drop, BIG]; omega)
    have eD : P ++ (x :: (Y.take p ++ (Y.drop p ++ Q))) = P ++ (x :: (Y ++ Q)) := by rw [← List.append_assoc (Y.take p), List.take_append_drop]
    rw [eD] at h3
    rw [hm]
    refine Ev.step (fun k => ?_) (by simpa using h3)
    rw [s27_0, if_neg (by omega)]
  induction n with
  | zero =>
    intro p q i j h hpq hq ei ej h1 h2
    have : p = q := by omega
    subst this
    exact stop p i j hq ei (by omega) h1 h2
  | succ n ih =>
    intro p q i j h hpq hq ei ej h1 h2
    rcases Nat.eq_or_lt_of_le hpq with heq | hlt
    · subst heq
      exact stop p i j hq ei (by omega) h1 h2
    · obtain ⟨c, hc⟩ : ∃ c : Nat, hf i j = P.length + 1 + c ∧ p ≤ c ∧ c < q := ⟨((i + j) / 2 - P.length - 1).toNat, by
        unfold hf
        rw [half (by omega) (by omega) (by omega)]
        omega⟩
      have r1 : rd_T27 (P ++ (x :: (Y ++ Q))) (hf i j) = Y[c]'(by omega) := by
        have := rdI (P ++ [x]) Y Q (i := hf i j) c (by omega) (by rw [hc.1]; simp)
        simpa using this
      have r2 : rd_T27 (P ++ (x :: (Y ++ Q))) x1 = x := rdA _ _ _ e1
      have hl : (P ++ (x :: (Y ++ Q))).length = P.length + Y.length + Q.length + 1 := by simp; omega
      by_cases hlx : ltR (Y[c]'(by omega)) x = true
      · have hcm := (cmpI_lt _ _).2 hlx
        have h3 := ih (c + 1) q (hf i j + 1) j (by omega) (by omega) hq (by rw [hc.1]; omega) ej (fun t ht htc => by
          rcases Nat.lt_or_ge t c with h | h
          · have := srt_get hs h (by omega)
            rcases hcase : ltR Y[t] x with _ | _
            · exact absurd (weakR.ntrans x Y[t] (Y[c]'(by omega)) hcase this) (by rw [hlx]; decide)
            · rfl
          · have : t = c := by omega
            subst this
            exact hlx) h2
        have h4 := Ev.bind (cmp_ev (Y[c]'(by omega)) x) (f := fun k t => if t < 0 then victim_Run_27.l0 k (P ++ (x :: (Y ++ Q))) x1 (hf i j + 1) j else victim_Run_27.l0 k (P ++ (x :: (Y ++ Q))) x1 i (hf i j)) (r := P ++ (mrg ltR [x] Y ++ Q)) (by simp only [hcm, if_true]; exact h3)
        refine Ev.step (fun k => ?_) h4
        rw [s27_0, hl, if_pos (by omega), if_pos (by omega), if_pos (by omega), if_pos (by omega), if_pos (by omega), r1, r2, w64 (x := hf i j + 1) (by omega) (by omega)]
      · have hcm : ¬ cmpI (Y[c]'(by omega)) x < 0 := fun h => hlx ((cmpI_lt _ _).1 h)
        rw [Bool.not_eq_true] at hlx
        have h3 := ih p c i (hf i j) (by omega) (by omega) (by omega) ei (by rw [hc.1]) h1 (fun t ht htc => by
          rcases Nat.eq_or_lt_of_le htc with h | h
          · subst h
            exact hlx
          · exact weakR.ntrans _ _ _ hlx (srt_get hs h ht))
        have h4 := Ev.bind (cmp_ev (Y[c]'(by omega)) x) (f := fun k t => if t < 0 then victim_Run_27.l0 k (P ++ (x :: (Y ++ Q))) x1 (hf i j + 1) j else victim_Run_27.l0 k (P ++ (x :: (Y ++ Q))) x1 i (hf i j)) (r := P ++ (mrg ltR [x] Y ++ Q)) (by simp only [hcm, if_false]; exact h3)
        refine Ev.step (fun k => ?_) h4
        rw [s27_0, hl, if_pos (by omega), if_pos (by omega), if_pos (by omega), if_pos (by omega), if_pos (by omega), r1, r2, w64 (x := hf i j + 1) (by omega) (by omega)]
theorem s27_2 (k : Nat) (D : List S27) (x2 i j : Int) : victim_Run_27.l2 (k + 1) D x2 i j = if i < j then (if 0 ≤ x2 then (if x2 < (D.length : Int) then (if 0 ≤ hf i j then (if hf i j < (D.length : Int) then ((cmpF k (rd_T27 D x2) (rd_T27 D (hf i j))).bind fun t => if t < 0 then victim_Run_27.l2 k D x2 i (hf i j) else victim_Run_27.l2 k D x2 (wrap64 (hf i j + 1)) j) else none) else none) else none) else none) else victim_Run_27.l3 k D i x2 := by simp only [victim_Run_27.l2]
theorem s27_3 (k : Nat) (D : List S27) (x14 x17 : Int) : victim_Run_27.l3 (k + 1) D x14 x17 = if x17 > x14 then (if 0 ≤ wrap64 (x17 - 1) then (if wrap64 (x17 - 1) < (D.length : Int) then (if 0 ≤ x17 then (if x17 < (D.length : Int) then victim_Run_27.l3 k ((D.set x17.toNat (rd_T27 D (wrap64 (x17 - 1)))).set (wrap64 (x17 - 1)).toNat (rd_T27 D x17)) x14 (wrap64 (x17 - 1)) else none) else none) else none) else none) else some D := by simp only [victim_Run_27.l3]
theorem l27_3 (y : S27) : ∀ (n : Nat) (X2 P Q : List S27) (x14 x17 : Int), X2.length = n → x14 = P.length → x17 = P.length + X2.length → (P ++ (X2 ++ (y :: Q))).length ≤ BIG →
    Ev (fun k => victim_Run_27.l3 k (P ++ (X2 ++ (y :: Q))) x14 x17) (P ++ (y :: (X2 ++ Q))) := by
  intro n
  induction n with
  | zero =>
    intro X2 P Q x14 x17 hn e14 e17 hb
    have : X2 = [] := List.eq_nil_of_length_eq_zero hn
    subst this
    refine Ev.step (f := fun _ => some _) (fun k => ?_) (Ev.now _)
    rw [s27_3, if_neg (by simp only [List.length_nil] at e17; omega)]
    simp
  | succ n ih =>
    intro X2 P Q x14 x17 hn e14 e17 hb
    obtain ⟨X2', z, rfl⟩ : ∃ X2' z, X2 = X2' ++ [z] := by
      cases hL : X2.reverse with
      | nil => rw [List.reverse_eq_nil_iff] at hL; rw [hL] at hn; cases hn
      | cons y t => exact ⟨t.reverse, y, by rw [← List.reverse_reverse X2, hL, List.reverse_cons]⟩
    have hb' := hb
    simp only [List.length_append, List.length_cons, List.length_nil, BIG] at hb' e17 hn
    have h1 := ih X2' P (z :: Q) x14 (x17 - 1) (by omega) e14 (by omega) (by simp only [List.length_append, List.length_cons, BIG]; omega)
    have eD : P ++ ((X2' ++ [z]) ++ (y :: Q)) = (P ++ X2') ++ z :: ([] ++ y :: Q) := by simp
    have i1 : wrap64 (x17 - 1) = ((P ++ X2').length : Int) := by rw [w64 (by omega) (by omega)]; simp; omega
    have i2 : x17 = ((P ++ X2').length : Int) + 1 + (([] : List S27).length : Int) := by simp; omega
    have r1 : rd_T27 ((P ++ X2') ++ z :: ([] ++ y :: Q)) (wrap64 (x17 - 1)) = z := rdA _ _ _ i1
    have r2 : rd_T27 ((P ++ X2') ++ z :: ([] ++ y :: Q)) x17 = y := by
      have := rdA ((P ++ X2') ++ [z]) Q y (i := x17) (by simp; omega)
      simpa using this
    have hl : ((P ++ X2') ++ z :: ([] ++ y :: Q)).length = P.length + X2'.length + Q.length + 2 := by simp; omega
    refine Ev.step (fun k => ?_) (by simpa using h1)
    rw [eD, s27_3, hl, if_pos (by omega), if_pos (by simp only [List.length_append] at i1; omega), if_pos (by simp only [List.length_append] at i1; omega), if_pos (by omega), if_pos (by omega), r1, r2, swp' _ _ _ _ _ i1 i2, w64 (x := x17 - 1) (by omega) (by omega)]
    simp
theorem l27_2 (P Q : List S27) (y : S27) (X : List S27) (x2 : Int) (e2 : x2 = P.length + X.length) (hs : Srt ltR X) (hb : (P ++ (X ++ (y :: Q))).length ≤ BIG) : ∀ (n p q : Nat) (i j : Int), q - p ≤ n → p ≤ q → q ≤ X.length → i = P.length + p → j = P.length + q →
    (∀ t (h : t < X.length), t < p → ltR y X[t] = false) → (∀ t (h : t < X.length), q ≤ t → ltR y X[t] = true) →
    Ev (fun k => victim_Run_27.l2 k (P ++ (X ++ (y :: Q))) x2 i j) (P ++ (mrg ltR X [y] ++ Q)) := by
  intro n
  have hb' := hb
  simp only [List.length_append, List.length_cons, BIG] at hb'
  have stop : ∀ (p : Nat) (i j : Int), p ≤ X.length → i = P.length + p → j = i → (∀ t (h : t < X.length), t < p → ltR y X[t] = false) → (∀ t (h : t < X.length), p ≤ t → ltR y X[t] = true) → Ev (fun k => victim_Run_27.l2 k (P ++ (X ++ (y :: Q))) x2 i j) (P ++ (mrg ltR X [y] ++ Q)) := by
    intro p i j hp ei ej h1 h2
    have hm : mrg ltR X [y] = X.take p ++ y :: X.drop p := by
      have hX : X = X.take p ++ X.drop p := (List.take_append_drop _ _).symm
      have g1 : ∀ z ∈ X.take p, ∀ w ∈ [y], ltR w z = false := fun z hz w hw => by
        rcases List.mem_singleton.1 hw with rfl
        obtain ⟨t, ht, rfl⟩ := List.getElem_of_mem hz
        rw [List.getElem_take]
        rw [List.length_take] at ht
        exact h1 t (by omega) (by omega)
      have g2 : ∀ w ∈ [y], ∀ z ∈ X.drop p, ltR w z = true := fun w hw z hz => by
        rcases List.mem_singleton.1 hw with rfl
        obtain ⟨t, ht, rfl⟩ := List.getElem_of_mem hz
        rw [List.getElem_drop]
        rw [List.length_drop] at ht
        exact h2 (p + t) (by omega) (by omega)
      have a1 := mrg_split (lt := ltR) _ (X.take p) (X.drop p) [] [y] (Nat.le_refl _) g1 (fun _ h => by cases h)
      have a2 := mrg_split (lt := ltR) _ [] (X.drop p) [y] [] (Nat.le_refl _) (fun _ h => by cases h) g2
      simp only [List.nil_append, List.append_nil, mrg_nil_l, mrg_nil_r] at a1 a2
      rw [← hX] at a1
      rw [a1, a2]
      rfl
    have h3 := l27_3 y _ (X.drop p) (P ++ X.take p) Q i x2 rfl (by simp [ei]; omega) (by simp [e2]; omega) (by simp only [List.length_append, List.length_cons, List.length_take, List.length_drop, BIG]; omega)
    have eD : (P ++ X.take p) ++ (X.drop p ++ (y :: Q)) = P ++ (X ++ (y :: Q)) := by rw [List.append_assoc, ← List.append_assoc (X.take p), List.take_append_drop]
    rw [eD] at h3
    rw [hm]
    refine Ev.step (fun k => ?_) (by simpa using h3)
    rw [s27_2, if_neg (by omega)]
  induction n with
  | zero =>
    intro p q i j h hpq hq ei ej h1 h2
    have : p = q := by omega
    subst this
    exact stop p i j hq ei (by omega) h1 h2
  | succ n ih =>
    intro p q i j h hpq hq ei ej h1 h2
    rcases Nat.eq_or_lt_of_le hpq with heq | hlt
    · subst heq
      exact stop p i j hq ei (by omega) h1 h2
    · obtain ⟨c, hc⟩ : ∃ c : Nat, hf i j = P.length + c ∧ p ≤ c ∧ c < q := ⟨((i + j) / 2 - P.length).toNat, by
        unfold hf
        rw [half (by omega) (by omega) (by omega)]
        omega⟩
      have r1 : rd_T27 (P ++ (X ++ (y :: Q))) (hf i j) = X[c]'(by omega) := rdI P X (y :: Q) c (by omega) hc.1
      have r2 : rd_T27 (P ++ (X ++ (y :: Q))) x2 = y := by
        have := rdA (P ++ X) Q y (i := x2) (by simp; omega)
        simpa using this
      have hl : (P ++ (X ++ (y :: Q))).length = P.length + X.length + Q.length + 1 := by simp; omega
      by_cases hlx : ltR y (X[c]'(by omega)) = true
      · have hcm := (cmpI_lt _ _).2 hlx
        have h3 := ih p c i (hf i j) (by omega) (by omega) (by omega) ei (by rw [hc.1]) h1 (fun t ht htc => by
          rcases Nat.eq_or_lt_of_le htc with h | h
          · subst h
            exact hlx
          · have := srt_get hs h ht
            rcases hcase : ltR y X[t] with _ | _
            · exact absurd (weakR.ntrans (X[c]'(by omega)) X[t] y this hcase) (by rw [hlx]; decide)
            · rfl)
        have h4 := Ev.bind (cmp_ev y (X[c]'(by omega))) (f := fun k t => if t < 0 then victim_Run_27.l2 k (P ++ (X ++ (y :: Q))) x2 i (hf i j) else victim_Run_27.l2 k (P ++ (X ++ (y :: Q))) x2 (hf i j + 1) j) (r := P ++ (mrg ltR X [y] ++ Q)) (by simp only [hcm, if_true]; exact h3)
        refine Ev.step (fun k => ?_) h4
        rw [s27_2, hl, if_pos (by omega), if_pos (by omega), if_pos (by omega), if_pos (by omega), if_pos (by omega), r1, r2, w64 (x := hf i j + 1) (by omega) (by omega)]
      · have hcm : ¬ cmpI y (X[c]'(by omega)) < 0 := fun h => hlx ((cmpI_lt _ _).1 h)
        rw [Bool.not_eq_true] at hlx
        have h3 := ih (c + 1) q (hf i j + 1) j (by omega) (by omega) hq (by rw [hc.1]; omega) ej (fun t ht htc => by
          rcases Nat.lt_or_ge t c with h | h
          · exact weakR.ntrans _ _ _ (srt_get hs h (by omega)) hlx
          · have : t = c := by omega
            subst this
            exact hlx) h2
        have h4 := Ev.bind (cmp_ev y (X[c]'(by omega))) (f := fun k t => if t < 0 then victim_Run_27.l2 k (P ++ (X ++ (y :: Q))) x2 i (hf i j) else victim_Run_27.l2 k (P ++ (X ++ (y :: Q))) x2 (hf i j + 1) j) (r := P ++ (mrg ltR X [y] ++ Q)) (by simp only [hcm, if_false]; exact h3)
        refine Ev.step (fun k => ?_) h4
        rw [s27_2, hl, if_pos (by omega), if_pos (by omega), if_pos (by omega), if_pos (by omega), if_pos (by omega), r1, r2, w64 (x := hf i j + 1) (by omega) (by omega)]
end Go.Proofs.Ytnegchdooapoiaa.VicS
