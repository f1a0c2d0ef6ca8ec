/- Plain: the audit of a trace of one task that begins, and ends, over and over. No condition. -/
import Derived.Test.YtckcepmkfegkiaaDoorTrU2
namespace Go.Proofs.YtckcepmkfegkiaaDoor.TrN
open Go.RowKit TrS TrU
def cN (tr pr : Int) : Cf := ⟨5, 1, 0, 0, tr, pr, 2, 0, 0, 0⟩
def stN (i : Nat) : Ev := ⟨1, 0, 0, i, 2 * i⟩
def enN (k : Int) (i : Nat) : Ev := ⟨k, 0, 0, i, 2 * i + 2⟩
def gen : List Int → Nat → List Ev
  | [], _ => []
  | k :: ks, i => stN i :: enN k i :: gen ks (i + 1)
theorem gen_app : ∀ (K : List Int) (k : Int) (i : Nat), gen (K ++ [k]) i = gen K i ++ [stN (i + K.length), enN k (i + K.length)]
  | [], k, i => rfl
  | x :: K, k, i => by
    rw [List.cons_append, gen, gen_app K k (i + 1), gen, List.length_cons, show i + 1 + K.length = i + (K.length + 1) by omega]
    rfl
theorem gen_len : ∀ (K : List Int) (i : Nat), (gen K i).length = 2 * K.length
  | [], _ => rfl
  | k :: K, i => by rw [gen, List.length_cons, List.length_cons, gen_len K, List.length_cons]; omega
structure St where
  i : Nat
  f : Int
  s : Int
  d : Bool
  at_ : Int
  w : Int
def aw1 (x : St) : Int × Int := if x.at_ < 0 ∧ x.d = true then (2 * (x.i : Int), 8) else (x.at_, x.w)
def aw2 (tr : Int) (x : St) : Int × Int := if (aw1 x).1 < 0 ∧ x.f ≥ tr then (2 * (x.i : Int), 3) else aw1 x
def aw3 (tr pr : Int) (x : St) (k : Int) : Int × Int := if (aw2 tr x).1 < 0 ∧ k = 6 ∧ x.s ≥ pr then (2 * (x.i : Int) + 1, 3) else aw2 tr x
def step (tr pr : Int) (x : St) (k : Int) : St :=
  ⟨x.i + 1, if k = 3 ∨ k = 5 then wrap (x.f + 1) else x.f, if k = 6 then wrap (x.s + 1) else x.s, if k = 2 then true else x.d, (aw3 tr pr x k).1, (aw3 tr pr x k).2⟩
def st0 : St := ⟨0, 0, 0, false, -1, 0⟩
theorem stay (tr pr : Int) : ∀ (K : List Int) (x : St), 0 ≤ x.at_ → (K.foldl (step tr pr) x).at_ = x.at_ ∧ (K.foldl (step tr pr) x).w = x.w
  | [], _, _ => ⟨rfl, rfl⟩
  | k :: K, x, h => by
    have h1 : aw1 x = (x.at_, x.w) := by unfold aw1; rw [if_neg (by omega)]
    have h2 : aw2 tr x = (x.at_, x.w) := by unfold aw2; rw [h1, if_neg (by show ¬ (x.at_ < 0 ∧ _); omega)]
    have h3 : aw3 tr pr x k = (x.at_, x.w) := by unfold aw3; rw [h2, if_neg (by show ¬ (x.at_ < 0 ∧ _); omega)]
    have := stay tr pr K (step tr pr x k) (by unfold step; rw [h3]; exact h)
    rw [List.foldl_cons, this.1, this.2]
    unfold step
    rw [h3]
    exact ⟨rfl, rfl⟩
structure TkOK (T : Tk) (x : St) : Prop where
  live : T.live = false
  done : T.done = x.d
  fails : T.fails = x.f
  stops : T.stops = x.s
  epoch : T.begun = true → T.start.epoch < x.i
theorem get1 (T : Tk) : getT [T] 0 = T := rfl
theorem set1 (T U : Tk) : setT [T] 0 U = [U] := rfl
theorem takes_st (tr pr : Int) (x : St) (T : Tk) (t : Int) (h : TkOK T x) (ht : t ≤ 2 * (x.i : Int)) :
    takes (cN tr pr) [⟨5, 1⟩] [T] t (stN x.i) = if x.d = true then ((8 : Int), [T], 2 * (x.i : Int)) else if x.f ≥ tr then (3, [T], 2 * (x.i : Int)) else (0, [{ T with live := true, begun := true, start := stN x.i }], 2 * (x.i : Int)) := by
  have hmay : may (cN tr pr) [T].length t (stN x.i) = true := by
    simp only [may, known, inB, stN, cN, Bool.and_eq_true]
    exact ⟨⟨rfl, rfl⟩, ⟨rfl, rfl, rfl, rfl⟩, decide_eq_true (by omega), decide_eq_true ht⟩
  have hs : starts (cN tr pr) [⟨5, 1⟩] [T] (stN x.i) = if x.d = true then (8, [T]) else if x.f ≥ tr then (3, [T]) else (0, [{ T with live := true, begun := true, start := stN x.i }]) := by
    have hheld : held [T] (stN x.i).slot = false := by unfold held; simp [h.live]
    have hfit : fits (cN tr pr) [⟨5, 1⟩] [T] (stN x.i).task = true := by
      unfold fits
      have : fitsL [⟨5, 1⟩] [T] 0 (mxI (getK [⟨5, 1⟩] (stN x.i).task).mem 0) = some 5 := by
        rw [fitsL, if_neg (by rw [h.live]; simp)]
        rfl
      rw [this]
      rfl
    unfold starts
    have k1 : (stN x.i).task = 0 := rfl
    rw [hfit, hheld, k1, get1, h.live, h.done, h.fails, set1]
    cases hd : x.d with
    | true => simp
    | false =>
      simp only [Bool.or_self, Bool.false_eq_true, if_false]
      have k2 : (cN tr pr).tries = tr := rfl
      rw [k2]
      by_cases hf : x.f ≥ tr
      · rw [if_pos hf, if_pos hf]
      · rw [if_neg hf, if_neg hf, if_neg, if_pos True.intro, ← hd, ← h.done, ← h.fails]
        rintro ⟨hb, he⟩
        have := h.epoch hb
        have h2 : (x.i : Int) ≤ T.start.epoch := he
        omega
  unfold takes
  rw [if_pos hmay, if_pos (show (stN x.i).kind = 1 from rfl), hs]
  split
  · rfl
  · split <;> rfl
theorem takes_en (tr pr : Int) (x : St) (T : Tk) (k : Int) (hk : k = 2 ∨ k = 3 ∨ k = 4 ∨ k = 5 ∨ k = 6) (h : TkOK T x) :
    takes (cN tr pr) [⟨5, 1⟩] [{ T with live := true, begun := true, start := stN x.i }] (2 * (x.i : Int)) (enN k x.i) = if k = 6 ∧ x.s ≥ pr then ((3 : Int), [{ T with live := false, begun := true, start := stN x.i }], 2 * (x.i : Int) + 2)
      else (0, [{ T with live := false, begun := true, start := stN x.i, done := if k = 2 then true else x.d, fails := if k = 3 ∨ k = 5 then wrap (x.f + 1) else x.f, stops := if k = 6 then wrap (x.s + 1) else x.s }], 2 * (x.i : Int) + 2) := by
  have hmay : may (cN tr pr) [{ T with live := true, begun := true, start := stN x.i }].length (2 * (x.i : Int)) (enN k x.i) = true := by
    simp only [may, known, inB, enN, cN, Bool.and_eq_true]
    exact ⟨⟨decide_eq_true (by omega), decide_eq_true (by omega)⟩, ⟨rfl, rfl, rfl, rfl⟩, decide_eq_true (by omega), decide_eq_true (by omega)⟩
  obtain ⟨l, bg, d, s, f, p⟩ := T
  obtain ⟨h1, h2, h3, h4, h5⟩ := h
  simp only at h1 h2 h3 h4
  subst h1 h2 h3 h4
  have hkk : (enN k x.i).kind = k := rfl
  unfold takes
  rw [if_pos hmay, if_neg (by rw [hkk]; omega)]
  have k1 : (enN k x.i).task = 0 := rfl
  rw [k1, get1, if_pos (by simp [enN, stN])]
  unfold ends off
  rw [hkk, k1, get1]
  have hw : wrap ((enN k x.i).tick - (stN x.i).tick) = 2 := by
    show wrap (2 * (x.i : Int) + 2 - 2 * (x.i : Int)) = 2
    rw [show 2 * (x.i : Int) + 2 - 2 * (x.i : Int) = 2 by omega]
    exact wrap_id 2 (by decide) (by decide)
  have hpr : (cN tr pr).preempts = pr := rfl
  rcases hk with rfl | rfl | rfl | rfl | rfl
  · simp [setT, getT, enN]
  · simp [setT, getT, enN]
  · simp [setT, getT, enN]
  · rw [hw]
    simp [setT, getT, enN, cN]
  · rw [hpr]
    by_cases hs : x.s ≥ pr
    · simp [setT, getT, enN, hs]
    · simp [setT, getT, enN, hs]
theorem run (tr pr : Int) : ∀ (K : List Int) (x : St) (T : Tk) (t : Int), (∀ k ∈ K, k = 2 ∨ k = 3 ∨ k = 4 ∨ k = 5 ∨ k = 6) → TkOK T x → t ≤ 2 * (x.i : Int) → x.at_ = -1 → x.w = 0 →
    auditL (cN tr pr) [⟨5, 1⟩] (gen K x.i) [T] t (2 * (x.i : Int)) = ((K.foldl (step tr pr) x).at_, (K.foldl (step tr pr) x).w)
  | [], x, T, t, _, _, _, ha, hw => by
    rw [gen, auditL, List.foldl_nil, ha, hw]
  | k :: K, x, T, t, hk, h, ht, ha, hw => by
    rw [gen, auditL, takes_st tr pr x T t h ht, List.foldl_cons]
    by_cases hd : x.d = true
    · rw [if_pos hd, if_neg (by simp)]
      have h1 : aw1 x = (2 * (x.i : Int), 8) := by unfold aw1; rw [if_pos ⟨by omega, hd⟩]
      have h2 : aw2 tr x = (2 * (x.i : Int), 8) := by unfold aw2; rw [h1, if_neg (by show ¬ (2 * (x.i : Int) < 0 ∧ _); omega)]
      have h3 : aw3 tr pr x k = (2 * (x.i : Int), 8) := by unfold aw3; rw [h2, if_neg (by show ¬ (2 * (x.i : Int) < 0 ∧ _); omega)]
      have := stay tr pr K (step tr pr x k) (by unfold step; rw [h3]; show 0 ≤ 2 * (x.i : Int); omega)
      rw [this.1, this.2]
      unfold step
      rw [h3]
    · rw [if_neg hd]
      have h1 : aw1 x = (-1, 0) := by unfold aw1; rw [if_neg (fun z => hd z.2), ha, hw]
      by_cases hf : x.f ≥ tr
      · rw [if_pos hf, if_neg (by simp)]
        have h2 : aw2 tr x = (2 * (x.i : Int), 3) := by unfold aw2; rw [h1, if_pos ⟨by decide, hf⟩]
        have h3 : aw3 tr pr x k = (2 * (x.i : Int), 3) := by unfold aw3; rw [h2, if_neg (by show ¬ (2 * (x.i : Int) < 0 ∧ _); omega)]
        have := stay tr pr K (step tr pr x k) (by unfold step; rw [h3]; show 0 ≤ 2 * (x.i : Int); omega)
        rw [this.1, this.2]
        unfold step
        rw [h3]
      · rw [if_neg hf, if_pos rfl]
        have h2 : aw2 tr x = (-1, 0) := by unfold aw2; rw [h1, if_neg (fun z => hf z.2)]
        have hkk := hk k (.head _)
        show auditL (cN tr pr) [⟨5, 1⟩] (enN k x.i :: gen K (x.i + 1)) [{ T with live := true, begun := true, start := stN x.i }] (2 * (x.i : Int)) (2 * (x.i : Int) + 1) = _
        rw [auditL, takes_en tr pr x T k hkk h]
        by_cases hs : k = 6 ∧ x.s ≥ pr
        · rw [if_pos hs, if_neg (by simp)]
          have h3 : aw3 tr pr x k = (2 * (x.i : Int) + 1, 3) := by unfold aw3; rw [h2, if_pos ⟨by decide, hs.1, hs.2⟩]
          have := stay tr pr K (step tr pr x k) (by unfold step; rw [h3]; show 0 ≤ 2 * (x.i : Int) + 1; omega)
          rw [this.1, this.2]
          unfold step
          rw [h3]
        · rw [if_neg hs, if_pos rfl]
          have h3 : aw3 tr pr x k = (-1, 0) := by unfold aw3; rw [h2, if_neg (fun z => hs z.2)]
          have hi : ((step tr pr x k).i : Int) = x.i + 1 := by show ((x.i + 1 : Nat) : Int) = _; omega
          have := run tr pr K (step tr pr x k) { T with live := false, begun := true, start := stN x.i, done := if k = 2 then true else x.d, fails := if k = 3 ∨ k = 5 then wrap (x.f + 1) else x.f, stops := if k = 6 then wrap (x.s + 1) else x.s } (2 * (x.i : Int) + 2)
            (fun y hy => hk y (.tail _ hy)) ⟨rfl, rfl, rfl, rfl, fun _ => by show (x.i : Int) < _; omega⟩ (by rw [hi]; omega) (by unfold step; rw [h3]) (by unfold step; rw [h3])
          rw [← this, hi]
          show auditL _ _ (gen K (x.i + 1)) _ _ (2 * (x.i : Int) + 1 + 1) = auditL _ _ (gen K (x.i + 1)) _ _ (2 * ((x.i : Int) + 1))
          rw [show 2 * (x.i : Int) + 1 + 1 = 2 * ((x.i : Int) + 1) by omega]
theorem audit_one (tr pr : Int) (K : List Int) (hk : ∀ k ∈ K, k = 2 ∨ k = 3 ∨ k = 4 ∨ k = 5 ∨ k = 6) : audit (cN tr pr) [⟨5, 1⟩] (gen K 0) = ((K.foldl (step tr pr) st0).at_, (K.foldl (step tr pr) st0).w) :=
  run tr pr K st0 tk0 0 hk ⟨rfl, rfl, rfl, rfl, fun h => by cases h⟩ (by decide) rfl rfl
end Go.Proofs.YtckcepmkfegkiaaDoor.TrN
