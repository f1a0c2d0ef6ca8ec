/- The plain law of VictimTells: what the code computes answers true at every input. No condition. -/
import Derived.Test.YtnegchdooapoiaaVicL
import Derived.Test.YtnegchdooapoiaaPVictimTellsx
namespace Go.Proofs.Ytnegchdooapoiaa.Pure
open Go.RowKit Go.Proofs.Ytnegchdooapoiaa.PVic Go.Proofs.Ytnegchdooapoiaa.VicP Go.Proofs.Ytnegchdooapoiaa.VicS Go.Proofs.Ytnegchdooapoiaa.VicT Go.Proofs.Ytnegchdooapoiaa.VicL Go.Proofs.YtnegchdooapoiaaW.PrintWords Go.Proofs.YtnegchdooapoiaaW.PrintMore
def c28 (x : S27) : S28 := ⟨x.f0, x.f1, x.f2, x.f3, x.f4⟩
theorem rd28 (L : List S27) (i : Int) : rd_T28 (L.map c28) i = c28 (rd_T27 L i) := by
  unfold rd_T28 rd_T27
  rw [List.getD_eq_getElem?_getD, List.getD_eq_getElem?_getD, List.getElem?_map]
  cases L[i.toNat]? <;> rfl
theorem ahead_f (a b : S27) : millwrightref12_ahead.f (c28 a).f0 (c28 a).f1 (c28 a).f2 (c28 a).f3 (c28 a).f4 (c28 b).f0 (c28 b).f1 (c28 b).f2 (c28 b).f3 (c28 b).f4 = some (ltR a b) := by
  unfold millwrightref12_ahead.f c28 ltR
  simp only
  by_cases h1 : a.f1 = b.f1
  · rw [if_pos h1]
    by_cases h4 : a.f4 = b.f4
    · rw [if_pos h4]
      simp [h1, h4]
    · rw [if_neg h4]
      have : ¬ b.f4 = a.f4 := fun h => h4 h.symm
      simp [h1, this]
  · rw [if_neg h1]
    simp [h1]
/-- Those that are left: not gone, and may be stopped. -/
def remn (n : Nd) : List S27 → List Bool → List S27
  | x :: L, g :: G => if g = true ∨ sp n x = true then remn n L G else x :: remn n L G
  | _, _ => []
theorem remn_append (n : Nd) : ∀ (A : List S27) (GA : List Bool) (B : List S27) (GB : List Bool), A.length = GA.length → remn n (A ++ B) (GA ++ GB) = remn n A GA ++ remn n B GB
  | [], [], _, _, _ => rfl
  | x :: A, g :: GA, B, GB, h => by
    simp only [List.length_cons, Nat.succ.injEq] at h
    simp only [List.cons_append, remn, remn_append n A GA B GB h]
    split <;> rfl
  | [], _ :: _, _, _, h => by simp at h
  | _ :: _, [], _, _, h => by simp at h
theorem remn_all (n : Nd) : ∀ L : List S27, remn n L (List.replicate L.length false) = L.filter (fun x => !sp n x)
  | [] => rfl
  | x :: L => by
    rw [List.length_cons, List.replicate_succ, remn, List.filter_cons, remn_all n L]
    rcases sp n x with _ | _ <;> simp
theorem fold_head (h : S27) : ∀ (B S : List S27), (∀ x ∈ B, ltR x h = false) → B.foldl (fun acc x => ins ltR x acc) (h :: S) = h :: B.foldl (fun acc x => ins ltR x acc) S
  | [], S, _ => rfl
  | b :: B, S, hb => by
    rw [List.foldl_cons, List.foldl_cons, ins_cons, if_neg (by rw [hb b List.mem_cons_self]; decide)]
    exact fold_head h B _ (fun x hx => hb x (List.mem_cons_of_mem _ hx))
/-- The first one that nobody is ahead of begins the sorted row. -/
theorem isort_first (A : List S27) (h : S27) (B : List S27) (h1 : ∀ x ∈ A, ltR h x = true) (h2 : ∀ x ∈ B, ltR x h = false) : isort ltR (A ++ h :: B) = h :: isort ltR (A ++ B) := by
  unfold isort
  rw [List.foldl_append, List.foldl_cons, List.foldl_append]
  have e : ins ltR h (A.foldl (fun acc x => ins ltR x acc) []) = h :: A.foldl (fun acc x => ins ltR x acc) [] := by
    have := ins_split (lt := ltR) (x := h) (L1 := []) (L2 := A.foldl (fun acc x => ins ltR x acc) []) (fun _ hz => by cases hz) (fun z hz => h1 z ((isort_mem A).1 hz))
    simpa using this
  rw [e, fold_head h B _ h2]
/-- What is the best one so far. -/
def Best (n : Nd) (A : List S27) (GA : List Bool) (b : Int) : Prop :=
  (b = -1 ∧ remn n A GA = []) ∨ ∃ P h Q GP GQ, A = P ++ h :: Q ∧ GA = GP ++ false :: GQ ∧ P.length = GP.length ∧ b = P.length ∧ sp n h = false ∧ (∀ x ∈ remn n P GP, ltR h x = true) ∧ (∀ x ∈ remn n Q GQ, ltR x h = false)
theorem memory28 (a : Int) : millwrightref12_memory.f a = some (memF a) := rfl
theorem sR0 (k : Nat) (D : List S28) (x1 x2 x5 : Int) (out : List Int) (room : Int) (c : Bool) (G : List Bool) : millwrightref12_Choose.l0 (k + 1) D x1 x2 x5 out room c G = if c = true then millwrightref12_Choose.j1 k D x1 x2 x5 out room G (decide (memF x2 > room)) else millwrightref12_Choose.j1 k D x1 x2 x5 out room G true := by
  simp only [millwrightref12_Choose.l0, memory28, Option.bind_some]
theorem sRj (k : Nat) (D : List S28) (x1 x2 x5 : Int) (out : List Int) (room : Int) (G : List Bool) (c : Bool) : millwrightref12_Choose.j1 (k + 1) D x1 x2 x5 out room G c = if c = true then millwrightref12_Choose.l1 k D x1 x2 x5 out room G (-1) 0 else some (out, true) := by
  simp only [millwrightref12_Choose.j1]
theorem sR1 (k : Nat) (D : List S27) (x1 x2 x5 : Int) (out : List Int) (room : Int) (G : List Bool) (b i : Int) : millwrightref12_Choose.l1 (k + 1) (D.map c28) x1 x2 x5 out room G b i = if i < (D.length : Int) then (if 0 ≤ i then (if i < (G.length : Int) then (if rdOf false G i = true then millwrightref12_Choose.j3 k (D.map c28) x1 x2 x5 out room G b i true else (if (rd_T27 D i).f1 ≥ x1 then millwrightref12_Choose.j3 k (D.map c28) x1 x2 x5 out room G b i true else millwrightref12_Choose.j3 k (D.map c28) x1 x2 x5 out room G b i (decide ((rd_T27 D i).f3 ≥ x5)))) else none) else none) else (if b < 0 then some ([], false) else (if 0 ≤ b then (if b < (G.length : Int) then (if b < (D.length : Int) then (if out.length < 17592186044416 then millwrightref12_Choose.l0 k (D.map c28) x1 x2 x5 (out ++ [(rd_T27 D b).f0]) (wrap64 (room + memF (rd_T27 D b).f2)) true (G.set b.toNat true) else none) else none) else none) else none)) := by
  simp only [millwrightref12_Choose.l1, rd28, List.length_map, memory28, Option.bind_some]
  rfl
theorem sR3 (k : Nat) (D : List S27) (x1 x2 x5 : Int) (out : List Int) (room : Int) (G : List Bool) (b i : Int) (c : Bool) : millwrightref12_Choose.j3 (k + 1) (D.map c28) x1 x2 x5 out room G b i c = if c = true then millwrightref12_Choose.l1 k (D.map c28) x1 x2 x5 out room G b (wrap64 (i + 1)) else (if b < 0 then millwrightref12_Choose.l1 k (D.map c28) x1 x2 x5 out room G i (wrap64 (i + 1)) else (if 0 ≤ i then (if i < (D.length : Int) then (if 0 ≤ b then (if b < (D.length : Int) then (if ltR (rd_T27 D i) (rd_T27 D b) = true then millwrightref12_Choose.l1 k (D.map c28) x1 x2 x5 out room G i (wrap64 (i + 1)) else millwrightref12_Choose.l1 k (D.map c28) x1 x2 x5 out room G b (wrap64 (i + 1))) else none) else none) else none) else none)) := by
  simp only [millwrightref12_Choose.j3, rd28, List.length_map, ahead_f, Option.bind_some]
theorem rdOf_at (U W : List Bool) (a : Bool) {i : Int} (hi : i = U.length) : rdOf false (U ++ a :: W) i = a := by
  subst hi
  unfold rdOf
  rw [Int.toNat_natCast, List.getD_eq_getElem?_getD, List.getElem?_append_right (Nat.le_refl _), Nat.sub_self]
  rfl
/-- The search for the best one. -/
theorem ref_l1 (n : Nd) (m : Int) (out : List Int) (room : Int) (D : List S27) (G : List Bool) (hD : D.length ≤ 1073741824) (r : List Int × Bool)
    (hfin : ∀ b, Best n D G b → Ev (fun k => if b < 0 then some ([], false) else (if 0 ≤ b then (if b < (G.length : Int) then (if b < (D.length : Int) then (if out.length < 17592186044416 then millwrightref12_Choose.l0 k (D.map c28) n.p m n.q (out ++ [(rd_T27 D b).f0]) (wrap64 (room + memF (rd_T27 D b).f2)) true (G.set b.toNat true) else none) else none) else none) else none)) r) :
    ∀ (B A : List S27) (GA GB : List Bool) (b i : Int), D = A ++ B → G = GA ++ GB → A.length = GA.length → B.length = GB.length → i = A.length → Best n A GA b → Ev (fun k => millwrightref12_Choose.l1 k (D.map c28) n.p m n.q out room G b i) r
  | [], A, GA, GB, b, i, eD, eG, hA, hB, ei, hb => by
    have : GB = [] := List.eq_nil_of_length_eq_zero hB.symm
    subst this
    simp only [List.append_nil] at eD eG
    subst eD
    subst eG
    refine Ev.step (fun k => ?_) (hfin b hb)
    rw [sR1, if_neg (by omega)]
  | x :: B, A, GA, GB, b, i, eD, eG, hA, hB, ei, hb => by
    cases GB with
    | nil => simp at hB
    | cons g GB =>
      simp only [List.length_cons, Nat.succ.injEq] at hB
      have hDl : D.length = A.length + B.length + 1 := by rw [eD]; simp; omega
      have hGl : G.length = A.length + B.length + 1 := by rw [eG]; simp; omega
      have r1 : rd_T27 D i = x := by rw [eD]; exact rdA _ _ _ ei
      have r2 : rdOf false G i = g := by rw [eG]; exact rdOf_at _ _ _ (by omega)
      have wi : wrap64 (i + 1) = i + 1 := w64 (by omega) (by omega)
      have ih := fun b' (hb' : Best n (A ++ [x]) (GA ++ [g]) b') => ref_l1 n m out room D G hD r hfin B (A ++ [x]) (GA ++ [g]) GB b' (i + 1) (by rw [eD]; simp) (by rw [eG]; simp) (by simp [hA]) hB (by simp; omega) hb'
      have e1 : remn n (A ++ [x]) (GA ++ [g]) = remn n A GA ++ remn n [x] [g] := remn_append n A GA [x] [g] hA
      have hskip : (g = true ∨ sp n x = true) → Best n (A ++ [x]) (GA ++ [g]) b := by
        intro hg
        rcases hb with ⟨hb1, hb2⟩ | ⟨P, h, Q, GP, GQ, q1, q2, q3, q4, q5, q6, q7⟩
        · refine Or.inl ⟨hb1, ?_⟩
          rw [e1, hb2, remn, if_pos hg]
          rfl
        · refine Or.inr ⟨P, h, Q ++ [x], GP, GQ ++ [g], by rw [q1]; simp, by rw [q2]; simp, q3, q4, q5, q6, fun y hy => ?_⟩
          have hQ : Q.length = GQ.length := by
            rw [q1, q2] at hA
            simp only [List.length_append, List.length_cons] at hA
            omega
          rw [remn_append n Q GQ [x] [g] hQ, remn, if_pos hg] at hy
          simp only [remn, List.append_nil] at hy
          exact q7 y hy
      have key : Ev (fun k => millwrightref12_Choose.j3 k (D.map c28) n.p m n.q out room G b i (g || sp n x)) r := by
        by_cases hg : g = true ∨ sp n x = true
        · refine Ev.step (fun k => ?_) (ih b (hskip hg))
          rw [sR3, if_pos (by simpa using hg), wi]
        · have hg1 : g = false := by rcases g with _ | _ <;> simp_all
          have hg2 : sp n x = false := by rcases h : sp n x with _ | _ <;> simp_all
          subst hg1
          rcases hb with ⟨hb1, hb2⟩ | ⟨P, h, Q, GP, GQ, q1, q2, q3, q4, q5, q6, q7⟩
          · refine Ev.step (fun k => ?_) (ih i (Or.inr ⟨A, x, [], GA, [], rfl, rfl, hA, ei, hg2, fun y hy => (by rw [hb2] at hy; cases hy), fun y hy => (by cases hy)⟩))
            rw [sR3, if_neg (by simpa using hg), if_pos (by omega), wi]
          · have r3 : rd_T27 D b = h := by rw [eD, q1, List.append_assoc]; exact rdA _ _ _ q4
            have hPl : A.length = P.length + Q.length + 1 := by rw [q1]; simp; omega
            have hQ : Q.length = GQ.length := by
              rw [q1, q2] at hA
              simp only [List.length_append, List.length_cons] at hA
              omega
            rcases hl : ltR x h with _ | _
            · refine Ev.step (fun k => ?_) (ih b (Or.inr ⟨P, h, Q ++ [x], GP, GQ ++ [false], by rw [q1]; simp, by rw [q2]; simp, q3, q4, q5, q6, fun y hy => by
                rw [remn_append n Q GQ [x] [false] hQ, remn, if_neg hg] at hy
                rcases List.mem_append.1 hy with hy | hy
                · exact q7 y hy
                · simp only [remn, List.mem_singleton] at hy
                  subst hy
                  exact hl⟩))
              rw [sR3, if_neg (by simpa using hg), if_neg (by omega), if_pos (by omega), if_pos (by omega), if_pos (by omega), if_pos (by omega), r1, r3, hl, if_neg (by decide), wi]
            · refine Ev.step (fun k => ?_) (ih i (Or.inr ⟨A, x, [], GA, [], rfl, rfl, hA, ei, hg2, fun y hy => by
                rw [q1, q2, remn_append n P GP (h :: Q) (false :: GQ) q3, remn, if_neg (by simp [q5])] at hy
                rcases List.mem_append.1 hy with hy | hy
                · exact weakR.trans _ _ _ hl (q6 y hy)
                · rcases List.mem_cons.1 hy with rfl | hy
                  · exact hl
                  · have h7 := q7 y hy
                    rcases hc : ltR x y with _ | _
                    · have := weakR.ntrans _ _ _ h7 hc
                      rw [hl] at this
                      exact this.symm
                    · rfl, fun y hy => by cases hy⟩))
              rw [sR3, if_neg (by simpa using hg), if_neg (by omega), if_pos (by omega), if_pos (by omega), if_pos (by omega), if_pos (by omega), r1, r3, hl, if_pos rfl, wi]
      have hsp : sp n x = (decide (x.f1 ≥ n.p) || decide (x.f3 ≥ n.q)) := rfl
      refine Ev.step (fun k => ?_) key
      rw [sR1, hDl, hGl, if_pos (by omega), if_pos (by omega), if_pos (by omega), r1, r2, hsp]
      rcases g with _ | _
      · rw [if_neg (by decide)]
        by_cases h1 : x.f1 ≥ n.p
        · rw [if_pos h1, decide_eq_true h1, Bool.true_or, Bool.or_true]
        · rw [if_neg h1, decide_eq_false h1, Bool.false_or, Bool.false_or]
      · rw [if_pos rfl, Bool.true_or]
/-- The choice, one by one. -/
theorem ref_l0 (n : Nd) (m : Int) (D : List S27) (hD : D.length ≤ 1048576) : ∀ (N : Nat) (G : List Bool) (out : List Int) (room slots : Int) (c : Bool), (remn n D G).length ≤ N → D.length = G.length → (c = true ↔ slots ≥ 1) → 0 ≤ slots → 0 ≤ room → room + 1048576 * N ≤ 4611686018427387904 → out.length + N ≤ 1048576 →
    Ev (fun k => millwrightref12_Choose.l0 k (D.map c28) n.p m n.q out room c G) (chs (memF m) (isort ltR (remn n D G)) out room slots) := by
  intro N
  induction N with
  | zero =>
    intro G out room slots c hN hG hc hs hr hrm ho
    have hnil : remn n D G = [] := List.eq_nil_of_length_eq_zero (by omega)
    rw [hnil, isort_nil, chs]
    have hstop : Ev (fun k => millwrightref12_Choose.l1 k (D.map c28) n.p m n.q out room G (-1) 0) ([], false) := by
      refine ref_l1 n m out room D G (by omega) ([], false) (fun b hb => ?_) D [] [] G (-1) 0 rfl rfl rfl hG rfl (Or.inl ⟨rfl, rfl⟩)
      rcases hb with ⟨rfl, _⟩ | ⟨P, h, Q, GP, GQ, q1, q2, q3, q4, q5, q6, q7⟩
      · exact ⟨0, fun k _ => rfl⟩
      · rw [q1, q2, remn_append n P GP _ _ q3, remn, if_neg (by simp [q5])] at hnil
        simp at hnil
    by_cases hh : has (memF m) room slots = true
    · rw [if_pos hh]
      unfold has at hh
      simp only [Bool.and_eq_true, decide_eq_true_eq] at hh
      refine Ev.step (f := fun k => millwrightref12_Choose.j1 k (D.map c28) n.p m n.q out room G false) (fun k => ?_) (Ev.step (f := fun _ => some _) (fun k => ?_) (Ev.now _))
      · rw [sR0, if_pos (hc.2 hh.1), decide_eq_false (by omega)]
      · rw [sRj, if_neg (by decide)]
    · rw [if_neg hh]
      refine Ev.step (f := fun k => millwrightref12_Choose.j1 k (D.map c28) n.p m n.q out room G true) (fun k => ?_) (Ev.step (fun k => ?_) hstop)
      · unfold has at hh
        simp only [Bool.and_eq_true, decide_eq_true_eq, not_and] at hh
        rw [sR0]
        by_cases hct : c = true
        · rw [if_pos hct, decide_eq_true (by have := hh (hc.1 hct); omega)]
        · rw [if_neg hct]
      · rw [sRj, if_pos rfl]
  | succ N ih =>
    intro G out room slots c hN hG hc hs hr hrm ho
    by_cases hh : has (memF m) room slots = true
    · have hres : chs (memF m) (isort ltR (remn n D G)) out room slots = (out, true) := by
        cases isort ltR (remn n D G) with
        | nil => rw [chs, if_pos hh]
        | cons x R => rw [chs, if_pos hh]
      rw [hres]
      unfold has at hh
      simp only [Bool.and_eq_true, decide_eq_true_eq] at hh
      refine Ev.step (f := fun k => millwrightref12_Choose.j1 k (D.map c28) n.p m n.q out room G false) (fun k => ?_) (Ev.step (f := fun _ => some _) (fun k => ?_) (Ev.now _))
      · rw [sR0, if_pos (hc.2 hh.1), decide_eq_false (by omega)]
      · rw [sRj, if_neg (by decide)]
    · have hgo : Ev (fun k => millwrightref12_Choose.l1 k (D.map c28) n.p m n.q out room G (-1) 0) (chs (memF m) (isort ltR (remn n D G)) out room slots) := by
        refine ref_l1 n m out room D G (by omega) _ (fun b hb => ?_) D [] [] G (-1) 0 rfl rfl rfl hG rfl (Or.inl ⟨rfl, rfl⟩)
        rcases hb with ⟨rfl, hnil⟩ | ⟨P, h, Q, GP, GQ, q1, q2, q3, q4, q5, q6, q7⟩
        · rw [hnil, isort_nil, chs, if_neg hh]
          exact ⟨0, fun k _ => rfl⟩
        · have hQ : Q.length = GQ.length := by
            rw [q1, q2] at hG
            simp only [List.length_append, List.length_cons] at hG
            omega
          have e1 : remn n D G = remn n P GP ++ h :: remn n Q GQ := by
            rw [q1, q2, remn_append n P GP _ _ q3, remn, if_neg (by simp [q5])]
          have e2 : G.set b.toNat true = GP ++ true :: GQ := by
            rw [q2, q4, Int.toNat_natCast, q3, List.set_append_right _ _ (Nat.le_refl _), Nat.sub_self]
            rfl
          have e3 : remn n D (GP ++ true :: GQ) = remn n P GP ++ remn n Q GQ := by
            rw [q1, remn_append n P GP _ _ q3, remn, if_pos (Or.inl rfl)]
          have r3 : rd_T27 D b = h := by rw [q1]; exact rdA _ _ _ q4
          have hDl : D.length = P.length + Q.length + 1 := by rw [q1]; simp; omega
          have hm := memF_in h.f2
          rw [e1] at hN
          simp only [List.length_append, List.length_cons] at hN
          have h5 := ih (GP ++ true :: GQ) (out ++ [h.f0]) (room + memF h.f2) (slots + 1) true (by rw [e3, List.length_append]; omega) (by rw [hDl]; simp; omega) ⟨fun _ => by omega, fun _ => rfl⟩ (by omega) (by omega) (by omega) (by simp; omega)
          rw [e3] at h5
          rw [e1, isort_first _ _ _ q6 q7, chs, if_neg hh]
          refine Ev.congr (fun k => ?_) h5
          rw [if_neg (by omega), if_pos (by omega), if_pos (by omega), if_pos (by omega), if_pos (by omega), e2, r3, w64 (by omega) (by omega)]
      refine Ev.step (f := fun k => millwrightref12_Choose.j1 k (D.map c28) n.p m n.q out room G true) (fun k => ?_) (Ev.step (fun k => ?_) hgo)
      · unfold has at hh
        simp only [Bool.and_eq_true, decide_eq_true_eq, not_and] at hh
        rw [sR0]
        by_cases hct : c = true
        · rw [if_pos hct, decide_eq_true (by have := hh (hc.1 hct); omega)]
        · rw [if_neg hct]
      · rw [sRj, if_pos rfl]
theorem ref_ev (L : List S27) (p m f s q : Int) (hL : L.length ≤ 30) : Ev (fun k => millwrightref12_Choose.f k (L.map c28) p m f s q) (chooseS L p m f s q) := by
  have hf := memF_in f
  have h2 : 0 ≤ mn (mx s 0) 1 ∧ (decide (s ≥ 1) = true ↔ mn (mx s 0) 1 ≥ 1) := by
    rw [decide_eq_true_eq]
    unfold mn mx
    repeat' split <;> omega
  have hfl := List.length_filter_le (fun x => !sp ⟨p, memF m, q⟩ x) L
  have hall : remn ⟨p, memF m, q⟩ L (List.replicate L.length false) = L.filter (fun x => !sp ⟨p, memF m, q⟩ x) := remn_all _ _
  have h := ref_l0 ⟨p, memF m, q⟩ m L (by omega) L.length (List.replicate L.length false) [] (memF f) (mn (mx s 0) 1) (decide (s ≥ 1)) (by rw [hall]; exact hfl) (by simp) h2.2 h2.1 hf.1 (by omega) (by simp only [List.length_nil]; omega)
  rw [hall] at h
  unfold millwrightref12_Choose.f
  refine Ev.congr (fun k => ?_) h
  rw [memory28, Option.bind_some, List.length_map, if_pos (by omega), if_pos (by rw [Int.toNat_natCast]; omega), Int.toNat_natCast]
theorem sT0 (k : Nat) (L : List S27) (x1 x2 x3 x4 x5 : Int) (h : Bool) (acc : List S27) (i : Int) : millwrightlaw12_VictimTells.l0 (k + 1) L x1 x2 x3 x4 x5 h (acc.map c28) i = if i < (L.length : Int) then (if 0 ≤ i then (if acc.length < 3518437208883 then millwrightlaw12_VictimTells.l0 k L x1 x2 x3 x4 x5 h ((acc ++ [rd_T27 L i]).map c28) (wrap64 (i + 1)) else none) else none) else ((millwrightlaw12_few.f L).bind fun t => ((victim_Choose.f k L x1 x2 x3 x4 x5).bind fun u => ((millwrightref12_Choose.f k (acc.map c28) x1 x2 x3 x4 x5).bind fun v => millwrightlaw12_VictimTells.l1 k L h t u.1 u.2 v.1 v.2 0))) := by
  simp only [millwrightlaw12_VictimTells.l0, List.length_map, List.map_append]
  rfl
theorem tells_l1 (L : List S27) (A : List Int × Bool) (hA : A.1.length ≤ BIG) (hL : L.length ≤ 30) : ∀ (d : Nat) (i : Int), ((L.length : Int) - i).toNat ≤ d → 0 ≤ i → i ≤ L.length → Ev (fun k => millwrightlaw12_VictimTells.l1 k L true L A.1 A.2 A.1 A.2 i) true := by
  intro d
  have stop : Ev (fun k => millwrightlaw12_VictimTells.l1 k L true L A.1 A.2 A.1 A.2 (L.length : Int)) true := by
    have h := Ev.bind (same_ev A.1 A.1 hA) (f := fun _ t => if t = true then some (A.2 == A.2) else some false) (r := true) ⟨0, fun _ _ => by simp⟩
    refine Ev.step (fun k => ?_) h
    simp only [millwrightlaw12_VictimTells.l1]
    rw [if_neg (by omega)]
    simp
  induction d with
  | zero =>
    intro i h h0 hi
    have : i = (L.length : Int) := by omega
    subst this
    exact stop
  | succ d ih =>
    intro i h h0 hi
    rcases Int.lt_or_le i L.length with hlt | hge
    · refine Ev.step (fun k => ?_) (ih (i + 1) (by omega) (by omega) (by omega))
      simp only [millwrightlaw12_VictimTells.l1]
      rw [if_pos hlt, if_pos h0, if_pos hlt, if_neg (by simp), w64 (by omega) (by omega)]
    · have : i = (L.length : Int) := by omega
      subst this
      exact stop
theorem tells_l0 (L : List S27) (p m f s q : Int) (hL : L.length ≤ 30) : ∀ (R A : List S27) (i : Int), L = A ++ R → i = A.length → Ev (fun k => millwrightlaw12_VictimTells.l0 k L p m f s q true (A.map c28) i) true
  | [], A, i, eL, ei => by
    simp only [List.append_nil] at eL
    subst eL
    have hcl := choose_len L p m f s q
    have h := Ev.bind (choose_ev L p m f s q (by omega)) (f := fun k u => ((millwrightref12_Choose.f k (L.map c28) p m f s q).bind fun v => millwrightlaw12_VictimTells.l1 k L true L u.1 u.2 v.1 v.2 0)) (r := true) (Ev.bind (ref_ev L p m f s q hL) (tells_l1 L (chooseS L p m f s q) (by simp only [BIG]; omega) hL _ 0 (Nat.le_refl _) (Int.le_refl _) (by omega)))
    refine Ev.step (fun k => ?_) h
    rw [sT0, if_neg (by omega), few_f, Option.bind_some, List.take_of_length_le hL]
  | x :: R, A, i, eL, ei => by
    have hl : L.length = A.length + R.length + 1 := by rw [eL]; simp; omega
    have r1 : rd_T27 L i = x := by rw [eL]; exact rdA _ _ _ ei
    have h := tells_l0 L p m f s q hL R (A ++ [x]) (i + 1) (by rw [eL]; simp) (by simp; omega)
    refine Ev.step (fun k => ?_) h
    rw [sT0, hl, if_pos (by omega), if_pos (by omega), if_pos (by omega), r1, w64 (by omega) (by omega)]
theorem VictimTells (l0 : List S27) (a1 a2 a3 a4 a5 : Int) : ∃ k, millwrightlaw12_VictimTells.f k l0 a1 a2 a3 a4 a5 = some true := by
  refine Ev.rounds ?_
  unfold millwrightlaw12_VictimTells.f
  refine Ev.bind shown_ev ?_
  simp only [few_f, Option.bind_some]
  exact tells_l0 (l0.take 30) a1 a2 a3 a4 a5 (few_len l0) (l0.take 30) [] 0 rfl rfl
end Go.Proofs.Ytnegchdooapoiaa.Pure
