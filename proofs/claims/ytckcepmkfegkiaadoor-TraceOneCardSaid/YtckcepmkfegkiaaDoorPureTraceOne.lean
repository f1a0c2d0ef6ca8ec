/- The plain law of TraceOne: what the code computes answers true at every input. No condition. -/
import Derived.Test.YtckcepmkfegkiaaDoorPTraceOnex2
import Derived.Test.YtckcepmkfegkiaaDoorTrN
import Derived.Test.YtckcepmkfegkiaaDoorBits
namespace Go.Proofs.YtckcepmkfegkiaaDoor.Pure
open Go.RowKit Go.Proofs.YtckcepmkfegkiaaDoor.PTraceOne Go.Proofs.YtckcepmkfegkiaaDoorW.PrintWords Go.Proofs.YtckcepmkfegkiaaDoorW.PrintLast TrN
set_option linter.unusedVariables false
set_option linter.unusedSimpArgs false
def un (e : TrS.Ev) : S42 := ⟨e.kind, e.task, e.slot, e.epoch, e.tick⟩
theorem un_g (l : List TrS.Ev) : (l.map un).map trace_Audit.g2 = l := by
  rw [List.map_map]
  exact List.map_id l
theorem kind_in (l2 : List Int) (hl : ∀ x ∈ l2, (Lit.int .u8 x).wf = true) (i : Nat) (hi : (i : Int) < l2.length) :
    0 ≤ Int.tmod (rd l2 i) 5 ∧ Int.tmod (rd l2 i) 5 < 5 ∧ (rd [2, 3, 4, 5, 6] (Int.tmod (rd l2 i) 5) = 2 ∨ rd [2, 3, 4, 5, 6] (Int.tmod (rd l2 i) 5) = 3 ∨ rd [2, 3, 4, 5, 6] (Int.tmod (rd l2 i) 5) = 4 ∨ rd [2, 3, 4, 5, 6] (Int.tmod (rd l2 i) 5) = 5 ∨ rd [2, 3, 4, 5, 6] (Int.tmod (rd l2 i) 5) = 6) := by
  have h0 : 0 ≤ rd l2 i := by
    have hm : rd l2 i ∈ l2 := by
      have : (rd l2 (i : Int)) = l2[i]'(by omega) := by
        show l2.getD (i : Int).toNat 0 = _
        rw [Int.toNat_natCast, List.getD_eq_getElem?_getD, List.getElem?_eq_getElem (by omega)]
        rfl
      rw [this]
      exact List.getElem_mem _
    have := hl _ hm
    have h2 : (decide (0 ≤ rd l2 i) && decide (rd l2 i ≤ 255)) = true := this
    simp at h2
    exact h2.1
  rw [Bits.tmod_pos _ _ h0]
  have h1 : 0 ≤ rd l2 i % 5 := by omega
  have h2 : rd l2 i % 5 < 5 := by omega
  refine ⟨h1, h2, ?_⟩
  generalize rd l2 i % 5 = z at h1 h2
  have : z = 0 ∨ z = 1 ∨ z = 2 ∨ z = 3 ∨ z = 4 := by omega
  rcases this with rfl | rfl | rfl | rfl | rfl
  · exact .inl rfl
  · exact .inr (.inl rfl)
  · exact .inr (.inr (.inl rfl))
  · exact .inr (.inr (.inr (.inl rfl)))
  · exact .inr (.inr (.inr (.inr rfl)))
abbrev K_ (l2 : List Int) (n : Nat) : List Int := (List.range n).map fun i : Nat => rd [2, 3, 4, 5, 6] (Int.tmod (rd l2 (i : Int)) 5)
abbrev S_ (tr pr : Int) (l2 : List Int) (n : Nat) : St := (K_ l2 n).foldl (TrN.step tr pr) st0
theorem S_succ (tr pr : Int) (l2 : List Int) (n : Nat) : S_ tr pr l2 (n + 1) = TrN.step tr pr (S_ tr pr l2 n) (rd [2, 3, 4, 5, 6] (Int.tmod (rd l2 n) 5)) := by
  unfold S_ K_
  rw [List.range_succ, List.map_append, List.foldl_append]
  rfl
theorem gen_succ (l2 : List Int) (n : Nat) : gen (K_ l2 (n + 1)) 0 = gen (K_ l2 n) 0 ++ [stN n, enN (rd [2, 3, 4, 5, 6] (Int.tmod (rd l2 n) 5)) n] := by
  unfold K_
  rw [List.range_succ, List.map_append, List.map_singleton, gen_app, List.length_map, List.length_range, Nat.zero_add]
theorem S_i (tr pr : Int) (l2 : List Int) : ∀ n, (S_ tr pr l2 n).i = n
  | 0 => rfl
  | n + 1 => by rw [S_succ]; show (S_ tr pr l2 n).i + 1 = _; rw [S_i tr pr l2 n]
theorem lt_big (a : Nat) (h : a ≤ 1000) : a < 3518437208883 := Nat.lt_of_le_of_lt h (by decide)
theorem cast0 (n : Nat) : ((2 * n : Nat) : Int) = 2 * (n : Int) := by omega
theorem cast1 (n : Nat) : ((2 * n + 1 : Nat) : Int) = 2 * (n : Int) + 1 := by omega
theorem fuel1 (r : Nat) : 9 * (r + 1) + 2 = (9 * r + 9) + 1 + 1 := by omega
theorem bound1 (n : Nat) (h : n < 60) : 2 * n ≤ 1000 := by omega
theorem bound2 (n : Nat) (h : n < 60) : 2 * n + 1 ≤ 1000 := by omega
theorem mono1 (k : Nat) (a b : Int) (l : List Int) (c : Bool) (m : List Int) (L : List S42) (f s : Int) (d : Bool) (x y z q0 q1 q2 q3 q4 q5 q6 q7 q8 q9 : Int) (h : millwrightlaw19_TraceOne.l0 k a b l c m L f s d x y z q0 q1 q2 q3 q4 q5 q6 q7 q8 q9 = some true) : millwrightlaw19_TraceOne.l0 (k + 1) a b l c m L f s d x y z q0 q1 q2 q3 q4 q5 q6 q7 q8 q9 = some true :=
  (millwrightlaw19_TraceOne.mono_l k).1 _ _ _ _ _ _ _ _ _ _ _ _ _ _ _ _ _ _ _ _ _ _ _ h
theorem loop (tr pr : Int) (l2 : List Int) (hl : ∀ x ∈ l2, (Lit.int .u8 x).wf = true) : ∀ (r n : Nat), n + r = min l2.length 60 →
    millwrightlaw19_TraceOne.l0 (9 * r + 2) tr pr l2 true [2, 3, 4, 5, 6] ((gen (K_ l2 n) 0).map un) (S_ tr pr l2 n).f (S_ tr pr l2 n).s (S_ tr pr l2 n).d (S_ tr pr l2 n).at_ (S_ tr pr l2 n).w n 5 1 0 0 tr pr 2 0 0 0 = some true
  | 0, n, hr => by
    have hfin : ∀ bb, bb = false → millwrightlaw19_TraceOne.j1 1 tr pr l2 true [2, 3, 4, 5, 6] ((gen (K_ l2 n) 0).map un) (S_ tr pr l2 n).f (S_ tr pr l2 n).s (S_ tr pr l2 n).d (S_ tr pr l2 n).at_ (S_ tr pr l2 n).w n bb 5 1 0 0 tr pr 2 0 0 0 = some true := by
      intro bb hbb
      subst hbb
      have hk : ∀ k ∈ K_ l2 n, k = 2 ∨ k = 3 ∨ k = 4 ∨ k = 5 ∨ k = 6 := by
        intro k hk
        obtain ⟨i, hi, rfl⟩ := List.mem_map.1 hk
        have := List.mem_range.1 hi
        exact (kind_in l2 hl i (by omega)).2.2
      have hlen : (K_ l2 n).length = n := by unfold K_; rw [List.length_map, List.length_range]
      rw [millwrightlaw19_TraceOne.j1, if_neg (by simp), trace_Audit.f, if_pos ⟨by simp, by rw [List.length_map, gen_len, hlen]; omega⟩, un_g, Option.bind_some]
      have h1 : ([(⟨5, 1⟩ : S50)]).map trace_Audit.g1 = [⟨5, 1⟩] := rfl
      have := audit_one tr pr (K_ l2 n) hk
      unfold cN at this
      rw [h1, this, if_pos rfl, if_pos rfl, beq_self_eq_true]
    rw [millwrightlaw19_TraceOne.l0]
    by_cases h : (n : Int) < (l2.length : Int)
    · rw [if_pos h]
      exact hfin _ (decide_eq_false (by omega))
    · rw [if_neg h]
      exact hfin _ rfl
  | r + 1, n, hr => by
    have h1 : (n : Int) < (l2.length : Int) := by omega
    have h2 : (n : Int) < 60 := by omega
    have hn60 : n < 60 := by omega
    obtain ⟨c1, c2, c3⟩ := kind_in l2 hl n h1
    have ih := loop tr pr l2 hl r (n + 1) (by omega)
    rw [S_succ, gen_succ, List.map_append] at ih
    have hlen : (K_ l2 n).length = n := by unfold K_; rw [List.length_map, List.length_range]
    have hL : ((gen (K_ l2 n) 0).map un).length = 2 * n := by rw [List.length_map, gen_len, hlen]
    have hi := S_i tr pr l2 n
    generalize hS : S_ tr pr l2 n = x at ih hi
    generalize hk : rd [2, 3, 4, 5, 6] (Int.tmod (rd l2 n) 5) = k at ih c3
    generalize (gen (K_ l2 n) 0).map un = L at ih hL
    have HK := Aside0.mk hk
    have HC1 := Aside0.mk c1
    have HC2 := Aside0.mk c2
    have HH1 := Aside0.mk h1
    have HH2 := Aside0.mk h2
    have HIH := Aside0.mk ih
    clear hk c1 c2 h1 h2 ih hS hr hlen hl
    have hw0 : wrap64 (2 * (n : Int)) = 2 * n := Bits.wrap64_in (by omega) (by omega)
    have hw1 : wrap64 (2 * (n : Int) + 2) = 2 * n + 2 := Bits.wrap64_in (by omega) (by omega)
    have hw2 : wrap64 ((n : Int) + 1) = ((n + 1 : Nat) : Int) := by rw [Bits.wrap64_in (by omega) (by omega)]; omega
    have hu : (([stN n, enN k n] : List TrS.Ev).map un) = [⟨1, 0, 0, n, 2 * n⟩, ⟨k, 0, 0, n, 2 * n + 2⟩] := rfl
    have ih := HIH.out
    rw [hu] at ih
    replace HIH := Aside0.mk ih
    clear ih
    -- the last part
    have p7 : ∀ (at_ w : Int) (f s : Int) (d : Bool), (at_, w) = aw3 tr pr x k → f = x.f → s = x.s → d = x.d →
        millwrightlaw19_TraceOne.j7 (9 * r + 4) tr pr l2 true [2, 3, 4, 5, 6] (L ++ [⟨1, 0, 0, n, 2 * n⟩]) f s d at_ w n k 5 1 0 0 tr pr 2 0 0 0 = some true := by
      intro at_ w f s d haw hf hs hd
      subst hf hs hd
      have ih2 : ∀ f s d, f = (TrN.step tr pr x k).f → s = (TrN.step tr pr x k).s → d = (TrN.step tr pr x k).d → millwrightlaw19_TraceOne.l0 (9 * r + 2) tr pr l2 true [2, 3, 4, 5, 6] (L ++ [⟨1, 0, 0, n, 2 * n⟩] ++ [⟨k, 0, 0, n, 2 * n + 2⟩]) f s d at_ w ((n + 1 : Nat) : Int) 5 1 0 0 tr pr 2 0 0 0 = some true := by
        intro f s d hf hs hd
        subst hf hs hd
        rw [List.append_assoc]
        have e1 : (TrN.step tr pr x k).at_ = at_ := (congrArg Prod.fst haw).symm
        have e2 : (TrN.step tr pr x k).w = w := (congrArg Prod.snd haw).symm
        rw [← e1, ← e2]
        exact HIH.out
      have ih3 : ∀ f s d, f = (TrN.step tr pr x k).f → s = (TrN.step tr pr x k).s → d = (TrN.step tr pr x k).d → millwrightlaw19_TraceOne.l0 (9 * r + 3) tr pr l2 true [2, 3, 4, 5, 6] (L ++ [⟨1, 0, 0, n, 2 * n⟩] ++ [⟨k, 0, 0, n, 2 * n + 2⟩]) f s d at_ w ((n + 1 : Nat) : Int) 5 1 0 0 tr pr 2 0 0 0 = some true :=
        fun f s d hf hs hd => mono1 _ _ _ _ _ _ _ _ _ _ _ _ _ _ _ _ _ _ _ _ _ _ _ (ih2 f s d hf hs hd)
      have hc7 : (L ++ [(⟨1, 0, 0, (n : Int), 2 * (n : Int)⟩ : S42)]).length < 3518437208883 := by rw [List.length_append, hL, List.length_singleton]; exact lt_big _ (bound2 n hn60)
      rw [millwrightlaw19_TraceOne.j7, if_pos hc7, Option.bind_some, hw0, hw1, hw2]
      rcases c3 with rfl | rfl | rfl | rfl | rfl
      · rw [if_pos rfl]
        exact ih3 _ _ _ rfl rfl rfl
      · rw [if_neg (by decide), if_pos rfl, millwrightlaw19_TraceOne.j8, if_pos (show ((3 : Int) == 3) = true from rfl), hw2]
        exact ih2 _ _ _ rfl rfl rfl
      · rw [if_neg (by decide), if_neg (by decide), millwrightlaw19_TraceOne.j8, if_neg (by decide), if_neg (by decide), hw2]
        exact ih2 _ _ _ rfl rfl rfl
      · rw [if_neg (by decide), if_neg (by decide), millwrightlaw19_TraceOne.j8, if_pos (show ((5 : Int) == 5) = true from rfl), hw2]
        exact ih2 _ _ _ rfl rfl rfl
      · rw [if_neg (by decide), if_neg (by decide), millwrightlaw19_TraceOne.j8, if_neg (by decide), if_pos rfl, hw2]
        exact ih2 _ _ _ rfl rfl rfl
    have p6 : ∀ (at_ w : Int) (bb : Bool), (at_, w) = aw2 tr x → bb = decide (at_ < 0 ∧ k = 6 ∧ x.s ≥ pr) →
        millwrightlaw19_TraceOne.j6 (9 * r + 5) tr pr l2 true [2, 3, 4, 5, 6] (L ++ [⟨1, 0, 0, n, 2 * n⟩]) x.f x.s x.d at_ w n k bb 5 1 0 0 tr pr 2 0 0 0 = some true := by
      intro at_ w bb haw hb
      have hl1 : (((L ++ [⟨1, 0, 0, n, 2 * n⟩] : List S42)).length : Int) = 2 * (x.i : Int) + 1 := by rw [List.length_append, hL, hi, List.length_singleton]; exact cast1 n
      rw [millwrightlaw19_TraceOne.j6, hl1]
      by_cases hc : at_ < 0 ∧ k = 6 ∧ x.s ≥ pr
      · rw [if_pos (by rw [hb]; exact decide_eq_true hc)]
        refine p7 _ _ _ _ _ ?_ rfl rfl rfl
        unfold aw3
        rw [if_pos (by rw [← haw]; exact hc)]
      · rw [if_neg (by rw [hb, decide_eq_false hc]; simp)]
        refine p7 _ _ _ _ _ ?_ rfl rfl rfl
        unfold aw3
        rw [if_neg (by rw [← haw]; exact hc), haw]
    have p5 : ∀ (at_ w : Int), (at_, w) = aw2 tr x →
        millwrightlaw19_TraceOne.j5 (9 * r + 6) tr pr l2 true [2, 3, 4, 5, 6] L x.f x.s x.d at_ w n k 5 1 0 0 tr pr 2 0 0 0 = some true := by
      intro at_ w haw
      have hc5 : L.length < 3518437208883 := by rw [hL]; exact lt_big _ (bound1 n hn60)
      rw [millwrightlaw19_TraceOne.j5, if_pos hc5, Option.bind_some, hw0]
      by_cases ha : at_ < 0
      · rw [if_pos ha]
        by_cases h6 : k = 6
        · rw [if_pos h6]
          exact p6 _ _ _ haw (by simp only [ha, h6, true_and])
        · rw [if_neg h6]
          exact p6 _ _ _ haw (by simp [h6])
      · rw [if_neg ha]
        exact p6 _ _ _ haw (by simp [ha])
    have p4 : ∀ (at_ w : Int) (bb : Bool), (at_, w) = aw1 x → bb = decide (at_ < 0 ∧ x.f ≥ tr) →
        millwrightlaw19_TraceOne.j4 (9 * r + 7) tr pr l2 true [2, 3, 4, 5, 6] L x.f x.s x.d at_ w n k bb 5 1 0 0 tr pr 2 0 0 0 = some true := by
      intro at_ w bb haw hb
      have hl1 : ((L.length : Nat) : Int) = 2 * (x.i : Int) := by rw [hL, hi]; exact cast0 n
      rw [millwrightlaw19_TraceOne.j4, hl1]
      by_cases hc : at_ < 0 ∧ x.f ≥ tr
      · rw [if_pos (by rw [hb]; exact decide_eq_true hc)]
        refine p5 _ _ ?_
        unfold aw2
        rw [if_pos (by rw [← haw]; exact hc)]
      · rw [if_neg (by rw [hb, decide_eq_false hc]; simp)]
        refine p5 _ _ ?_
        unfold aw2
        rw [if_neg (by rw [← haw]; exact hc), haw]
    have p3 : ∀ (at_ w : Int), (at_, w) = aw1 x →
        millwrightlaw19_TraceOne.j3 (9 * r + 8) tr pr l2 true [2, 3, 4, 5, 6] L x.f x.s x.d at_ w n k 5 1 0 0 tr pr 2 0 0 0 = some true := by
      intro at_ w haw
      rw [millwrightlaw19_TraceOne.j3]
      by_cases ha : at_ < 0
      · rw [if_pos ha]
        exact p4 _ _ _ haw (by simp only [ha, true_and])
      · rw [if_neg ha]
        exact p4 _ _ _ haw (by simp [ha])
    have p2 : ∀ (bb : Bool), bb = decide (x.at_ < 0 ∧ x.d = true) →
        millwrightlaw19_TraceOne.j2 (9 * r + 9) tr pr l2 true [2, 3, 4, 5, 6] L x.f x.s x.d x.at_ x.w n k bb 5 1 0 0 tr pr 2 0 0 0 = some true := by
      intro bb hb
      have hl1 : ((L.length : Nat) : Int) = 2 * (x.i : Int) := by rw [hL, hi]; exact cast0 n
      rw [millwrightlaw19_TraceOne.j2, hl1]
      by_cases hc : x.at_ < 0 ∧ x.d = true
      · rw [if_pos (by rw [hb]; exact decide_eq_true hc)]
        refine p3 _ _ ?_
        unfold aw1
        rw [if_pos hc]
      · rw [if_neg (by rw [hb, decide_eq_false hc]; simp)]
        refine p3 _ _ ?_
        unfold aw1
        rw [if_neg hc]
    rw [fuel1, millwrightlaw19_TraceOne.l0, if_pos HH1.out, millwrightlaw19_TraceOne.j1, if_pos (decide_eq_true HH2.out), if_pos (Int.natCast_nonneg n), if_pos HH1.out, if_pos HC1.out, if_pos (show Int.tmod (rd l2 n) 5 < (([2, 3, 4, 5, 6] : List Int).length : Int) from HC2.out), HK.out]
    by_cases ha : x.at_ < 0
    · rw [if_pos ha]
      exact p2 _ (by simp [ha])
    · rw [if_neg ha]
      exact p2 _ (by simp [ha])
theorem TraceOne : millwrightlaw19_TraceOne.Pure := by
  intro a0 a1 l2 _ _ _ _ hl
  refine ⟨9 * (min l2.length 60) + 2, ?_⟩
  rw [millwrightlaw19_TraceOne.f, millwrightlaw19_shown.f, Option.bind_some]
  exact loop _ _ l2 hl (min l2.length 60) 0 (by simp)
end Go.Proofs.YtckcepmkfegkiaaDoor.Pure
