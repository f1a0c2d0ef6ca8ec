/- The plain law of VictimOrder: what the code computes answers true at every input. No condition. -/
import Derived.Test.YtnegchdooapoiaaVicL
import Derived.Test.YtnegchdooapoiaaPVictimOrderx
namespace Go.Proofs.Ytnegchdooapoiaa.Pure
open Go.RowKit Go.Proofs.Ytnegchdooapoiaa.PVic Go.Proofs.Ytnegchdooapoiaa.VicP Go.Proofs.Ytnegchdooapoiaa.VicS Go.Proofs.Ytnegchdooapoiaa.VicT Go.Proofs.Ytnegchdooapoiaa.VicL Go.Proofs.YtnegchdooapoiaaW.PrintWords Go.Proofs.YtnegchdooapoiaaW.PrintMore
def rel (i : Nat) (x : S27) : S27 := ⟨((7 * i % 31 : Nat) : Int), x.f1, x.f2, x.f3, x.f4⟩
theorem sOrd (k : Nat) (D : List S27) (x1 x2 x3 x4 x5 : Int) (h : Bool) (T : List S27) (i : Nat) (hi : i < 1000) (hD : D.length ≤ 1000) : millwrightlaw12_VictimOrder.l0 (k + 1) D x1 x2 x3 x4 x5 h T (i : Int) = if (i : Int) < (D.length : Int) then (if (D.length : Int) - 1 - i < (T.length : Int) then millwrightlaw12_VictimOrder.l0 k (D.set i (rel i (rd_T27 D i))) x1 x2 x3 x4 x5 h (T.set (D.length - 1 - i) (rd_T27 (D.set i (rel i (rd_T27 D i))) i)) ((i + 1 : Nat) : Int) else none) else ((victim_Choose.f k D x1 x2 x3 x4 x5).bind fun u => ((victim_Choose.f k T x1 x2 x3 x4 x5).bind fun v => (if h = true then ((millwrightlaw12_same.f k u.1 v.1).bind fun t => (if t = true then (some (u.2 == v.2)) else (some false))) else (some false)))) := by
  have hw : wrap64 ((i : Int) + 1) = ((i + 1 : Nat) : Int) := by rw [w64 (by omega) (by omega)]; rfl
  have h7 : Int.tmod (wrap64 (7 * (i : Int))) 31 = ((7 * i % 31 : Nat) : Int) := by rw [w64 (by omega) (by omega)]; rfl
  have hx : wrap64 ((wrap64 ((D.length : Int) - 1)) - i) = (D.length : Int) - 1 - i := by rw [w64 (x := (D.length : Int) - 1) (by omega) (by omega), w64 (by omega) (by omega)]
  simp only [millwrightlaw12_VictimOrder.l0, hw, h7, hx]
  by_cases h1 : (i : Int) < (D.length : Int)
  · rw [if_pos h1, if_pos h1, if_pos (by omega), Option.bind_some, if_pos (by omega), Int.toNat_natCast, show ((D.length : Int) - 1 - i).toNat = D.length - 1 - i by omega]
    rfl
  · rw [if_neg h1, if_neg h1]
theorem nat_inj {i j : Nat} (hi : i < 31) (hj : j < 31) (h : 7 * i % 31 = 7 * j % 31) : i = j := by omega
theorem turned (A : List S27) (hA : A.length ≤ 30) (ht : ∀ j (h : j < A.length), A[j].f0 = ((7 * j % 31 : Nat) : Int)) (p m f s q : Int) : chooseS A.reverse p m f s q = chooseS A p m f s q := by
  have hd : ∀ a b, a ∈ A → b ∈ A → a.f0 = b.f0 → a = b := by
    intro a b ha hb h
    obtain ⟨i, hi, rfl⟩ := List.getElem_of_mem ha
    obtain ⟨j, hj, rfl⟩ := List.getElem_of_mem hb
    rw [ht i hi, ht j hj] at h
    have : i = j := nat_inj (by omega) (by omega) (by omega)
    subst this
    rfl
  have he : isort ltR (A.reverse.filter (fun x => !sp ⟨p, memF m, q⟩ x)) = isort ltR (A.filter (fun x => !sp ⟨p, memF m, q⟩ x)) := by
    rw [List.filter_reverse]
    refine List.Perm.eq_of_pairwise (le := fun a b => ltR b a = false) ?_ (isort_srt weakR _) (isort_srt weakR _) ?_
    · intro a b ha hb h1 h2
      have ha' : a ∈ A := by
        have := (isort_mem _).1 ha
        rw [List.mem_reverse] at this
        exact (List.mem_filter.1 this).1
      have hb' : b ∈ A := (List.mem_filter.1 ((isort_mem _).1 hb)).1
      refine hd a b ha' hb' ?_
      unfold ltR at h1 h2
      simp only [Bool.or_eq_false_iff, Bool.and_eq_false_iff, decide_eq_false_iff_not] at h1 h2
      omega
    · exact (isort_perm _).trans ((List.reverse_perm _).trans (isort_perm _).symm)
  unfold chooseS
  rw [he]
theorem ord_l (p m f s q : Int) : ∀ (R A : List S27), A.length + R.length ≤ 30 → (∀ j (h : j < A.length), A[j].f0 = ((7 * j % 31 : Nat) : Int)) →
    Ev (fun k => millwrightlaw12_VictimOrder.l0 k (A ++ R) p m f s q true (List.replicate R.length z27 ++ A.reverse) (A.length : Int)) true
  | [], A, hl, ht => by
    simp only [List.length_nil, Nat.add_zero] at hl
    have h := Ev.bind (choose_ev A p m f s q (by omega)) (f := fun k u => ((victim_Choose.f k A.reverse p m f s q).bind fun v => (if true = true then ((millwrightlaw12_same.f k u.1 v.1).bind fun t => (if t = true then (some (u.2 == v.2)) else (some false))) else (some false)))) (r := true) (by
      refine Ev.bind (choose_ev A.reverse p m f s q (by rw [List.length_reverse]; omega)) ?_
      rw [turned A hl ht]
      have hcl := choose_len A p m f s q
      have h := Ev.bind (same_ev (chooseS A p m f s q).1 (chooseS A p m f s q).1 (by simp only [BIG]; omega)) (f := fun _ t => if t = true then some ((chooseS A p m f s q).2 == (chooseS A p m f s q).2) else some false) (r := true) ⟨0, fun _ _ => by simp⟩
      refine Ev.congr (fun k => ?_) h
      simp)
    refine Ev.step (fun k => ?_) h
    rw [List.append_nil, List.length_nil, List.replicate_zero, List.nil_append, sOrd _ _ _ _ _ _ _ _ _ _ (by omega) (by omega), if_neg (by omega)]
  | x :: R, A, hl, ht => by
    simp only [List.length_cons] at hl
    have ih := ord_l p m f s q R (A ++ [rel A.length x]) (by simp; omega) (fun j h => by
      rcases Nat.lt_or_ge j A.length with hj | hj
      · rw [List.getElem_append_left hj]
        exact ht j hj
      · simp only [List.length_append, List.length_cons, List.length_nil] at h
        have : j = A.length := by omega
        subst this
        rw [List.getElem_append_right (Nat.le_refl _)]
        simp [rel])
    have hlen : (A ++ x :: R).length = A.length + R.length + 1 := by simp; omega
    have r1 : rd_T27 (A ++ x :: R) (A.length : Int) = x := rdA _ _ _ rfl
    have hset : (A ++ x :: R).set A.length (rel A.length x) = A ++ rel A.length x :: R := by
      rw [List.set_append_right _ _ (Nat.le_refl _), Nat.sub_self]
      rfl
    have r2 : rd_T27 (A ++ rel A.length x :: R) (A.length : Int) = rel A.length x := rdA _ _ _ rfl
    have hT : (List.replicate (R.length + 1) z27 ++ A.reverse).set R.length (rel A.length x) = List.replicate R.length z27 ++ (A ++ [rel A.length x]).reverse := by
      rw [List.replicate_succ', List.append_assoc, List.set_append_right _ _ (by simp), List.length_replicate, Nat.sub_self]
      simp
    have hTl : (List.replicate (R.length + 1) z27 ++ A.reverse).length = R.length + 1 + A.length := by simp
    refine Ev.step (fun k => ?_) ih
    rw [List.length_cons, sOrd _ _ _ _ _ _ _ _ _ _ (by omega) (by omega), hlen, if_pos (by omega), hTl, if_pos (by omega), r1, hset, r2, show A.length + R.length + 1 - 1 - A.length = R.length by omega, hT]
    simp
theorem VictimOrder (l0 : List S27) (a1 a2 a3 a4 a5 : Int) : ∃ k, millwrightlaw12_VictimOrder.f k l0 a1 a2 a3 a4 a5 = some true := by
  refine Ev.rounds ?_
  unfold millwrightlaw12_VictimOrder.f
  refine Ev.bind shown_ev ?_
  simp only [few_f, Option.bind_some]
  have h1 := few_len l0
  have := ord_l a1 a2 a3 a4 a5 (l0.take 30) [] (by simp only [List.length_nil]; omega) (fun j h => by cases h)
  refine Ev.congr (fun k => ?_) this
  rw [if_pos (by omega), if_pos (by omega), Int.toNat_natCast]
  simp
end Go.Proofs.Ytnegchdooapoiaa.Pure
