/- What the five laws of victim share: same, shown, few; when there is room at all; rows of unlike keys. No condition. -/
import Derived.Test.YtnegchdooapoiaaVicT
import Derived.Test.YtnegchdooapoiaaPVicx8
namespace Go.Proofs.Ytnegchdooapoiaa.VicL
open Go.RowKit Go.Proofs.Ytnegchdooapoiaa.PVic Go.Proofs.Ytnegchdooapoiaa.VicP Go.Proofs.Ytnegchdooapoiaa.VicS Go.Proofs.Ytnegchdooapoiaa.VicT Go.Proofs.YtnegchdooapoiaaW.PrintWords Go.Proofs.YtnegchdooapoiaaW.PrintMore
theorem s12 (k : Nat) (A B : List Int) (i : Int) : millwrightlaw12_same.l0 (k + 1) A B i = if i < (A.length : Int) then (if 0 ≤ i then (if i < (B.length : Int) then (if rd A i = rd B i then millwrightlaw12_same.l0 k A B (wrap64 (i + 1)) else some false) else none) else none) else some true := rfl
theorem rd_at (U W : List Int) (a : Int) {i : Int} (hi : i = U.length) : rd (U ++ a :: W) i = a := by
  subst hi
  unfold rd
  rw [Int.toNat_natCast, List.getD_eq_getElem?_getD, List.getElem?_append_right (Nat.le_refl _), Nat.sub_self]
  rfl
theorem same_l : ∀ (A' B' P : List Int) (i : Int), A'.length = B'.length → i = P.length → (P ++ A').length ≤ BIG → Ev (fun k => millwrightlaw12_same.l0 k (P ++ A') (P ++ B') i) (decide (A' = B'))
  | [], B', P, i, h, ei, hb => by
    have : B' = [] := List.eq_nil_of_length_eq_zero (by rw [← h]; rfl)
    subst this
    refine Ev.step (f := fun _ => some _) (fun k => ?_) (Ev.now _)
    rw [s12, if_neg (by simp; omega)]
    rfl
  | a :: A', B', P, i, h, ei, hb => by
    cases B' with
    | nil => simp at h
    | cons b B' =>
      simp only [List.length_cons] at h
      have hb' := hb
      simp only [List.length_append, List.length_cons, BIG] at hb'
      have hl : (P ++ a :: A').length = P.length + A'.length + 1 := by simp; omega
      have hl2 : (P ++ b :: B').length = P.length + A'.length + 1 := by simp; omega
      by_cases hab : a = b
      · subst hab
        have h1 := same_l A' B' (P ++ [a]) (i + 1) (by omega) (by simp; omega) (by simpa using hb)
        refine Ev.step (fun k => ?_) (by simpa using h1)
        rw [s12, hl, hl2, if_pos (by omega), if_pos (by omega), if_pos (by omega), rd_at _ _ _ ei, rd_at _ _ _ ei, if_pos rfl, w64 (by omega) (by omega)]
      · refine Ev.step (f := fun _ => some _) (fun k => ?_) (Ev.now _)
        rw [s12, hl, hl2, if_pos (by omega), if_pos (by omega), if_pos (by omega), rd_at _ _ _ ei, rd_at _ _ _ ei, if_neg hab, decide_eq_false (fun e => hab (List.cons.inj e).1)]
theorem same_ev (A B : List Int) (hb : A.length ≤ BIG) : Ev (fun k => millwrightlaw12_same.f k A B) (decide (A = B)) := by
  by_cases h : A.length = B.length
  · refine Ev.congr (fun k => ?_) (same_l A B [] 0 h rfl (by simpa using hb))
    unfold millwrightlaw12_same.f
    rw [if_pos (by omega)]
    simp
  · refine Ev.congr (f := fun _ => some _) (fun k => ?_) (Ev.now _)
    unfold millwrightlaw12_same.f
    rw [if_neg (by omega), decide_eq_false (fun e => h (by rw [e]))]
theorem few_f (L : List S27) : millwrightlaw12_few.f L = some (L.take 30) := by
  unfold millwrightlaw12_few.f
  have h : mn (L.length : Int) 30 = ((min L.length 30 : Nat) : Int) := by unfold mn; split <;> omega
  rw [Option.bind_some, h, if_pos (by omega), if_pos (by omega), Option.bind_some, if_pos (by simp; omega), Int.toNat_natCast]
  have : L.take (min L.length 30) = L.take 30 := by
    rcases Nat.le_total L.length 30 with h | h
    · rw [Nat.min_eq_left h, List.take_of_length_le (Nat.le_refl _), List.take_of_length_le h]
    · rw [Nat.min_eq_right h]
  rw [this]
  rfl
theorem few_len (L : List S27) : (L.take 30).length ≤ 30 := by rw [List.length_take]; omega
theorem shown_ev : Ev (fun k => millwrightlaw12_shown.f k) true := by
  unfold millwrightlaw12_shown.f
  simp only [Option.bind_some]
  refine Ev.bind (choose_ev _ _ _ _ _ _ (by decide)) (Ev.bind (choose_ev _ _ _ _ _ _ (by decide)) (Ev.bind (choose_ev _ _ _ _ _ _ (by decide)) (Ev.bind (choose_ev _ _ _ _ _ _ (by decide)) ?_)))
  have e1 : chooseS [⟨1, 2, 5, 0, 0⟩, ⟨2, 1, 3, 0, 4⟩, ⟨3, 1, 3, 0, 6⟩, ⟨4, 0, 9, 2, 0⟩] 3 4 0 0 2 = ([3, 2], true) := by decide +kernel
  have e2 : chooseS [⟨1, 2, 5, 0, 0⟩, ⟨2, 1, 3, 0, 4⟩, ⟨3, 1, 3, 0, 6⟩, ⟨4, 0, 9, 2, 0⟩] 2 7 0 0 2 = ([], false) := by decide +kernel
  have e3 : chooseS [⟨1, 2, 5, 0, 0⟩, ⟨2, 1, 3, 0, 4⟩, ⟨3, 1, 3, 0, 6⟩, ⟨4, 0, 9, 2, 0⟩] 0 4 4 1 2 = ([], true) := by decide +kernel
  have e4 : chooseS [⟨1, 2, 5, 0, 0⟩, ⟨2, 1, 3, 0, 4⟩, ⟨3, 1, 3, 0, 6⟩, ⟨4, 0, 9, 2, 0⟩] 3 2 9 0 2 = ([3], true) := by decide +kernel
  rw [e1, e2, e3, e4]
  simp only [if_true, Bool.false_eq_true, if_false, List.length_nil]
  refine Ev.bind (same_ev [3, 2] [3, 2] (by decide)) ?_
  refine Ev.congr (f := fun k => (millwrightlaw12_same.f k [3] [3]).bind fun t => some t) (fun k => ?_) ?_
  · rfl
  · have := Ev.bind (same_ev [3] [3] (by decide)) (f := fun _ t => some t) (r := true) ⟨0, fun _ _ => rfl⟩
    exact this
def tot : List S27 → Int
  | [] => 0
  | x :: R => memF x.f2 + tot R
theorem tot_in : ∀ R : List S27, 0 ≤ tot R
  | [] => Int.le_refl _
  | x :: R => by have := memF_in x.f2; have := tot_in R; unfold tot; omega
theorem tot_ins (x : S27) : ∀ l : List S27, tot (ins ltR x l) = memF x.f2 + tot l
  | [] => rfl
  | z :: l => by
    rw [ins_cons]
    split
    · rfl
    · simp only [tot, tot_ins x l]
      omega
theorem tot_fold : ∀ (B acc : List S27), tot (B.foldl (fun acc x => ins ltR x acc) acc) = tot B + tot acc
  | [], acc => by simp [tot]
  | b :: B, acc => by rw [List.foldl_cons, tot_fold B, tot_ins]; simp only [tot]; omega
theorem tot_isort (L : List S27) : tot (isort ltR L) = tot L := by
  unfold isort
  rw [tot_fold]
  simp [tot]
theorem has_mono {m free free' slots slots' : Int} (h1 : free ≤ free') (h2 : slots ≤ slots') (h : has m free slots = true) : has m free' slots' = true := by
  unfold has at h ⊢
  simp only [Bool.and_eq_true, decide_eq_true_eq] at h ⊢
  omega
theorem chs_ok (m : Int) : ∀ (R : List S27) (out : List Int) (free slots : Int), (chs m R out free slots).2 = has m (free + tot R) (slots + R.length)
  | [], out, free, slots => by
    rw [chs]
    simp only [tot, List.length_nil, Int.add_zero, Int.natCast_zero]
    split
    · rename_i h; rw [h]
    · rename_i h; rw [Bool.not_eq_true] at h; rw [h]
  | x :: R, out, free, slots => by
    have h1 := memF_in x.f2
    have h2 := tot_in R
    rw [chs]
    split
    · rename_i h
      exact (has_mono (by unfold tot; omega) (by omega) h).symm
    · rw [chs_ok m R]
      simp only [tot, List.length_cons]
      congr 1 <;> omega
theorem chs_len (m : Int) : ∀ (R : List S27) (out : List Int) (free slots : Int), (chs m R out free slots).1.length ≤ out.length + R.length
  | [], out, free, slots => by
    rw [chs]
    split <;> simp
  | x :: R, out, free, slots => by
    rw [chs]
    split
    · simp
    · have := chs_len m R (out ++ [x.f0]) (free + memF x.f2) (slots + 1)
      simp at this ⊢
      omega
abbrev may (L : List S27) (prio m most : Int) : List S27 := L.filter (fun x => !sp ⟨prio, m, most⟩ x)
theorem choose_ok (L : List S27) (prio mem free slots most : Int) : (chooseS L prio mem free slots most).2 = has (memF mem) (memF free + tot (may L prio (memF mem) most)) (mn (mx slots 0) 1 + (may L prio (memF mem) most).length) := by
  unfold chooseS
  rw [chs_ok, tot_isort, isort_len]
theorem choose_len (L : List S27) (prio mem free slots most : Int) : (chooseS L prio mem free slots most).1.length ≤ L.length := by
  unfold chooseS
  have h := chs_len (memF mem) (isort ltR (L.filter (fun x => !sp ⟨prio, memF mem, most⟩ x))) [] (memF free) (mn (mx slots 0) 1)
  rw [isort_len] at h
  have := List.length_filter_le (fun x => !sp ⟨prio, memF mem, most⟩ x) L
  simp only [List.length_nil] at h
  omega
theorem filter_le {p q : S27 → Bool} (h : ∀ x, p x = true → q x = true) : ∀ L : List S27, tot (L.filter p) ≤ tot (L.filter q) ∧ (L.filter p).length ≤ (L.filter q).length
  | [] => ⟨Int.le_refl _, Nat.le_refl _⟩
  | x :: L => by
    have ih := filter_le h L
    have hm := memF_in x.f2
    rcases hp : p x with _ | _
    · rcases hq : q x with _ | _
      · simpa [List.filter_cons, hp, hq] using ih
      · simp only [List.filter_cons, hp, hq, if_true, Bool.false_eq_true, if_false, tot, List.length_cons]
        omega
    · have hq := h x hp
      simp only [List.filter_cons, hp, hq, if_true, tot, List.length_cons]
      omega
theorem ins_perm (x : S27) : ∀ l : List S27, (ins ltR x l).Perm (x :: l)
  | [] => List.Perm.refl _
  | z :: l => by
    rw [ins_cons]
    split
    · exact List.Perm.refl _
    · exact ((ins_perm x l).cons z).trans (List.Perm.swap x z l)
theorem fold_perm : ∀ (B acc : List S27), (B.foldl (fun acc x => ins ltR x acc) acc).Perm (B ++ acc)
  | [], acc => List.Perm.refl _
  | b :: B, acc => by
    rw [List.foldl_cons]
    exact (fold_perm B _).trans (((ins_perm b acc).append_left B).trans List.perm_middle)
theorem isort_perm (L : List S27) : (isort ltR L).Perm L := by
  have := fold_perm L []
  rw [List.append_nil] at this
  exact this
end Go.Proofs.Ytnegchdooapoiaa.VicL
