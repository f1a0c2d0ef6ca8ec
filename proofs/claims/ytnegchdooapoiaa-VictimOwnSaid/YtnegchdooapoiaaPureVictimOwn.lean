/- The plain law of VictimOwn: what the code computes answers true at every input. No condition. -/
import Derived.Test.YtnegchdooapoiaaVicL
import Derived.Test.YtnegchdooapoiaaPVictimOwnx
namespace Go.Proofs.Ytnegchdooapoiaa.Pure
open Go.RowKit Go.Proofs.Ytnegchdooapoiaa.PVic Go.Proofs.Ytnegchdooapoiaa.VicP Go.Proofs.Ytnegchdooapoiaa.VicS Go.Proofs.Ytnegchdooapoiaa.VicT Go.Proofs.Ytnegchdooapoiaa.VicL Go.Proofs.YtnegchdooapoiaaW.PrintWords Go.Proofs.YtnegchdooapoiaaW.PrintMore
/-- The run that is put in between, by its place. -/
def put (p q : Int) (i : Nat) (x : S27) : S27 := if i % 2 = 0 then ⟨x.f0, mx x.f1 p, x.f2, x.f3, x.f4⟩ else ⟨x.f0, x.f1, x.f2, mx x.f3 q, x.f4⟩
theorem put_sp (p m q : Int) (i : Nat) (x : S27) : sp ⟨p, m, q⟩ (put p q i x) = true := by
  have h1 : mx x.f1 p ≥ p := by unfold mx; split <;> omega
  have h2 : mx x.f3 q ≥ q := by unfold mx; split <;> omega
  unfold put sp
  split
  · simp [h1]
  · simp [h2]
theorem sOwn1 (k : Nat) (L : List S27) (x2 x3 x4 x5 x6 : Int) (h : Bool) (out : List Int) (ok : Bool) (acc : List S27) (i : Int) : millwrightlaw12_VictimOwn.l1 (k + 1) L x2 x3 x4 x5 x6 h out ok acc i = if i < (L.length : Int) then (if 0 ≤ i then (if acc.length < 3518437208883 then millwrightlaw12_VictimOwn.l1 k L x2 x3 x4 x5 x6 h out ok (acc ++ [rd_T27 L i]) (wrap64 (i + 1)) else none) else none) else ((victim_Choose.f k acc x2 x3 x4 x5 x6).bind fun u => (if h = true then ((millwrightlaw12_same.f k out u.1).bind fun t => (if t = true then (some (ok == u.2)) else (some false))) else (some false))) := rfl
theorem own_end (L : List S27) (p m f s q : Int) (acc : List S27) (hacc : acc.length ≤ 1073741824) (hL : L.length ≤ 1073741824) (hf : acc.filter (fun x => !sp ⟨p, memF m, q⟩ x) = L.filter (fun x => !sp ⟨p, memF m, q⟩ x)) :
    Ev (fun k => (victim_Choose.f k acc p m f s q).bind fun u => (if true = true then ((millwrightlaw12_same.f k (chooseS L p m f s q).1 u.1).bind fun t => (if t = true then (some ((chooseS L p m f s q).2 == u.2)) else (some false))) else (some false))) true := by
  have he : chooseS acc p m f s q = chooseS L p m f s q := by unfold chooseS; rw [hf]
  refine Ev.bind (choose_ev acc p m f s q hacc) ?_
  rw [he]
  have hl := choose_len L p m f s q
  have h := Ev.bind (same_ev (chooseS L p m f s q).1 (chooseS L p m f s q).1 (by simp only [BIG]; omega)) (f := fun _ t => if t = true then some ((chooseS L p m f s q).2 == (chooseS L p m f s q).2) else some false) (r := true) ⟨0, fun _ _ => by simp⟩
  refine Ev.congr (fun k => ?_) h
  simp
theorem own1 (L : List S27) (p m f s q : Int) (hL : L.length ≤ 30) : ∀ (R A acc : List S27) (i : Int), L = A ++ R → i = A.length → acc.length + R.length ≤ 1073741824 → acc.filter (fun x => !sp ⟨p, memF m, q⟩ x) = A.filter (fun x => !sp ⟨p, memF m, q⟩ x) →
    Ev (fun k => millwrightlaw12_VictimOwn.l1 k L p m f s q true (chooseS L p m f s q).1 (chooseS L p m f s q).2 acc i) true
  | [], A, acc, i, eL, ei, hacc, hf => by
    simp only [List.append_nil] at eL
    subst eL
    refine Ev.step (fun k => ?_) (own_end L p m f s q acc (by simpa using hacc) (by omega) hf)
    rw [sOwn1, if_neg (by omega)]
  | x :: R, A, acc, i, eL, ei, hacc, hf => by
    have hl : L.length = A.length + R.length + 1 := by rw [eL]; simp; omega
    simp only [List.length_cons] at hacc
    have h := own1 L p m f s q hL R (A ++ [x]) (acc ++ [x]) (i + 1) (by rw [eL]; simp) (by simp; omega) (by simp; omega) (by rw [List.filter_append, List.filter_append, hf])
    have r1 : rd_T27 L i = x := by rw [eL]; exact rdA _ _ _ ei
    refine Ev.step (fun k => ?_) h
    rw [sOwn1, hl, if_pos (by omega), if_pos (by omega), if_pos (by omega), r1, w64 (by omega) (by omega)]
theorem sOwn0 (k : Nat) (L M : List S27) (x2 x3 x4 x5 x6 : Int) (h : Bool) (out : List Int) (ok : Bool) (acc : List S27) (i : Nat) (hi : i < 9223372036854775807) : millwrightlaw12_VictimOwn.l0 (k + 1) L M x2 x3 x4 x5 x6 h out ok acc (i : Int) = if (i : Int) < (M.length : Int) then (if acc.length < 3518437208883 then (if (i : Int) < (L.length : Int) then (if acc.length + 1 < 3518437208883 then millwrightlaw12_VictimOwn.l0 k L M x2 x3 x4 x5 x6 h out ok (acc ++ [put x2 x6 i (rd_T27 M i)] ++ [rd_T27 L i]) ((i + 1 : Nat) : Int) else none) else millwrightlaw12_VictimOwn.l0 k L M x2 x3 x4 x5 x6 h out ok (acc ++ [put x2 x6 i (rd_T27 M i)]) ((i + 1 : Nat) : Int)) else none) else millwrightlaw12_VictimOwn.l1 k L x2 x3 x4 x5 x6 h out ok acc (M.length : Int) := by
  have hw : wrap64 ((i : Int) + 1) = ((i + 1 : Nat) : Int) := by rw [w64 (by omega) (by omega)]; rfl
  have ht : Int.tmod (i : Int) 2 = ((i % 2 : Nat) : Int) := rfl
  simp only [millwrightlaw12_VictimOwn.l0, hw, ht]
  by_cases h1 : (i : Int) < (M.length : Int)
  · rw [if_pos h1, if_pos h1, if_pos (by omega)]
    by_cases h2 : i % 2 = 0
    · rw [if_pos (by omega)]
      unfold put
      rw [if_pos h2]
      by_cases h3 : acc.length < 3518437208883
      · rw [if_pos h3, if_pos h3, Option.bind_some]
        by_cases h4 : (i : Int) < (L.length : Int)
        · rw [if_pos h4, if_pos h4, List.length_append]
          rfl
        · rw [if_neg h4, if_neg h4]
      · rw [if_neg h3, if_neg h3]
    · rw [if_neg (by omega)]
      unfold put
      rw [if_neg h2]
      by_cases h3 : acc.length < 3518437208883
      · rw [if_pos h3, if_pos h3, Option.bind_some]
        by_cases h4 : (i : Int) < (L.length : Int)
        · rw [if_pos h4, if_pos h4, List.length_append]
          rfl
        · rw [if_neg h4, if_neg h4]
      · rw [if_neg h3, if_neg h3]
  · rw [if_neg h1, if_neg h1]
theorem own0 (L M : List S27) (p m f s q : Int) (hL : L.length ≤ 30) (hM : M.length ≤ 30) : ∀ (d i : Nat) (acc : List S27), M.length - i ≤ d → i ≤ M.length → acc.length ≤ 2 * i → acc.filter (fun x => !sp ⟨p, memF m, q⟩ x) = (L.take i).filter (fun x => !sp ⟨p, memF m, q⟩ x) →
    Ev (fun k => millwrightlaw12_VictimOwn.l0 k L M p m f s q true (chooseS L p m f s q).1 (chooseS L p m f s q).2 acc (i : Int)) true := by
  intro d
  have stop : ∀ (i : Nat) (acc : List S27), i = M.length → acc.length ≤ 2 * i → acc.filter (fun x => !sp ⟨p, memF m, q⟩ x) = (L.take i).filter (fun x => !sp ⟨p, memF m, q⟩ x) → Ev (fun k => millwrightlaw12_VictimOwn.l0 k L M p m f s q true (chooseS L p m f s q).1 (chooseS L p m f s q).2 acc (i : Int)) true := by
    intro i acc ei hacc hf
    have key : Ev (fun k => millwrightlaw12_VictimOwn.l1 k L p m f s q true (chooseS L p m f s q).1 (chooseS L p m f s q).2 acc (M.length : Int)) true := by
      rcases Nat.le_total i L.length with hle | hle
      · exact own1 L p m f s q hL (L.drop i) (L.take i) acc _ (List.take_append_drop _ _).symm (by rw [List.length_take]; omega) (by rw [List.length_drop]; omega) hf
      · rw [List.take_of_length_le hle] at hf
        refine Ev.step (fun k => ?_) (own_end L p m f s q acc (by omega) (by omega) hf)
        rw [sOwn1, if_neg (by omega)]
    refine Ev.step (fun k => ?_) key
    rw [sOwn0 _ _ _ _ _ _ _ _ _ _ _ _ _ (by omega), if_neg (by omega)]
  induction d with
  | zero => intro i acc h hi hacc hf; exact stop i acc (by omega) hacc hf
  | succ d ih =>
    intro i acc h hi hacc hf
    rcases Nat.eq_or_lt_of_le hi with e | hlt
    · exact stop i acc e hacc hf
    · have hput : ∀ x, [put p q i x].filter (fun x => !sp ⟨p, memF m, q⟩ x) = [] := fun x => by
        rw [List.filter_cons, put_sp]
        rfl
      by_cases hl : i < L.length
      · have r1 : rd_T27 L (i : Int) = L[i] := by
          unfold rd_T27
          rw [Int.toNat_natCast, List.getD_eq_getElem?_getD, List.getElem?_eq_getElem hl]
          rfl
        have h1 := ih (i + 1) (acc ++ [put p q i (rd_T27 M i)] ++ [rd_T27 L i]) (by omega) (by omega) (by simp; omega) (by
          rw [List.filter_append, List.filter_append, hput, List.append_nil, hf, r1, ← List.filter_append, List.take_succ_eq_append_getElem hl])
        refine Ev.step (fun k => ?_) h1
        rw [sOwn0 _ _ _ _ _ _ _ _ _ _ _ _ _ (by omega), if_pos (by omega), if_pos (by omega), if_pos (by omega), if_pos (by omega)]
      · have h1 := ih (i + 1) (acc ++ [put p q i (rd_T27 M i)]) (by omega) (by omega) (by simp; omega) (by
          rw [List.filter_append, hput, List.append_nil, hf, List.take_of_length_le (by omega), List.take_of_length_le (by omega)])
        refine Ev.step (fun k => ?_) h1
        rw [sOwn0 _ _ _ _ _ _ _ _ _ _ _ _ _ (by omega), if_pos (by omega), if_pos (by omega), if_neg (by omega)]
theorem VictimOwn (l0 l1 : List S27) (a2 a3 a4 a5 a6 : Int) : ∃ k, millwrightlaw12_VictimOwn.f k l0 l1 a2 a3 a4 a5 a6 = some true := by
  refine Ev.rounds ?_
  unfold millwrightlaw12_VictimOwn.f
  refine Ev.bind shown_ev ?_
  simp only [few_f, Option.bind_some]
  have h1 := few_len l0
  have h2 := few_len l1
  refine Ev.bind (choose_ev (l0.take 30) a2 a3 a4 a5 a6 (by omega)) ?_
  exact own0 (l0.take 30) (l1.take 30) a2 a3 a4 a5 a6 h1 h2 _ 0 [] (Nat.le_refl _) (Nat.zero_le _) (Nat.le_refl _) rfl
end Go.Proofs.Ytnegchdooapoiaa.Pure
