/- The plain law of VictimMore: what the code computes answers true at every input. No condition. -/
import Derived.Test.YtnegchdooapoiaaVicL
import Derived.Test.YtnegchdooapoiaaPVictimMorex
namespace Go.Proofs.Ytnegchdooapoiaa.Pure
open Go.RowKit Go.Proofs.Ytnegchdooapoiaa.PVic Go.Proofs.Ytnegchdooapoiaa.VicP Go.Proofs.Ytnegchdooapoiaa.VicS Go.Proofs.Ytnegchdooapoiaa.VicT Go.Proofs.Ytnegchdooapoiaa.VicL Go.Proofs.YtnegchdooapoiaaW.PrintWords Go.Proofs.YtnegchdooapoiaaW.PrintMore
theorem mx_ge (a b : Int) : a ≤ mx a b := by unfold mx; split <;> omega
theorem mn_le (a b : Int) : mn a b ≤ a := by unfold mn; split <;> omega
theorem memF_mono {a b : Int} (h : a ≤ b) : memF a ≤ memF b := by unfold memF mn mx; repeat' split <;> omega
theorem has_less {m m' free slots : Int} (h1 : m' ≤ m) (h : has m free slots = true) : has m' free slots = true := by
  unfold has at h ⊢
  simp only [Bool.and_eq_true, decide_eq_true_eq] at h ⊢
  omega
theorem VictimMore (l0 : List S27) (a1 a2 a3 a4 a5 a6 : Int) : ∃ k, millwrightlaw12_VictimMore.f k l0 a1 a2 a3 a4 a5 a6 = some true := by
  refine Ev.rounds ?_
  unfold millwrightlaw12_VictimMore.f
  refine Ev.bind shown_ev ?_
  simp only [few_f, Option.bind_some, if_true]
  obtain ⟨L, hL⟩ : ∃ L, L = l0.take 30 := ⟨_, rfl⟩
  have hlen : L.length ≤ 1073741824 := by rw [hL]; have := few_len l0; omega
  rw [← hL]
  have hev := fun p m f s q => choose_ev L p m f s q hlen
  refine Ev.bind (hev _ _ _ _ _) (Ev.bind (hev _ _ _ _ _) (Ev.bind (hev _ _ _ _ _) (Ev.bind (hev _ _ _ _ _) (Ev.bind (hev _ _ _ _ _) (Ev.bind (hev _ _ _ _ _) ?_)))))
  have e0 : chooseS L a1 a2 a2 1 a5 = ([], true) := by
    have hh : has (memF a2) (memF a2) (mn (mx 1 0) 1) = true := by
      unfold has
      have : mn (mx 1 0) 1 = 1 := by decide
      rw [this]
      simp
    unfold chooseS
    cases isort ltR (L.filter (fun x => !sp ⟨a1, memF a2, a5⟩ x)) with
    | nil => rw [chs, if_pos hh]
    | cons x R => rw [chs, if_pos hh]
  rw [e0]
  refine ⟨0, fun k _ => ?_⟩
  rcases hok : (chooseS L a1 a2 a3 a4 a5).2 with _ | _
  · rfl
  · rw [choose_ok] at hok
    have g1 : (chooseS L (mx a1 (wrap64 (a1 + wrap64 a6))) a2 a3 a4 a5).2 = true := by
      rw [choose_ok]
      have : tot (may L a1 (memF a2) a5) ≤ tot (may L (mx a1 (wrap64 (a1 + wrap64 a6))) (memF a2) a5) ∧ (may L a1 (memF a2) a5).length ≤ (may L (mx a1 (wrap64 (a1 + wrap64 a6))) (memF a2) a5).length := filter_le (p := fun x => !sp ⟨a1, memF a2, a5⟩ x) (q := fun x => !sp ⟨mx a1 (wrap64 (a1 + wrap64 a6)), memF a2, a5⟩ x) (fun x hx => by
        have := mx_ge a1 (wrap64 (a1 + wrap64 a6))
        unfold sp at hx ⊢
        simp only [Bool.not_eq_true', Bool.or_eq_false_iff, decide_eq_false_iff_not] at hx ⊢
        omega) L
      exact has_mono (by omega) (by omega) hok
    have g2 : (chooseS L a1 (mn a2 (wrap64 (a2 - wrap64 a6))) a3 a4 a5).2 = true := by
      rw [choose_ok]
      exact has_less (memF_mono (mn_le _ _)) hok
    have g3 : (chooseS L a1 a2 (mx a3 (wrap64 (a3 + wrap64 a6))) a4 a5).2 = true := by
      rw [choose_ok]
      have := memF_mono (mx_ge a3 (wrap64 (a3 + wrap64 a6)))
      exact has_mono (by omega) (Int.le_refl _) hok
    have g4 : (chooseS L a1 a2 a3 a4 (mx a5 (wrap64 (a5 + wrap64 a6)))).2 = true := by
      rw [choose_ok]
      have : tot (may L a1 (memF a2) a5) ≤ tot (may L a1 (memF a2) (mx a5 (wrap64 (a5 + wrap64 a6)))) ∧ (may L a1 (memF a2) a5).length ≤ (may L a1 (memF a2) (mx a5 (wrap64 (a5 + wrap64 a6)))).length := filter_le (p := fun x => !sp ⟨a1, memF a2, a5⟩ x) (q := fun x => !sp ⟨a1, memF a2, mx a5 (wrap64 (a5 + wrap64 a6))⟩ x) (fun x hx => by
        have := mx_ge a5 (wrap64 (a5 + wrap64 a6))
        unfold sp at hx ⊢
        simp only [Bool.not_eq_true', Bool.or_eq_false_iff, decide_eq_false_iff_not] at hx ⊢
        omega) L
      exact has_mono (by omega) (by omega) hok
    rw [g1, g2, g3, g4]
    rfl
end Go.Proofs.Ytnegchdooapoiaa.Pure
