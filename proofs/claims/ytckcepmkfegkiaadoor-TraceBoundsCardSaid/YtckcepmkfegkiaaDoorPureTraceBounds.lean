/- The plain law of TraceBounds: what the code computes answers true at every input. No condition. -/
import Derived.Test.YtckcepmkfegkiaaDoorPTraceBoundsx2
import Derived.Test.YtckcepmkfegkiaaDoorTrJ
import Derived.Test.YtckcepmkfegkiaaDoorTrO
import Derived.Test.YtckcepmkfegkiaaDoorBits
namespace Go.Proofs.YtckcepmkfegkiaaDoor.Pure
open Go.RowKit Go.Proofs.YtckcepmkfegkiaaDoor.PTraceBounds Go.Proofs.YtckcepmkfegkiaaDoorW.PrintWords Go.Proofs.YtckcepmkfegkiaaDoorW.PrintLast Go.Proofs.YtckcepmkfegkiaaDoorW.PrintMore
set_option linter.unusedVariables false
set_option linter.unusedSimpArgs false
theorem mn_in (n : Nat) (m : Int) (hm : 0 ≤ m) : 0 ≤ mn (n : Int) m ∧ mn (n : Int) m ≤ n ∧ mn (n : Int) m ≤ m := by unfold mn; split <;> omega
theorem take_in {α : Type} (l : List α) (m : Int) (hm : 0 ≤ m) : ((l.take (mn (l.length : Int) m).toNat).length : Int) = mn (l.length : Int) m := by
  have := mn_in l.length m hm
  rw [List.length_take]
  omega
open TrJ
theorem rd_get (A : List S42) (i : Nat) (hi : i < A.length) : rd_T42 A (i : Int) = A[i] := by
  unfold rd_T42
  rw [Int.toNat_natCast, List.getD_eq_getElem?_getD, List.getElem?_eq_getElem hi]
  rfl
def sl (T : TrS.Tk) : Int := if T.live = true then T.start.slot else -1
abbrev g2 (x : S42) : TrS.Ev := trace_Audit.g2 x
abbrev ksOf (l : List S50) : List TrS.Tsk := l.map trace_Audit.g1
theorem rd_map (f : TrS.Tk → Int) (ts : List TrS.Tk) (i : Int) (h1 : i.toNat < ts.length) : rd (ts.map f) i = f (TrS.getT ts i) := by
  unfold rd TrS.getT
  rw [List.getD_eq_getElem?_getD, List.getD_eq_getElem?_getD, List.getElem?_map, List.getElem?_eq_getElem h1]
  rfl
theorem rdB_map (f : TrS.Tk → Bool) (ts : List TrS.Tk) (i : Int) (h1 : i.toNat < ts.length) : rdOf false (ts.map f) i = f (TrS.getT ts i) := by
  unfold rdOf TrS.getT
  rw [List.getD_eq_getElem?_getD, List.getD_eq_getElem?_getD, List.getElem?_map, List.getElem?_eq_getElem h1]
  rfl
theorem map_setT {α : Type} (f : TrS.Tk → α) (ts : List TrS.Tk) (i : Int) (x : TrS.Tk) : (TrS.setT ts i x).map f = (ts.map f).set i.toNat (f x) := by unfold TrS.setT; rw [List.map_set]
theorem map_same {α : Type} (f : TrS.Tk → α) (ts : List TrS.Tk) (i : Int) (h1 : i.toNat < ts.length) (x : TrS.Tk) (h : f x = f (TrS.getT ts i)) : (TrS.setT ts i x).map f = ts.map f := by
  rw [map_setT, h]
  apply List.ext_getElem?
  intro k
  by_cases hk : i.toNat = k
  · subst hk
    rw [List.getElem?_set_self (by rw [List.length_map]; exact h1), List.getElem?_map]
    unfold TrS.getT
    rw [List.getD_eq_getElem?_getD, List.getElem?_eq_getElem h1]
    rfl
  · rw [List.getElem?_set_ne hk]
theorem getK_rd (l1 : List S50) (i : Int) : (TrS.getK (ksOf l1) i).mem = (rd_T50 l1 i).f0 := by
  unfold TrS.getK rd_T50 ksOf
  rw [List.getD_eq_getElem?_getD, List.getD_eq_getElem?_getD, List.getElem?_map]
  cases l1[i.toNat]? <;> rfl
theorem ks_in (l1 : List S50) (w1 : ∀ x ∈ l1, (Lit.int .i64 x.f0).wf = true ∧ (Lit.int .i64 x.f1).wf = true) : inR (ksOf l1) := by
  intro i
  rw [getK_rd]
  unfold rd_T50
  rw [List.getD_eq_getElem?_getD]
  cases h : l1[i.toNat]? with
  | none => show (0 : Int) ≤ _; decide
  | some x => exact (TrO.wf_range (w1 x (List.mem_of_getElem? h)).1).2
theorem add_f (a b : Int) (ha : 0 ≤ a) (hb0 : 0 ≤ b) (h : a + b ≤ 9223372036854775807) : millwrightref01_Add.f a b = some (a + b, true) := by
  unfold millwrightref01_Add.f millwrightref01_Most.f millwrightref01_Least.f
  have hw1 : wrap64 (9223372036854775807 - b) = 9223372036854775807 - b := Bits.wrap64_in (by omega) (by omega)
  by_cases h0 : b > 0
  · rw [if_pos h0, Option.bind_some, hw1, if_neg (by omega), if_neg (by omega), Bits.wrap64_in (by omega) (by omega)]
  · rw [if_neg h0, if_neg (by omega), Bits.wrap64_in (by omega) (by omega)]
theorem mx_eq (a b : Int) : mx a b = TrS.mxI a b := rfl
theorem cast1 (k : Nat) : ((k + 1 : Nat) : Int) = (k : Int) + 1 := by omega
def Fb (q : Nat) : Nat := 6000 * q + 1
def Gb (r : Nat) : Nat := 80 * r + 1
theorem Fb_zero : Fb 0 = 1 := rfl
theorem Gb_zero : Gb 0 = 1 := rfl
theorem Fb_succ (q : Nat) : Fb (q + 1) = Fb q + 6000 := by unfold Fb; omega
theorem Gb_succ (r : Nat) : Gb (r + 1) = Gb r + 80 := by unfold Gb; omega
theorem Gb_le (r : Nat) (h : r ≤ 70) : Gb r ≤ 5601 := by unfold Gb; omega
theorem Gb_pos (r : Nat) : 1 ≤ Gb r := by unfold Gb; omega
theorem mxI_le (c : Int) (h : c ≤ 9223372036854775807) : TrS.mxI c 0 ≤ 9223372036854775807 := by unfold TrS.mxI; split <;> omega
theorem wrap_nat (k : Nat) (h : k ≤ 1000) : wrap64 ((k : Int) + 1) = ((k + 1 : Nat) : Int) := by rw [Bits.wrap64_in (by omega) (by omega)]; omega
theorem getT_nat (ts : List TrS.Tk) (k : Nat) (h : k < ts.length) : ts[k]? = some (TrS.getT ts (k : Int)) := by
  unfold TrS.getT
  rw [Int.toNat_natCast, List.getD_eq_getElem?_getD, List.getElem?_eq_getElem h]
  rfl
theorem Fb_pos (q : Nat) : 1 ≤ Fb q := by unfold Fb; omega
attribute [irreducible] Fb Gb
section
attribute [local irreducible] TrJ.S TrS.getT
variable (c0 c1 c2 c3 c4 c5 c6 c7 c8 c9 : Int)
theorem loop3 (l1 : List S50) (l2 : List S42) (n : Int) (i : Int) (e0 e1 e2 e3 e4 : Int) (ts : List TrS.Tk) (hN : ts.length ≤ 70) (mem : Int) (kk : Nat) (hkk : kk < ts.length) (hd : ∀ m : Nat, m < kk → sl (TrS.getT ts m) ≠ sl (TrS.getT ts kk)) (K : Nat) : ∀ (r m : Nat), m + r = kk →
    millwrightlaw19_TraceBounds.l3 (r + 1 + K) l1 l2 true n (ts.map sl) (ts.map (·.fails)) (ts.map (·.stops)) (ts.map (·.done)) i mem kk m c0 c1 c2 c3 c4 c5 c6 c7 c8 c9 e0 e1 e2 e3 e4 =
      millwrightlaw19_TraceBounds.l2 K l1 l2 true n (ts.map sl) (ts.map (·.fails)) (ts.map (·.stops)) (ts.map (·.done)) i mem ((kk + 1 : Nat) : Int) c0 c1 c2 c3 c4 c5 c6 c7 c8 c9 e0 e1 e2 e3 e4
  | 0, m, hr => by
    have hw : wrap64 ((kk : Int) + 1) = ((kk + 1 : Nat) : Int) := by rw [Bits.wrap64_in (by omega) (by omega)]; omega
    rw [show 0 + 1 + K = K + 1 by omega, millwrightlaw19_TraceBounds.l3, if_neg (by omega), hw]
  | r + 1, m, hr => by
    have hw : wrap64 ((m : Int) + 1) = ((m + 1 : Nat) : Int) := by rw [Bits.wrap64_in (by omega) (by omega)]; omega
    have hl : ((ts.map sl).length : Int) = ts.length := by rw [List.length_map]
    rw [show r + 1 + 1 + K = (r + 1 + K) + 1 by omega, millwrightlaw19_TraceBounds.l3, hl, if_pos (by omega), if_pos (by omega), if_pos (by omega), if_pos (by omega), if_pos (by omega), rd_map sl ts m (by omega), rd_map sl ts kk (by omega), if_neg (hd m (by omega)), hw]
    exact loop3 l1 l2 n i e0 e1 e2 e3 e4 ts hN mem kk hkk hd K r (m + 1) (by omega)
set_option maxHeartbeats 4000000 in
theorem loop2 (l1 : List S50) (w1 : ∀ x ∈ l1, (Lit.int .i64 x.f0).wf = true ∧ (Lit.int .i64 x.f1).wf = true) (l2 : List S42) (n : Int) (i : Int) (e0 e1 e2 e3 e4 : Int) (ts : List TrS.Tk) (hN : ts.length ≤ 70) (hl1 : l1.length = ts.length)
    (hbud : c0 ≤ 9223372036854775807) (B : BI ⟨c0, c1, c2, c3, c4, c5, c6, c7, c8, c9⟩ (ksOf l1) ts) (he0 : 0 ≤ e1) (he1 : e1 < ts.length) (F : Nat)
    (hc : ∀ K, F ≤ K → millwrightlaw19_TraceBounds.l1 K l1 l2 true n (ts.map sl) (ts.map (·.fails)) (ts.map (·.stops)) (ts.map (·.done)) (wrap64 (i + 1)) c0 c1 c2 c3 c4 c5 c6 c7 c8 c9 = some true) :
    ∀ (r kk K : Nat) (mem : Int), kk + r = ts.length → Gb r + F ≤ K → 0 ≤ mem → mem + S (ksOf l1) (ts.drop kk) kk = S (ksOf l1) ts 0 →
      millwrightlaw19_TraceBounds.l2 K l1 l2 true n (ts.map sl) (ts.map (·.fails)) (ts.map (·.stops)) (ts.map (·.done)) i mem kk c0 c1 c2 c3 c4 c5 c6 c7 c8 c9 e0 e1 e2 e3 e4 = some true
  | 0, kk, K, mem, hr, hK, hm, hs => by
    rw [Gb_zero] at hK
    obtain ⟨K, rfl⟩ : ∃ j, K = j + 1 := ⟨K - 1, by omega⟩
    have hg := get_some ts e1 he0 he1
    have hF := (B.fl _ _ hg).2.1
    have hS := (B.st _ _ hg).2
    have hsum := B.sum
    rw [List.drop_eq_nil_of_le (by omega)] at hs
    rw [S] at hs
    have hs' : mem + 0 = S (ksOf l1) ts 0 := hs
    have hl : ((ts.map (·.fails)).length : Int) = ts.length := by rw [List.length_map]
    have hl' : ((ts.map (·.stops)).length : Int) = ts.length := by rw [List.length_map]
    have hsum' : S (ksOf l1) ts 0 ≤ TrS.mxI c0 0 := hsum
    have hF' : (TrS.getT ts e1).fails ≤ TrS.mxI c4 0 := hF
    have hS' : (TrS.getT ts e1).stops ≤ TrS.mxI c5 0 := hS
    rw [millwrightlaw19_TraceBounds.l2, if_neg (by omega), mx_eq, mx_eq, mx_eq, if_neg (by omega), if_pos he0, hl, if_pos he1, rd_map (·.fails) ts e1 (by omega), if_neg (by omega), hl', if_pos he1, rd_map (·.stops) ts e1 (by omega), if_neg (by omega)]
    exact hc K (by omega)
  | r + 1, kk, K, mem, hr, hK, hm, hs => by
    have HS := Aside0.mk hs
    clear hs
    rw [Gb_succ] at hK
    have hGp : 1 ≤ Gb r := Gb_pos r
    obtain ⟨K, rfl⟩ : ∃ j, K = j + 1 := ⟨K - 1, by omega⟩
    have hkk : kk < ts.length := by omega
    have hr' : kk + 1 + r = ts.length := by omega
    have hgk : ts[kk]? = some (TrS.getT ts kk) := getT_nat ts kk hkk
    have hT : TrS.getT ts kk = ts[kk] := by
      rw [List.getElem?_eq_getElem hkk] at hgk
      exact (Option.some.inj hgk).symm
    have hk := ks_in l1 w1
    have hd : S (ksOf l1) (ts.drop kk) kk = TrJ.one (ksOf l1) kk (TrS.getT ts kk) + S (ksOf l1) (ts.drop (kk + 1)) ((kk + 1 : Nat) : Int) := by
      rw [List.drop_eq_getElem_cons hkk, S, hT, cast1 kk]
    have hs : mem + (TrJ.one (ksOf l1) kk (TrS.getT ts kk) + S (ksOf l1) (ts.drop (kk + 1)) ((kk + 1 : Nat) : Int)) = S (ksOf l1) ts 0 := by rw [← hd]; exact HS.out
    have hp := S_pos (ksOf l1) hk (ts.drop (kk + 1)) ((kk + 1 : Nat) : Int)
    have h1 := one_in (ksOf l1) hk kk (TrS.getT ts kk)
    have hsum : S (ksOf l1) ts 0 ≤ TrS.mxI c0 0 := B.sum
    have hmx : TrS.mxI c0 0 ≤ 9223372036854775807 := mxI_le c0 hbud
    have hz := Int.le_trans hsum hmx
    have hl : ((ts.map sl).length : Int) = ts.length := by rw [List.length_map]
    have hkz : (kk : Int) < (l1.length : Int) := by rw [hl1]; exact Int.ofNat_lt.2 hkk
    have hkz' : (kk : Int) < (ts.length : Int) := Int.ofNat_lt.2 hkk
    have hw := wrap_nat kk (by omega)
    have hrec : ∀ (K : Nat) (mem' : Int), Gb r + F ≤ K → 0 ≤ mem' → mem' + S (ksOf l1) (ts.drop (kk + 1)) ((kk + 1 : Nat) : Int) = S (ksOf l1) ts 0 → millwrightlaw19_TraceBounds.l2 K l1 l2 true n (ts.map sl) (ts.map (·.fails)) (ts.map (·.stops)) (ts.map (·.done)) i mem' ((kk + 1 : Nat) : Int) c0 c1 c2 c3 c4 c5 c6 c7 c8 c9 e0 e1 e2 e3 e4 = some true :=
      fun K mem' a b c => loop2 l1 w1 l2 n i e0 e1 e2 e3 e4 ts hN hl1 hbud B he0 he1 F hc r (kk + 1) K mem' hr' a b c
    have hone1 : (TrS.getT ts kk).live = true → TrJ.one (ksOf l1) kk (TrS.getT ts kk) = mx (rd_T50 l1 kk).f0 0 := fun hlv => by unfold TrJ.one; rw [if_pos hlv, getK_rd]; rfl
    have hone0 : ¬ (TrS.getT ts kk).live = true → TrJ.one (ksOf l1) kk (TrS.getT ts kk) = 0 := fun hlv => by unfold TrJ.one; rw [if_neg hlv]
    clear HS hd hsum hmx hT
    generalize TrJ.one (ksOf l1) kk (TrS.getT ts kk) = o at *
    generalize S (ksOf l1) (ts.drop (kk + 1)) ((kk + 1 : Nat) : Int) = R' at *
    generalize S (ksOf l1) ts 0 = Z at *
    rw [millwrightlaw19_TraceBounds.l2, if_pos hkz, if_pos (Int.natCast_nonneg kk), hl, if_pos hkz', rd_map sl ts kk (by rw [Int.toNat_natCast]; exact hkk), hw]
    by_cases hlv : (TrS.getT ts kk).live = true
    · have hsl := B.slot kk _ hgk hlv
      have e : sl (TrS.getT ts kk) = (TrS.getT ts kk).start.slot := by unfold sl; rw [if_pos hlv]
      have hc1 : (TrS.getT ts kk).start.slot < c1 := hsl.2
      have hs0 : 0 ≤ (TrS.getT ts kk).start.slot := hsl.1
      have hdist : ∀ m : Nat, m < kk → sl (TrS.getT ts m) ≠ sl (TrS.getT ts kk) := by
        intro m hm' heq
        have hgm := getT_nat ts m (Nat.lt_trans hm' hkk)
        rw [e] at heq
        unfold sl at heq
        by_cases hlm : (TrS.getT ts m).live = true
        · rw [if_pos hlm] at heq
          exact B.dist m kk _ _ (Nat.ne_of_lt hm') hgm hgk hlm hlv heq
        · rw [if_neg hlm] at heq
          rw [← heq] at hs0
          exact absurd hs0 (by decide)
      rw [e, if_neg (Int.not_lt.2 hs0), ← hone1 hlv, add_f mem o hm h1.1 (by omega), Option.bind_some, if_pos rfl, decide_eq_false (Int.not_le.2 hc1)]
      obtain ⟨K, rfl⟩ : ∃ j, K = j + 1 := ⟨K - 1, by omega⟩
      rw [millwrightlaw19_TraceBounds.j9, if_neg (by simp)]
      obtain ⟨K, rfl⟩ : ∃ j, K = kk + 1 + j := ⟨K - (kk + 1), by omega⟩
      have h3 := loop3 c0 c1 c2 c3 c4 c5 c6 c7 c8 c9 l1 l2 n i e0 e1 e2 e3 e4 ts hN (mem + o) kk hkk hdist K kk 0 (Nat.zero_add kk)
      rw [show ((0 : Nat) : Int) = 0 from rfl] at h3
      rw [h3]
      exact hrec K _ (by omega) (by omega) (by omega)
    · have e : sl (TrS.getT ts kk) = -1 := by unfold sl; rw [if_neg hlv]
      have ho := hone0 hlv
      rw [e, if_pos (by decide)]
      exact hrec K mem (by omega) hm (by omega)
theorem right_step (c : TrS.Cf) (ks : List TrS.Tsk) (e : TrS.Ev) (rest : List TrS.Ev) (ts : List TrS.Tk) (t N E : Int) (n m : Nat) {i : Nat} (hNE : (n : Int) = if E = 0 then (m : Int) else N) (hin : i < n) (hA : TrS.auditL c ks (e :: rest) ts t i = (N, E)) :
    (TrS.takes c ks ts t e).1 = 0 ∧ TrS.auditL c ks rest (TrS.takes c ks ts t e).2.1 (TrS.takes c ks ts t e).2.2 ((i : Int) + 1) = (N, E) := by
  rw [TrS.auditL] at hA
  by_cases h0 : (TrS.takes c ks ts t e).1 = 0
  · rw [if_pos h0] at hA
    exact ⟨h0, hA⟩
  · exfalso
    rw [if_neg h0] at hA
    injection hA with hN hE
    rw [← hE, if_neg h0, ← hN] at hNE
    have : n = i := Int.ofNat_inj.1 hNE
    omega
set_option maxHeartbeats 8000000 in
theorem loop1 (l1 : List S50) (w1 : ∀ x ∈ l1, (Lit.int .i64 x.f0).wf = true ∧ (Lit.int .i64 x.f1).wf = true) (hl1 : l1.length ≤ 70) (l2 : List S42) (hl2 : l2.length ≤ 120)
    (hbud : c0 ≤ 9223372036854775807) (htr : c4 ≤ 9223372036854775807) (hpr : c5 ≤ 9223372036854775807) (n : Nat) (hn : n ≤ l2.length) (N E : Int) (hNE : (n : Int) = if E = 0 then (l2.length : Int) else N) :
    ∀ (q i K : Nat) (ts : List TrS.Tk) (t : Int), i + q = n → BI ⟨c0, c1, c2, c3, c4, c5, c6, c7, c8, c9⟩ (ksOf l1) ts → (0 < i → t = (rd_T42 l2 ((i - 1 : Nat) : Int)).f4) →
      TrS.auditL ⟨c0, c1, c2, c3, c4, c5, c6, c7, c8, c9⟩ (ksOf l1) ((l2.drop i).map trace_Audit.g2) ts t i = (N, E) → Fb q ≤ K →
      millwrightlaw19_TraceBounds.l1 K l1 l2 true n (ts.map sl) (ts.map (·.fails)) (ts.map (·.stops)) (ts.map (·.done)) i c0 c1 c2 c3 c4 c5 c6 c7 c8 c9 = some true
  | 0, i, K, ts, t, hq, B, ht, hA, hK => by
    rw [Fb_zero] at hK
    obtain ⟨K, rfl⟩ : ∃ j, K = j + 1 := ⟨K - 1, by omega⟩
    rw [millwrightlaw19_TraceBounds.l1, if_neg (by omega)]
  | q + 1, i, K, ts, t, hq, B, ht, hA, hK => by
    rw [Fb_succ] at hK
    have hFp := Fb_pos q
    obtain ⟨K, rfl⟩ : ∃ j, K = j + 5 := ⟨K - 5, by omega⟩
    have hi : i < l2.length := by omega
    have hin : i < n := by omega
    have hi1 : i + 1 + q = n := by omega
    have hks : (ksOf l1).length = l1.length := List.length_map ..
    have hlen : ts.length = l1.length := by rw [B.len, hks]
    have hN70 : ts.length ≤ 70 := by rw [hlen]; exact hl1
    have hGl := Gb_le ts.length hN70
    have hw := wrap_nat i (by omega)
    rw [List.drop_eq_getElem_cons hi, List.map_cons] at hA
    obtain ⟨h0, hA⟩ := right_step _ _ _ _ _ _ _ _ n l2.length hNE hin hA
    obtain ⟨⟨g1, g2', g3, g4, g5, g6, g7⟩, hst, htk, hcase⟩ := takes_ok h0
    have B' := BI.step (ks_in l1 w1) htr hpr hbud B h0
    rw [hst, htk] at hA
    rw [hst] at B'
    clear hst htk h0
    -- what stands in the event
    generalize hx : l2[i] = x at *
    obtain ⟨e0, e1, e2, e3, e4⟩ := x
    have k0 : (trace_Audit.g2 ⟨e0, e1, e2, e3, e4⟩).kind = e0 := rfl
    have k1 : (trace_Audit.g2 ⟨e0, e1, e2, e3, e4⟩).task = e1 := rfl
    have k2 : (trace_Audit.g2 ⟨e0, e1, e2, e3, e4⟩).slot = e2 := rfl
    have k4 : (trace_Audit.g2 ⟨e0, e1, e2, e3, e4⟩).tick = e4 := rfl
    rw [k0] at g1 g2' hcase
    rw [k1] at g3 g4 hcase hA B'
    rw [k2] at g5 g6 hcase
    rw [k4] at g7 hA
    have hgT := get_some ts e1 g3 g4
    have htn : e1.toNat < ts.length := by omega
    have HC := Aside0.mk hcase
    clear hcase
    generalize hT : TrS.getT ts e1 = T at *
    generalize hT' : newT (trace_Audit.g2 ⟨e0, e1, e2, e3, e4⟩) T = T' at *
    have hrdx : rd_T42 l2 (i : Int) = ⟨e0, e1, e2, e3, e4⟩ := by rw [rd_get l2 i hi, hx]
    have ls : ((ts.map sl).length : Int) = ts.length := by rw [List.length_map]
    have lf : ((ts.map (·.fails)).length : Int) = ts.length := by rw [List.length_map]
    have lp : ((ts.map (·.stops)).length : Int) = ts.length := by rw [List.length_map]
    have ld : ((ts.map (·.done)).length : Int) = ts.length := by rw [List.length_map]
    have ih := fun K hK => loop1 l1 w1 hl1 l2 hl2 hbud htr hpr n hn N E hNE q (i + 1) K (TrS.setT ts e1 T') e4 hi1 B' (fun _ => by rw [Nat.add_sub_cancel, hrdx]) (by rw [cast1 i]; exact hA) hK
    have hlen' : (TrS.setT ts e1 T').length = ts.length := TrU.setT_len ..
    have hl70' : (TrS.setT ts e1 T').length ≤ 70 := by rw [hlen']; exact hN70
    have hl1' : l1.length = (TrS.setT ts e1 T').length := by rw [hlen', hlen]
    have he1' : e1 < ((TrS.setT ts e1 T').length : Int) := by rw [hlen']; exact g4
    have IH := Aside0.mk ih
    have HW := Aside0.mk hw
    have HA := Aside0.mk hA
    have HT := Aside0.mk ht
    clear ih hw hA ht
    have p7 : ∀ K, 5700 + Fb q ≤ K → millwrightlaw19_TraceBounds.j7 K l1 l2 true n ((TrS.setT ts e1 T').map sl) ((TrS.setT ts e1 T').map (·.fails)) ((TrS.setT ts e1 T').map (·.stops)) ((TrS.setT ts e1 T').map (·.done)) i c0 c1 c2 c3 c4 c5 c6 c7 c8 c9 e0 e1 e2 e3 e4 = some true := by
      intro K hK
      obtain ⟨K, rfl⟩ : ∃ j, K = j + 1 := ⟨K - 1, by omega⟩
      rw [millwrightlaw19_TraceBounds.j7]
      have := loop2 c0 c1 c2 c3 c4 c5 c6 c7 c8 c9 l1 w1 l2 n i e0 e1 e2 e3 e4 (TrS.setT ts e1 T') hl70' hl1' hbud B' g3 he1' (Fb q) (fun K hK => by rw [HW.out]; exact IH.out K hK) (TrS.setT ts e1 T').length 0 K 0 (Nat.zero_add _) (by rw [hlen']; omega) (Int.le_refl _) (by rw [List.drop_zero, Int.zero_add]; rfl)
      exact this
    have p4 : ∀ K, 5710 + Fb q ≤ K → millwrightlaw19_TraceBounds.j4 K l1 l2 true n (ts.map sl) (ts.map (·.fails)) (ts.map (·.stops)) (ts.map (·.done)) i false c0 c1 c2 c3 c4 c5 c6 c7 c8 c9 e0 e1 e2 e3 e4 = some true := by
      intro K hK
      obtain ⟨K, rfl⟩ : ∃ j, K = j + 3 := ⟨K - 3, by omega⟩
      rw [millwrightlaw19_TraceBounds.j4, if_neg (by simp)]
      rcases HC.out with ⟨q1, a1, a2, a3, a4, a5⟩ | ⟨q1, a1, a2, a3⟩
      · have hN' : T' = { T with live := true, begun := true, start := trace_Audit.g2 ⟨e0, e1, e2, e3, e4⟩ } := by rw [← hT']; unfold newT; rw [if_pos (show (trace_Audit.g2 ⟨e0, e1, e2, e3, e4⟩).kind = 1 from q1)]
        have hs : sl T' = e2 := by rw [hN']; rfl
        have m1 := map_setT sl ts e1 T'
        rw [hs] at m1
        have m2 := map_same (·.fails) ts e1 htn T' (by rw [hT, hN'])
        have m3 := map_same (·.stops) ts e1 htn T' (by rw [hT, hN'])
        have m4 := map_same (·.done) ts e1 htn T' (by rw [hT, hN'])
        rw [if_pos q1, if_pos g3, ls, if_pos g4, millwrightlaw19_TraceBounds.j6, if_pos q1, ← m1, ← m2, ← m3, ← m4]
        exact p7 _ (by omega)
      · have hN' : T' = { T with live := false, done := if e0 = 2 then true else T.done, fails := if e0 = 3 ∨ e0 = 5 then TrS.wrap (T.fails + 1) else T.fails, stops := if e0 = 6 then TrS.wrap (T.stops + 1) else T.stops } := by rw [← hT']; unfold newT; rw [if_neg (show ¬ (trace_Audit.g2 ⟨e0, e1, e2, e3, e4⟩).kind = 1 from q1)]; rfl
        have hs : sl T' = -1 := by rw [hN']; rfl
        have hsT : sl T = e2 := by unfold sl; rw [if_pos a1, a2]
        have m1 := map_setT sl ts e1 T'
        rw [hs] at m1
        have p6 : ∀ (F P : List Int) (D : List Bool), F = (TrS.setT ts e1 T').map (·.fails) → P = (TrS.setT ts e1 T').map (·.stops) → D = (TrS.setT ts e1 T').map (·.done) → ∀ K, 5702 + Fb q ≤ K → millwrightlaw19_TraceBounds.j6 K l1 l2 true n (ts.map sl) F P D i c0 c1 c2 c3 c4 c5 c6 c7 c8 c9 e0 e1 e2 e3 e4 = some true := by
          intro F P D hF hP hD K hK
          obtain ⟨K, rfl⟩ : ∃ j, K = j + 1 := ⟨K - 1, by omega⟩
          subst hF hP hD
          rw [millwrightlaw19_TraceBounds.j6, if_neg q1, if_pos g3, ls, if_pos g4, rd_map sl ts e1 htn, hT, hsT, if_pos rfl, ← m1]
          exact p7 K (by omega)
        rw [if_neg q1]
        by_cases q2 : e0 = 2
        · have m2 := map_same (·.fails) ts e1 htn T' (by rw [hT, hN']; show (if e0 = 3 ∨ e0 = 5 then _ else _) = _; rw [if_neg (by omega)])
          have m3 := map_same (·.stops) ts e1 htn T' (by rw [hT, hN']; show (if e0 = 6 then _ else _) = _; rw [if_neg (by omega)])
          have m4 := map_setT (·.done) ts e1 T'
          have hd : T'.done = true := by rw [hN']; show (if e0 = 2 then _ else _) = _; rw [if_pos q2]
          rw [hd] at m4
          rw [if_pos q2, if_pos g3, ld, if_pos g4]
          exact p6 _ _ _ m2.symm m3.symm m4.symm _ (by omega)
        · have m4 := map_same (·.done) ts e1 htn T' (by rw [hT, hN']; show (if e0 = 2 then _ else _) = _; rw [if_neg q2])
          rw [if_neg q2]
          have p5 : ∀ b : Bool, b = decide (e0 = 3 ∨ e0 = 5) → millwrightlaw19_TraceBounds.j5 (K + 2) l1 l2 true n (ts.map sl) (ts.map (·.fails)) (ts.map (·.stops)) (ts.map (·.done)) i e0 b c0 c1 c2 c3 c4 c5 c6 c7 c8 c9 e0 e1 e2 e3 e4 = some true := by
            intro b hb
            rw [millwrightlaw19_TraceBounds.j5]
            by_cases q3 : e0 = 3 ∨ e0 = 5
            · have m3 := map_same (·.stops) ts e1 htn T' (by rw [hT, hN']; show (if e0 = 6 then _ else _) = _; rw [if_neg (by omega)])
              have m2 := map_setT (·.fails) ts e1 T'
              have hf : T'.fails = wrap64 (T.fails + 1) := by rw [hN']; show (if e0 = 3 ∨ e0 = 5 then _ else _) = _; rw [if_pos q3]
              rw [hf] at m2
              rw [hb, if_pos (decide_eq_true q3), if_pos g3, lf, if_pos g4, rd_map (·.fails) ts e1 htn, hT]
              exact p6 _ _ _ m2.symm m3.symm m4.symm _ (by omega)
            · have m2 := map_same (·.fails) ts e1 htn T' (by rw [hT, hN']; show (if e0 = 3 ∨ e0 = 5 then _ else _) = _; rw [if_neg q3])
              rw [hb, if_neg (by rw [decide_eq_false q3]; simp)]
              by_cases q6 : e0 = 6
              · have m3 := map_setT (·.stops) ts e1 T'
                have hf : T'.stops = wrap64 (T.stops + 1) := by rw [hN']; show (if e0 = 6 then _ else _) = _; rw [if_pos q6]
                rw [hf] at m3
                rw [if_pos q6, if_pos g3, lp, if_pos g4, rd_map (·.stops) ts e1 htn, hT]
                exact p6 _ _ _ m2.symm m3.symm m4.symm _ (by omega)
              · have m3 := map_same (·.stops) ts e1 htn T' (by rw [hT, hN']; show (if e0 = 6 then _ else _) = _; rw [if_neg q6])
                rw [if_neg q6]
                exact p6 _ _ _ m2.symm m3.symm m4.symm _ (by omega)
          by_cases q3 : e0 = 3
          · rw [if_pos q3]
            exact p5 _ (by rw [q3]; rfl)
          · rw [if_neg q3]
            refine p5 _ ?_
            by_cases q5 : e0 = 5
            · rw [q5]; rfl
            · rw [decide_eq_false (by omega)]
              exact beq_eq_false_iff_ne.2 q5
    -- the checks ahead
    have hsT : sl T = if T.live = true then T.start.slot else -1 := rfl
    have hdone : T.done = false := by
      rcases HC.out with ⟨_, _, a2, _⟩ | ⟨_, a1, _⟩
      · exact a2
      · exact B.dn _ _ hgT a1
    have hx1 : ((e0 == 1) != decide (sl T < 0)) = false := by
      rcases HC.out with ⟨q1, a1, _⟩ | ⟨q1, a1, a2, _⟩
      · rw [hsT, if_neg (by rw [a1]; simp), q1]; rfl
      · have := (B.slot _ _ hgT a1).1
        rw [hsT, if_pos a1, decide_eq_false (by omega), beq_eq_false_iff_ne.2 q1]
        rfl
    rw [millwrightlaw19_TraceBounds.l1, if_pos (by omega), if_pos (by omega), if_pos (by omega), hrdx]
    simp only
    rw [if_neg (by omega), if_neg (by omega), if_pos g3, ls, if_pos g4, rd_map sl ts e1 htn, hT, hx1, if_neg (by simp), ld, if_pos g4, rdB_map (·.done) ts e1 htn, hT, hdone, if_neg (by simp)]
    by_cases hi0 : (i : Int) > 0
    · have hwm : wrap64 ((i : Int) - 1) = ((i - 1 : Nat) : Int) := by rw [Bits.wrap64_in (by omega) (by omega)]; omega
      have := HT.out (by omega)
      rw [if_pos hi0, hwm, if_pos (by omega), if_pos (by omega), ← this, decide_eq_false (by omega)]
      exact p4 _ (by omega)
    · rw [if_neg hi0]
      exact p4 _ (by omega)
theorem loop0 (l1 : List S50) (hl1 : l1.length ≤ 70) (l2 : List S42) (n : Int) (F P : List Int) (D : List Bool) (K : Nat) : ∀ (r i : Nat), i + r = l1.length →
    millwrightlaw19_TraceBounds.l0 (r + 1 + K) l1 l2 true n (List.replicate i (-1) ++ List.replicate r 0) F P D i c0 c1 c2 c3 c4 c5 c6 c7 c8 c9 = millwrightlaw19_TraceBounds.l1 K l1 l2 true n (List.replicate l1.length (-1)) F P D 0 c0 c1 c2 c3 c4 c5 c6 c7 c8 c9
  | 0, i, hr => by
    rw [show 0 + 1 + K = K + 1 by omega, millwrightlaw19_TraceBounds.l0, if_neg (by omega), List.replicate_zero, List.append_nil, show i = l1.length by omega]
  | r + 1, i, hr => by
    have hw : wrap64 ((i : Int) + 1) = ((i + 1 : Nat) : Int) := by rw [Bits.wrap64_in (by omega) (by omega)]; omega
    have hset : (List.replicate i (-1 : Int) ++ List.replicate (r + 1) 0).set i (-1) = List.replicate (i + 1) (-1) ++ List.replicate r 0 := by
      rw [List.set_append_right _ _ (by simp), List.length_replicate, Nat.sub_self, List.replicate_succ (n := r), List.set_cons_zero, List.replicate_succ', List.append_assoc]
      rfl
    rw [show r + 1 + 1 + K = (r + 1 + K) + 1 by omega, millwrightlaw19_TraceBounds.l0, if_pos (by omega), if_pos (by omega), if_pos (by simp; omega), Int.toNat_natCast, hset, hw]
    exact loop0 l1 hl1 l2 n F P D K r (i + 1) (by omega)
end
set_option maxHeartbeats 4000000 in
theorem TraceBounds (c0 c1 c2 c3 c4 c5 c6 c7 c8 c9 : Int) (l1 : List S50) (l2 : List S42) (hc : ∀ z ∈ [c0, c1, c2, c3, c4, c5, c6, c7, c8, c9], (Lit.int .i64 z).wf = true)
    (b1 : l1.length ≤ 9223372036854775807) (w1 : ∀ x ∈ l1, (Lit.int .i64 x.f0).wf = true ∧ (Lit.int .i64 x.f1).wf = true) (b2 : l2.length ≤ 9223372036854775807)
    (w2 : ∀ x ∈ l2, (Lit.int .i64 x.f0).wf = true ∧ (Lit.int .i64 x.f1).wf = true ∧ (Lit.int .i64 x.f2).wf = true ∧ (Lit.int .i64 x.f3).wf = true ∧ (Lit.int .i64 x.f4).wf = true) :
    ∃ k, millwrightlaw19_TraceBounds.f k c0 c1 c2 c3 c4 c5 c6 c7 c8 c9 l1 l2 = some true := by
  have i1 := mn_in l1.length 70 (by decide)
  have i2 := mn_in l2.length 120 (by decide)
  have t1 := take_in l1 70 (by decide)
  have t2 := take_in l2 120 (by decide)
  have r0 := (TrO.wf_range (hc c0 (by simp))).2
  have r4 := (TrO.wf_range (hc c4 (by simp))).2
  have r5 := (TrO.wf_range (hc c5 (by simp))).2
  have hwA : ∀ x ∈ l1.take (mn (l1.length : Int) 70).toNat, (Lit.int .i64 x.f0).wf = true ∧ (Lit.int .i64 x.f1).wf = true := fun x hx => w1 x (List.mem_of_mem_take hx)
  simp only [millwrightlaw19_TraceBounds.f, millwrightlaw19_shown.f, Option.bind_some, if_pos i1.1, if_pos i1.2.1, if_pos i2.1, if_pos i2.2.1]
  generalize l1.take (mn (l1.length : Int) 70).toNat = A at t1 hwA
  generalize l2.take (mn (l2.length : Int) 120).toNat = B at t2
  have hA : A.length ≤ 70 := by omega
  have hB : B.length ≤ 120 := by omega
  have e1 : trace_Audit.f c0 c1 c2 c3 c4 c5 c6 c7 c8 c9 A B = some (TrS.audit ⟨c0, c1, c2, c3, c4, c5, c6, c7, c8, c9⟩ (A.map trace_Audit.g1) (B.map trace_Audit.g2)) := if_pos ⟨by omega, by omega⟩
  rw [e1]
  simp only [Option.bind_some]
  have hrng := TrU.range ⟨c0, c1, c2, c3, c4, c5, c6, c7, c8, c9⟩ (ksOf A) (B.map trace_Audit.g2) (List.replicate A.length TrS.tk0) 0 0
  have hau : TrS.audit ⟨c0, c1, c2, c3, c4, c5, c6, c7, c8, c9⟩ (A.map trace_Audit.g1) (B.map trace_Audit.g2) = TrS.auditL ⟨c0, c1, c2, c3, c4, c5, c6, c7, c8, c9⟩ (ksOf A) (B.map trace_Audit.g2) (List.replicate A.length TrS.tk0) 0 0 := by
    unfold TrS.audit
    rw [List.length_map]
  rw [hau]
  generalize hr : TrS.auditL ⟨c0, c1, c2, c3, c4, c5, c6, c7, c8, c9⟩ (ksOf A) (B.map trace_Audit.g2) (List.replicate A.length TrS.tk0) 0 0 = r at *
  rw [List.length_map] at hrng
  -- how far the trace is right
  obtain ⟨n, hn, hNE⟩ : ∃ n : Nat, n ≤ B.length ∧ (n : Int) = if r.2 = 0 then (B.length : Int) else r.1 := by
    rcases hrng with h | ⟨h1, h2, h3⟩
    · exact ⟨B.length, Nat.le_refl _, by rw [h]; rfl⟩
    · exact ⟨r.1.toNat, by omega, by rw [if_neg h3]; omega⟩
  have hmaps : ∀ {α : Type} (f : TrS.Tk → α), (List.replicate A.length TrS.tk0).map f = List.replicate A.length (f TrS.tk0) := fun f => List.map_replicate
  have hl1 := loop1 c0 c1 c2 c3 c4 c5 c6 c7 c8 c9 A hwA hA B hB r0 r4 r5 n hn r.1 r.2 hNE n 0 (Fb n) (List.replicate A.length TrS.tk0) 0 (by omega)
    (by have := BI.nil ⟨c0, c1, c2, c3, c4, c5, c6, c7, c8, c9⟩ (ksOf A); rw [show (ksOf A).length = A.length from List.length_map ..] at this; exact this) (fun h => absurd h (by omega)) (by rw [List.drop_zero]; exact hr) (Nat.le_refl _)
  rw [hmaps, hmaps, hmaps, hmaps] at hl1
  have hj : millwrightlaw19_TraceBounds.j0 ((A.length + 1 + (Fb n)) + 1 + 1) A B true (n : Int) c0 c1 c2 c3 c4 c5 c6 c7 c8 c9 = some true := by
    rw [millwrightlaw19_TraceBounds.j0, if_neg (by omega), decide_eq_false (by omega), millwrightlaw19_TraceBounds.j1, if_neg (by simp), if_pos (by omega), Int.toNat_natCast, if_pos (by omega), if_pos (by omega)]
    have h0 := loop0 c0 c1 c2 c3 c4 c5 c6 c7 c8 c9 A hA B n (List.replicate A.length 0) (List.replicate A.length 0) (List.replicate A.length false) (Fb n) A.length 0 (by omega)
    rw [List.replicate_zero, List.nil_append, show ((0 : Nat) : Int) = 0 from rfl] at h0
    rw [h0]
    exact hl1
  refine ⟨(A.length + 1 + (Fb n)) + 1 + 1, ?_⟩
  by_cases h : r.2 = 0
  · rw [if_pos h] at hNE
    rw [if_pos h, ← hNE]
    exact hj
  · rw [if_neg h] at hNE
    rw [if_neg h, ← hNE]
    exact hj
end Go.Proofs.YtckcepmkfegkiaaDoor.Pure
