/- Plain: the audit of a trace in which tasks begin one behind the other, and stay. No condition. -/
import Derived.Test.YtckcepmkfegkiaaDoorTrU2
namespace Go.Proofs.YtckcepmkfegkiaaDoor.TrM
open Go.RowKit TrS TrU
def evM (i : Nat) : Ev := ⟨1, i, i, 0, 3⟩
def tkM (m : Int) : Tsk := ⟨m, 1⟩
def onM (j : Nat) : Tk := ⟨true, true, false, evM j, 0, 0⟩
def stM (i n : Nat) : List Tk := (List.range i).map onM ++ List.replicate (n - i) tk0
def evs (i r : Nat) : List Ev := (List.range' i r).map evM
def firstM (b : Int) : List Int → Int → Int → Int × Int
  | [], _, _ => (-1, 0)
  | m :: ms, used, i => if used + m > b then (i, 5) else firstM b ms (used + m) (i + 1)
theorem addI_pos (a b : Int) (ha : 0 ≤ a) (hb : 0 ≤ b) (h : a + b ≤ 9223372036854775807) : addI a b = (a + b, true) := by
  have hw : wrap (a + b) = a + b := wrap_id _ (by omega) (by omega)
  unfold addI
  rw [hw, if_pos]
  have h1 : ¬ (a + b < a) := by omega
  have h2 : ¬ (b < 0) := by omega
  rw [decide_eq_false h1, decide_eq_false h2]
  rfl
theorem mxI_pos (a : Int) (h : 0 ≤ a) : mxI a 0 = a := by unfold mxI; split <;> omega
theorem fitsL_live (ks : List Tsk) : ∀ (ms : List Int) (ss : List Tk) (i all : Int), ss.length = ms.length → (∀ s ∈ ss, s.live = true) → (∀ (j : Nat) (m : Int), ms[j]? = some m → (getK ks (i + j)).mem = m) → (∀ m ∈ ms, 0 ≤ m ∧ m ≤ 1048576) → 0 ≤ all → all + 1048576 * ms.length ≤ 1099511627776 → fitsL ks ss i all = some (all + ms.sum)
  | [], [], _, _, _, _, _, _, _, _ => by simp [fitsL]
  | [], _ :: _, _, _, h, _, _, _, _, _ => by simp at h
  | _ :: _, [], _, _, h, _, _, _, _, _ => by simp at h
  | m :: ms, s :: ss, i, all, h, hl, hk, hm, ha, hb => by
    have h1 := hk 0 m rfl
    have h2 := hm m (.head _)
    rw [List.length_cons] at hb
    rw [Int.natCast_zero, Int.add_zero] at h1
    have h3 : addI all (mxI (getK ks i).mem 0) = (all + m, true) := by
      rw [h1, mxI_pos m h2.1, addI_pos all m ha h2.1 (by omega)]
    rw [fitsL, if_pos (hl s (.head _)), h3, if_pos rfl]
    rw [fitsL_live ks ms ss (i + 1) (all + m) (by simpa using h) (fun x hx => hl x (.tail _ hx)) (fun j x hx => by rw [show i + 1 + (j : Int) = i + ((j + 1 : Nat) : Int) by omega]; exact hk (j + 1) x (by simpa using hx)) (fun x hx => hm x (.tail _ hx)) (by omega) (by omega)]
    rw [List.sum_cons]
    congr 1
    omega
theorem stM_len (i n : Nat) (h : i ≤ n) : (stM i n).length = n := by unfold stM; simp; omega
theorem getT_stM (i n : Nat) : getT (stM i n) (i : Int) = tk0 := by
  unfold getT stM
  rw [Int.toNat_natCast, List.getD_eq_getElem?_getD, List.getElem?_append_right (by simp), List.length_map, List.length_range, Nat.sub_self]
  cases n - i <;> rfl
theorem setT_stM (i n : Nat) (h : i < n) : setT (stM i n) (i : Int) (onM i) = stM (i + 1) n := by
  unfold setT stM
  rw [Int.toNat_natCast, List.set_append_right _ _ (by simp), List.length_map, List.length_range, Nat.sub_self]
  have : n - i = (n - (i + 1)) + 1 := by omega
  rw [this, List.replicate_succ, List.set_cons_zero, List.range_succ, List.map_append, List.append_assoc]
  rfl
theorem held_stM (i n : Nat) : held (stM i n) (i : Int) = false := by
  unfold held stM
  rw [List.any_append, Bool.or_eq_false_iff]
  constructor
  · rw [List.any_eq_false]
    intro x hx
    obtain ⟨j, hj, rfl⟩ := List.mem_map.1 hx
    have := List.mem_range.1 hj
    have h2 : ¬ ((j : Int) = (i : Int)) := by omega
    simp [onM, evM, h2]
  · rw [List.any_eq_false]
    intro x hx
    rw [(List.mem_replicate.1 hx).2]
    simp [tk0]
theorem run (b : Int) (ms : List Int) (hn : ms.length ≤ 16) (hm : ∀ m ∈ ms, 0 ≤ m ∧ m ≤ 1048576) : ∀ (rest pre : List Int) (t : Int), ms = pre ++ rest → pre.sum ≤ b → t ≤ 3 →
    auditL ⟨b, 16, 0, 0, 1, 0, 0, 0, 0, 0⟩ (ms.map tkM) (evs pre.length rest.length) (stM pre.length ms.length) t pre.length = firstM b rest pre.sum pre.length
  | [], pre, t, _, _, _ => rfl
  | m :: rest, pre, t, e, hb, ht => by
    have hlen : ms.length = pre.length + (rest.length + 1) := by rw [e, List.length_append, List.length_cons]
    have hev : evs pre.length (m :: rest).length = evM pre.length :: evs (pre.length + 1) rest.length := rfl
    rw [hev]
    have hmay : may ⟨b, 16, 0, 0, 1, 0, 0, 0, 0, 0⟩ (stM pre.length ms.length).length t (evM pre.length) = true := by
      rw [stM_len _ _ (by omega)]
      simp only [may, known, inB, evM, Bool.and_eq_true]
      exact ⟨⟨rfl, rfl⟩, ⟨decide_eq_true (by omega), decide_eq_true (by omega), decide_eq_true (by omega), decide_eq_true (by omega)⟩, rfl, decide_eq_true ht⟩
    have hmem : ∀ x ∈ pre, 0 ≤ x ∧ x ≤ 1048576 := fun x hx => hm x (by rw [e]; exact List.mem_append_left _ hx)
    have hm1 : 0 ≤ m ∧ m ≤ 1048576 := hm m (by rw [e]; exact List.mem_append_right _ (.head _))
    have hK : ∀ (j : Nat) (x : Int), ms[j]? = some x → (getK (ms.map tkM) (j : Int)).mem = x := by
      intro j x hx
      unfold getK
      rw [Int.toNat_natCast, List.getD_eq_getElem?_getD, List.getElem?_map, hx]
      rfl
    have hfit : fitsL (ms.map tkM) (stM pre.length ms.length) 0 (mxI (getK (ms.map tkM) (pre.length : Int)).mem 0) = some (m + pre.sum) := by
      rw [hK pre.length m (by rw [e]; simp), mxI_pos m hm1.1]
      unfold stM
      rw [fitsL_app]
      refine fitsL_live _ pre _ 0 m (by simp) ?_ ?_ hmem hm1.1 (by omega)
      · intro s hs
        obtain ⟨j, _, rfl⟩ := List.mem_map.1 hs
        rfl
      · intro j x hx
        rw [Int.zero_add]
        exact hK j x (by rw [e, List.getElem?_append_left (List.getElem?_eq_some_iff.1 hx).1]; exact hx)
    have htk : takes ⟨b, 16, 0, 0, 1, 0, 0, 0, 0, 0⟩ (ms.map tkM) (stM pre.length ms.length) t (evM pre.length) = if pre.sum + m > b then (5, stM pre.length ms.length, 3) else (0, stM (pre.length + 1) ms.length, 3) := by
      unfold takes
      rw [if_pos hmay, if_pos (show (evM pre.length).kind = 1 from rfl)]
      have hs : starts ⟨b, 16, 0, 0, 1, 0, 0, 0, 0, 0⟩ (ms.map tkM) (stM pre.length ms.length) (evM pre.length) = if pre.sum + m > b then (5, stM pre.length ms.length) else (0, stM (pre.length + 1) ms.length) := by
        unfold starts
        have k1 : (evM pre.length).task = (pre.length : Int) := rfl
        have k2 : (evM pre.length).slot = (pre.length : Int) := rfl
        rw [k1, k2, getT_stM, held_stM, if_neg (by simp [tk0]), if_neg (by simp [tk0]), if_neg (by simp [tk0])]
        unfold fits
        rw [hfit]
        by_cases hx : pre.sum + m > b
        · rw [if_pos hx, if_neg]
          intro h
          have := of_decide_eq_true h
          have h2 : m + pre.sum ≤ b := this
          omega
        · rw [if_neg hx, if_pos (decide_eq_true (show m + pre.sum ≤ b by omega))]
          have := setT_stM pre.length ms.length (by omega)
          rw [← this]
          rfl
      rw [hs]
      split <;> rfl
    have hstep : auditL ⟨b, 16, 0, 0, 1, 0, 0, 0, 0, 0⟩ (ms.map tkM) (evM pre.length :: evs (pre.length + 1) rest.length) (stM pre.length ms.length) t pre.length = firstM b (m :: rest) pre.sum pre.length := by
      rw [auditL, htk, firstM]
      by_cases hx : pre.sum + m > b
      · rw [if_pos hx, if_pos hx, if_neg (by simp)]
      · rw [if_neg hx, if_neg hx, if_pos rfl]
        have := run b ms hn hm rest (pre ++ [m]) 3 (by rw [e, List.append_assoc]; rfl) (by rw [List.sum_append]; simp; omega) (Int.le_refl _)
        rw [List.length_append, List.sum_append, List.length_singleton] at this
        have h1 : [m].sum = m := by simp
        rw [h1] at this
        have h2 : ((pre.length + 1 : Nat) : Int) = (pre.length : Int) + 1 := by omega
        rw [h2] at this
        exact this
    exact hstep
theorem audit_mem (b : Int) (hb : 0 ≤ b) (ms : List Int) (hn : ms.length ≤ 16) (hm : ∀ m ∈ ms, 0 ≤ m ∧ m ≤ 1048576) : audit ⟨b, 16, 0, 0, 1, 0, 0, 0, 0, 0⟩ (ms.map tkM) (evs 0 ms.length) = firstM b ms 0 0 := by
  have := run b ms hn hm ms [] 0 rfl hb (by decide)
  unfold audit
  rw [List.length_map]
  exact this
def atF (b : Int) : List Int → Int → Int → Int → Int
  | [], _, _, at_ => at_
  | m :: ms, used, i, at_ => atF b ms (used + m) (i + 1) (if at_ < 0 ∧ used + m > b then i else at_)
theorem atF_app (b : Int) : ∀ (ms ns : List Int) (used i at_ : Int), atF b (ms ++ ns) used i at_ = atF b ns (used + ms.sum) (i + ms.length) (atF b ms used i at_)
  | [], ns, used, i, at_ => by simp [atF]
  | m :: ms, ns, used, i, at_ => by
    rw [List.cons_append, atF, atF_app b ms ns, atF, List.sum_cons, List.length_cons]
    congr 1 <;> omega
theorem atF_firstM (b : Int) : ∀ (ms : List Int) (used i : Int), 0 ≤ i → firstM b ms used i = (atF b ms used i (-1), if atF b ms used i (-1) ≥ 0 then 5 else 0)
  | [], used, i, _ => rfl
  | m :: ms, used, i, hi => by
    rw [firstM, atF]
    by_cases h : used + m > b
    · rw [if_pos h, if_pos ⟨by decide, h⟩]
      have : ∀ (ms : List Int) (u j : Int), atF b ms u j i = i := by
        intro ms
        induction ms with
        | nil => intros; rfl
        | cons x xs ih => intro u j; rw [atF, if_neg (by omega)]; exact ih _ _
      rw [this, if_pos hi]
    · rw [if_neg h, if_neg (fun x => h x.2)]
      exact atF_firstM b ms _ _ (by omega)
end Go.Proofs.YtckcepmkfegkiaaDoor.TrM
