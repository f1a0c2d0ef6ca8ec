/- The plain law of TraceTells: what the code computes answers true at every input. No condition. -/
import Derived.Test.YtckcepmkfegkiaaDoorPTraceTellsx5
import Derived.Test.YtckcepmkfegkiaaDoorTrT
import Derived.Test.YtckcepmkfegkiaaDoorTrO
import Derived.Test.YtckcepmkfegkiaaDoorBits
namespace Go.Proofs.YtckcepmkfegkiaaDoor.Pure
open Go.RowKit Go.Proofs.YtckcepmkfegkiaaDoor.PTraceTells Go.Proofs.YtckcepmkfegkiaaDoorW.PrintWords Go.Proofs.YtckcepmkfegkiaaDoorW.PrintLast Go.Proofs.YtckcepmkfegkiaaDoorW.PrintMore
set_option linter.unusedVariables false
set_option linter.unusedSimpArgs false
theorem mn_in (n : Nat) (m : Int) (hm : 0 ≤ m) : 0 ≤ mn (n : Int) m ∧ mn (n : Int) m ≤ n ∧ mn (n : Int) m ≤ m := by unfold mn; split <;> omega
theorem take_in {α : Type} (l : List α) (m : Int) (hm : 0 ≤ m) : ((l.take (mn (l.length : Int) m).toNat).length : Int) = mn (l.length : Int) m := by
  have := mn_in l.length m hm
  rw [List.length_take]
  omega
def ev (x : S39) : TrS.Ev := ⟨x.f0, x.f1, x.f2, x.f3, x.f4⟩
abbrev H (h : List S39) : List TrS.Ev := h.map ev
abbrev ksOf (l : List S50) : List TrS.Tsk := l.map trace_Audit.g1
theorem rd_get (h : List S39) (i : Nat) (hi : i < h.length) : rd_T39 h (i : Int) = h[i] := by
  unfold rd_T39
  rw [Int.toNat_natCast, List.getD_eq_getElem?_getD, List.getElem?_eq_getElem hi]
  rfl
theorem lastE_cons (e : TrS.Ev) (h : List TrS.Ev) (k : Int) : TrT.lastE (e :: h) k = match TrT.lastE h k with
    | some x => some x
    | none => if e.task = k then some e else none := by
  unfold TrT.lastE
  by_cases hk : e.task = k
  · rw [List.filter_cons_of_pos (by simp [hk]), List.getLast?_cons]
    cases (h.filter fun e => e.task == k).getLast? with
    | none => simp [hk]
    | some x => simp
  · rw [List.filter_cons_of_neg (by simp [hk])]
    cases (h.filter fun e => e.task == k).getLast? with
    | none => simp [hk]
    | some x => simp
def lastG : List S39 → Int → Int → Int → Int
  | [], _, _, acc => acc
  | x :: l, t, i, acc => lastG l t (i + 1) (if x.f1 = t then i else acc)
theorem lastG_spec (t : Int) : ∀ (l : List S39) (i acc : Int), (TrT.lastE (H l) t = none ∧ lastG l t i acc = acc) ∨ ∃ (j : Nat) (x : S39), l[j]? = some x ∧ lastG l t i acc = i + j ∧ TrT.lastE (H l) t = some (ev x)
  | [], i, acc => .inl ⟨rfl, rfl⟩
  | x :: l, i, acc => by
    show (TrT.lastE (ev x :: H l) t = none ∧ _) ∨ ∃ (j : Nat) (y : S39), _ ∧ _ ∧ TrT.lastE (ev x :: H l) t = _
    rw [lastE_cons, lastG]
    rcases lastG_spec t l (i + 1) (if x.f1 = t then i else acc) with ⟨h1, h2⟩ | ⟨j, y, h1, h2, h3⟩
    · rw [h1]
      by_cases hx : x.f1 = t
      · right
        rw [if_pos hx] at h2
        refine ⟨0, x, rfl, ?_, ?_⟩
        · rw [if_pos hx, h2]; omega
        · show (if x.f1 = t then _ else _) = _
          rw [if_pos hx]
      · left
        rw [if_neg hx] at h2
        refine ⟨?_, ?_⟩
        · show (if x.f1 = t then _ else _) = _
          rw [if_neg hx]
        · rw [if_neg hx, h2]
    · right
      rw [h3]
      exact ⟨j + 1, y, by simpa using h1, by rw [h2]; omega, rfl⟩
theorem last_l0 (t : Int) (h : List S39) (hn : h.length ≤ 1000000) : ∀ (r i k : Nat) (acc : Int), i + r = h.length → r + 1 ≤ k → millwrightref19_last.l0 k h t acc i = some (lastG (h.drop i) t i acc)
  | r, i, 0, acc, _, hk => absurd hk (by omega)
  | 0, i, k + 1, acc, hr, _ => by
    rw [millwrightref19_last.l0, if_neg (by omega), List.drop_eq_nil_of_le (by omega)]
    rfl
  | r + 1, i, k + 1, acc, hr, hk => by
    have hw : wrap64 ((i : Int) + 1) = ((i + 1 : Nat) : Int) := by rw [Bits.wrap64_in (by omega) (by omega)]; omega
    rw [millwrightref19_last.l0, if_pos (by omega), if_pos (by omega), rd_get h i (by omega), hw, last_l0 t h hn r (i + 1) k _ (by omega) (by omega), last_l0 t h hn r (i + 1) k _ (by omega) (by omega), List.drop_eq_getElem_cons (i := i) (by omega), lastG]
    have : ((i + 1 : Nat) : Int) = (i : Int) + 1 := by omega
    rw [this]
    split <;> rfl
def liveE (h : List TrS.Ev) (t : Int) : Bool := match TrT.lastE h t with
  | some e => e.kind == 1
  | none => false
/-- The last event of a task, as the reference finds it. -/
theorem last_f (t : Int) (h : List S39) (hn : h.length ≤ 1000000) (k : Nat) (hk : h.length + 1 ≤ k) : (TrT.lastE (H h) t = none ∧ millwrightref19_last.f k h t = some (-1)) ∨ ∃ (j : Nat) (hj : j < h.length), millwrightref19_last.f k h t = some (j : Int) ∧ TrT.lastE (H h) t = some (ev h[j]) := by
  have := last_l0 t h hn h.length 0 k (-1) (by omega) hk
  rw [List.drop_zero] at this
  unfold millwrightref19_last.f
  rcases lastG_spec t h 0 (-1) with ⟨h1, h2⟩ | ⟨j, x, h1, h2, h3⟩
  · exact .inl ⟨h1, this.trans (by show some (lastG h t 0 (-1)) = _; rw [h2])⟩
  · obtain ⟨hj, hx⟩ := List.getElem?_eq_some_iff.1 h1
    refine .inr ⟨j, hj, ?_, by rw [h3, hx]⟩
    have e : (0 : Int) + j = j := by omega
    rw [e] at h2
    rw [← h2]
    exact this
theorem live_f (t : Int) (h : List S39) (hn : h.length ≤ 1000000) (k : Nat) (hk : h.length + 1 ≤ k) : millwrightref19_Live.f k h t = some (liveE (H h) t) := by
  unfold millwrightref19_Live.f liveE
  rcases last_f t h hn k hk with ⟨h1, h2⟩ | ⟨j, hj, h1, h2⟩
  · rw [h2, h1, Option.bind_some, if_neg (by decide)]
  · rw [h1, h2, Option.bind_some, if_pos (by omega), if_pos (by omega), if_pos (by omega), rd_get h j hj]
    rfl
theorem many_l0 (t kd : Int) (h : List S39) (hn : h.length ≤ 1000000) : ∀ (r i k : Nat) (acc : Nat), i + r = h.length → acc ≤ i → r + 1 ≤ k → millwrightref19_many.l0 k h t kd acc i = some ((acc + TrT.manyE (H (h.drop i)) t kd : Nat) : Int)
  | r, i, 0, acc, _, _, hk => absurd hk (by omega)
  | 0, i, k + 1, acc, hr, _, _ => by
    rw [millwrightref19_many.l0, if_neg (by omega), List.drop_eq_nil_of_le (by omega)]
    rfl
  | r + 1, i, k + 1, acc, hr, ha, hk => by
    have hw : wrap64 ((i : Int) + 1) = ((i + 1 : Nat) : Int) := by rw [Bits.wrap64_in (by omega) (by omega)]; omega
    have hw2 : wrap64 ((acc : Int) + 1) = ((acc + 1 : Nat) : Int) := by rw [Bits.wrap64_in (by omega) (by omega)]; omega
    have hd : TrT.manyE (H (h.drop i)) t kd = TrT.manyE (H (h.drop (i + 1))) t kd + if h[i].f1 = t ∧ h[i].f0 = kd then 1 else 0 := by
      rw [List.drop_eq_getElem_cons (i := i) (by omega)]
      unfold TrT.manyE H
      rw [List.map_cons, List.countP_cons]
      congr 1
      by_cases h1 : h[i].f1 = t <;> by_cases h2 : h[i].f0 = kd <;> simp [h1, h2, ev]
    rw [millwrightref19_many.l0, if_pos (by omega), if_pos (by omega), rd_get h i (by omega), hw, hw2, many_l0 t kd h hn r (i + 1) k acc (by omega) (by omega) (by omega), many_l0 t kd h hn r (i + 1) k (acc + 1) (by omega) (by omega) (by omega), hd]
    by_cases h1 : h[i].f1 = t
    · by_cases h2 : h[i].f0 = kd
      · rw [if_pos h1, if_pos h2, if_pos ⟨h1, h2⟩]
        congr 2
        omega
      · rw [if_pos h1, if_neg h2, if_neg (fun x => h2 x.2)]
        rfl
    · rw [if_neg h1, if_neg (fun x => h1 x.1)]
      rfl
theorem many_f (t kd : Int) (h : List S39) (hn : h.length ≤ 1000000) (k : Nat) (hk : h.length + 1 ≤ k) : millwrightref19_many.f k h t kd = some (TrT.manyE (H h) t kd : Int) := by
  have := many_l0 t kd h hn h.length 0 k 0 (by omega) (by omega) hk
  rw [List.drop_zero, Nat.zero_add] at this
  exact this
def inR (n : Int) : Prop := -9223372036854775808 ≤ n ∧ n ≤ 9223372036854775807
theorem wrap_inR (n : Int) : inR (wrap64 n) := by unfold inR wrap64; omega
theorem addI_inR (a b : Int) : inR (TrS.addI a b).1 := by
  unfold TrS.addI
  split
  · exact wrap_inR _
  · exact ⟨by decide, by decide⟩
theorem add_f (a b : Int) (ha : inR a) (hb0 : 0 ≤ b) (hb : b ≤ 9223372036854775807) : millwrightref01_Add.f a b = some (TrS.addI a b) := by
  unfold inR at ha
  have hs : TrS.addI a b = if a + b > 9223372036854775807 then (0, false) else (a + b, true) := by
    unfold TrS.addI
    have hw : TrS.wrap (a + b) = if a + b > 9223372036854775807 then a + b - 18446744073709551616 else a + b := by
      show wrap64 (a + b) = _
      unfold wrap64
      split <;> omega
    rw [hw]
    have h2 : decide (b < 0) = false := decide_eq_false (by omega)
    rw [h2]
    by_cases h : a + b > 9223372036854775807
    · rw [if_pos h, if_pos h, decide_eq_true (show a + b - 18446744073709551616 < a by omega)]
      rfl
    · rw [if_neg h, if_neg h, decide_eq_false (show ¬ a + b < a by omega)]
      rfl
  rw [hs]
  unfold millwrightref01_Add.f millwrightref01_Most.f millwrightref01_Least.f
  have hw1 : wrap64 (9223372036854775807 - b) = 9223372036854775807 - b := Bits.wrap64_in (by omega) (by omega)
  by_cases h0 : b > 0
  · rw [if_pos h0, Option.bind_some, hw1]
    by_cases h : a + b > 9223372036854775807
    · rw [if_pos h, if_pos (by omega)]
    · rw [if_neg h, if_neg (by omega), if_neg (by omega), Bits.wrap64_in (by omega) (by omega)]
  · rw [if_neg h0, if_neg (by omega), if_neg (by omega), Bits.wrap64_in (by omega) (by omega)]
def foldM (ks : List TrS.Tsk) : List TrS.Tk → Int → Int → Bool → Int × Bool
  | [], _, mem, over => (mem, over)
  | T :: ts, i, mem, over => if T.live = true then foldM ks ts (i + 1) (TrS.addI mem (TrS.mxI (TrS.getK ks i).mem 0)).1 (over || !(TrS.addI mem (TrS.mxI (TrS.getK ks i).mem 0)).2) else foldM ks ts (i + 1) mem over
theorem foldM_over (ks : List TrS.Tsk) : ∀ (ts : List TrS.Tk) (i mem : Int), (foldM ks ts i mem true).2 = true
  | [], _, _ => rfl
  | T :: ts, i, mem => by
    rw [foldM, Bool.true_or]
    split <;> exact foldM_over ks ts _ _
theorem foldM_fits (ks : List TrS.Tsk) : ∀ (ts : List TrS.Tk) (i mem : Int), (TrS.fitsL ks ts i mem = none ∧ (foldM ks ts i mem false).2 = true) ∨ (TrS.fitsL ks ts i mem = some (foldM ks ts i mem false).1 ∧ (foldM ks ts i mem false).2 = false)
  | [], _, _ => .inr ⟨rfl, rfl⟩
  | T :: ts, i, mem => by
    rw [foldM, TrS.fitsL]
    by_cases hl : T.live = true
    · rw [if_pos hl, if_pos hl]
      by_cases ha : (TrS.addI mem (TrS.mxI (TrS.getK ks i).mem 0)).2 = true
      · rw [if_pos ha, ha]
        exact foldM_fits ks ts (i + 1) _
      · rw [if_neg ha]
        have : (TrS.addI mem (TrS.mxI (TrS.getK ks i).mem 0)).2 = false := by simpa using ha
        rw [this]
        exact .inl ⟨rfl, foldM_over ks ts _ _⟩
    · rw [if_neg hl, if_neg hl]
      exact foldM_fits ks ts (i + 1) mem
theorem getK_rd (l1 : List S50) (i : Int) : (TrS.getK (ksOf l1) i).mem = (rd_T50 l1 i).f0 := by
  unfold TrS.getK rd_T50 ksOf
  rw [List.getD_eq_getElem?_getD, List.getD_eq_getElem?_getD, List.getElem?_map]
  cases l1[i.toNat]? <;> rfl
theorem mx_mxI (a b : Int) : mx a b = TrS.mxI a b := rfl
theorem rd_inR (l1 : List S50) (w1 : ∀ x ∈ l1, (Lit.int .i64 x.f0).wf = true ∧ (Lit.int .i64 x.f1).wf = true) (i : Int) : inR (rd_T50 l1 i).f0 := by
  unfold rd_T50
  rw [List.getD_eq_getElem?_getD]
  cases h : l1[i.toNat]? with
  | none => exact ⟨by decide, by decide⟩
  | some x => exact TrO.wf_range (w1 x (List.mem_of_getElem? h)).1
theorem mxI_in (a : Int) (h : inR a) : 0 ≤ TrS.mxI a 0 ∧ TrS.mxI a 0 ≤ 9223372036854775807 := by unfold TrS.mxI inR at *; split <;> omega
/-- What is left of a Start's look, behind the loop over the tasks. -/
def stale (h : List TrS.Ev) (task epoch : Int) : Bool := h.any fun x => x.task == task && x.kind == 1 && decide (x.epoch ≥ epoch)
def finR (h : List TrS.Ev) (tries budget task epoch : Int) (taken : Bool) (mem : Int) (over : Bool) : Int :=
  if (liveE h task || taken || decide (TrT.manyE h task 2 > 0)) = true then 8
  else if (TrT.manyE h task 3 : Int) + TrT.manyE h task 5 ≥ tries then 3
  else if stale h task epoch = true then 7
  else if (over || decide (mem > budget)) = true then 5 else 0
section
variable (c0 c1 c2 c3 c4 c5 c6 c7 c8 c9 e0 e1 e2 e3 e4 : Int)
theorem start_l1 (h : List S39) (hn : h.length ≤ 1000000) (mem : Int) (over : Bool) : ∀ (r i k : Nat), i + r = h.length → r + 1 ≤ k →
    millwrightref19_start.l1 k h mem over i c0 c1 c2 c3 c4 c5 c6 c7 c8 c9 e0 e1 e2 e3 e4 = some (if stale (H (h.drop i)) e1 e3 = true then 7 else if (over || decide (mem > c0)) = true then 5 else 0)
  | r, i, 0, _, hk => absurd hk (by omega)
  | 0, i, k + 1, hr, _ => by
    rw [millwrightref19_start.l1, if_neg (by omega), List.drop_eq_nil_of_le (by omega)]
    have : stale (H []) e1 e3 = false := rfl
    rw [this]
    cases over with
    | true => rfl
    | false =>
      by_cases hm : mem > c0
      · rw [if_neg (by simp), if_pos hm, if_neg (by simp), if_pos (by simp [hm])]
      · rw [if_neg (by simp), if_neg hm, if_neg (by simp), if_neg (by simp [hm])]
  | r + 1, i, k + 1, hr, hk => by
    have hw : wrap64 ((i : Int) + 1) = ((i + 1 : Nat) : Int) := by rw [Bits.wrap64_in (by omega) (by omega)]; omega
    have hd : stale (H (h.drop i)) e1 e3 = ((h[i].f1 == e1 && h[i].f0 == 1 && decide (h[i].f3 ≥ e3)) || stale (H (h.drop (i + 1))) e1 e3) := by
      rw [List.drop_eq_getElem_cons (i := i) (by omega)]
      rfl
    rw [millwrightref19_start.l1, if_pos (by omega), if_pos (by omega), rd_get h i (by omega), hw, start_l1 h hn mem over r (i + 1) k (by omega) (by omega), hd]
    by_cases h1 : h[i].f1 = e1
    · by_cases h2 : h[i].f0 = 1
      · by_cases h3 : h[i].f3 ≥ e3
        · rw [if_pos h1, if_pos h2, if_pos h3, if_pos (by simp [h1, h2, h3])]
        · rw [if_pos h1, if_pos h2, if_neg h3]
          have : (h[i].f1 == e1 && h[i].f0 == 1 && decide (h[i].f3 ≥ e3)) = false := by simp [h3]
          rw [this, Bool.false_or]
      · rw [if_pos h1, if_neg h2]
        have : (h[i].f1 == e1 && h[i].f0 == 1 && decide (h[i].f3 ≥ e3)) = false := by simp [h2]
        rw [this, Bool.false_or]
    · rw [if_neg h1]
      have : (h[i].f1 == e1 && h[i].f0 == 1 && decide (h[i].f3 ≥ e3)) = false := by simp [h1]
      rw [this, Bool.false_or]
theorem start_fin (l1 : List S50) (h : List S39) (hn : h.length ≤ 1000000) (taken : Bool) (mem : Int) (over : Bool) (i : Int) (hi : ¬ i < (l1.length : Int)) (k : Nat) (hk : h.length + 3 ≤ k) :
    millwrightref19_start.l0 k l1 h taken mem over i c0 c1 c2 c3 c4 c5 c6 c7 c8 c9 e0 e1 e2 e3 e4 = some (finR (H h) c4 c0 e1 e3 taken mem over) := by
  obtain ⟨k, rfl⟩ : ∃ j, k = j + 2 := ⟨k - 2, by omega⟩
  have m2 := TrT.manyE_le (H h) e1 2
  have m3 := TrT.manyE_le (H h) e1 3
  have m5 := TrT.manyE_le (H h) e1 5
  have hH : (H h).length = h.length := List.length_map ..
  have j1 : ∀ b : Bool, b = (liveE (H h) e1 || taken || decide (TrT.manyE (H h) e1 2 > 0)) → millwrightref19_start.j1 (k + 1) h mem over b c0 c1 c2 c3 c4 c5 c6 c7 c8 c9 e0 e1 e2 e3 e4 = some (finR (H h) c4 c0 e1 e3 taken mem over) := by
    intro b hb
    have hl1 := start_l1 c0 c1 c2 c3 c4 c5 c6 c7 c8 c9 e0 e1 e2 e3 e4 h hn mem over h.length 0 k (by omega) (by omega)
    rw [show ((0 : Nat) : Int) = 0 from rfl] at hl1
    unfold finR
    rw [← hb, millwrightref19_start.j1, many_f e1 3 h hn k (by omega), many_f e1 5 h hn k (by omega), Option.bind_some, Option.bind_some, Bits.wrap64_in (by omega) (by omega), hl1, List.drop_zero]
    split
    · rfl
    · split <;> rfl
  rw [millwrightref19_start.l0, if_neg hi, live_f e1 h hn (k + 1) (by omega), Option.bind_some, many_f e1 2 h hn (k + 1) (by omega), Option.bind_some]
  by_cases hl : liveE (H h) e1 = true
  · rw [if_pos hl]
    exact j1 true (by rw [hl]; rfl)
  · rw [if_neg hl]
    have hl' : liveE (H h) e1 = false := by simpa using hl
    by_cases ht : taken = true
    · rw [if_pos ht]
      exact j1 true (by rw [ht]; simp)
    · rw [if_neg ht]
      refine j1 _ ?_
      rw [hl', show taken = false by simpa using ht, Bool.false_or, Bool.false_or]
      apply decide_eq_decide.2
      omega
theorem start_l0 (l1 : List S50) (w1 : ∀ x ∈ l1, (Lit.int .i64 x.f0).wf = true ∧ (Lit.int .i64 x.f1).wf = true) (hl1 : l1.length ≤ 1000000) (h : List S39) (hn : h.length ≤ 1000000) (ts : List TrS.Tk) (t : Int) (I : TrT.Inv l1.length (H h) ts t) :
    ∀ (r i k : Nat) (taken : Bool) (mem : Int) (over : Bool), i + r = l1.length → inR mem → r + h.length + 3 ≤ k →
      millwrightref19_start.l0 k l1 h taken mem over i c0 c1 c2 c3 c4 c5 c6 c7 c8 c9 e0 e1 e2 e3 e4 = some (finR (H h) c4 c0 e1 e3 (taken || TrS.held (ts.drop i) e2) (foldM (ksOf l1) (ts.drop i) i mem over).1 (foldM (ksOf l1) (ts.drop i) i mem over).2)
  | 0, i, k, taken, mem, over, hr, hm, hk => by
    rw [start_fin c0 c1 c2 c3 c4 c5 c6 c7 c8 c9 e0 e1 e2 e3 e4 l1 h hn taken mem over i (by omega) k (by omega), List.drop_eq_nil_of_le (by rw [I.len]; omega)]
    show _ = some (finR (H h) c4 c0 e1 e3 (taken || false) mem over)
    rw [Bool.or_false]
  | r + 1, i, 0, taken, mem, over, hr, hm, hk => absurd hk (by omega)
  | r + 1, i, k + 1, taken, mem, over, hr, hm, hk => by
    have hw : wrap64 ((i : Int) + 1) = ((i + 1 : Nat) : Int) := by rw [Bits.wrap64_in (by omega) (by omega)]; omega
    have hi : i < ts.length := by rw [I.len]; omega
    have hT : TrS.getT ts (i : Int) = ts[i] := by
      unfold TrS.getT
      rw [Int.toNat_natCast, List.getD_eq_getElem?_getD, List.getElem?_eq_getElem hi]
      rfl
    have R := I.rt i (by omega) (by omega)
    rw [hT] at R
    have ih := fun taken mem over hm => start_l0 l1 w1 hl1 h hn ts t I r (i + 1) k taken mem over (by omega) hm (by omega)
    have hx := mxI_in _ (rd_inR l1 w1 (i : Int))
    have hadd : millwrightref01_Add.f mem (mx (rd_T50 l1 (i : Int)).f0 0) = some (TrS.addI mem (TrS.mxI (TrS.getK (ksOf l1) i).mem 0)) := by
      rw [getK_rd, mx_mxI]
      exact add_f mem _ hm hx.1 hx.2
    have e1' : ((i + 1 : Nat) : Int) = (i : Int) + 1 := by omega
    rw [millwrightref19_start.l0, if_pos (by omega), live_f i h hn k (by omega), Option.bind_some, hw, List.drop_eq_getElem_cons hi, foldM]
    have hheld : TrS.held (ts[i] :: ts.drop (i + 1)) e2 = ((ts[i].live && ts[i].start.slot == e2) || TrS.held (ts.drop (i + 1)) e2) := rfl
    rw [hheld]
    rcases last_f i h hn k (by omega) with ⟨h1, h2⟩ | ⟨j, hj, h1, h2⟩
    · have hlv : liveE (H h) i = false := by unfold liveE; rw [h1]
      have hlT : ts[i].live = false := by
        cases hL : ts[i].live with
        | false => rfl
        | true => rw [R.at_ hL] at h1; cases h1
      rw [hlv, hlT, if_neg (by simp), if_neg (by simp), ih taken mem over hm, Bool.false_and, Bool.false_or, e1']
    · have hlv : liveE (H h) i = (h[j].f0 == 1) := by unfold liveE; rw [h2]; rfl
      by_cases hk1 : h[j].f0 = 1
      · have hlT : ts[i].live = true := R.live.2 ⟨_, h2, hk1⟩
        have hst : ts[i].start = ev h[j] := by
          have := R.at_ hlT
          rw [h2] at this
          exact (Option.some.inj this).symm
        have hsl : ts[i].start.slot = h[j].f2 := by rw [hst]; rfl
        have hq := addI_inR mem (TrS.mxI (TrS.getK (ksOf l1) i).mem 0)
        rw [hlv, if_pos (by simp [hk1]), hlT, if_pos rfl, hsl, Bool.true_and, hadd, h1]
        simp only [Option.bind_some, if_pos (show (0 : Int) ≤ (i : Int) by omega), if_pos (show (0 : Int) ≤ (j : Int) by omega), if_pos (show (j : Int) < (h.length : Int) by omega), rd_get h j hj]
        generalize TrS.addI mem (TrS.mxI (TrS.getK (ksOf l1) i).mem 0) = q at hq
        have ihq : ∀ tk : Bool, (if over = true then millwrightref19_start.l0 k l1 h tk q.1 true ((i + 1 : Nat) : Int) c0 c1 c2 c3 c4 c5 c6 c7 c8 c9 e0 e1 e2 e3 e4 else millwrightref19_start.l0 k l1 h tk q.1 (!q.2) ((i + 1 : Nat) : Int) c0 c1 c2 c3 c4 c5 c6 c7 c8 c9 e0 e1 e2 e3 e4) =
            some (finR (H h) c4 c0 e1 e3 (tk || TrS.held (ts.drop (i + 1)) e2) (foldM (ksOf l1) (ts.drop (i + 1)) ((i : Int) + 1) q.1 (over || !q.2)).1 (foldM (ksOf l1) (ts.drop (i + 1)) ((i : Int) + 1) q.1 (over || !q.2)).2) := by
          intro tk
          cases over with
          | true => rw [if_pos rfl, ih tk q.1 true hq, Bool.true_or, e1']
          | false => rw [if_neg (by simp), ih tk q.1 (!q.2) hq, Bool.false_or, e1']
        cases taken with
        | true => rw [if_pos rfl, ihq true]; simp
        | false => rw [if_neg (by simp), ihq (h[j].f2 == e2)]; simp
      · have hlT : ts[i].live = false := by
          cases hL : ts[i].live with
          | false => rfl
          | true =>
            obtain ⟨x, hx1, hx2⟩ := R.live.1 hL
            rw [h2] at hx1
            rw [← Option.some.inj hx1] at hx2
            exact absurd hx2 hk1
        rw [hlv, if_neg (by simp [hk1]), hlT, if_neg (by simp), ih taken mem over hm, Bool.false_and, Bool.false_or, e1']
/-- A Start: the reference's answer is the audit's. -/
theorem start_f (l1 : List S50) (w1 : ∀ x ∈ l1, (Lit.int .i64 x.f0).wf = true ∧ (Lit.int .i64 x.f1).wf = true) (hl1 : l1.length ≤ 1000000) (h : List S39) (hn : h.length ≤ 1000000) (ts : List TrS.Tk) (t : Int) (I : TrT.Inv l1.length (H h) ts t) (he0 : 0 ≤ e1) (he1 : e1 < l1.length) (k : Nat) (hk : l1.length + h.length + 3 ≤ k) :
    millwrightref19_start.f k c0 c1 c2 c3 c4 c5 c6 c7 c8 c9 l1 h e0 e1 e2 e3 e4 = some (TrS.starts ⟨c0, c1, c2, c3, c4, c5, c6, c7, c8, c9⟩ (ksOf l1) ts ⟨e0, e1, e2, e3, e4⟩).1 := by
  have hx := mxI_in _ (rd_inR l1 w1 e1)
  have hl := start_l0 c0 c1 c2 c3 c4 c5 c6 c7 c8 c9 e0 e1 e2 e3 e4 l1 w1 hl1 h hn ts t I l1.length 0 k false (mx (rd_T50 l1 e1).f0 0) false (by omega) (by rw [mx_mxI]; unfold inR; omega) hk
  have R := I.rt e1 he0 he1
  unfold millwrightref19_start.f
  rw [if_pos he0, if_pos he1]
  rw [show ((0 : Nat) : Int) = 0 from rfl, List.drop_zero, Bool.false_or] at hl
  rw [hl]
  congr 1
  unfold finR TrS.starts
  have hlive : liveE (H h) e1 = (TrS.getT ts e1).live := by
    unfold liveE
    cases hL : (TrS.getT ts e1).live with
    | true =>
      obtain ⟨x, hx1, hx2⟩ := R.live.1 hL
      rw [hx1]
      exact beq_iff_eq.2 hx2
    | false =>
      cases hE : TrT.lastE (H h) e1 with
      | none => rfl
      | some x =>
        show (x.kind == 1) = false
        rw [beq_eq_false_iff_ne]
        intro hx1
        rw [R.live.2 ⟨x, hE, hx1⟩] at hL
        cases hL
  have hdone : decide (TrT.manyE (H h) e1 2 > 0) = (TrS.getT ts e1).done := by
    cases hD : (TrS.getT ts e1).done with
    | true => exact decide_eq_true (Nat.pos_of_ne_zero (R.done.1 hD))
    | false =>
      apply decide_eq_false
      intro h0
      rw [R.done.2 (by omega)] at hD
      cases hD
  have hstale : stale (H h) e1 e3 = decide ((TrS.getT ts e1).begun = true ∧ e3 ≤ (TrS.getT ts e1).start.epoch) := by
    rw [Bool.eq_iff_iff, decide_eq_true_iff]
    unfold stale
    rw [List.any_eq_true]
    constructor
    · rintro ⟨x, hx1, hx2⟩
      simp only [Bool.and_eq_true, beq_iff_eq, decide_eq_true_eq] at hx2
      have := R.up x hx1 hx2.1.1 hx2.1.2
      exact ⟨R.begun ⟨x, hx1, hx2.1⟩, by omega⟩
    · rintro ⟨hb, he⟩
      obtain ⟨x, hx1, hx2, hx3, hx4⟩ := R.one hb
      exact ⟨x, hx1, by simp only [Bool.and_eq_true, beq_iff_eq, decide_eq_true_eq]; exact ⟨⟨hx2, hx3⟩, by omega⟩⟩
  rw [hlive, hdone, hstale, ← R.fails]
  have hb1 : ((TrS.getT ts e1).live || TrS.held ts e2 || (TrS.getT ts e1).done) = ((TrS.getT ts e1).live || ((TrS.getT ts e1).done || TrS.held ts e2)) := by
    cases (TrS.getT ts e1).live <;> cases (TrS.getT ts e1).done <;> cases TrS.held ts e2 <;> rfl
  rw [hb1]
  have hfit : ((foldM (ksOf l1) ts 0 (mx (rd_T50 l1 e1).f0 0) false).2 || decide ((foldM (ksOf l1) ts 0 (mx (rd_T50 l1 e1).f0 0) false).1 > c0)) = !(TrS.fits ⟨c0, c1, c2, c3, c4, c5, c6, c7, c8, c9⟩ (ksOf l1) ts e1) := by
    unfold TrS.fits
    rw [getK_rd, mx_mxI]
    rcases foldM_fits (ksOf l1) ts 0 (TrS.mxI (rd_T50 l1 e1).f0 0) with ⟨f1, f2⟩ | ⟨f1, f2⟩
    · rw [f1, f2]; rfl
    · rw [f1, f2, Bool.false_or]
      show decide _ = !(decide _)
      rw [← decide_not]
      apply decide_eq_decide.2
      show _ > c0 ↔ ¬ _ ≤ c0
      omega
  rw [hfit]
  by_cases a1 : ((TrS.getT ts e1).live || ((TrS.getT ts e1).done || TrS.held ts e2)) = true
  · rw [if_pos a1, if_pos a1]
  · rw [if_neg a1, if_neg a1]
    by_cases a2 : (TrS.getT ts e1).fails ≥ c4
    · rw [if_pos a2, if_pos a2]
    · rw [if_neg a2, if_neg a2]
      by_cases a3 : (TrS.getT ts e1).begun = true ∧ e3 ≤ (TrS.getT ts e1).start.epoch
      · rw [if_pos (decide_eq_true a3), if_pos a3]
      · rw [if_neg (by rw [decide_eq_false a3]; simp), if_neg a3]
        cases TrS.fits ⟨c0, c1, c2, c3, c4, c5, c6, c7, c8, c9⟩ (ksOf l1) ts e1 with
        | true => rfl
        | false => rfl
theorem ends_fst (ts : List TrS.Tk) : (TrS.ends ⟨c0, c1, c2, c3, c4, c5, c6, c7, c8, c9⟩ ts ⟨e0, e1, e2, e3, e4⟩).1 = if e0 = 2 then 0 else if e0 = 3 then 0 else if e0 = 4 then 0 else if e0 = 5 then (if TrS.wrap (e4 - (TrS.getT ts e1).start.tick) < c6 then 10 else 0) else (if (TrS.getT ts e1).stops ≥ c5 then 3 else 0) := by
  unfold TrS.ends
  by_cases q2 : e0 = 2
  · rw [if_pos (show (⟨e0, e1, e2, e3, e4⟩ : TrS.Ev).kind = 2 from q2), if_pos q2]
  rw [if_neg (show ¬ (⟨e0, e1, e2, e3, e4⟩ : TrS.Ev).kind = 2 from q2), if_neg q2]
  by_cases q3 : e0 = 3
  · rw [if_pos (show (⟨e0, e1, e2, e3, e4⟩ : TrS.Ev).kind = 3 from q3), if_pos q3]
  rw [if_neg (show ¬ (⟨e0, e1, e2, e3, e4⟩ : TrS.Ev).kind = 3 from q3), if_neg q3]
  by_cases q4 : e0 = 4
  · rw [if_pos (show (⟨e0, e1, e2, e3, e4⟩ : TrS.Ev).kind = 4 from q4), if_pos q4]
  rw [if_neg (show ¬ (⟨e0, e1, e2, e3, e4⟩ : TrS.Ev).kind = 4 from q4), if_neg q4]
  by_cases q5 : e0 = 5
  · rw [if_pos (show (⟨e0, e1, e2, e3, e4⟩ : TrS.Ev).kind = 5 from q5), if_pos q5]
    split <;> rfl
  rw [if_neg (show ¬ (⟨e0, e1, e2, e3, e4⟩ : TrS.Ev).kind = 5 from q5), if_neg q5]
  split <;> rfl
/-- An event: the reference's answer is the audit's. -/
theorem one_f (l1 : List S50) (w1 : ∀ x ∈ l1, (Lit.int .i64 x.f0).wf = true ∧ (Lit.int .i64 x.f1).wf = true) (hl1 : l1.length ≤ 1000000) (h : List S39) (hn : h.length ≤ 1000000) (ts : List TrS.Tk) (t : Int) (I : TrT.Inv l1.length (H h) ts t) (k : Nat) (hk : l1.length + h.length + 7 ≤ k) :
    millwrightref19_one.f k c0 c1 c2 c3 c4 c5 c6 c7 c8 c9 l1 h e0 e1 e2 e3 e4 = some (TrS.takes ⟨c0, c1, c2, c3, c4, c5, c6, c7, c8, c9⟩ (ksOf l1) ts t ⟨e0, e1, e2, e3, e4⟩).1 := by
  obtain ⟨k, rfl⟩ : ∃ j, k = j + 4 := ⟨k - 4, by omega⟩
  have hH : (H h).length = h.length := List.length_map ..
  have bad : ¬ TrS.may ⟨c0, c1, c2, c3, c4, c5, c6, c7, c8, c9⟩ ts.length t ⟨e0, e1, e2, e3, e4⟩ = true → (TrS.takes ⟨c0, c1, c2, c3, c4, c5, c6, c7, c8, c9⟩ (ksOf l1) ts t ⟨e0, e1, e2, e3, e4⟩).1 = 1 := by
    intro hm
    unfold TrS.takes
    rw [if_neg hm]
  have mayIff : TrS.may ⟨c0, c1, c2, c3, c4, c5, c6, c7, c8, c9⟩ ts.length t ⟨e0, e1, e2, e3, e4⟩ = true ↔ (e0 ≥ 1 ∧ e0 ≤ 6) ∧ (e1 ≥ 0 ∧ e1 < (l1.length : Int) ∧ e2 ≥ 0 ∧ e2 < c1) ∧ e3 ≥ 0 ∧ e4 ≥ t := by
    rw [I.len]
    unfold TrS.may TrS.inB TrS.known
    simp only [Bool.and_eq_true, decide_eq_true_eq]
  have j0true : millwrightref19_one.j0 (k + 4) l1 h true c0 c1 c2 c3 c4 c5 c6 c7 c8 c9 e0 e1 e2 e3 e4 = some 1 := by
    rw [millwrightref19_one.j0, if_pos rfl]
  have htick : t = TrT.tickOf (H h) := I.tick
  have ht : (h.length = 0 ∧ t = 0) ∨ (0 < h.length ∧ t = (rd_T39 h (wrap64 ((h.length : Int) - 1))).f4) := by
    rw [htick]
    unfold TrT.tickOf
    by_cases h0 : h.length = 0
    · left
      have : h = [] := List.length_eq_zero_iff.1 h0
      rw [this]
      exact ⟨rfl, rfl⟩
    · right
      have e : wrap64 ((h.length : Int) - 1) = ((h.length - 1 : Nat) : Int) := by rw [Bits.wrap64_in (by omega) (by omega)]; omega
      rw [e, rd_get h _ (by omega), List.getLast?_eq_getElem?, hH, List.getElem?_map, List.getElem?_eq_getElem (by omega)]
      exact ⟨by omega, rfl⟩
  unfold millwrightref19_one.f
  by_cases a1 : e0 < 1
  · rw [if_pos a1, j0true, bad (fun x => by have := mayIff.1 x; omega)]
  rw [if_neg a1]
  by_cases a2 : e0 > 6
  · rw [if_pos a2, j0true, bad (fun x => by have := mayIff.1 x; omega)]
  rw [if_neg a2]
  by_cases a3 : e1 < 0
  · rw [if_pos a3, j0true, bad (fun x => by have := mayIff.1 x; omega)]
  rw [if_neg a3]
  by_cases a4 : e1 ≥ (l1.length : Int)
  · rw [if_pos a4, j0true, bad (fun x => by have := mayIff.1 x; omega)]
  rw [if_neg a4]
  by_cases a5 : e2 < 0
  · rw [if_pos a5, j0true, bad (fun x => by have := mayIff.1 x; omega)]
  rw [if_neg a5]
  by_cases a6 : e2 ≥ c1
  · rw [if_pos a6, j0true, bad (fun x => by have := mayIff.1 x; omega)]
  rw [if_neg a6]
  by_cases a7 : e3 < 0
  · rw [if_pos a7, j0true, bad (fun x => by have := mayIff.1 x; omega)]
  rw [if_neg a7]
  have j1 : ∀ b : Bool, (b = true → ¬ e4 ≥ t) → (b = false → 0 ≤ e4 → e4 ≥ t) → 0 ≤ e4 → millwrightref19_one.j1 (k + 3) l1 h b c0 c1 c2 c3 c4 c5 c6 c7 c8 c9 e0 e1 e2 e3 e4 = some (TrS.takes ⟨c0, c1, c2, c3, c4, c5, c6, c7, c8, c9⟩ (ksOf l1) ts t ⟨e0, e1, e2, e3, e4⟩).1 := by
    intro b hb1 hb2 h4
    rw [millwrightref19_one.j1]
    cases b with
    | true => rw [if_pos rfl, bad (fun x => hb1 rfl (mayIff.1 x).2.2.2)]
    | false =>
      have hm := mayIff.2 ⟨⟨by omega, by omega⟩, ⟨by omega, by omega, by omega, by omega⟩, by omega, hb2 rfl h4⟩
      rw [if_neg (by simp)]
      unfold TrS.takes
      rw [if_pos hm]
      by_cases k1 : e0 = 1
      · rw [if_pos k1, if_pos (show (⟨e0, e1, e2, e3, e4⟩ : TrS.Ev).kind = 1 from k1), start_f c0 c1 c2 c3 c4 c5 c6 c7 c8 c9 e0 e1 e2 e3 e4 l1 w1 hl1 h hn ts t I (by omega) (by omega) (k + 2) (by omega), Option.bind_some]
      · rw [if_neg k1, if_neg (show ¬ (⟨e0, e1, e2, e3, e4⟩ : TrS.Ev).kind = 1 from k1), live_f e1 h hn (k + 2) (by omega), Option.bind_some]
        have R := I.rt e1 (by omega) (by omega)
        show _ = some (if ((TrS.getT ts e1).live && (TrS.getT ts e1).start.slot == e2 && (TrS.getT ts e1).start.epoch == e3) = true then ((TrS.ends ⟨c0, c1, c2, c3, c4, c5, c6, c7, c8, c9⟩ ts ⟨e0, e1, e2, e3, e4⟩).1, TrS.off (TrS.ends ⟨c0, c1, c2, c3, c4, c5, c6, c7, c8, c9⟩ ts ⟨e0, e1, e2, e3, e4⟩).2 e1, e4) else ((6 : Int), ts, e4)).1
        rcases last_f e1 h hn (k + 2) (by omega) with ⟨h1, h2⟩ | ⟨j, hj, h1, h2⟩
        · have hlv : liveE (H h) e1 = false := by unfold liveE; rw [h1]
          have hlT : (TrS.getT ts e1).live = false := by
            cases hL : (TrS.getT ts e1).live with
            | false => rfl
            | true => rw [R.at_ hL] at h1; cases h1
          rw [hlv, hlT, if_neg (by simp), if_neg (by simp)]
        · have hlv : liveE (H h) e1 = (h[j].f0 == 1) := by unfold liveE; rw [h2]; rfl
          by_cases hk1 : h[j].f0 = 1
          · have hlT : (TrS.getT ts e1).live = true := R.live.2 ⟨_, h2, hk1⟩
            have hst : (TrS.getT ts e1).start = ev h[j] := by
              have := R.at_ hlT
              rw [h2] at this
              exact (Option.some.inj this).symm
            rw [hlv, if_pos (by simp [hk1]), h1, Option.bind_some, if_pos (by omega), if_pos (by omega), rd_get h j hj, hlT, hst]
            have j2 : ∀ b : Bool, b = !(h[j].f2 == e2 && h[j].f3 == e3) → millwrightref19_one.j2 (k + 2) h b c0 c1 c2 c3 c4 c5 c6 c7 c8 c9 e0 e1 e2 e3 e4 h[j].f0 h[j].f1 h[j].f2 h[j].f3 h[j].f4 =
                some (if (true && (ev h[j]).slot == e2 && (ev h[j]).epoch == e3) = true then ((TrS.ends ⟨c0, c1, c2, c3, c4, c5, c6, c7, c8, c9⟩ ts ⟨e0, e1, e2, e3, e4⟩).1, TrS.off (TrS.ends ⟨c0, c1, c2, c3, c4, c5, c6, c7, c8, c9⟩ ts ⟨e0, e1, e2, e3, e4⟩).2 e1, e4) else (6, ts, e4)).1 := by
              intro b hb
              rw [Bool.true_and]
              show _ = some (if (h[j].f2 == e2 && h[j].f3 == e3) = true then ((TrS.ends ⟨c0, c1, c2, c3, c4, c5, c6, c7, c8, c9⟩ ts ⟨e0, e1, e2, e3, e4⟩).1, TrS.off (TrS.ends ⟨c0, c1, c2, c3, c4, c5, c6, c7, c8, c9⟩ ts ⟨e0, e1, e2, e3, e4⟩).2 e1, e4) else ((6 : Int), ts, e4)).1
              rw [millwrightref19_one.j2]
              cases hs : (h[j].f2 == e2 && h[j].f3 == e3) with
              | false =>
                rw [hs] at hb
                rw [hb, if_pos (by rfl), if_neg (by simp)]
              | true =>
                rw [hs] at hb
                rw [hb, if_neg (by simp), if_pos rfl]
                show _ = some (TrS.ends ⟨c0, c1, c2, c3, c4, c5, c6, c7, c8, c9⟩ ts ⟨e0, e1, e2, e3, e4⟩).1
                rw [ends_fst, hst]
                have hmany : millwrightref19_many.f k h e1 6 = some ((TrS.getT ts e1).stops) := by rw [many_f e1 6 h hn k (by omega), R.stops]
                by_cases k5 : e0 = 5
                · rw [if_pos k5, if_neg (by omega), if_neg (by omega), if_neg (by omega), if_pos k5, millwrightref19_one.j3]
                  show (if decide (TrS.wrap (e4 - h[j].f4) < c6) = true then some (10 : Int) else _) = some (if TrS.wrap (e4 - h[j].f4) < c6 then (10 : Int) else 0)
                  by_cases hto : TrS.wrap (e4 - h[j].f4) < c6
                  · rw [if_pos (decide_eq_true hto), if_pos hto]
                  · rw [if_neg (by rw [decide_eq_false hto]; simp), if_neg hto, if_neg (by omega)]
                · rw [if_neg k5, millwrightref19_one.j3, if_neg (by simp), hmany, Option.bind_some]
                  by_cases k6 : e0 = 6
                  · rw [if_pos k6, if_neg (show ¬ e0 = 2 by omega), if_neg (show ¬ e0 = 3 by omega), if_neg (show ¬ e0 = 4 by omega), if_neg k5]
                    by_cases q : (TrS.getT ts e1).stops ≥ c5
                    · rw [if_pos q, if_pos q]
                    · rw [if_neg q, if_neg q]
                  · rw [if_neg k6]
                    have : e0 = 2 ∨ e0 = 3 ∨ e0 = 4 := by omega
                    rcases this with q | q | q
                    · rw [if_pos q]
                    · rw [if_neg (by omega), if_pos q]
                    · rw [if_neg (by omega), if_neg (by omega), if_pos q]
            by_cases hs2 : h[j].f2 = e2
            · rw [if_pos hs2]
              exact j2 _ (by simp [hs2, bne])
            · rw [if_neg hs2]
              exact j2 _ (by simp [hs2])
          · have hlT : (TrS.getT ts e1).live = false := by
              cases hL : (TrS.getT ts e1).live with
              | false => rfl
              | true =>
                obtain ⟨x, hx1, hx2⟩ := R.live.1 hL
                rw [h2] at hx1
                rw [← Option.some.inj hx1] at hx2
                exact absurd hx2 hk1
            rw [hlv, if_neg (by simp [hk1]), hlT, if_neg (by simp)]
  by_cases a8 : e4 < 0
  · rw [millwrightref19_one.j0, if_pos (decide_eq_true a8)]
    rw [bad (fun x => by have := (mayIff.1 x).2.2.2; have := I.pos; omega)]
  · rw [millwrightref19_one.j0, if_neg (by rw [decide_eq_false a8]; simp)]
    rcases ht with ⟨h0, h1⟩ | ⟨h0, h1⟩
    · rw [if_neg (by omega)]
      exact j1 false (fun x => by cases x) (fun _ _ => by omega) (by omega)
    · have e : wrap64 ((h.length : Int) - 1) = ((h.length - 1 : Nat) : Int) := by rw [Bits.wrap64_in (by omega) (by omega)]; omega
      rw [if_pos (by omega), if_pos (by rw [e]; omega), if_pos (by rw [e]; omega), ← h1]
      exact j1 _ (fun x => by have := of_decide_eq_true x; omega) (fun x _ => by have := of_decide_eq_false x; omega) (by omega)
end

theorem audit_l0 (c0 c1 c2 c3 c4 c5 c6 c7 c8 c9 : Int) (l1 : List S50) (w1 : ∀ x ∈ l1, (Lit.int .i64 x.f0).wf = true ∧ (Lit.int .i64 x.f1).wf = true) (hl1 : l1.length ≤ 1000000) (h : List S39) (hn : h.length ≤ 1000000) :
    ∀ (r i k : Nat) (ts : List TrS.Tk) (t : Int), i + r = h.length → TrT.Inv l1.length (H (h.take i)) ts t → l1.length + h.length + r + 8 ≤ k →
      millwrightref19_Audit.l0 k l1 h i c0 c1 c2 c3 c4 c5 c6 c7 c8 c9 = some (TrS.auditL ⟨c0, c1, c2, c3, c4, c5, c6, c7, c8, c9⟩ (ksOf l1) (H (h.drop i)) ts t i)
  | r, i, 0, ts, t, hr, I, hk => absurd hk (by omega)
  | 0, i, k + 1, ts, t, hr, I, hk => by
    rw [millwrightref19_Audit.l0, if_neg (by omega), List.drop_eq_nil_of_le (by omega)]
    rfl
  | r + 1, i, k + 1, ts, t, hr, I, hk => by
    have hw : wrap64 ((i : Int) + 1) = ((i + 1 : Nat) : Int) := by rw [Bits.wrap64_in (by omega) (by omega)]; omega
    have hi : i < h.length := by omega
    have hks : (ksOf l1).length = l1.length := List.length_map ..
    have htl : (h.take i).length = i := by rw [List.length_take]; omega
    have hone := one_f c0 c1 c2 c3 c4 c5 c6 c7 c8 c9 h[i].f0 h[i].f1 h[i].f2 h[i].f3 h[i].f4 l1 w1 hl1 (h.take i) (by omega) ts t I k (by omega)
    rw [millwrightref19_Audit.l0, if_pos (by omega), if_pos (by omega), if_pos (by omega), Int.toNat_natCast, rd_get h i hi, hone, Option.bind_some, hw, List.drop_eq_getElem_cons hi]
    show _ = some (TrS.auditL _ _ (ev h[i] :: H (h.drop (i + 1))) ts t i)
    have hev : (⟨h[i].f0, h[i].f1, h[i].f2, h[i].f3, h[i].f4⟩ : TrS.Ev) = ev h[i] := rfl
    rw [hev, TrS.auditL]
    by_cases h0 : (TrS.takes ⟨c0, c1, c2, c3, c4, c5, c6, c7, c8, c9⟩ (ksOf l1) ts t (ev h[i])).1 = 0
    · rw [if_pos h0, if_pos h0]
      have hst := TrT.Inv.step (c := ⟨c0, c1, c2, c3, c4, c5, c6, c7, c8, c9⟩) (ks := ksOf l1) (e := ev h[i]) (by rw [hks]; exact I) (by rw [List.length_map, htl]; omega) h0
      rw [hks] at hst
      have htk : H (h.take i) ++ [ev h[i]] = H (h.take (i + 1)) := by
        unfold H
        rw [List.take_add_one, List.getElem?_eq_getElem hi, List.map_append]
        rfl
      rw [htk] at hst
      rw [audit_l0 c0 c1 c2 c3 c4 c5 c6 c7 c8 c9 l1 w1 hl1 h hn r (i + 1) k _ _ (by omega) hst (by omega)]
      rfl
    · rw [if_neg h0, if_neg h0]
theorem refs_l0 (l : List S42) (hn : l.length ≤ 1000000) : ∀ (r i k : Nat) (acc : List S39), i + r = l.length → acc.length = i → r + 1 ≤ k →
    millwrightlaw19_refs.l0 k l acc i = some (acc ++ (l.drop i).map fun x => ⟨x.f0, x.f1, x.f2, x.f3, x.f4⟩)
  | r, i, 0, acc, _, _, hk => absurd hk (by omega)
  | 0, i, k + 1, acc, hr, _, _ => by
    rw [millwrightlaw19_refs.l0, if_neg (by omega), List.drop_eq_nil_of_le (by omega), List.map_nil, List.append_nil]
  | r + 1, i, k + 1, acc, hr, ha, hk => by
    have hw : wrap64 ((i : Int) + 1) = ((i + 1 : Nat) : Int) := by rw [Bits.wrap64_in (by omega) (by omega)]; omega
    have hrd : rd_T42 l (i : Int) = l[i] := by
      unfold rd_T42
      rw [Int.toNat_natCast, List.getD_eq_getElem?_getD, List.getElem?_eq_getElem (by omega)]
      rfl
    rw [millwrightlaw19_refs.l0, if_pos (by omega), if_pos (by omega), if_pos (by omega), hw, hrd, refs_l0 l hn r (i + 1) k _ (by omega) (by rw [List.length_append, ha]; rfl) (by omega), List.drop_eq_getElem_cons (i := i) (by omega), List.map_cons, List.append_assoc]
    rfl
theorem TraceTells (c0 c1 c2 c3 c4 c5 c6 c7 c8 c9 : Int) (l1 : List S50) (l2 : List S42) (hc : ∀ z ∈ [c0, c1, c2, c3, c4, c5, c6, c7, c8, c9], (Lit.int .i64 z).wf = true)
    (b1 : l1.length ≤ 9223372036854775807) (w1 : ∀ x ∈ l1, (Lit.int .i64 x.f0).wf = true ∧ (Lit.int .i64 x.f1).wf = true) (b2 : l2.length ≤ 9223372036854775807)
    (w2 : ∀ x ∈ l2, (Lit.int .i64 x.f0).wf = true ∧ (Lit.int .i64 x.f1).wf = true ∧ (Lit.int .i64 x.f2).wf = true ∧ (Lit.int .i64 x.f3).wf = true ∧ (Lit.int .i64 x.f4).wf = true) :
    ∃ k, millwrightlaw19_TraceTells.f k c0 c1 c2 c3 c4 c5 c6 c7 c8 c9 l1 l2 = some true := by
  have i1 := mn_in l1.length 70 (by decide)
  have i2 := mn_in l2.length 120 (by decide)
  have t1 := take_in l1 70 (by decide)
  have t2 := take_in l2 120 (by decide)
  refine ⟨400, ?_⟩
  rw [millwrightlaw19_TraceTells.f, millwrightlaw19_shown.f, Option.bind_some, if_pos i1.1, if_pos i1.2.1, Option.bind_some, if_pos i2.1, if_pos i2.2.1, Option.bind_some]
  have hwA : ∀ x ∈ l1.take (mn (l1.length : Int) 70).toNat, (Lit.int .i64 x.f0).wf = true ∧ (Lit.int .i64 x.f1).wf = true := fun x hx => w1 x (List.mem_of_mem_take hx)
  generalize l1.take (mn (l1.length : Int) 70).toNat = A at t1 hwA
  generalize l2.take (mn (l2.length : Int) 120).toNat = B at t2
  have hA : A.length ≤ 70 := by omega
  have hB : B.length ≤ 120 := by omega
  have hr := refs_l0 B (by omega) B.length 0 400 [] (by omega) rfl (by omega)
  rw [List.drop_zero, List.nil_append] at hr
  rw [trace_Audit.f, if_pos ⟨by omega, by omega⟩, Option.bind_some, millwrightlaw19_refs.f]
  rw [show millwrightlaw19_refs.l0 400 B [] 0 = _ from hr, Option.bind_some, millwrightref19_Audit.f]
  have hlen : (B.map fun x => (⟨x.f0, x.f1, x.f2, x.f3, x.f4⟩ : S39)).length = B.length := List.length_map ..
  have hau := audit_l0 c0 c1 c2 c3 c4 c5 c6 c7 c8 c9 A hwA (by omega) (B.map fun x => ⟨x.f0, x.f1, x.f2, x.f3, x.f4⟩) (by omega) B.length 0 400 (List.replicate A.length TrS.tk0) 0 (by omega) (TrT.Inv.nil A.length) (by omega)
  rw [List.drop_zero] at hau
  rw [show millwrightref19_Audit.l0 400 A (B.map fun x => (⟨x.f0, x.f1, x.f2, x.f3, x.f4⟩ : S39)) 0 c0 c1 c2 c3 c4 c5 c6 c7 c8 c9 = _ from hau, Option.bind_some, if_pos rfl]
  have e : H (B.map fun x => (⟨x.f0, x.f1, x.f2, x.f3, x.f4⟩ : S39)) = B.map trace_Audit.g2 := by unfold H; rw [List.map_map]; rfl
  rw [e]
  have e2 : TrS.audit ⟨c0, c1, c2, c3, c4, c5, c6, c7, c8, c9⟩ (A.map trace_Audit.g1) (B.map trace_Audit.g2) = TrS.auditL ⟨c0, c1, c2, c3, c4, c5, c6, c7, c8, c9⟩ (ksOf A) (B.map trace_Audit.g2) (List.replicate A.length TrS.tk0) 0 ((0 : Nat) : Int) := by
    unfold TrS.audit
    rw [List.length_map]
    rfl
  rw [e2, if_pos rfl, beq_self_eq_true]
end Go.Proofs.YtckcepmkfegkiaaDoor.Pure
