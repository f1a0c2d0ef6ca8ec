/- millwrightref03.line: what it answers, and its walk. No condition. The reference's text of a file, in plain words, is the program's; right and Name. No condition. -/
import Derived.Test.YtegbfimfpkendaaDoorPm1
namespace Go.Proofs.YtegbfimfpkendaaDoor.PbI
open Go.RowKit Go.Proofs.YtegbfimfpkendaaDoorW.PrintWords Go.Proofs.YtegbfimfpkendaaDoorW.PrintLast Go.Proofs.YtegbfimfpkendaaDoorW.PrintMore LexS LexB PaA LexBox PaC PaD PaB PaE PaF PaG PaH PaL PaM PaN PaQ PaS PaT PaU PaV PaW PaX PaY PaZ PbA PbB PbG PbH
set_option linter.unusedVariables false
set_option linter.unusedSimpArgs false
def inR (o : Opn) : Prop := (0 ≤ o.a ∧ 0 ≤ o.b ∧ 0 ≤ o.c ∧ 0 ≤ o.d) ∧ o.a ≤ 1048576 ∧ o.b ≤ 1048576 ∧ o.c ≤ 1048576 ∧ o.d ≤ 1048576
instance (o : Opn) : Decidable (inR o) := by unfold inR; infer_instance
def dig (v : Int) : List UInt8 := Lib.decDigits v.toNat
def lineT (k : Int) (c : Int) (da db dc dd : List UInt8) : List UInt8 :=
  if k = 1 then (((([115, 117, 98, 109, 105, 116] ++ ([32] ++ da)) ++ ([32] ++ db)) ++ [32]) ++ dc) ++ [10]
  else if k = 2 then ([99, 97, 110, 99, 101, 108] ++ ([32] ++ da)) ++ [10]
  else if k = 3 then [116, 105, 99, 107, 10]
  else if k = 4 then [100, 105, 115, 112, 97, 116, 99, 104, 10]
  else if k = 6 then ([113, 117, 101, 114, 121] ++ ([32] ++ da)) ++ [10]
  else if k = 5 then (if c = 1 then (([97, 110, 115, 119, 101, 114] ++ ([32] ++ da)) ++ ([32] ++ db)) ++ [32, 100, 105, 100, 10] else if c = 2 then (([97, 110, 115, 119, 101, 114] ++ ([32] ++ da)) ++ ([32] ++ db)) ++ [32, 102, 97, 105, 108, 10] else (((([97, 110, 115, 119, 101, 114] ++ ([32] ++ da)) ++ ([32] ++ db)) ++ [32, 110, 101, 101, 100, 32]) ++ dd) ++ [10])
  else []
def lineB (o : Opn) : Bool :=
  if o.kind = 1 then o.d == 0
  else if o.kind = 2 then (o.b == 0 && (o.c == 0 && o.d == 0))
  else if o.kind = 3 then ((o.b == 0 && (o.c == 0 && o.d == 0)) && o.a == 0)
  else if o.kind = 4 then ((o.b == 0 && (o.c == 0 && o.d == 0)) && o.a == 0)
  else if o.kind = 6 then (o.b == 0 && (o.c == 0 && o.d == 0))
  else if o.kind = 5 then (if o.c = 1 then o.d == 0 else if o.c = 2 then o.d == 0 else o.c == 3)
  else false
def lineP (o : Opn) : List UInt8 × Bool := if inR o then (lineT o.kind o.c (dig o.a) (dig o.b) (dig o.c) (dig o.d), lineB o) else ([], false)
attribute [local go_sem] max2_int min2_int max_two min_two max_three min_three max_four min_four
theorem text_d (u : Nat) (l : List UInt8) (hl : Lib.decDigits u = l) (hu : u ≤ 9223372036854775807) (w : World) : Calls Tryd.prog 17 #[.int .i64 (u : Int)] w fun e w' => e = .returned (.string ⟨l.toArray⟩) ∧ Below w.heap.size w w' := hl ▸ text_ref u hu w
set_option maxHeartbeats 4000000 in
set_option maxRecDepth 100000 in
theorem line_calls (k a b c d : Int) (w : World) (r : List UInt8 × Bool) (hr : lineP ⟨k, a, b, c, d⟩ = r) :
    Calls Tryd.prog 31 #[.agg #[.int .i64 k, .int .i64 a, .int .i64 b, .int .i64 c, .int .i64 d]] w fun e w' => e = .returned (.tuple #[.string ⟨r.1.toArray⟩, .bool r.2]) ∧ Below w.heap.size w w' := by
  go_enter Tryd.func31, Tryd.ntmps31
  go_upto_region 1 with (first
    | ((with_reducible refine gate_dst (N := 1) rfl ?_); (try (refine gate_guard (by rfl) ?_; dsimp only)); refine box_event ?hg (N := 1) ?hd (cs := #[.int .i64 k, .int .i64 a, .int .i64 b, .int .i64 c, .int .i64 d]) (t := 46) ?hr ?_; (case hd => rfl); (case hg => rfl); (case hr => first | (go_simp; done) | (go_simp; rfl)); intro G hg w1 hbox hb; have OX := Aside0.mk hbox; have OB := Aside0.mk hb; have OG := Aside0.mk (Nat.le_of_eq hg.symm); clear hbox hb hg))
  obtain ⟨x0, x1, x2, x3, x4, -, -, -, -, -⟩ := cells5 OX.out
  have bad : ¬ inR ⟨k, a, b, c, d⟩ → lineP ⟨k, a, b, c, d⟩ = ([], false) := fun h => if_neg h
  by_cases ha : a < 0
  · have ka : decide (a < 0) = true := decide_eq_true ha
    obtain rfl : r = ([], false) := hr.symm.trans (bad (by simp only [inR]; omega))
    clear bad hr
    go_wp2
    first | go_ret | go_ret2
    exact ⟨by first | rfl | simp, OB.out⟩
  have ka : decide (a < 0) = false := decide_eq_false ha
  by_cases hb : b < 0
  · have kb : decide (b < 0) = true := decide_eq_true hb
    obtain rfl : r = ([], false) := hr.symm.trans (bad (by simp only [inR]; omega))
    clear bad hr
    go_wp2
    first | go_ret | go_ret2
    exact ⟨by first | rfl | simp, OB.out⟩
  have kb : decide (b < 0) = false := decide_eq_false hb
  by_cases hc : c < 0
  · have kc : decide (c < 0) = true := decide_eq_true hc
    obtain rfl : r = ([], false) := hr.symm.trans (bad (by simp only [inR]; omega))
    clear bad hr
    go_wp2
    first | go_ret | go_ret2
    exact ⟨by first | rfl | simp, OB.out⟩
  have kc : decide (c < 0) = false := decide_eq_false hc
  by_cases hd : d < 0
  · have kd : decide (d < 0) = true := decide_eq_true hd
    obtain rfl : r = ([], false) := hr.symm.trans (bad (by simp only [inR]; omega))
    clear bad hr
    go_wp2
    first | go_ret | go_ret2
    exact ⟨by first | rfl | simp, OB.out⟩
  have kd : decide (d < 0) = false := decide_eq_false hd
  obtain ⟨m, hm, hmm⟩ : ∃ m, (if (if (if a < b then b else a) < c then c else if a < b then b else a) < d then d else if (if a < b then b else a) < c then c else if a < b then b else a) = m ∧ (1048576 < m ↔ 1048576 < a ∨ 1048576 < b ∨ 1048576 < c ∨ 1048576 < d) := ⟨_, rfl, by (repeat' split) <;> omega⟩
  by_cases hx : 1048576 < m
  · have kx : decide (1048576 < m) = true := decide_eq_true hx
    obtain rfl : r = ([], false) := hr.symm.trans (bad (by simp only [inR]; omega))
    clear bad hr
    go_wp2
    first | go_ret | go_ret2
    exact ⟨by first | rfl | simp, OB.out⟩
  have kx : decide (1048576 < m) = false := decide_eq_false hx
  have HIn := Aside0.mk (show inR ⟨k, a, b, c, d⟩ by simp only [inR]; omega)
  have good : lineP ⟨k, a, b, c, d⟩ = (lineT k c (dig a) (dig b) (dig c) (dig d), lineB ⟨k, a, b, c, d⟩) := if_pos HIn.out
  have HRR := Aside0.mk (good.symm.trans hr)
  clear bad good hr
  have HR := Aside0.mk (show (0 ≤ a ∧ 0 ≤ b ∧ 0 ≤ c ∧ 0 ≤ d) ∧ a ≤ 1048576 ∧ b ≤ 1048576 ∧ c ≤ 1048576 ∧ d ≤ 1048576 from HIn.out)
  go_upto_region 3 with (fail)
  clear ka kb kc kd kx hm hmm hx ha hb hc hd x0 x1 x2 x3 x4
  obtain ⟨ua, rfl⟩ := Int.eq_ofNat_of_zero_le HR.out.1.1
  obtain ⟨ub, rfl⟩ := Int.eq_ofNat_of_zero_le HR.out.1.2.1
  obtain ⟨uc, rfl⟩ := Int.eq_ofNat_of_zero_le HR.out.1.2.2.1
  obtain ⟨ud, rfl⟩ := Int.eq_ofNat_of_zero_le HR.out.1.2.2.2
  obtain ⟨da, hda⟩ : ∃ l, Lib.decDigits ua = l := ⟨_, rfl⟩
  obtain ⟨db, hdb⟩ : ∃ l, Lib.decDigits ub = l := ⟨_, rfl⟩
  obtain ⟨dc, hdc⟩ : ∃ l, Lib.decDigits uc = l := ⟨_, rfl⟩
  obtain ⟨dd, hdd⟩ : ∃ l, Lib.decDigits ud = l := ⟨_, rfl⟩
  have HRS := Aside0.mk (show (lineT k (uc : Int) da db dc dd, lineB ⟨k, (ua : Int), (ub : Int), (uc : Int), (ud : Int)⟩) = r by rw [← hda, ← hdb, ← hdc, ← hdd]; exact HRR.out)
  have LA := Aside0.mk (show da.length ≤ 21 by rw [← hda]; exact dec_len _ (by have := HR.out; omega))
  have LB := Aside0.mk (show db.length ≤ 21 by rw [← hdb]; exact dec_len _ (by have := HR.out; omega))
  have LC := Aside0.mk (show dc.length ≤ 21 by rw [← hdc]; exact dec_len _ (by have := HR.out; omega))
  have LD := Aside0.mk (show dd.length ≤ 21 by rw [← hdd]; exact dec_len _ (by have := HR.out; omega))
  have DA := Aside0.mk hda
  have DB := Aside0.mk hdb
  have DC := Aside0.mk hdc
  have DD := Aside0.mk hdd
  clear hda hdb hdc hdd HRR HIn
  obtain ⟨XA, hXA⟩ : ∃ X, X = [32] ++ da := ⟨_, rfl⟩
  obtain ⟨XB, hXB⟩ : ∃ X, X = [32] ++ db := ⟨_, rfl⟩
  have pa : ∀ W : World, (Op.stringOp .add (⟨([32] : List UInt8).toArray⟩ : ByteArray) ⟨da.toArray⟩).run Tryd.prog W = .ok (.string ⟨XA.toArray⟩) W := by rw [hXA]; exact add_lit [32] da (by have := LA.out; simp; omega)
  have pb : ∀ W : World, (Op.stringOp .add (⟨([32] : List UInt8).toArray⟩ : ByteArray) ⟨db.toArray⟩).run Tryd.prog W = .ok (.string ⟨XB.toArray⟩) W := by rw [hXB]; exact add_lit [32] db (by have := LB.out; simp; omega)
  have LXA := Aside0.mk (show XA.length ≤ 22 by have := LA.out; rw [hXA]; simp; omega)
  have LXB := Aside0.mk (show XB.length ≤ 22 by have := LB.out; rw [hXB]; simp; omega)
  have HXA := Aside0.mk hXA
  have HXB := Aside0.mk hXB
  clear hXA hXB
  obtain ⟨x0, x1, x2, x3, x4, -, -, -, -, -⟩ := cells5 OX.out
  go_upto_region 4 with (first
    | (go_at_call 17; refine (text_d ua da DA.out (by have := HR.out; omega) _).mono ?_; rintro e' w2 ⟨rfl, hb⟩; have B2 := Aside0.mk hb; clear hb))
  clear x0 x1 x2 x3 x4
  obtain ⟨x0, x1, x2, x3, x4, -, -, -, -, -⟩ := cells5 (blk_below OX.out B2.out)
  go_upto_region 5 with (first
    | (go_at_call 17; refine (text_d ub db DB.out (by have := HR.out; omega) _).mono ?_; rintro e' w3 ⟨rfl, hb⟩; have B3 := Aside0.mk (below_step B2.out hb); clear hb))
  clear x0 x1 x2 x3 x4 pa pb
  obtain ⟨x0, x1, x2, x3, x4, -, -, -, -, -⟩ := cells5 (blk_below OX.out B3.out)
  by_cases hb0 : (ub : Int) = 0
  rotate_left
  · have zb : ((ub : Int) == 0) = false := beq_eq_false_iff_ne.2 hb0
    have HAL := Aside0.mk (show ((ub : Int) == 0 && ((uc : Int) == 0 && (ud : Int) == 0)) = false by simp [zb])
    clear hb0
    go_upto_region 7 with (fail)
    clear zb
    by_cases hk : k = 1
    · subst hk
      have hXA := HXA.out
      have hXB := HXB.out
      obtain ⟨X1, hX1⟩ : ∃ X, X = ([115, 117, 98, 109, 105, 116] : List UInt8) ++ XA := ⟨_, rfl⟩
      have LX1 := Aside0.mk (show X1.length ≤ 100 by have := LA.out; have := LB.out; have := LC.out; have := LD.out; have := LXA.out; have := LXB.out; rw [hX1, List.length_append]; (try simp only [List.length_cons, List.length_nil]); omega)
      have p0 : ∀ W : World, (Op.stringOp .add (⟨([115, 117, 98, 109, 105, 116] : List UInt8).toArray⟩ : ByteArray) ⟨(XA : List UInt8).toArray⟩).run Tryd.prog W = .ok (.string ⟨X1.toArray⟩) W := by rw [hX1]; exact add_lit _ _ (by have := LA.out; have := LB.out; have := LC.out; have := LD.out; have := LXA.out; have := LXB.out; (try simp only [List.length_cons, List.length_nil]); omega)
      obtain ⟨X2, hX2⟩ : ∃ X, X = (X1 : List UInt8) ++ XB := ⟨_, rfl⟩
      have LX2 := Aside0.mk (show X2.length ≤ 200 by have := LA.out; have := LB.out; have := LC.out; have := LD.out; have := LXA.out; have := LXB.out; have := LX1.out; rw [hX2, List.length_append]; (try simp only [List.length_cons, List.length_nil]); omega)
      have p1 : ∀ W : World, (Op.stringOp .add (⟨(X1 : List UInt8).toArray⟩ : ByteArray) ⟨(XB : List UInt8).toArray⟩).run Tryd.prog W = .ok (.string ⟨X2.toArray⟩) W := by rw [hX2]; exact add_lit _ _ (by have := LA.out; have := LB.out; have := LC.out; have := LD.out; have := LXA.out; have := LXB.out; have := LX1.out; (try simp only [List.length_cons, List.length_nil]); omega)
      obtain ⟨X3, hX3⟩ : ∃ X, X = (X2 : List UInt8) ++ [32] := ⟨_, rfl⟩
      have LX3 := Aside0.mk (show X3.length ≤ 300 by have := LA.out; have := LB.out; have := LC.out; have := LD.out; have := LXA.out; have := LXB.out; have := LX2.out; rw [hX3, List.length_append]; (try simp only [List.length_cons, List.length_nil]); omega)
      have p2 : ∀ W : World, (Op.stringOp .add (⟨(X2 : List UInt8).toArray⟩ : ByteArray) ⟨([32] : List UInt8).toArray⟩).run Tryd.prog W = .ok (.string ⟨X3.toArray⟩) W := by rw [hX3]; exact add_lit _ _ (by have := LA.out; have := LB.out; have := LC.out; have := LD.out; have := LXA.out; have := LXB.out; have := LX2.out; (try simp only [List.length_cons, List.length_nil]); omega)
      obtain ⟨X4, hX4⟩ : ∃ X, X = (X3 : List UInt8) ++ dc := ⟨_, rfl⟩
      have LX4 := Aside0.mk (show X4.length ≤ 400 by have := LA.out; have := LB.out; have := LC.out; have := LD.out; have := LXA.out; have := LXB.out; have := LX3.out; rw [hX4, List.length_append]; (try simp only [List.length_cons, List.length_nil]); omega)
      have p3 : ∀ W : World, (Op.stringOp .add (⟨(X3 : List UInt8).toArray⟩ : ByteArray) ⟨(dc : List UInt8).toArray⟩).run Tryd.prog W = .ok (.string ⟨X4.toArray⟩) W := by rw [hX4]; exact add_lit _ _ (by have := LA.out; have := LB.out; have := LC.out; have := LD.out; have := LXA.out; have := LXB.out; have := LX3.out; (try simp only [List.length_cons, List.length_nil]); omega)
      obtain ⟨X5, hX5⟩ : ∃ X, X = (X4 : List UInt8) ++ [10] := ⟨_, rfl⟩
      have LX5 := Aside0.mk (show X5.length ≤ 500 by have := LA.out; have := LB.out; have := LC.out; have := LD.out; have := LXA.out; have := LXB.out; have := LX4.out; rw [hX5, List.length_append]; (try simp only [List.length_cons, List.length_nil]); omega)
      have p4 : ∀ W : World, (Op.stringOp .add (⟨(X4 : List UInt8).toArray⟩ : ByteArray) ⟨([10] : List UInt8).toArray⟩).run Tryd.prog W = .ok (.string ⟨X5.toArray⟩) W := by rw [hX5]; exact add_lit _ _ (by have := LA.out; have := LB.out; have := LC.out; have := LD.out; have := LXA.out; have := LXB.out; have := LX4.out; (try simp only [List.length_cons, List.length_nil]); omega)
      obtain rfl : r = (X5, ((ud : Int) == 0)) := HRS.out.symm.trans (by rw [hX5, hX4, hX3, hX2, hX1, hXA, hXB]; rfl)
      clear HRS hXA hXB
      clear hX1
      clear hX2
      clear hX3
      clear hX4
      clear hX5
      go_upto_region 8 with (fail)
      refine start_ (n := 15) (S := fun w' => w'.cell? ⟨G, 3, none⟩ = some (.int .i64 (uc : Int)) ∧ w'.cell? ⟨G, 4, none⟩ = some (.int .i64 (ud : Int))) (ds := []) #[false, false, false, false, false, false, false, false, false, false, false, false, false, false, false] (by kernel_rfl) rfl rfl ⟨((blk_cell (blk_below OX.out (below_drew B3.out)) 3).trans rfl), ((blk_cell (blk_below OX.out (below_drew B3.out)) 4).trans rfl)⟩ (fun hHeld => ?_)
      refine pure_ (i := 0) (N := some 62) (v := ?_) (a' := ?_) #[true, false, false, false, false, false, false, false, false, false, false, false, false, false, false] rfl rfl (by kernel_rfl) (fun _ _ _ h => h) (Or.inl ⟨by rfl, ?_⟩) ?_ ?_
      rotate_left
      · intro w'
        go_simp
        with_reducible rfl
      rotate_left
      · simp only [Act.put, List.setIfInBounds_toArray, List.set_cons_zero, List.set_cons_succ, i64_w, i32_w]
        rfl
      refine pure_ (i := 1) (N := some 63) (v := ?_) (a' := ?_) #[true, true, false, false, false, false, false, false, false, false, false, false, false, false, false] rfl rfl (by kernel_rfl) (fun _ _ _ h => h) (Or.inl ⟨by rfl, ?_⟩) ?_ ?_
      rotate_left
      · intro w'
        go_simp
        with_reducible rfl
      rotate_left
      · simp only [Act.put, List.setIfInBounds_toArray, List.set_cons_zero, List.set_cons_succ, i64_w, i32_w]
        rfl
      refine pure_ (i := 2) (N := some 64) (v := ?_) (a' := ?_) #[true, true, true, false, false, false, false, false, false, false, false, false, false, false, false] rfl rfl (by kernel_rfl) (fun _ _ _ h => h) (Or.inl ⟨by rfl, ?_⟩) ?_ ?_
      rotate_left
      · intro w'
        go_simp
        with_reducible rfl
      rotate_left
      · simp only [Act.put, List.setIfInBounds_toArray, List.set_cons_zero, List.set_cons_succ, i64_w, i32_w]
        rfl
      refine pure_ (i := 3) (N := some 65) (v := ?_) (a' := ?_) #[true, true, true, true, false, false, false, false, false, false, false, false, false, false, false] rfl rfl (by kernel_rfl) (fun _ _ _ h => h) (Or.inl ⟨by rfl, ?_⟩) ?_ ?_
      rotate_left
      · intro w'
        go_simp
        with_reducible rfl
      rotate_left
      · simp only [Act.put, List.setIfInBounds_toArray, List.set_cons_zero, List.set_cons_succ, i64_w, i32_w]
        rfl
      refine pure_ (i := 4) (N := some 66) (v := ?_) (a' := ?_) #[true, true, true, true, true, false, false, false, false, false, false, false, false, false, false] rfl rfl (by kernel_rfl) (fun _ _ _ h => h) (Or.inl ⟨by rfl, ?_⟩) ?_ ?_
      rotate_left
      · intro w'
        go_simp
        with_reducible rfl
      rotate_left
      · simp only [Act.put, List.setIfInBounds_toArray, List.set_cons_zero, List.set_cons_succ, i64_w, i32_w]
        rfl
      refine pure_ (i := 5) (N := some 67) (v := ?_) (a' := ?_) #[true, true, true, true, true, true, false, false, false, false, false, false, false, false, false] rfl rfl (by kernel_rfl) (fun _ _ _ h => h) (Or.inl ⟨by rfl, ?_⟩) ?_ ?_
      rotate_left
      · intro w'
        go_simp
        with_reducible rfl
      rotate_left
      · simp only [Act.put, List.setIfInBounds_toArray, List.set_cons_zero, List.set_cons_succ, i64_w, i32_w]
        rfl
      refine pure_ (i := 10) (N := some 72) (v := ?_) (a' := ?_) #[true, true, true, true, true, true, false, false, false, false, true, false, false, false, false] rfl rfl (by kernel_rfl) (fun _ _ _ h => h) (Or.inl ⟨by rfl, ?_⟩) ?_ ?_
      rotate_left
      · intro w'
        go_simp
        with_reducible rfl
      rotate_left
      · simp only [Act.put, List.setIfInBounds_toArray, List.set_cons_zero, List.set_cons_succ, i64_w, i32_w]
        rfl
      refine take_ (i := 6) (N := some 68) (v := ?_) (a' := ?_) #[true, true, true, true, true, true, true, false, false, false, true, false, false, false, false] rfl rfl (by kernel_rfl) (fun _ _ _ h => h) (Or.inl ⟨by rfl, ?_⟩) hHeld ?_ ?_
      rotate_left
      · rintro w' ⟨s0, s1⟩
        go_simp
        with_reducible rfl
      rotate_left
      · simp only [Act.put, List.setIfInBounds_toArray, List.set_cons_zero, List.set_cons_succ, i64_w, i32_w]
        rfl
      refine take_ (i := 11) (N := some 73) (v := ?_) (a' := ?_) #[true, true, true, true, true, true, true, false, false, false, true, true, false, false, false] rfl rfl (by kernel_rfl) (fun _ _ _ h => h) (Or.inl ⟨by rfl, ?_⟩) hHeld ?_ ?_
      rotate_left
      · rintro w' ⟨s0, s1⟩
        go_simp
        with_reducible rfl
      rotate_left
      · simp only [Act.put, List.setIfInBounds_toArray, List.set_cons_zero, List.set_cons_succ, i64_w, i32_w]
        rfl
      refine pure_ (i := 12) (N := some 74) (v := ?_) (a' := ?_) #[true, true, true, true, true, true, true, false, false, false, true, true, true, false, false] rfl rfl (by kernel_rfl) (fun _ _ _ h => h) (Or.inl ⟨by rfl, ?_⟩) ?_ ?_
      rotate_left
      · intro w'
        go_simp
        with_reducible rfl
      rotate_left
      · simp only [Act.put, List.setIfInBounds_toArray, List.set_cons_zero, List.set_cons_succ, i64_w, i32_w]
        rfl
      refine one_ (i := 7) (N := some 69) #[true, true, true, true, true, true, true, true, false, false, true, true, true, false, false] rfl rfl (by kernel_rfl) (by decide) (fun K hK => ?_)
      refine goes_ Tryd.func17 (by kernel_rfl) rfl #[.int .i64 (uc : Int)] (by rfl) rfl rfl (by simp only [List.map_toArray, List.map_cons, List.map_nil]; rfl) ?_
      refine (text_d uc dc DC.out (by have := HR.out; omega) _).mono ?_
      rintro e' w4 ⟨rfl, hb⟩
      refine ⟨_, rfl, ?_⟩
      have B4 := Aside0.mk (below_step (below_drew B3.out) hb)
      clear hb
      refine hK.out _ _ ⟨((blk_cell (blk_below OX.out B4.out) 3).trans rfl), ((blk_cell (blk_below OX.out B4.out) 4).trans rfl)⟩ (fun hHeld => ?_)
      clear hK K
      refine norm_ (a' := ?_) ?_ ?_
      rotate_left
      · show Act.put _ (some 69) _ = _
        simp only [Act.put, List.setIfInBounds_toArray, List.set_cons_zero, List.set_cons_succ, i64_w, i32_w]
        rfl
      refine pure_ (i := 8) (N := some 70) (v := ?_) (a' := ?_) #[true, true, true, true, true, true, true, true, true, false, true, true, true, false, false] rfl rfl (by kernel_rfl) (fun _ _ _ h => h) (Or.inl ⟨by rfl, ?_⟩) ?_ ?_
      rotate_left
      · intro w'
        go_simp
        with_reducible rfl
      rotate_left
      · simp only [Act.put, List.setIfInBounds_toArray, List.set_cons_zero, List.set_cons_succ, i64_w, i32_w]
        rfl
      refine pure_ (i := 9) (N := some 71) (v := ?_) (a' := ?_) #[true, true, true, true, true, true, true, true, true, true, true, true, true, false, false] rfl rfl (by kernel_rfl) (fun _ _ _ h => h) (Or.inl ⟨by rfl, ?_⟩) ?_ ?_
      rotate_left
      · intro w'
        go_simp
        with_reducible rfl
      rotate_left
      · simp only [Act.put, List.setIfInBounds_toArray, List.set_cons_zero, List.set_cons_succ, i64_w, i32_w]
        rfl
      refine pure_ (i := 13) (N := some 2) (v := ?_) (a' := ?_) #[true, true, true, true, true, true, true, true, true, true, true, true, true, true, false] rfl rfl (by kernel_rfl) (fun _ _ _ h => h) (Or.inl ⟨by rfl, ?_⟩) ?_ ?_
      rotate_left
      · intro w'
        go_simp
        with_reducible rfl
      rotate_left
      · simp only [Act.put, List.setIfInBounds_toArray, List.set_cons_zero, List.set_cons_succ, i64_w, i32_w]
        rfl
      refine pure_ (i := 14) (N := some 3) (v := ?_) (a' := ?_) #[true, true, true, true, true, true, true, true, true, true, true, true, true, true, true] rfl rfl (by kernel_rfl) (fun _ _ _ h => h) (Or.inl ⟨by rfl, ?_⟩) ?_ ?_
      rotate_left
      · intro w'
        go_simp
        with_reducible rfl
      rotate_left
      · simp only [Act.put, List.setIfInBounds_toArray, List.set_cons_zero, List.set_cons_succ, i64_w, i32_w]
        rfl
      refine done_ (by kernel_rfl) ?_
      go_wp2
      first | go_ret | go_ret2
      exact ⟨by first | rfl | simp, below_step OB.out B4.out⟩
    have k1 : (k == 1) = false := beq_eq_false_iff_ne.2 hk
    have n1 := Aside0.mk hk
    clear hk
    by_cases hk : k = 2
    · subst hk
      have hXA := HXA.out
      have hXB := HXB.out
      obtain ⟨X1, hX1⟩ : ∃ X, X = ([99, 97, 110, 99, 101, 108] : List UInt8) ++ XA := ⟨_, rfl⟩
      have LX1 := Aside0.mk (show X1.length ≤ 100 by have := LA.out; have := LB.out; have := LC.out; have := LD.out; have := LXA.out; have := LXB.out; rw [hX1, List.length_append]; (try simp only [List.length_cons, List.length_nil]); omega)
      have p0 : ∀ W : World, (Op.stringOp .add (⟨([99, 97, 110, 99, 101, 108] : List UInt8).toArray⟩ : ByteArray) ⟨(XA : List UInt8).toArray⟩).run Tryd.prog W = .ok (.string ⟨X1.toArray⟩) W := by rw [hX1]; exact add_lit _ _ (by have := LA.out; have := LB.out; have := LC.out; have := LD.out; have := LXA.out; have := LXB.out; (try simp only [List.length_cons, List.length_nil]); omega)
      obtain ⟨X2, hX2⟩ : ∃ X, X = (X1 : List UInt8) ++ [10] := ⟨_, rfl⟩
      have LX2 := Aside0.mk (show X2.length ≤ 200 by have := LA.out; have := LB.out; have := LC.out; have := LD.out; have := LXA.out; have := LXB.out; have := LX1.out; rw [hX2, List.length_append]; (try simp only [List.length_cons, List.length_nil]); omega)
      have p1 : ∀ W : World, (Op.stringOp .add (⟨(X1 : List UInt8).toArray⟩ : ByteArray) ⟨([10] : List UInt8).toArray⟩).run Tryd.prog W = .ok (.string ⟨X2.toArray⟩) W := by rw [hX2]; exact add_lit _ _ (by have := LA.out; have := LB.out; have := LC.out; have := LD.out; have := LXA.out; have := LXB.out; have := LX1.out; (try simp only [List.length_cons, List.length_nil]); omega)
      obtain rfl : r = (X2, false) := HRS.out.symm.trans (by rw [hX2, hX1, hXA]; rw [← HAL.out]; rfl)
      clear HRS hXA hXB
      clear hX1
      clear hX2
      go_wp2
      first | go_ret | go_ret2
      exact ⟨by first | rfl | simp, below_step OB.out B3.out⟩
    have k2 : (k == 2) = false := beq_eq_false_iff_ne.2 hk
    have n2 := Aside0.mk hk
    clear hk
    by_cases hk : k = 3
    · subst hk
      have hXA := HXA.out
      have hXB := HXB.out
      obtain rfl : r = ([116, 105, 99, 107, 10], false) := HRS.out.symm.trans (by show (_, ((_ && (_ && _)) && _)) = _; rw [HAL.out]; rfl)
      clear HRS hXA hXB
      go_upto_region 12 with (fail)
      refine start_ (n := 8) (S := fun w' => w'.cell? ⟨G, 1, none⟩ = some (.int .i64 (ua : Int))) (ds := []) #[false, false, false, false, false, false, false, false] (by kernel_rfl) rfl rfl (((blk_cell (blk_below OX.out (below_drew B3.out)) 1).trans rfl)) (fun hHeld => ?_)
      refine pure_ (i := 0) (N := some 83) (v := ?_) (a' := ?_) #[true, false, false, false, false, false, false, false] rfl rfl (by kernel_rfl) (fun _ _ _ h => h) (Or.inl ⟨by rfl, ?_⟩) ?_ ?_
      rotate_left
      · intro w'
        go_simp
        with_reducible rfl
      rotate_left
      · simp only [Act.put, List.setIfInBounds_toArray, List.set_cons_zero, List.set_cons_succ, i64_w, i32_w]
        rfl
      refine pure_ (i := 1) (N := some 84) (v := ?_) (a' := ?_) #[true, true, false, false, false, false, false, false] rfl rfl (by kernel_rfl) (fun _ _ _ h => h) (Or.inl ⟨by rfl, ?_⟩) ?_ ?_
      rotate_left
      · intro w'
        go_simp
        with_reducible rfl
      rotate_left
      · simp only [Act.put, List.setIfInBounds_toArray, List.set_cons_zero, List.set_cons_succ, i64_w, i32_w]
        rfl
      refine pure_ (i := 2) (N := some 85) (v := undef) (a' := ?_) #[true, true, true, false, false, false, false, false] rfl rfl (by kernel_rfl) (fun _ _ _ h => h) (Or.inr ⟨by rfl, rfl⟩) ?_ ?_
      rotate_left
      · simp only [Act.put, List.setIfInBounds_toArray, List.set_cons_zero, List.set_cons_succ, i64_w, i32_w]
        rfl
      refine pure_ (i := 3) (N := some 86) (v := undef) (a' := ?_) #[true, true, true, true, false, false, false, false] rfl rfl (by kernel_rfl) (fun _ _ _ h => h) (Or.inr ⟨by rfl, rfl⟩) ?_ ?_
      rotate_left
      · simp only [Act.put, List.setIfInBounds_toArray, List.set_cons_zero, List.set_cons_succ, i64_w, i32_w]
        rfl
      refine pure_ (i := 4) (N := some 87) (v := undef) (a' := ?_) #[true, true, true, true, true, false, false, false] rfl rfl (by kernel_rfl) (fun _ _ _ h => h) (Or.inr ⟨by rfl, rfl⟩) ?_ ?_
      rotate_left
      · simp only [Act.put, List.setIfInBounds_toArray, List.set_cons_zero, List.set_cons_succ, i64_w, i32_w]
        rfl
      refine pure_ (i := 5) (N := some 88) (v := ?_) (a' := ?_) #[true, true, true, true, true, true, false, false] rfl rfl (by kernel_rfl) (fun _ _ _ h => h) (Or.inl ⟨by rfl, ?_⟩) ?_ ?_
      rotate_left
      · intro w'
        go_simp
        with_reducible rfl
      rotate_left
      · simp only [Act.put, List.setIfInBounds_toArray, List.set_cons_zero, List.set_cons_succ, i64_w, i32_w]
        rfl
      refine pure_ (i := 6) (N := some 2) (v := ?_) (a' := ?_) #[true, true, true, true, true, true, true, false] rfl rfl (by kernel_rfl) (fun _ _ _ h => h) (Or.inl ⟨by rfl, ?_⟩) ?_ ?_
      rotate_left
      · intro w'
        go_simp
        with_reducible rfl
      rotate_left
      · simp only [Act.put, List.setIfInBounds_toArray, List.set_cons_zero, List.set_cons_succ, i64_w, i32_w]
        rfl
      refine pure_ (i := 7) (N := some 3) (v := ?_) (a' := ?_) #[true, true, true, true, true, true, true, true] rfl rfl (by kernel_rfl) (fun _ _ _ h => h) (Or.inl ⟨by rfl, ?_⟩) ?_ ?_
      rotate_left
      · intro w'
        go_simp
        with_reducible rfl
      rotate_left
      · simp only [Act.put, List.setIfInBounds_toArray, List.set_cons_zero, List.set_cons_succ, i64_w, i32_w]
        rfl
      refine done_ (by kernel_rfl) ?_
      go_wp2
      first | go_ret | go_ret2
      exact ⟨by first | rfl | simp, below_step OB.out (below_drew B3.out)⟩
    have k3 : (k == 3) = false := beq_eq_false_iff_ne.2 hk
    have n3 := Aside0.mk hk
    clear hk
    by_cases hk : k = 4
    · subst hk
      have hXA := HXA.out
      have hXB := HXB.out
      obtain rfl : r = ([100, 105, 115, 112, 97, 116, 99, 104, 10], false) := HRS.out.symm.trans (by show (_, ((_ && (_ && _)) && _)) = _; rw [HAL.out]; rfl)
      clear HRS hXA hXB
      go_upto_region 14 with (fail)
      refine start_ (n := 8) (S := fun w' => w'.cell? ⟨G, 1, none⟩ = some (.int .i64 (ua : Int))) (ds := []) #[false, false, false, false, false, false, false, false] (by kernel_rfl) rfl rfl (((blk_cell (blk_below OX.out (below_drew B3.out)) 1).trans rfl)) (fun hHeld => ?_)
      refine pure_ (i := 0) (N := some 91) (v := ?_) (a' := ?_) #[true, false, false, false, false, false, false, false] rfl rfl (by kernel_rfl) (fun _ _ _ h => h) (Or.inl ⟨by rfl, ?_⟩) ?_ ?_
      rotate_left
      · intro w'
        go_simp
        with_reducible rfl
      rotate_left
      · simp only [Act.put, List.setIfInBounds_toArray, List.set_cons_zero, List.set_cons_succ, i64_w, i32_w]
        rfl
      refine pure_ (i := 1) (N := some 92) (v := ?_) (a' := ?_) #[true, true, false, false, false, false, false, false] rfl rfl (by kernel_rfl) (fun _ _ _ h => h) (Or.inl ⟨by rfl, ?_⟩) ?_ ?_
      rotate_left
      · intro w'
        go_simp
        with_reducible rfl
      rotate_left
      · simp only [Act.put, List.setIfInBounds_toArray, List.set_cons_zero, List.set_cons_succ, i64_w, i32_w]
        rfl
      refine pure_ (i := 2) (N := some 93) (v := undef) (a' := ?_) #[true, true, true, false, false, false, false, false] rfl rfl (by kernel_rfl) (fun _ _ _ h => h) (Or.inr ⟨by rfl, rfl⟩) ?_ ?_
      rotate_left
      · simp only [Act.put, List.setIfInBounds_toArray, List.set_cons_zero, List.set_cons_succ, i64_w, i32_w]
        rfl
      refine pure_ (i := 3) (N := some 94) (v := undef) (a' := ?_) #[true, true, true, true, false, false, false, false] rfl rfl (by kernel_rfl) (fun _ _ _ h => h) (Or.inr ⟨by rfl, rfl⟩) ?_ ?_
      rotate_left
      · simp only [Act.put, List.setIfInBounds_toArray, List.set_cons_zero, List.set_cons_succ, i64_w, i32_w]
        rfl
      refine pure_ (i := 4) (N := some 95) (v := undef) (a' := ?_) #[true, true, true, true, true, false, false, false] rfl rfl (by kernel_rfl) (fun _ _ _ h => h) (Or.inr ⟨by rfl, rfl⟩) ?_ ?_
      rotate_left
      · simp only [Act.put, List.setIfInBounds_toArray, List.set_cons_zero, List.set_cons_succ, i64_w, i32_w]
        rfl
      refine pure_ (i := 5) (N := some 96) (v := ?_) (a' := ?_) #[true, true, true, true, true, true, false, false] rfl rfl (by kernel_rfl) (fun _ _ _ h => h) (Or.inl ⟨by rfl, ?_⟩) ?_ ?_
      rotate_left
      · intro w'
        go_simp
        with_reducible rfl
      rotate_left
      · simp only [Act.put, List.setIfInBounds_toArray, List.set_cons_zero, List.set_cons_succ, i64_w, i32_w]
        rfl
      refine pure_ (i := 6) (N := some 2) (v := ?_) (a' := ?_) #[true, true, true, true, true, true, true, false] rfl rfl (by kernel_rfl) (fun _ _ _ h => h) (Or.inl ⟨by rfl, ?_⟩) ?_ ?_
      rotate_left
      · intro w'
        go_simp
        with_reducible rfl
      rotate_left
      · simp only [Act.put, List.setIfInBounds_toArray, List.set_cons_zero, List.set_cons_succ, i64_w, i32_w]
        rfl
      refine pure_ (i := 7) (N := some 3) (v := ?_) (a' := ?_) #[true, true, true, true, true, true, true, true] rfl rfl (by kernel_rfl) (fun _ _ _ h => h) (Or.inl ⟨by rfl, ?_⟩) ?_ ?_
      rotate_left
      · intro w'
        go_simp
        with_reducible rfl
      rotate_left
      · simp only [Act.put, List.setIfInBounds_toArray, List.set_cons_zero, List.set_cons_succ, i64_w, i32_w]
        rfl
      refine done_ (by kernel_rfl) ?_
      go_wp2
      first | go_ret | go_ret2
      exact ⟨by first | rfl | simp, below_step OB.out (below_drew B3.out)⟩
    have k4 : (k == 4) = false := beq_eq_false_iff_ne.2 hk
    have n4 := Aside0.mk hk
    clear hk
    by_cases hk : k = 6
    · subst hk
      have hXA := HXA.out
      have hXB := HXB.out
      obtain ⟨X1, hX1⟩ : ∃ X, X = ([113, 117, 101, 114, 121] : List UInt8) ++ XA := ⟨_, rfl⟩
      have LX1 := Aside0.mk (show X1.length ≤ 100 by have := LA.out; have := LB.out; have := LC.out; have := LD.out; have := LXA.out; have := LXB.out; rw [hX1, List.length_append]; (try simp only [List.length_cons, List.length_nil]); omega)
      have p0 : ∀ W : World, (Op.stringOp .add (⟨([113, 117, 101, 114, 121] : List UInt8).toArray⟩ : ByteArray) ⟨(XA : List UInt8).toArray⟩).run Tryd.prog W = .ok (.string ⟨X1.toArray⟩) W := by rw [hX1]; exact add_lit _ _ (by have := LA.out; have := LB.out; have := LC.out; have := LD.out; have := LXA.out; have := LXB.out; (try simp only [List.length_cons, List.length_nil]); omega)
      obtain ⟨X2, hX2⟩ : ∃ X, X = (X1 : List UInt8) ++ [10] := ⟨_, rfl⟩
      have LX2 := Aside0.mk (show X2.length ≤ 200 by have := LA.out; have := LB.out; have := LC.out; have := LD.out; have := LXA.out; have := LXB.out; have := LX1.out; rw [hX2, List.length_append]; (try simp only [List.length_cons, List.length_nil]); omega)
      have p1 : ∀ W : World, (Op.stringOp .add (⟨(X1 : List UInt8).toArray⟩ : ByteArray) ⟨([10] : List UInt8).toArray⟩).run Tryd.prog W = .ok (.string ⟨X2.toArray⟩) W := by rw [hX2]; exact add_lit _ _ (by have := LA.out; have := LB.out; have := LC.out; have := LD.out; have := LXA.out; have := LXB.out; have := LX1.out; (try simp only [List.length_cons, List.length_nil]); omega)
      obtain rfl : r = (X2, false) := HRS.out.symm.trans (by rw [hX2, hX1, hXA]; rw [← HAL.out]; rfl)
      clear HRS hXA hXB
      clear hX1
      clear hX2
      go_wp2
      first | go_ret | go_ret2
      exact ⟨by first | rfl | simp, below_step OB.out B3.out⟩
    have k6 : (k == 6) = false := beq_eq_false_iff_ne.2 hk
    have n6 := Aside0.mk hk
    clear hk
    by_cases hk : k = 5
    · subst hk
      clear k1 k2 k3 k4 k6 n1 n2 n3 n4 n6
      by_cases hc : (uc : Int) = 1
      · have c1 : ((uc : Int) == 1) = true := by rw [hc]; rfl
        have hXA := HXA.out
        have hXB := HXB.out
        obtain ⟨X1, hX1⟩ : ∃ X, X = ([97, 110, 115, 119, 101, 114] : List UInt8) ++ XA := ⟨_, rfl⟩
        have LX1 := Aside0.mk (show X1.length ≤ 100 by have := LA.out; have := LB.out; have := LC.out; have := LD.out; have := LXA.out; have := LXB.out; rw [hX1, List.length_append]; (try simp only [List.length_cons, List.length_nil]); omega)
        have p0 : ∀ W : World, (Op.stringOp .add (⟨([97, 110, 115, 119, 101, 114] : List UInt8).toArray⟩ : ByteArray) ⟨(XA : List UInt8).toArray⟩).run Tryd.prog W = .ok (.string ⟨X1.toArray⟩) W := by rw [hX1]; exact add_lit _ _ (by have := LA.out; have := LB.out; have := LC.out; have := LD.out; have := LXA.out; have := LXB.out; (try simp only [List.length_cons, List.length_nil]); omega)
        obtain ⟨X2, hX2⟩ : ∃ X, X = (X1 : List UInt8) ++ XB := ⟨_, rfl⟩
        have LX2 := Aside0.mk (show X2.length ≤ 200 by have := LA.out; have := LB.out; have := LC.out; have := LD.out; have := LXA.out; have := LXB.out; have := LX1.out; rw [hX2, List.length_append]; (try simp only [List.length_cons, List.length_nil]); omega)
        have p1 : ∀ W : World, (Op.stringOp .add (⟨(X1 : List UInt8).toArray⟩ : ByteArray) ⟨(XB : List UInt8).toArray⟩).run Tryd.prog W = .ok (.string ⟨X2.toArray⟩) W := by rw [hX2]; exact add_lit _ _ (by have := LA.out; have := LB.out; have := LC.out; have := LD.out; have := LXA.out; have := LXB.out; have := LX1.out; (try simp only [List.length_cons, List.length_nil]); omega)
        obtain ⟨X3, hX3⟩ : ∃ X, X = (X2 : List UInt8) ++ [32, 100, 105, 100, 10] := ⟨_, rfl⟩
        have LX3 := Aside0.mk (show X3.length ≤ 300 by have := LA.out; have := LB.out; have := LC.out; have := LD.out; have := LXA.out; have := LXB.out; have := LX2.out; rw [hX3, List.length_append]; (try simp only [List.length_cons, List.length_nil]); omega)
        have p2 : ∀ W : World, (Op.stringOp .add (⟨(X2 : List UInt8).toArray⟩ : ByteArray) ⟨([32, 100, 105, 100, 10] : List UInt8).toArray⟩).run Tryd.prog W = .ok (.string ⟨X3.toArray⟩) W := by rw [hX3]; exact add_lit _ _ (by have := LA.out; have := LB.out; have := LC.out; have := LD.out; have := LXA.out; have := LXB.out; have := LX2.out; (try simp only [List.length_cons, List.length_nil]); omega)
        obtain rfl : r = (X3, ((ud : Int) == 0)) := HRS.out.symm.trans (by rw [hX3, hX2, hX1, hXA, hXB]; simp [lineT, lineB, hc])
        clear HRS hXA hXB
        clear hX1
        clear hX2
        clear hX3
        go_upto_region 19 with (fail)
        refine start_ (n := 10) (S := fun w' => w'.cell? ⟨G, 4, none⟩ = some (.int .i64 (ud : Int))) (ds := []) #[false, false, false, false, false, false, false, false, false, false] (by kernel_rfl) rfl rfl (((blk_cell (blk_below OX.out (below_drew B3.out)) 4).trans rfl)) (fun hHeld => ?_)
        refine pure_ (i := 0) (N := some 108) (v := ?_) (a' := ?_) #[true, false, false, false, false, false, false, false, false, false] rfl rfl (by kernel_rfl) (fun _ _ _ h => h) (Or.inl ⟨by rfl, ?_⟩) ?_ ?_
        rotate_left
        · intro w'
          go_simp
          with_reducible rfl
        rotate_left
        · simp only [Act.put, List.setIfInBounds_toArray, List.set_cons_zero, List.set_cons_succ, i64_w, i32_w]
          rfl
        refine pure_ (i := 1) (N := some 109) (v := ?_) (a' := ?_) #[true, true, false, false, false, false, false, false, false, false] rfl rfl (by kernel_rfl) (fun _ _ _ h => h) (Or.inl ⟨by rfl, ?_⟩) ?_ ?_
        rotate_left
        · intro w'
          go_simp
          with_reducible rfl
        rotate_left
        · simp only [Act.put, List.setIfInBounds_toArray, List.set_cons_zero, List.set_cons_succ, i64_w, i32_w]
          rfl
        refine pure_ (i := 2) (N := some 110) (v := ?_) (a' := ?_) #[true, true, true, false, false, false, false, false, false, false] rfl rfl (by kernel_rfl) (fun _ _ _ h => h) (Or.inl ⟨by rfl, ?_⟩) ?_ ?_
        rotate_left
        · intro w'
          go_simp
          with_reducible rfl
        rotate_left
        · simp only [Act.put, List.setIfInBounds_toArray, List.set_cons_zero, List.set_cons_succ, i64_w, i32_w]
          rfl
        refine pure_ (i := 3) (N := some 111) (v := ?_) (a' := ?_) #[true, true, true, true, false, false, false, false, false, false] rfl rfl (by kernel_rfl) (fun _ _ _ h => h) (Or.inl ⟨by rfl, ?_⟩) ?_ ?_
        rotate_left
        · intro w'
          go_simp
          with_reducible rfl
        rotate_left
        · simp only [Act.put, List.setIfInBounds_toArray, List.set_cons_zero, List.set_cons_succ, i64_w, i32_w]
          rfl
        refine pure_ (i := 4) (N := some 112) (v := ?_) (a' := ?_) #[true, true, true, true, true, false, false, false, false, false] rfl rfl (by kernel_rfl) (fun _ _ _ h => h) (Or.inl ⟨by rfl, ?_⟩) ?_ ?_
        rotate_left
        · intro w'
          go_simp
          with_reducible rfl
        rotate_left
        · simp only [Act.put, List.setIfInBounds_toArray, List.set_cons_zero, List.set_cons_succ, i64_w, i32_w]
          rfl
        refine pure_ (i := 5) (N := some 113) (v := ?_) (a' := ?_) #[true, true, true, true, true, true, false, false, false, false] rfl rfl (by kernel_rfl) (fun _ _ _ h => h) (Or.inl ⟨by rfl, ?_⟩) ?_ ?_
        rotate_left
        · intro w'
          go_simp
          with_reducible rfl
        rotate_left
        · simp only [Act.put, List.setIfInBounds_toArray, List.set_cons_zero, List.set_cons_succ, i64_w, i32_w]
          rfl
        refine pure_ (i := 8) (N := some 2) (v := ?_) (a' := ?_) #[true, true, true, true, true, true, false, false, true, false] rfl rfl (by kernel_rfl) (fun _ _ _ h => h) (Or.inl ⟨by rfl, ?_⟩) ?_ ?_
        rotate_left
        · intro w'
          go_simp
          with_reducible rfl
        rotate_left
        · simp only [Act.put, List.setIfInBounds_toArray, List.set_cons_zero, List.set_cons_succ, i64_w, i32_w]
          rfl
        refine take_ (i := 6) (N := some 114) (v := ?_) (a' := ?_) #[true, true, true, true, true, true, true, false, true, false] rfl rfl (by kernel_rfl) (fun _ _ _ h => h) (Or.inl ⟨by rfl, ?_⟩) hHeld ?_ ?_
        rotate_left
        · intro w' s0
          go_simp
          with_reducible rfl
        rotate_left
        · simp only [Act.put, List.setIfInBounds_toArray, List.set_cons_zero, List.set_cons_succ, i64_w, i32_w]
          rfl
        refine pure_ (i := 7) (N := some 115) (v := ?_) (a' := ?_) #[true, true, true, true, true, true, true, true, true, false] rfl rfl (by kernel_rfl) (fun _ _ _ h => h) (Or.inl ⟨by rfl, ?_⟩) ?_ ?_
        rotate_left
        · intro w'
          go_simp
          with_reducible rfl
        rotate_left
        · simp only [Act.put, List.setIfInBounds_toArray, List.set_cons_zero, List.set_cons_succ, i64_w, i32_w]
          rfl
        refine pure_ (i := 9) (N := some 3) (v := ?_) (a' := ?_) #[true, true, true, true, true, true, true, true, true, true] rfl rfl (by kernel_rfl) (fun _ _ _ h => h) (Or.inl ⟨by rfl, ?_⟩) ?_ ?_
        rotate_left
        · intro w'
          go_simp
          with_reducible rfl
        rotate_left
        · simp only [Act.put, List.setIfInBounds_toArray, List.set_cons_zero, List.set_cons_succ, i64_w, i32_w]
          rfl
        refine done_ (by kernel_rfl) ?_
        go_wp2
        first | go_ret | go_ret2
        exact ⟨by first | rfl | simp, below_step OB.out (below_drew B3.out)⟩
      have c1 : ((uc : Int) == 1) = false := beq_eq_false_iff_ne.2 hc
      by_cases hc2 : (uc : Int) = 2
      · have c2 : ((uc : Int) == 2) = true := by rw [hc2]; rfl
        have hXA := HXA.out
        have hXB := HXB.out
        obtain ⟨X1, hX1⟩ : ∃ X, X = ([97, 110, 115, 119, 101, 114] : List UInt8) ++ XA := ⟨_, rfl⟩
        have LX1 := Aside0.mk (show X1.length ≤ 100 by have := LA.out; have := LB.out; have := LC.out; have := LD.out; have := LXA.out; have := LXB.out; rw [hX1, List.length_append]; (try simp only [List.length_cons, List.length_nil]); omega)
        have p0 : ∀ W : World, (Op.stringOp .add (⟨([97, 110, 115, 119, 101, 114] : List UInt8).toArray⟩ : ByteArray) ⟨(XA : List UInt8).toArray⟩).run Tryd.prog W = .ok (.string ⟨X1.toArray⟩) W := by rw [hX1]; exact add_lit _ _ (by have := LA.out; have := LB.out; have := LC.out; have := LD.out; have := LXA.out; have := LXB.out; (try simp only [List.length_cons, List.length_nil]); omega)
        obtain ⟨X2, hX2⟩ : ∃ X, X = (X1 : List UInt8) ++ XB := ⟨_, rfl⟩
        have LX2 := Aside0.mk (show X2.length ≤ 200 by have := LA.out; have := LB.out; have := LC.out; have := LD.out; have := LXA.out; have := LXB.out; have := LX1.out; rw [hX2, List.length_append]; (try simp only [List.length_cons, List.length_nil]); omega)
        have p1 : ∀ W : World, (Op.stringOp .add (⟨(X1 : List UInt8).toArray⟩ : ByteArray) ⟨(XB : List UInt8).toArray⟩).run Tryd.prog W = .ok (.string ⟨X2.toArray⟩) W := by rw [hX2]; exact add_lit _ _ (by have := LA.out; have := LB.out; have := LC.out; have := LD.out; have := LXA.out; have := LXB.out; have := LX1.out; (try simp only [List.length_cons, List.length_nil]); omega)
        obtain ⟨X3, hX3⟩ : ∃ X, X = (X2 : List UInt8) ++ [32, 102, 97, 105, 108, 10] := ⟨_, rfl⟩
        have LX3 := Aside0.mk (show X3.length ≤ 300 by have := LA.out; have := LB.out; have := LC.out; have := LD.out; have := LXA.out; have := LXB.out; have := LX2.out; rw [hX3, List.length_append]; (try simp only [List.length_cons, List.length_nil]); omega)
        have p2 : ∀ W : World, (Op.stringOp .add (⟨(X2 : List UInt8).toArray⟩ : ByteArray) ⟨([32, 102, 97, 105, 108, 10] : List UInt8).toArray⟩).run Tryd.prog W = .ok (.string ⟨X3.toArray⟩) W := by rw [hX3]; exact add_lit _ _ (by have := LA.out; have := LB.out; have := LC.out; have := LD.out; have := LXA.out; have := LXB.out; have := LX2.out; (try simp only [List.length_cons, List.length_nil]); omega)
        obtain rfl : r = (X3, ((ud : Int) == 0)) := HRS.out.symm.trans (by rw [hX3, hX2, hX1, hXA, hXB]; simp [lineT, lineB, hc2])
        clear HRS hXA hXB
        clear hX1
        clear hX2
        clear hX3
        go_upto_region 21 with (fail)
        refine start_ (n := 10) (S := fun w' => w'.cell? ⟨G, 4, none⟩ = some (.int .i64 (ud : Int))) (ds := []) #[false, false, false, false, false, false, false, false, false, false] (by kernel_rfl) rfl rfl (((blk_cell (blk_below OX.out (below_drew B3.out)) 4).trans rfl)) (fun hHeld => ?_)
        refine pure_ (i := 0) (N := some 119) (v := ?_) (a' := ?_) #[true, false, false, false, false, false, false, false, false, false] rfl rfl (by kernel_rfl) (fun _ _ _ h => h) (Or.inl ⟨by rfl, ?_⟩) ?_ ?_
        rotate_left
        · intro w'
          go_simp
          with_reducible rfl
        rotate_left
        · simp only [Act.put, List.setIfInBounds_toArray, List.set_cons_zero, List.set_cons_succ, i64_w, i32_w]
          rfl
        refine pure_ (i := 1) (N := some 120) (v := ?_) (a' := ?_) #[true, true, false, false, false, false, false, false, false, false] rfl rfl (by kernel_rfl) (fun _ _ _ h => h) (Or.inl ⟨by rfl, ?_⟩) ?_ ?_
        rotate_left
        · intro w'
          go_simp
          with_reducible rfl
        rotate_left
        · simp only [Act.put, List.setIfInBounds_toArray, List.set_cons_zero, List.set_cons_succ, i64_w, i32_w]
          rfl
        refine pure_ (i := 2) (N := some 121) (v := ?_) (a' := ?_) #[true, true, true, false, false, false, false, false, false, false] rfl rfl (by kernel_rfl) (fun _ _ _ h => h) (Or.inl ⟨by rfl, ?_⟩) ?_ ?_
        rotate_left
        · intro w'
          go_simp
          with_reducible rfl
        rotate_left
        · simp only [Act.put, List.setIfInBounds_toArray, List.set_cons_zero, List.set_cons_succ, i64_w, i32_w]
          rfl
        refine pure_ (i := 3) (N := some 122) (v := ?_) (a' := ?_) #[true, true, true, true, false, false, false, false, false, false] rfl rfl (by kernel_rfl) (fun _ _ _ h => h) (Or.inl ⟨by rfl, ?_⟩) ?_ ?_
        rotate_left
        · intro w'
          go_simp
          with_reducible rfl
        rotate_left
        · simp only [Act.put, List.setIfInBounds_toArray, List.set_cons_zero, List.set_cons_succ, i64_w, i32_w]
          rfl
        refine pure_ (i := 4) (N := some 123) (v := ?_) (a' := ?_) #[true, true, true, true, true, false, false, false, false, false] rfl rfl (by kernel_rfl) (fun _ _ _ h => h) (Or.inl ⟨by rfl, ?_⟩) ?_ ?_
        rotate_left
        · intro w'
          go_simp
          with_reducible rfl
        rotate_left
        · simp only [Act.put, List.setIfInBounds_toArray, List.set_cons_zero, List.set_cons_succ, i64_w, i32_w]
          rfl
        refine pure_ (i := 5) (N := some 124) (v := ?_) (a' := ?_) #[true, true, true, true, true, true, false, false, false, false] rfl rfl (by kernel_rfl) (fun _ _ _ h => h) (Or.inl ⟨by rfl, ?_⟩) ?_ ?_
        rotate_left
        · intro w'
          go_simp
          with_reducible rfl
        rotate_left
        · simp only [Act.put, List.setIfInBounds_toArray, List.set_cons_zero, List.set_cons_succ, i64_w, i32_w]
          rfl
        refine pure_ (i := 8) (N := some 2) (v := ?_) (a' := ?_) #[true, true, true, true, true, true, false, false, true, false] rfl rfl (by kernel_rfl) (fun _ _ _ h => h) (Or.inl ⟨by rfl, ?_⟩) ?_ ?_
        rotate_left
        · intro w'
          go_simp
          with_reducible rfl
        rotate_left
        · simp only [Act.put, List.setIfInBounds_toArray, List.set_cons_zero, List.set_cons_succ, i64_w, i32_w]
          rfl
        refine take_ (i := 6) (N := some 125) (v := ?_) (a' := ?_) #[true, true, true, true, true, true, true, false, true, false] rfl rfl (by kernel_rfl) (fun _ _ _ h => h) (Or.inl ⟨by rfl, ?_⟩) hHeld ?_ ?_
        rotate_left
        · intro w' s0
          go_simp
          with_reducible rfl
        rotate_left
        · simp only [Act.put, List.setIfInBounds_toArray, List.set_cons_zero, List.set_cons_succ, i64_w, i32_w]
          rfl
        refine pure_ (i := 7) (N := some 126) (v := ?_) (a' := ?_) #[true, true, true, true, true, true, true, true, true, false] rfl rfl (by kernel_rfl) (fun _ _ _ h => h) (Or.inl ⟨by rfl, ?_⟩) ?_ ?_
        rotate_left
        · intro w'
          go_simp
          with_reducible rfl
        rotate_left
        · simp only [Act.put, List.setIfInBounds_toArray, List.set_cons_zero, List.set_cons_succ, i64_w, i32_w]
          rfl
        refine pure_ (i := 9) (N := some 3) (v := ?_) (a' := ?_) #[true, true, true, true, true, true, true, true, true, true] rfl rfl (by kernel_rfl) (fun _ _ _ h => h) (Or.inl ⟨by rfl, ?_⟩) ?_ ?_
        rotate_left
        · intro w'
          go_simp
          with_reducible rfl
        rotate_left
        · simp only [Act.put, List.setIfInBounds_toArray, List.set_cons_zero, List.set_cons_succ, i64_w, i32_w]
          rfl
        refine done_ (by kernel_rfl) ?_
        go_wp2
        first | go_ret | go_ret2
        exact ⟨by first | rfl | simp, below_step OB.out (below_drew B3.out)⟩
      have c2 : ((uc : Int) == 2) = false := beq_eq_false_iff_ne.2 hc2
      have hXA := HXA.out
      have hXB := HXB.out
      obtain ⟨X1, hX1⟩ : ∃ X, X = ([97, 110, 115, 119, 101, 114] : List UInt8) ++ XA := ⟨_, rfl⟩
      have LX1 := Aside0.mk (show X1.length ≤ 100 by have := LA.out; have := LB.out; have := LC.out; have := LD.out; have := LXA.out; have := LXB.out; rw [hX1, List.length_append]; (try simp only [List.length_cons, List.length_nil]); omega)
      have p0 : ∀ W : World, (Op.stringOp .add (⟨([97, 110, 115, 119, 101, 114] : List UInt8).toArray⟩ : ByteArray) ⟨(XA : List UInt8).toArray⟩).run Tryd.prog W = .ok (.string ⟨X1.toArray⟩) W := by rw [hX1]; exact add_lit _ _ (by have := LA.out; have := LB.out; have := LC.out; have := LD.out; have := LXA.out; have := LXB.out; (try simp only [List.length_cons, List.length_nil]); omega)
      obtain ⟨X2, hX2⟩ : ∃ X, X = (X1 : List UInt8) ++ XB := ⟨_, rfl⟩
      have LX2 := Aside0.mk (show X2.length ≤ 200 by have := LA.out; have := LB.out; have := LC.out; have := LD.out; have := LXA.out; have := LXB.out; have := LX1.out; rw [hX2, List.length_append]; (try simp only [List.length_cons, List.length_nil]); omega)
      have p1 : ∀ W : World, (Op.stringOp .add (⟨(X1 : List UInt8).toArray⟩ : ByteArray) ⟨(XB : List UInt8).toArray⟩).run Tryd.prog W = .ok (.string ⟨X2.toArray⟩) W := by rw [hX2]; exact add_lit _ _ (by have := LA.out; have := LB.out; have := LC.out; have := LD.out; have := LXA.out; have := LXB.out; have := LX1.out; (try simp only [List.length_cons, List.length_nil]); omega)
      obtain ⟨X3, hX3⟩ : ∃ X, X = (X2 : List UInt8) ++ [32, 110, 101, 101, 100, 32] := ⟨_, rfl⟩
      have LX3 := Aside0.mk (show X3.length ≤ 300 by have := LA.out; have := LB.out; have := LC.out; have := LD.out; have := LXA.out; have := LXB.out; have := LX2.out; rw [hX3, List.length_append]; (try simp only [List.length_cons, List.length_nil]); omega)
      have p2 : ∀ W : World, (Op.stringOp .add (⟨(X2 : List UInt8).toArray⟩ : ByteArray) ⟨([32, 110, 101, 101, 100, 32] : List UInt8).toArray⟩).run Tryd.prog W = .ok (.string ⟨X3.toArray⟩) W := by rw [hX3]; exact add_lit _ _ (by have := LA.out; have := LB.out; have := LC.out; have := LD.out; have := LXA.out; have := LXB.out; have := LX2.out; (try simp only [List.length_cons, List.length_nil]); omega)
      obtain ⟨X4, hX4⟩ : ∃ X, X = (X3 : List UInt8) ++ dd := ⟨_, rfl⟩
      have LX4 := Aside0.mk (show X4.length ≤ 400 by have := LA.out; have := LB.out; have := LC.out; have := LD.out; have := LXA.out; have := LXB.out; have := LX3.out; rw [hX4, List.length_append]; (try simp only [List.length_cons, List.length_nil]); omega)
      have p3 : ∀ W : World, (Op.stringOp .add (⟨(X3 : List UInt8).toArray⟩ : ByteArray) ⟨(dd : List UInt8).toArray⟩).run Tryd.prog W = .ok (.string ⟨X4.toArray⟩) W := by rw [hX4]; exact add_lit _ _ (by have := LA.out; have := LB.out; have := LC.out; have := LD.out; have := LXA.out; have := LXB.out; have := LX3.out; (try simp only [List.length_cons, List.length_nil]); omega)
      obtain ⟨X5, hX5⟩ : ∃ X, X = (X4 : List UInt8) ++ [10] := ⟨_, rfl⟩
      have LX5 := Aside0.mk (show X5.length ≤ 500 by have := LA.out; have := LB.out; have := LC.out; have := LD.out; have := LXA.out; have := LXB.out; have := LX4.out; rw [hX5, List.length_append]; (try simp only [List.length_cons, List.length_nil]); omega)
      have p4 : ∀ W : World, (Op.stringOp .add (⟨(X4 : List UInt8).toArray⟩ : ByteArray) ⟨([10] : List UInt8).toArray⟩).run Tryd.prog W = .ok (.string ⟨X5.toArray⟩) W := by rw [hX5]; exact add_lit _ _ (by have := LA.out; have := LB.out; have := LC.out; have := LD.out; have := LXA.out; have := LXB.out; have := LX4.out; (try simp only [List.length_cons, List.length_nil]); omega)
      obtain rfl : r = (X5, ((uc : Int) == 3)) := HRS.out.symm.trans (by rw [hX5, hX4, hX3, hX2, hX1, hXA, hXB]; simp [lineT, lineB, hc, hc2])
      clear HRS hXA hXB
      clear hX1
      clear hX2
      clear hX3
      clear hX4
      clear hX5
      go_upto_region 22 with (fail)
      refine start_ (n := 15) (S := fun w' => w'.cell? ⟨G, 3, none⟩ = some (.int .i64 (uc : Int)) ∧ w'.cell? ⟨G, 4, none⟩ = some (.int .i64 (ud : Int))) (ds := []) #[false, false, false, false, false, false, false, false, false, false, false, false, false, false, false] (by kernel_rfl) rfl rfl ⟨((blk_cell (blk_below OX.out (below_drew B3.out)) 3).trans rfl), ((blk_cell (blk_below OX.out (below_drew B3.out)) 4).trans rfl)⟩ (fun hHeld => ?_)
      refine pure_ (i := 0) (N := some 127) (v := ?_) (a' := ?_) #[true, false, false, false, false, false, false, false, false, false, false, false, false, false, false] rfl rfl (by kernel_rfl) (fun _ _ _ h => h) (Or.inl ⟨by rfl, ?_⟩) ?_ ?_
      rotate_left
      · intro w'
        go_simp
        with_reducible rfl
      rotate_left
      · simp only [Act.put, List.setIfInBounds_toArray, List.set_cons_zero, List.set_cons_succ, i64_w, i32_w]
        rfl
      refine pure_ (i := 1) (N := some 128) (v := ?_) (a' := ?_) #[true, true, false, false, false, false, false, false, false, false, false, false, false, false, false] rfl rfl (by kernel_rfl) (fun _ _ _ h => h) (Or.inl ⟨by rfl, ?_⟩) ?_ ?_
      rotate_left
      · intro w'
        go_simp
        with_reducible rfl
      rotate_left
      · simp only [Act.put, List.setIfInBounds_toArray, List.set_cons_zero, List.set_cons_succ, i64_w, i32_w]
        rfl
      refine pure_ (i := 2) (N := some 129) (v := ?_) (a' := ?_) #[true, true, true, false, false, false, false, false, false, false, false, false, false, false, false] rfl rfl (by kernel_rfl) (fun _ _ _ h => h) (Or.inl ⟨by rfl, ?_⟩) ?_ ?_
      rotate_left
      · intro w'
        go_simp
        with_reducible rfl
      rotate_left
      · simp only [Act.put, List.setIfInBounds_toArray, List.set_cons_zero, List.set_cons_succ, i64_w, i32_w]
        rfl
      refine pure_ (i := 3) (N := some 130) (v := ?_) (a' := ?_) #[true, true, true, true, false, false, false, false, false, false, false, false, false, false, false] rfl rfl (by kernel_rfl) (fun _ _ _ h => h) (Or.inl ⟨by rfl, ?_⟩) ?_ ?_
      rotate_left
      · intro w'
        go_simp
        with_reducible rfl
      rotate_left
      · simp only [Act.put, List.setIfInBounds_toArray, List.set_cons_zero, List.set_cons_succ, i64_w, i32_w]
        rfl
      refine pure_ (i := 4) (N := some 131) (v := ?_) (a' := ?_) #[true, true, true, true, true, false, false, false, false, false, false, false, false, false, false] rfl rfl (by kernel_rfl) (fun _ _ _ h => h) (Or.inl ⟨by rfl, ?_⟩) ?_ ?_
      rotate_left
      · intro w'
        go_simp
        with_reducible rfl
      rotate_left
      · simp only [Act.put, List.setIfInBounds_toArray, List.set_cons_zero, List.set_cons_succ, i64_w, i32_w]
        rfl
      refine pure_ (i := 5) (N := some 132) (v := ?_) (a' := ?_) #[true, true, true, true, true, true, false, false, false, false, false, false, false, false, false] rfl rfl (by kernel_rfl) (fun _ _ _ h => h) (Or.inl ⟨by rfl, ?_⟩) ?_ ?_
      rotate_left
      · intro w'
        go_simp
        with_reducible rfl
      rotate_left
      · simp only [Act.put, List.setIfInBounds_toArray, List.set_cons_zero, List.set_cons_succ, i64_w, i32_w]
        rfl
      refine pure_ (i := 10) (N := some 137) (v := ?_) (a' := ?_) #[true, true, true, true, true, true, false, false, false, false, true, false, false, false, false] rfl rfl (by kernel_rfl) (fun _ _ _ h => h) (Or.inl ⟨by rfl, ?_⟩) ?_ ?_
      rotate_left
      · intro w'
        go_simp
        with_reducible rfl
      rotate_left
      · simp only [Act.put, List.setIfInBounds_toArray, List.set_cons_zero, List.set_cons_succ, i64_w, i32_w]
        rfl
      refine take_ (i := 6) (N := some 133) (v := ?_) (a' := ?_) #[true, true, true, true, true, true, true, false, false, false, true, false, false, false, false] rfl rfl (by kernel_rfl) (fun _ _ _ h => h) (Or.inl ⟨by rfl, ?_⟩) hHeld ?_ ?_
      rotate_left
      · rintro w' ⟨s0, s1⟩
        go_simp
        with_reducible rfl
      rotate_left
      · simp only [Act.put, List.setIfInBounds_toArray, List.set_cons_zero, List.set_cons_succ, i64_w, i32_w]
        rfl
      refine take_ (i := 11) (N := some 138) (v := ?_) (a' := ?_) #[true, true, true, true, true, true, true, false, false, false, true, true, false, false, false] rfl rfl (by kernel_rfl) (fun _ _ _ h => h) (Or.inl ⟨by rfl, ?_⟩) hHeld ?_ ?_
      rotate_left
      · rintro w' ⟨s0, s1⟩
        go_simp
        with_reducible rfl
      rotate_left
      · simp only [Act.put, List.setIfInBounds_toArray, List.set_cons_zero, List.set_cons_succ, i64_w, i32_w]
        rfl
      refine pure_ (i := 12) (N := some 139) (v := ?_) (a' := ?_) #[true, true, true, true, true, true, true, false, false, false, true, true, true, false, false] rfl rfl (by kernel_rfl) (fun _ _ _ h => h) (Or.inl ⟨by rfl, ?_⟩) ?_ ?_
      rotate_left
      · intro w'
        go_simp
        with_reducible rfl
      rotate_left
      · simp only [Act.put, List.setIfInBounds_toArray, List.set_cons_zero, List.set_cons_succ, i64_w, i32_w]
        rfl
      refine one_ (i := 7) (N := some 134) #[true, true, true, true, true, true, true, true, false, false, true, true, true, false, false] rfl rfl (by kernel_rfl) (by decide) (fun K hK => ?_)
      refine goes_ Tryd.func17 (by kernel_rfl) rfl #[.int .i64 (ud : Int)] (by rfl) rfl rfl (by simp only [List.map_toArray, List.map_cons, List.map_nil]; rfl) ?_
      refine (text_d ud dd DD.out (by have := HR.out; omega) _).mono ?_
      rintro e' w4 ⟨rfl, hb⟩
      refine ⟨_, rfl, ?_⟩
      have B4 := Aside0.mk (below_step (below_drew B3.out) hb)
      clear hb
      refine hK.out _ _ ⟨((blk_cell (blk_below OX.out B4.out) 3).trans rfl), ((blk_cell (blk_below OX.out B4.out) 4).trans rfl)⟩ (fun hHeld => ?_)
      clear hK K
      refine norm_ (a' := ?_) ?_ ?_
      rotate_left
      · show Act.put _ (some 134) _ = _
        simp only [Act.put, List.setIfInBounds_toArray, List.set_cons_zero, List.set_cons_succ, i64_w, i32_w]
        rfl
      refine pure_ (i := 8) (N := some 135) (v := ?_) (a' := ?_) #[true, true, true, true, true, true, true, true, true, false, true, true, true, false, false] rfl rfl (by kernel_rfl) (fun _ _ _ h => h) (Or.inl ⟨by rfl, ?_⟩) ?_ ?_
      rotate_left
      · intro w'
        go_simp
        with_reducible rfl
      rotate_left
      · simp only [Act.put, List.setIfInBounds_toArray, List.set_cons_zero, List.set_cons_succ, i64_w, i32_w]
        rfl
      refine pure_ (i := 9) (N := some 136) (v := ?_) (a' := ?_) #[true, true, true, true, true, true, true, true, true, true, true, true, true, false, false] rfl rfl (by kernel_rfl) (fun _ _ _ h => h) (Or.inl ⟨by rfl, ?_⟩) ?_ ?_
      rotate_left
      · intro w'
        go_simp
        with_reducible rfl
      rotate_left
      · simp only [Act.put, List.setIfInBounds_toArray, List.set_cons_zero, List.set_cons_succ, i64_w, i32_w]
        rfl
      refine pure_ (i := 13) (N := some 2) (v := ?_) (a' := ?_) #[true, true, true, true, true, true, true, true, true, true, true, true, true, true, false] rfl rfl (by kernel_rfl) (fun _ _ _ h => h) (Or.inl ⟨by rfl, ?_⟩) ?_ ?_
      rotate_left
      · intro w'
        go_simp
        with_reducible rfl
      rotate_left
      · simp only [Act.put, List.setIfInBounds_toArray, List.set_cons_zero, List.set_cons_succ, i64_w, i32_w]
        rfl
      refine pure_ (i := 14) (N := some 3) (v := ?_) (a' := ?_) #[true, true, true, true, true, true, true, true, true, true, true, true, true, true, true] rfl rfl (by kernel_rfl) (fun _ _ _ h => h) (Or.inl ⟨by rfl, ?_⟩) ?_ ?_
      rotate_left
      · intro w'
        go_simp
        with_reducible rfl
      rotate_left
      · simp only [Act.put, List.setIfInBounds_toArray, List.set_cons_zero, List.set_cons_succ, i64_w, i32_w]
        rfl
      refine done_ (by kernel_rfl) ?_
      go_wp2
      first | go_ret | go_ret2
      exact ⟨by first | rfl | simp, below_step OB.out B4.out⟩
    have k5 : (k == 5) = false := beq_eq_false_iff_ne.2 hk
    have hXA := HXA.out
    have hXB := HXB.out
    obtain rfl : r = (([] : List UInt8), false) := HRS.out.symm.trans (by simp [lineT, lineB, hk, n1.out, n2.out, n3.out, n4.out, n6.out])
    clear HRS hXA hXB
    go_wp2
    first | go_ret | go_ret2
    exact ⟨by first | rfl | simp, below_step OB.out B3.out⟩
  by_cases hc0 : (uc : Int) = 0
  rotate_left
  · have zb : ((ub : Int) == 0) = true := by rw [hb0]; rfl
    have zc : ((uc : Int) == 0) = false := beq_eq_false_iff_ne.2 hc0
    have HAL := Aside0.mk (show ((ub : Int) == 0 && ((uc : Int) == 0 && (ud : Int) == 0)) = false by simp [zb, zc])
    clear hb0 hc0
    go_upto_region 7 with (fail)
    clear zb zc
    by_cases hk : k = 1
    · subst hk
      have hXA := HXA.out
      have hXB := HXB.out
      obtain ⟨X1, hX1⟩ : ∃ X, X = ([115, 117, 98, 109, 105, 116] : List UInt8) ++ XA := ⟨_, rfl⟩
      have LX1 := Aside0.mk (show X1.length ≤ 100 by have := LA.out; have := LB.out; have := LC.out; have := LD.out; have := LXA.out; have := LXB.out; rw [hX1, List.length_append]; (try simp only [List.length_cons, List.length_nil]); omega)
      have p0 : ∀ W : World, (Op.stringOp .add (⟨([115, 117, 98, 109, 105, 116] : List UInt8).toArray⟩ : ByteArray) ⟨(XA : List UInt8).toArray⟩).run Tryd.prog W = .ok (.string ⟨X1.toArray⟩) W := by rw [hX1]; exact add_lit _ _ (by have := LA.out; have := LB.out; have := LC.out; have := LD.out; have := LXA.out; have := LXB.out; (try simp only [List.length_cons, List.length_nil]); omega)
      obtain ⟨X2, hX2⟩ : ∃ X, X = (X1 : List UInt8) ++ XB := ⟨_, rfl⟩
      have LX2 := Aside0.mk (show X2.length ≤ 200 by have := LA.out; have := LB.out; have := LC.out; have := LD.out; have := LXA.out; have := LXB.out; have := LX1.out; rw [hX2, List.length_append]; (try simp only [List.length_cons, List.length_nil]); omega)
      have p1 : ∀ W : World, (Op.stringOp .add (⟨(X1 : List UInt8).toArray⟩ : ByteArray) ⟨(XB : List UInt8).toArray⟩).run Tryd.prog W = .ok (.string ⟨X2.toArray⟩) W := by rw [hX2]; exact add_lit _ _ (by have := LA.out; have := LB.out; have := LC.out; have := LD.out; have := LXA.out; have := LXB.out; have := LX1.out; (try simp only [List.length_cons, List.length_nil]); omega)
      obtain ⟨X3, hX3⟩ : ∃ X, X = (X2 : List UInt8) ++ [32] := ⟨_, rfl⟩
      have LX3 := Aside0.mk (show X3.length ≤ 300 by have := LA.out; have := LB.out; have := LC.out; have := LD.out; have := LXA.out; have := LXB.out; have := LX2.out; rw [hX3, List.length_append]; (try simp only [List.length_cons, List.length_nil]); omega)
      have p2 : ∀ W : World, (Op.stringOp .add (⟨(X2 : List UInt8).toArray⟩ : ByteArray) ⟨([32] : List UInt8).toArray⟩).run Tryd.prog W = .ok (.string ⟨X3.toArray⟩) W := by rw [hX3]; exact add_lit _ _ (by have := LA.out; have := LB.out; have := LC.out; have := LD.out; have := LXA.out; have := LXB.out; have := LX2.out; (try simp only [List.length_cons, List.length_nil]); omega)
      obtain ⟨X4, hX4⟩ : ∃ X, X = (X3 : List UInt8) ++ dc := ⟨_, rfl⟩
      have LX4 := Aside0.mk (show X4.length ≤ 400 by have := LA.out; have := LB.out; have := LC.out; have := LD.out; have := LXA.out; have := LXB.out; have := LX3.out; rw [hX4, List.length_append]; (try simp only [List.length_cons, List.length_nil]); omega)
      have p3 : ∀ W : World, (Op.stringOp .add (⟨(X3 : List UInt8).toArray⟩ : ByteArray) ⟨(dc : List UInt8).toArray⟩).run Tryd.prog W = .ok (.string ⟨X4.toArray⟩) W := by rw [hX4]; exact add_lit _ _ (by have := LA.out; have := LB.out; have := LC.out; have := LD.out; have := LXA.out; have := LXB.out; have := LX3.out; (try simp only [List.length_cons, List.length_nil]); omega)
      obtain ⟨X5, hX5⟩ : ∃ X, X = (X4 : List UInt8) ++ [10] := ⟨_, rfl⟩
      have LX5 := Aside0.mk (show X5.length ≤ 500 by have := LA.out; have := LB.out; have := LC.out; have := LD.out; have := LXA.out; have := LXB.out; have := LX4.out; rw [hX5, List.length_append]; (try simp only [List.length_cons, List.length_nil]); omega)
      have p4 : ∀ W : World, (Op.stringOp .add (⟨(X4 : List UInt8).toArray⟩ : ByteArray) ⟨([10] : List UInt8).toArray⟩).run Tryd.prog W = .ok (.string ⟨X5.toArray⟩) W := by rw [hX5]; exact add_lit _ _ (by have := LA.out; have := LB.out; have := LC.out; have := LD.out; have := LXA.out; have := LXB.out; have := LX4.out; (try simp only [List.length_cons, List.length_nil]); omega)
      obtain rfl : r = (X5, ((ud : Int) == 0)) := HRS.out.symm.trans (by rw [hX5, hX4, hX3, hX2, hX1, hXA, hXB]; rfl)
      clear HRS hXA hXB
      clear hX1
      clear hX2
      clear hX3
      clear hX4
      clear hX5
      go_upto_region 8 with (fail)
      refine start_ (n := 15) (S := fun w' => w'.cell? ⟨G, 3, none⟩ = some (.int .i64 (uc : Int)) ∧ w'.cell? ⟨G, 4, none⟩ = some (.int .i64 (ud : Int))) (ds := []) #[false, false, false, false, false, false, false, false, false, false, false, false, false, false, false] (by kernel_rfl) rfl rfl ⟨((blk_cell (blk_below OX.out (below_drew B3.out)) 3).trans rfl), ((blk_cell (blk_below OX.out (below_drew B3.out)) 4).trans rfl)⟩ (fun hHeld => ?_)
      refine pure_ (i := 0) (N := some 62) (v := ?_) (a' := ?_) #[true, false, false, false, false, false, false, false, false, false, false, false, false, false, false] rfl rfl (by kernel_rfl) (fun _ _ _ h => h) (Or.inl ⟨by rfl, ?_⟩) ?_ ?_
      rotate_left
      · intro w'
        go_simp
        with_reducible rfl
      rotate_left
      · simp only [Act.put, List.setIfInBounds_toArray, List.set_cons_zero, List.set_cons_succ, i64_w, i32_w]
        rfl
      refine pure_ (i := 1) (N := some 63) (v := ?_) (a' := ?_) #[true, true, false, false, false, false, false, false, false, false, false, false, false, false, false] rfl rfl (by kernel_rfl) (fun _ _ _ h => h) (Or.inl ⟨by rfl, ?_⟩) ?_ ?_
      rotate_left
      · intro w'
        go_simp
        with_reducible rfl
      rotate_left
      · simp only [Act.put, List.setIfInBounds_toArray, List.set_cons_zero, List.set_cons_succ, i64_w, i32_w]
        rfl
      refine pure_ (i := 2) (N := some 64) (v := ?_) (a' := ?_) #[true, true, true, false, false, false, false, false, false, false, false, false, false, false, false] rfl rfl (by kernel_rfl) (fun _ _ _ h => h) (Or.inl ⟨by rfl, ?_⟩) ?_ ?_
      rotate_left
      · intro w'
        go_simp
        with_reducible rfl
      rotate_left
      · simp only [Act.put, List.setIfInBounds_toArray, List.set_cons_zero, List.set_cons_succ, i64_w, i32_w]
        rfl
      refine pure_ (i := 3) (N := some 65) (v := ?_) (a' := ?_) #[true, true, true, true, false, false, false, false, false, false, false, false, false, false, false] rfl rfl (by kernel_rfl) (fun _ _ _ h => h) (Or.inl ⟨by rfl, ?_⟩) ?_ ?_
      rotate_left
      · intro w'
        go_simp
        with_reducible rfl
      rotate_left
      · simp only [Act.put, List.setIfInBounds_toArray, List.set_cons_zero, List.set_cons_succ, i64_w, i32_w]
        rfl
      refine pure_ (i := 4) (N := some 66) (v := ?_) (a' := ?_) #[true, true, true, true, true, false, false, false, false, false, false, false, false, false, false] rfl rfl (by kernel_rfl) (fun _ _ _ h => h) (Or.inl ⟨by rfl, ?_⟩) ?_ ?_
      rotate_left
      · intro w'
        go_simp
        with_reducible rfl
      rotate_left
      · simp only [Act.put, List.setIfInBounds_toArray, List.set_cons_zero, List.set_cons_succ, i64_w, i32_w]
        rfl
      refine pure_ (i := 5) (N := some 67) (v := ?_) (a' := ?_) #[true, true, true, true, true, true, false, false, false, false, false, false, false, false, false] rfl rfl (by kernel_rfl) (fun _ _ _ h => h) (Or.inl ⟨by rfl, ?_⟩) ?_ ?_
      rotate_left
      · intro w'
        go_simp
        with_reducible rfl
      rotate_left
      · simp only [Act.put, List.setIfInBounds_toArray, List.set_cons_zero, List.set_cons_succ, i64_w, i32_w]
        rfl
      refine pure_ (i := 10) (N := some 72) (v := ?_) (a' := ?_) #[true, true, true, true, true, true, false, false, false, false, true, false, false, false, false] rfl rfl (by kernel_rfl) (fun _ _ _ h => h) (Or.inl ⟨by rfl, ?_⟩) ?_ ?_
      rotate_left
      · intro w'
        go_simp
        with_reducible rfl
      rotate_left
      · simp only [Act.put, List.setIfInBounds_toArray, List.set_cons_zero, List.set_cons_succ, i64_w, i32_w]
        rfl
      refine take_ (i := 6) (N := some 68) (v := ?_) (a' := ?_) #[true, true, true, true, true, true, true, false, false, false, true, false, false, false, false] rfl rfl (by kernel_rfl) (fun _ _ _ h => h) (Or.inl ⟨by rfl, ?_⟩) hHeld ?_ ?_
      rotate_left
      · rintro w' ⟨s0, s1⟩
        go_simp
        with_reducible rfl
      rotate_left
      · simp only [Act.put, List.setIfInBounds_toArray, List.set_cons_zero, List.set_cons_succ, i64_w, i32_w]
        rfl
      refine take_ (i := 11) (N := some 73) (v := ?_) (a' := ?_) #[true, true, true, true, true, true, true, false, false, false, true, true, false, false, false] rfl rfl (by kernel_rfl) (fun _ _ _ h => h) (Or.inl ⟨by rfl, ?_⟩) hHeld ?_ ?_
      rotate_left
      · rintro w' ⟨s0, s1⟩
        go_simp
        with_reducible rfl
      rotate_left
      · simp only [Act.put, List.setIfInBounds_toArray, List.set_cons_zero, List.set_cons_succ, i64_w, i32_w]
        rfl
      refine pure_ (i := 12) (N := some 74) (v := ?_) (a' := ?_) #[true, true, true, true, true, true, true, false, false, false, true, true, true, false, false] rfl rfl (by kernel_rfl) (fun _ _ _ h => h) (Or.inl ⟨by rfl, ?_⟩) ?_ ?_
      rotate_left
      · intro w'
        go_simp
        with_reducible rfl
      rotate_left
      · simp only [Act.put, List.setIfInBounds_toArray, List.set_cons_zero, List.set_cons_succ, i64_w, i32_w]
        rfl
      refine one_ (i := 7) (N := some 69) #[true, true, true, true, true, true, true, true, false, false, true, true, true, false, false] rfl rfl (by kernel_rfl) (by decide) (fun K hK => ?_)
      refine goes_ Tryd.func17 (by kernel_rfl) rfl #[.int .i64 (uc : Int)] (by rfl) rfl rfl (by simp only [List.map_toArray, List.map_cons, List.map_nil]; rfl) ?_
      refine (text_d uc dc DC.out (by have := HR.out; omega) _).mono ?_
      rintro e' w4 ⟨rfl, hb⟩
      refine ⟨_, rfl, ?_⟩
      have B4 := Aside0.mk (below_step (below_drew B3.out) hb)
      clear hb
      refine hK.out _ _ ⟨((blk_cell (blk_below OX.out B4.out) 3).trans rfl), ((blk_cell (blk_below OX.out B4.out) 4).trans rfl)⟩ (fun hHeld => ?_)
      clear hK K
      refine norm_ (a' := ?_) ?_ ?_
      rotate_left
      · show Act.put _ (some 69) _ = _
        simp only [Act.put, List.setIfInBounds_toArray, List.set_cons_zero, List.set_cons_succ, i64_w, i32_w]
        rfl
      refine pure_ (i := 8) (N := some 70) (v := ?_) (a' := ?_) #[true, true, true, true, true, true, true, true, true, false, true, true, true, false, false] rfl rfl (by kernel_rfl) (fun _ _ _ h => h) (Or.inl ⟨by rfl, ?_⟩) ?_ ?_
      rotate_left
      · intro w'
        go_simp
        with_reducible rfl
      rotate_left
      · simp only [Act.put, List.setIfInBounds_toArray, List.set_cons_zero, List.set_cons_succ, i64_w, i32_w]
        rfl
      refine pure_ (i := 9) (N := some 71) (v := ?_) (a' := ?_) #[true, true, true, true, true, true, true, true, true, true, true, true, true, false, false] rfl rfl (by kernel_rfl) (fun _ _ _ h => h) (Or.inl ⟨by rfl, ?_⟩) ?_ ?_
      rotate_left
      · intro w'
        go_simp
        with_reducible rfl
      rotate_left
      · simp only [Act.put, List.setIfInBounds_toArray, List.set_cons_zero, List.set_cons_succ, i64_w, i32_w]
        rfl
      refine pure_ (i := 13) (N := some 2) (v := ?_) (a' := ?_) #[true, true, true, true, true, true, true, true, true, true, true, true, true, true, false] rfl rfl (by kernel_rfl) (fun _ _ _ h => h) (Or.inl ⟨by rfl, ?_⟩) ?_ ?_
      rotate_left
      · intro w'
        go_simp
        with_reducible rfl
      rotate_left
      · simp only [Act.put, List.setIfInBounds_toArray, List.set_cons_zero, List.set_cons_succ, i64_w, i32_w]
        rfl
      refine pure_ (i := 14) (N := some 3) (v := ?_) (a' := ?_) #[true, true, true, true, true, true, true, true, true, true, true, true, true, true, true] rfl rfl (by kernel_rfl) (fun _ _ _ h => h) (Or.inl ⟨by rfl, ?_⟩) ?_ ?_
      rotate_left
      · intro w'
        go_simp
        with_reducible rfl
      rotate_left
      · simp only [Act.put, List.setIfInBounds_toArray, List.set_cons_zero, List.set_cons_succ, i64_w, i32_w]
        rfl
      refine done_ (by kernel_rfl) ?_
      go_wp2
      first | go_ret | go_ret2
      exact ⟨by first | rfl | simp, below_step OB.out B4.out⟩
    have k1 : (k == 1) = false := beq_eq_false_iff_ne.2 hk
    have n1 := Aside0.mk hk
    clear hk
    by_cases hk : k = 2
    · subst hk
      have hXA := HXA.out
      have hXB := HXB.out
      obtain ⟨X1, hX1⟩ : ∃ X, X = ([99, 97, 110, 99, 101, 108] : List UInt8) ++ XA := ⟨_, rfl⟩
      have LX1 := Aside0.mk (show X1.length ≤ 100 by have := LA.out; have := LB.out; have := LC.out; have := LD.out; have := LXA.out; have := LXB.out; rw [hX1, List.length_append]; (try simp only [List.length_cons, List.length_nil]); omega)
      have p0 : ∀ W : World, (Op.stringOp .add (⟨([99, 97, 110, 99, 101, 108] : List UInt8).toArray⟩ : ByteArray) ⟨(XA : List UInt8).toArray⟩).run Tryd.prog W = .ok (.string ⟨X1.toArray⟩) W := by rw [hX1]; exact add_lit _ _ (by have := LA.out; have := LB.out; have := LC.out; have := LD.out; have := LXA.out; have := LXB.out; (try simp only [List.length_cons, List.length_nil]); omega)
      obtain ⟨X2, hX2⟩ : ∃ X, X = (X1 : List UInt8) ++ [10] := ⟨_, rfl⟩
      have LX2 := Aside0.mk (show X2.length ≤ 200 by have := LA.out; have := LB.out; have := LC.out; have := LD.out; have := LXA.out; have := LXB.out; have := LX1.out; rw [hX2, List.length_append]; (try simp only [List.length_cons, List.length_nil]); omega)
      have p1 : ∀ W : World, (Op.stringOp .add (⟨(X1 : List UInt8).toArray⟩ : ByteArray) ⟨([10] : List UInt8).toArray⟩).run Tryd.prog W = .ok (.string ⟨X2.toArray⟩) W := by rw [hX2]; exact add_lit _ _ (by have := LA.out; have := LB.out; have := LC.out; have := LD.out; have := LXA.out; have := LXB.out; have := LX1.out; (try simp only [List.length_cons, List.length_nil]); omega)
      obtain rfl : r = (X2, false) := HRS.out.symm.trans (by rw [hX2, hX1, hXA]; rw [← HAL.out]; rfl)
      clear HRS hXA hXB
      clear hX1
      clear hX2
      go_wp2
      first | go_ret | go_ret2
      exact ⟨by first | rfl | simp, below_step OB.out B3.out⟩
    have k2 : (k == 2) = false := beq_eq_false_iff_ne.2 hk
    have n2 := Aside0.mk hk
    clear hk
    by_cases hk : k = 3
    · subst hk
      have hXA := HXA.out
      have hXB := HXB.out
      obtain rfl : r = ([116, 105, 99, 107, 10], false) := HRS.out.symm.trans (by show (_, ((_ && (_ && _)) && _)) = _; rw [HAL.out]; rfl)
      clear HRS hXA hXB
      go_upto_region 12 with (fail)
      refine start_ (n := 8) (S := fun w' => w'.cell? ⟨G, 1, none⟩ = some (.int .i64 (ua : Int))) (ds := []) #[false, false, false, false, false, false, false, false] (by kernel_rfl) rfl rfl (((blk_cell (blk_below OX.out (below_drew B3.out)) 1).trans rfl)) (fun hHeld => ?_)
      refine pure_ (i := 0) (N := some 83) (v := ?_) (a' := ?_) #[true, false, false, false, false, false, false, false] rfl rfl (by kernel_rfl) (fun _ _ _ h => h) (Or.inl ⟨by rfl, ?_⟩) ?_ ?_
      rotate_left
      · intro w'
        go_simp
        with_reducible rfl
      rotate_left
      · simp only [Act.put, List.setIfInBounds_toArray, List.set_cons_zero, List.set_cons_succ, i64_w, i32_w]
        rfl
      refine pure_ (i := 1) (N := some 84) (v := ?_) (a' := ?_) #[true, true, false, false, false, false, false, false] rfl rfl (by kernel_rfl) (fun _ _ _ h => h) (Or.inl ⟨by rfl, ?_⟩) ?_ ?_
      rotate_left
      · intro w'
        go_simp
        with_reducible rfl
      rotate_left
      · simp only [Act.put, List.setIfInBounds_toArray, List.set_cons_zero, List.set_cons_succ, i64_w, i32_w]
        rfl
      refine pure_ (i := 2) (N := some 85) (v := undef) (a' := ?_) #[true, true, true, false, false, false, false, false] rfl rfl (by kernel_rfl) (fun _ _ _ h => h) (Or.inr ⟨by rfl, rfl⟩) ?_ ?_
      rotate_left
      · simp only [Act.put, List.setIfInBounds_toArray, List.set_cons_zero, List.set_cons_succ, i64_w, i32_w]
        rfl
      refine pure_ (i := 3) (N := some 86) (v := undef) (a' := ?_) #[true, true, true, true, false, false, false, false] rfl rfl (by kernel_rfl) (fun _ _ _ h => h) (Or.inr ⟨by rfl, rfl⟩) ?_ ?_
      rotate_left
      · simp only [Act.put, List.setIfInBounds_toArray, List.set_cons_zero, List.set_cons_succ, i64_w, i32_w]
        rfl
      refine pure_ (i := 4) (N := some 87) (v := undef) (a' := ?_) #[true, true, true, true, true, false, false, false] rfl rfl (by kernel_rfl) (fun _ _ _ h => h) (Or.inr ⟨by rfl, rfl⟩) ?_ ?_
      rotate_left
      · simp only [Act.put, List.setIfInBounds_toArray, List.set_cons_zero, List.set_cons_succ, i64_w, i32_w]
        rfl
      refine pure_ (i := 5) (N := some 88) (v := ?_) (a' := ?_) #[true, true, true, true, true, true, false, false] rfl rfl (by kernel_rfl) (fun _ _ _ h => h) (Or.inl ⟨by rfl, ?_⟩) ?_ ?_
      rotate_left
      · intro w'
        go_simp
        with_reducible rfl
      rotate_left
      · simp only [Act.put, List.setIfInBounds_toArray, List.set_cons_zero, List.set_cons_succ, i64_w, i32_w]
        rfl
      refine pure_ (i := 6) (N := some 2) (v := ?_) (a' := ?_) #[true, true, true, true, true, true, true, false] rfl rfl (by kernel_rfl) (fun _ _ _ h => h) (Or.inl ⟨by rfl, ?_⟩) ?_ ?_
      rotate_left
      · intro w'
        go_simp
        with_reducible rfl
      rotate_left
      · simp only [Act.put, List.setIfInBounds_toArray, List.set_cons_zero, List.set_cons_succ, i64_w, i32_w]
        rfl
      refine pure_ (i := 7) (N := some 3) (v := ?_) (a' := ?_) #[true, true, true, true, true, true, true, true] rfl rfl (by kernel_rfl) (fun _ _ _ h => h) (Or.inl ⟨by rfl, ?_⟩) ?_ ?_
      rotate_left
      · intro w'
        go_simp
        with_reducible rfl
      rotate_left
      · simp only [Act.put, List.setIfInBounds_toArray, List.set_cons_zero, List.set_cons_succ, i64_w, i32_w]
        rfl
      refine done_ (by kernel_rfl) ?_
      go_wp2
      first | go_ret | go_ret2
      exact ⟨by first | rfl | simp, below_step OB.out (below_drew B3.out)⟩
    have k3 : (k == 3) = false := beq_eq_false_iff_ne.2 hk
    have n3 := Aside0.mk hk
    clear hk
    by_cases hk : k = 4
    · subst hk
      have hXA := HXA.out
      have hXB := HXB.out
      obtain rfl : r = ([100, 105, 115, 112, 97, 116, 99, 104, 10], false) := HRS.out.symm.trans (by show (_, ((_ && (_ && _)) && _)) = _; rw [HAL.out]; rfl)
      clear HRS hXA hXB
      go_upto_region 14 with (fail)
      refine start_ (n := 8) (S := fun w' => w'.cell? ⟨G, 1, none⟩ = some (.int .i64 (ua : Int))) (ds := []) #[false, false, false, false, false, false, false, false] (by kernel_rfl) rfl rfl (((blk_cell (blk_below OX.out (below_drew B3.out)) 1).trans rfl)) (fun hHeld => ?_)
      refine pure_ (i := 0) (N := some 91) (v := ?_) (a' := ?_) #[true, false, false, false, false, false, false, false] rfl rfl (by kernel_rfl) (fun _ _ _ h => h) (Or.inl ⟨by rfl, ?_⟩) ?_ ?_
      rotate_left
      · intro w'
        go_simp
        with_reducible rfl
      rotate_left
      · simp only [Act.put, List.setIfInBounds_toArray, List.set_cons_zero, List.set_cons_succ, i64_w, i32_w]
        rfl
      refine pure_ (i := 1) (N := some 92) (v := ?_) (a' := ?_) #[true, true, false, false, false, false, false, false] rfl rfl (by kernel_rfl) (fun _ _ _ h => h) (Or.inl ⟨by rfl, ?_⟩) ?_ ?_
      rotate_left
      · intro w'
        go_simp
        with_reducible rfl
      rotate_left
      · simp only [Act.put, List.setIfInBounds_toArray, List.set_cons_zero, List.set_cons_succ, i64_w, i32_w]
        rfl
      refine pure_ (i := 2) (N := some 93) (v := undef) (a' := ?_) #[true, true, true, false, false, false, false, false] rfl rfl (by kernel_rfl) (fun _ _ _ h => h) (Or.inr ⟨by rfl, rfl⟩) ?_ ?_
      rotate_left
      · simp only [Act.put, List.setIfInBounds_toArray, List.set_cons_zero, List.set_cons_succ, i64_w, i32_w]
        rfl
      refine pure_ (i := 3) (N := some 94) (v := undef) (a' := ?_) #[true, true, true, true, false, false, false, false] rfl rfl (by kernel_rfl) (fun _ _ _ h => h) (Or.inr ⟨by rfl, rfl⟩) ?_ ?_
      rotate_left
      · simp only [Act.put, List.setIfInBounds_toArray, List.set_cons_zero, List.set_cons_succ, i64_w, i32_w]
        rfl
      refine pure_ (i := 4) (N := some 95) (v := undef) (a' := ?_) #[true, true, true, true, true, false, false, false] rfl rfl (by kernel_rfl) (fun _ _ _ h => h) (Or.inr ⟨by rfl, rfl⟩) ?_ ?_
      rotate_left
      · simp only [Act.put, List.setIfInBounds_toArray, List.set_cons_zero, List.set_cons_succ, i64_w, i32_w]
        rfl
      refine pure_ (i := 5) (N := some 96) (v := ?_) (a' := ?_) #[true, true, true, true, true, true, false, false] rfl rfl (by kernel_rfl) (fun _ _ _ h => h) (Or.inl ⟨by rfl, ?_⟩) ?_ ?_
      rotate_left
      · intro w'
        go_simp
        with_reducible rfl
      rotate_left
      · simp only [Act.put, List.setIfInBounds_toArray, List.set_cons_zero, List.set_cons_succ, i64_w, i32_w]
        rfl
      refine pure_ (i := 6) (N := some 2) (v := ?_) (a' := ?_) #[true, true, true, true, true, true, true, false] rfl rfl (by kernel_rfl) (fun _ _ _ h => h) (Or.inl ⟨by rfl, ?_⟩) ?_ ?_
      rotate_left
      · intro w'
        go_simp
        with_reducible rfl
      rotate_left
      · simp only [Act.put, List.setIfInBounds_toArray, List.set_cons_zero, List.set_cons_succ, i64_w, i32_w]
        rfl
      refine pure_ (i := 7) (N := some 3) (v := ?_) (a' := ?_) #[true, true, true, true, true, true, true, true] rfl rfl (by kernel_rfl) (fun _ _ _ h => h) (Or.inl ⟨by rfl, ?_⟩) ?_ ?_
      rotate_left
      · intro w'
        go_simp
        with_reducible rfl
      rotate_left
      · simp only [Act.put, List.setIfInBounds_toArray, List.set_cons_zero, List.set_cons_succ, i64_w, i32_w]
        rfl
      refine done_ (by kernel_rfl) ?_
      go_wp2
      first | go_ret | go_ret2
      exact ⟨by first | rfl | simp, below_step OB.out (below_drew B3.out)⟩
    have k4 : (k == 4) = false := beq_eq_false_iff_ne.2 hk
    have n4 := Aside0.mk hk
    clear hk
    by_cases hk : k = 6
    · subst hk
      have hXA := HXA.out
      have hXB := HXB.out
      obtain ⟨X1, hX1⟩ : ∃ X, X = ([113, 117, 101, 114, 121] : List UInt8) ++ XA := ⟨_, rfl⟩
      have LX1 := Aside0.mk (show X1.length ≤ 100 by have := LA.out; have := LB.out; have := LC.out; have := LD.out; have := LXA.out; have := LXB.out; rw [hX1, List.length_append]; (try simp only [List.length_cons, List.length_nil]); omega)
      have p0 : ∀ W : World, (Op.stringOp .add (⟨([113, 117, 101, 114, 121] : List UInt8).toArray⟩ : ByteArray) ⟨(XA : List UInt8).toArray⟩).run Tryd.prog W = .ok (.string ⟨X1.toArray⟩) W := by rw [hX1]; exact add_lit _ _ (by have := LA.out; have := LB.out; have := LC.out; have := LD.out; have := LXA.out; have := LXB.out; (try simp only [List.length_cons, List.length_nil]); omega)
      obtain ⟨X2, hX2⟩ : ∃ X, X = (X1 : List UInt8) ++ [10] := ⟨_, rfl⟩
      have LX2 := Aside0.mk (show X2.length ≤ 200 by have := LA.out; have := LB.out; have := LC.out; have := LD.out; have := LXA.out; have := LXB.out; have := LX1.out; rw [hX2, List.length_append]; (try simp only [List.length_cons, List.length_nil]); omega)
      have p1 : ∀ W : World, (Op.stringOp .add (⟨(X1 : List UInt8).toArray⟩ : ByteArray) ⟨([10] : List UInt8).toArray⟩).run Tryd.prog W = .ok (.string ⟨X2.toArray⟩) W := by rw [hX2]; exact add_lit _ _ (by have := LA.out; have := LB.out; have := LC.out; have := LD.out; have := LXA.out; have := LXB.out; have := LX1.out; (try simp only [List.length_cons, List.length_nil]); omega)
      obtain rfl : r = (X2, false) := HRS.out.symm.trans (by rw [hX2, hX1, hXA]; rw [← HAL.out]; rfl)
      clear HRS hXA hXB
      clear hX1
      clear hX2
      go_wp2
      first | go_ret | go_ret2
      exact ⟨by first | rfl | simp, below_step OB.out B3.out⟩
    have k6 : (k == 6) = false := beq_eq_false_iff_ne.2 hk
    have n6 := Aside0.mk hk
    clear hk
    by_cases hk : k = 5
    · subst hk
      clear k1 k2 k3 k4 k6 n1 n2 n3 n4 n6
      by_cases hc : (uc : Int) = 1
      · have c1 : ((uc : Int) == 1) = true := by rw [hc]; rfl
        have hXA := HXA.out
        have hXB := HXB.out
        obtain ⟨X1, hX1⟩ : ∃ X, X = ([97, 110, 115, 119, 101, 114] : List UInt8) ++ XA := ⟨_, rfl⟩
        have LX1 := Aside0.mk (show X1.length ≤ 100 by have := LA.out; have := LB.out; have := LC.out; have := LD.out; have := LXA.out; have := LXB.out; rw [hX1, List.length_append]; (try simp only [List.length_cons, List.length_nil]); omega)
        have p0 : ∀ W : World, (Op.stringOp .add (⟨([97, 110, 115, 119, 101, 114] : List UInt8).toArray⟩ : ByteArray) ⟨(XA : List UInt8).toArray⟩).run Tryd.prog W = .ok (.string ⟨X1.toArray⟩) W := by rw [hX1]; exact add_lit _ _ (by have := LA.out; have := LB.out; have := LC.out; have := LD.out; have := LXA.out; have := LXB.out; (try simp only [List.length_cons, List.length_nil]); omega)
        obtain ⟨X2, hX2⟩ : ∃ X, X = (X1 : List UInt8) ++ XB := ⟨_, rfl⟩
        have LX2 := Aside0.mk (show X2.length ≤ 200 by have := LA.out; have := LB.out; have := LC.out; have := LD.out; have := LXA.out; have := LXB.out; have := LX1.out; rw [hX2, List.length_append]; (try simp only [List.length_cons, List.length_nil]); omega)
        have p1 : ∀ W : World, (Op.stringOp .add (⟨(X1 : List UInt8).toArray⟩ : ByteArray) ⟨(XB : List UInt8).toArray⟩).run Tryd.prog W = .ok (.string ⟨X2.toArray⟩) W := by rw [hX2]; exact add_lit _ _ (by have := LA.out; have := LB.out; have := LC.out; have := LD.out; have := LXA.out; have := LXB.out; have := LX1.out; (try simp only [List.length_cons, List.length_nil]); omega)
        obtain ⟨X3, hX3⟩ : ∃ X, X = (X2 : List UInt8) ++ [32, 100, 105, 100, 10] := ⟨_, rfl⟩
        have LX3 := Aside0.mk (show X3.length ≤ 300 by have := LA.out; have := LB.out; have := LC.out; have := LD.out; have := LXA.out; have := LXB.out; have := LX2.out; rw [hX3, List.length_append]; (try simp only [List.length_cons, List.length_nil]); omega)
        have p2 : ∀ W : World, (Op.stringOp .add (⟨(X2 : List UInt8).toArray⟩ : ByteArray) ⟨([32, 100, 105, 100, 10] : List UInt8).toArray⟩).run Tryd.prog W = .ok (.string ⟨X3.toArray⟩) W := by rw [hX3]; exact add_lit _ _ (by have := LA.out; have := LB.out; have := LC.out; have := LD.out; have := LXA.out; have := LXB.out; have := LX2.out; (try simp only [List.length_cons, List.length_nil]); omega)
        obtain rfl : r = (X3, ((ud : Int) == 0)) := HRS.out.symm.trans (by rw [hX3, hX2, hX1, hXA, hXB]; simp [lineT, lineB, hc])
        clear HRS hXA hXB
        clear hX1
        clear hX2
        clear hX3
        go_upto_region 19 with (fail)
        refine start_ (n := 10) (S := fun w' => w'.cell? ⟨G, 4, none⟩ = some (.int .i64 (ud : Int))) (ds := []) #[false, false, false, false, false, false, false, false, false, false] (by kernel_rfl) rfl rfl (((blk_cell (blk_below OX.out (below_drew B3.out)) 4).trans rfl)) (fun hHeld => ?_)
        refine pure_ (i := 0) (N := some 108) (v := ?_) (a' := ?_) #[true, false, false, false, false, false, false, false, false, false] rfl rfl (by kernel_rfl) (fun _ _ _ h => h) (Or.inl ⟨by rfl, ?_⟩) ?_ ?_
        rotate_left
        · intro w'
          go_simp
          with_reducible rfl
        rotate_left
        · simp only [Act.put, List.setIfInBounds_toArray, List.set_cons_zero, List.set_cons_succ, i64_w, i32_w]
          rfl
        refine pure_ (i := 1) (N := some 109) (v := ?_) (a' := ?_) #[true, true, false, false, false, false, false, false, false, false] rfl rfl (by kernel_rfl) (fun _ _ _ h => h) (Or.inl ⟨by rfl, ?_⟩) ?_ ?_
        rotate_left
        · intro w'
          go_simp
          with_reducible rfl
        rotate_left
        · simp only [Act.put, List.setIfInBounds_toArray, List.set_cons_zero, List.set_cons_succ, i64_w, i32_w]
          rfl
        refine pure_ (i := 2) (N := some 110) (v := ?_) (a' := ?_) #[true, true, true, false, false, false, false, false, false, false] rfl rfl (by kernel_rfl) (fun _ _ _ h => h) (Or.inl ⟨by rfl, ?_⟩) ?_ ?_
        rotate_left
        · intro w'
          go_simp
          with_reducible rfl
        rotate_left
        · simp only [Act.put, List.setIfInBounds_toArray, List.set_cons_zero, List.set_cons_succ, i64_w, i32_w]
          rfl
        refine pure_ (i := 3) (N := some 111) (v := ?_) (a' := ?_) #[true, true, true, true, false, false, false, false, false, false] rfl rfl (by kernel_rfl) (fun _ _ _ h => h) (Or.inl ⟨by rfl, ?_⟩) ?_ ?_
        rotate_left
        · intro w'
          go_simp
          with_reducible rfl
        rotate_left
        · simp only [Act.put, List.setIfInBounds_toArray, List.set_cons_zero, List.set_cons_succ, i64_w, i32_w]
          rfl
        refine pure_ (i := 4) (N := some 112) (v := ?_) (a' := ?_) #[true, true, true, true, true, false, false, false, false, false] rfl rfl (by kernel_rfl) (fun _ _ _ h => h) (Or.inl ⟨by rfl, ?_⟩) ?_ ?_
        rotate_left
        · intro w'
          go_simp
          with_reducible rfl
        rotate_left
        · simp only [Act.put, List.setIfInBounds_toArray, List.set_cons_zero, List.set_cons_succ, i64_w, i32_w]
          rfl
        refine pure_ (i := 5) (N := some 113) (v := ?_) (a' := ?_) #[true, true, true, true, true, true, false, false, false, false] rfl rfl (by kernel_rfl) (fun _ _ _ h => h) (Or.inl ⟨by rfl, ?_⟩) ?_ ?_
        rotate_left
        · intro w'
          go_simp
          with_reducible rfl
        rotate_left
        · simp only [Act.put, List.setIfInBounds_toArray, List.set_cons_zero, List.set_cons_succ, i64_w, i32_w]
          rfl
        refine pure_ (i := 8) (N := some 2) (v := ?_) (a' := ?_) #[true, true, true, true, true, true, false, false, true, false] rfl rfl (by kernel_rfl) (fun _ _ _ h => h) (Or.inl ⟨by rfl, ?_⟩) ?_ ?_
        rotate_left
        · intro w'
          go_simp
          with_reducible rfl
        rotate_left
        · simp only [Act.put, List.setIfInBounds_toArray, List.set_cons_zero, List.set_cons_succ, i64_w, i32_w]
          rfl
        refine take_ (i := 6) (N := some 114) (v := ?_) (a' := ?_) #[true, true, true, true, true, true, true, false, true, false] rfl rfl (by kernel_rfl) (fun _ _ _ h => h) (Or.inl ⟨by rfl, ?_⟩) hHeld ?_ ?_
        rotate_left
        · intro w' s0
          go_simp
          with_reducible rfl
        rotate_left
        · simp only [Act.put, List.setIfInBounds_toArray, List.set_cons_zero, List.set_cons_succ, i64_w, i32_w]
          rfl
        refine pure_ (i := 7) (N := some 115) (v := ?_) (a' := ?_) #[true, true, true, true, true, true, true, true, true, false] rfl rfl (by kernel_rfl) (fun _ _ _ h => h) (Or.inl ⟨by rfl, ?_⟩) ?_ ?_
        rotate_left
        · intro w'
          go_simp
          with_reducible rfl
        rotate_left
        · simp only [Act.put, List.setIfInBounds_toArray, List.set_cons_zero, List.set_cons_succ, i64_w, i32_w]
          rfl
        refine pure_ (i := 9) (N := some 3) (v := ?_) (a' := ?_) #[true, true, true, true, true, true, true, true, true, true] rfl rfl (by kernel_rfl) (fun _ _ _ h => h) (Or.inl ⟨by rfl, ?_⟩) ?_ ?_
        rotate_left
        · intro w'
          go_simp
          with_reducible rfl
        rotate_left
        · simp only [Act.put, List.setIfInBounds_toArray, List.set_cons_zero, List.set_cons_succ, i64_w, i32_w]
          rfl
        refine done_ (by kernel_rfl) ?_
        go_wp2
        first | go_ret | go_ret2
        exact ⟨by first | rfl | simp, below_step OB.out (below_drew B3.out)⟩
      have c1 : ((uc : Int) == 1) = false := beq_eq_false_iff_ne.2 hc
      by_cases hc2 : (uc : Int) = 2
      · have c2 : ((uc : Int) == 2) = true := by rw [hc2]; rfl
        have hXA := HXA.out
        have hXB := HXB.out
        obtain ⟨X1, hX1⟩ : ∃ X, X = ([97, 110, 115, 119, 101, 114] : List UInt8) ++ XA := ⟨_, rfl⟩
        have LX1 := Aside0.mk (show X1.length ≤ 100 by have := LA.out; have := LB.out; have := LC.out; have := LD.out; have := LXA.out; have := LXB.out; rw [hX1, List.length_append]; (try simp only [List.length_cons, List.length_nil]); omega)
        have p0 : ∀ W : World, (Op.stringOp .add (⟨([97, 110, 115, 119, 101, 114] : List UInt8).toArray⟩ : ByteArray) ⟨(XA : List UInt8).toArray⟩).run Tryd.prog W = .ok (.string ⟨X1.toArray⟩) W := by rw [hX1]; exact add_lit _ _ (by have := LA.out; have := LB.out; have := LC.out; have := LD.out; have := LXA.out; have := LXB.out; (try simp only [List.length_cons, List.length_nil]); omega)
        obtain ⟨X2, hX2⟩ : ∃ X, X = (X1 : List UInt8) ++ XB := ⟨_, rfl⟩
        have LX2 := Aside0.mk (show X2.length ≤ 200 by have := LA.out; have := LB.out; have := LC.out; have := LD.out; have := LXA.out; have := LXB.out; have := LX1.out; rw [hX2, List.length_append]; (try simp only [List.length_cons, List.length_nil]); omega)
        have p1 : ∀ W : World, (Op.stringOp .add (⟨(X1 : List UInt8).toArray⟩ : ByteArray) ⟨(XB : List UInt8).toArray⟩).run Tryd.prog W = .ok (.string ⟨X2.toArray⟩) W := by rw [hX2]; exact add_lit _ _ (by have := LA.out; have := LB.out; have := LC.out; have := LD.out; have := LXA.out; have := LXB.out; have := LX1.out; (try simp only [List.length_cons, List.length_nil]); omega)
        obtain ⟨X3, hX3⟩ : ∃ X, X = (X2 : List UInt8) ++ [32, 102, 97, 105, 108, 10] := ⟨_, rfl⟩
        have LX3 := Aside0.mk (show X3.length ≤ 300 by have := LA.out; have := LB.out; have := LC.out; have := LD.out; have := LXA.out; have := LXB.out; have := LX2.out; rw [hX3, List.length_append]; (try simp only [List.length_cons, List.length_nil]); omega)
        have p2 : ∀ W : World, (Op.stringOp .add (⟨(X2 : List UInt8).toArray⟩ : ByteArray) ⟨([32, 102, 97, 105, 108, 10] : List UInt8).toArray⟩).run Tryd.prog W = .ok (.string ⟨X3.toArray⟩) W := by rw [hX3]; exact add_lit _ _ (by have := LA.out; have := LB.out; have := LC.out; have := LD.out; have := LXA.out; have := LXB.out; have := LX2.out; (try simp only [List.length_cons, List.length_nil]); omega)
        obtain rfl : r = (X3, ((ud : Int) == 0)) := HRS.out.symm.trans (by rw [hX3, hX2, hX1, hXA, hXB]; simp [lineT, lineB, hc2])
        clear HRS hXA hXB
        clear hX1
        clear hX2
        clear hX3
        go_upto_region 21 with (fail)
        refine start_ (n := 10) (S := fun w' => w'.cell? ⟨G, 4, none⟩ = some (.int .i64 (ud : Int))) (ds := []) #[false, false, false, false, false, false, false, false, false, false] (by kernel_rfl) rfl rfl (((blk_cell (blk_below OX.out (below_drew B3.out)) 4).trans rfl)) (fun hHeld => ?_)
        refine pure_ (i := 0) (N := some 119) (v := ?_) (a' := ?_) #[true, false, false, false, false, false, false, false, false, false] rfl rfl (by kernel_rfl) (fun _ _ _ h => h) (Or.inl ⟨by rfl, ?_⟩) ?_ ?_
        rotate_left
        · intro w'
          go_simp
          with_reducible rfl
        rotate_left
        · simp only [Act.put, List.setIfInBounds_toArray, List.set_cons_zero, List.set_cons_succ, i64_w, i32_w]
          rfl
        refine pure_ (i := 1) (N := some 120) (v := ?_) (a' := ?_) #[true, true, false, false, false, false, false, false, false, false] rfl rfl (by kernel_rfl) (fun _ _ _ h => h) (Or.inl ⟨by rfl, ?_⟩) ?_ ?_
        rotate_left
        · intro w'
          go_simp
          with_reducible rfl
        rotate_left
        · simp only [Act.put, List.setIfInBounds_toArray, List.set_cons_zero, List.set_cons_succ, i64_w, i32_w]
          rfl
        refine pure_ (i := 2) (N := some 121) (v := ?_) (a' := ?_) #[true, true, true, false, false, false, false, false, false, false] rfl rfl (by kernel_rfl) (fun _ _ _ h => h) (Or.inl ⟨by rfl, ?_⟩) ?_ ?_
        rotate_left
        · intro w'
          go_simp
          with_reducible rfl
        rotate_left
        · simp only [Act.put, List.setIfInBounds_toArray, List.set_cons_zero, List.set_cons_succ, i64_w, i32_w]
          rfl
        refine pure_ (i := 3) (N := some 122) (v := ?_) (a' := ?_) #[true, true, true, true, false, false, false, false, false, false] rfl rfl (by kernel_rfl) (fun _ _ _ h => h) (Or.inl ⟨by rfl, ?_⟩) ?_ ?_
        rotate_left
        · intro w'
          go_simp
          with_reducible rfl
        rotate_left
        · simp only [Act.put, List.setIfInBounds_toArray, List.set_cons_zero, List.set_cons_succ, i64_w, i32_w]
          rfl
        refine pure_ (i := 4) (N := some 123) (v := ?_) (a' := ?_) #[true, true, true, true, true, false, false, false, false, false] rfl rfl (by kernel_rfl) (fun _ _ _ h => h) (Or.inl ⟨by rfl, ?_⟩) ?_ ?_
        rotate_left
        · intro w'
          go_simp
          with_reducible rfl
        rotate_left
        · simp only [Act.put, List.setIfInBounds_toArray, List.set_cons_zero, List.set_cons_succ, i64_w, i32_w]
          rfl
        refine pure_ (i := 5) (N := some 124) (v := ?_) (a' := ?_) #[true, true, true, true, true, true, false, false, false, false] rfl rfl (by kernel_rfl) (fun _ _ _ h => h) (Or.inl ⟨by rfl, ?_⟩) ?_ ?_
        rotate_left
        · intro w'
          go_simp
          with_reducible rfl
        rotate_left
        · simp only [Act.put, List.setIfInBounds_toArray, List.set_cons_zero, List.set_cons_succ, i64_w, i32_w]
          rfl
        refine pure_ (i := 8) (N := some 2) (v := ?_) (a' := ?_) #[true, true, true, true, true, true, false, false, true, false] rfl rfl (by kernel_rfl) (fun _ _ _ h => h) (Or.inl ⟨by rfl, ?_⟩) ?_ ?_
        rotate_left
        · intro w'
          go_simp
          with_reducible rfl
        rotate_left
        · simp only [Act.put, List.setIfInBounds_toArray, List.set_cons_zero, List.set_cons_succ, i64_w, i32_w]
          rfl
        refine take_ (i := 6) (N := some 125) (v := ?_) (a' := ?_) #[true, true, true, true, true, true, true, false, true, false] rfl rfl (by kernel_rfl) (fun _ _ _ h => h) (Or.inl ⟨by rfl, ?_⟩) hHeld ?_ ?_
        rotate_left
        · intro w' s0
          go_simp
          with_reducible rfl
        rotate_left
        · simp only [Act.put, List.setIfInBounds_toArray, List.set_cons_zero, List.set_cons_succ, i64_w, i32_w]
          rfl
        refine pure_ (i := 7) (N := some 126) (v := ?_) (a' := ?_) #[true, true, true, true, true, true, true, true, true, false] rfl rfl (by kernel_rfl) (fun _ _ _ h => h) (Or.inl ⟨by rfl, ?_⟩) ?_ ?_
        rotate_left
        · intro w'
          go_simp
          with_reducible rfl
        rotate_left
        · simp only [Act.put, List.setIfInBounds_toArray, List.set_cons_zero, List.set_cons_succ, i64_w, i32_w]
          rfl
        refine pure_ (i := 9) (N := some 3) (v := ?_) (a' := ?_) #[true, true, true, true, true, true, true, true, true, true] rfl rfl (by kernel_rfl) (fun _ _ _ h => h) (Or.inl ⟨by rfl, ?_⟩) ?_ ?_
        rotate_left
        · intro w'
          go_simp
          with_reducible rfl
        rotate_left
        · simp only [Act.put, List.setIfInBounds_toArray, List.set_cons_zero, List.set_cons_succ, i64_w, i32_w]
          rfl
        refine done_ (by kernel_rfl) ?_
        go_wp2
        first | go_ret | go_ret2
        exact ⟨by first | rfl | simp, below_step OB.out (below_drew B3.out)⟩
      have c2 : ((uc : Int) == 2) = false := beq_eq_false_iff_ne.2 hc2
      have hXA := HXA.out
      have hXB := HXB.out
      obtain ⟨X1, hX1⟩ : ∃ X, X = ([97, 110, 115, 119, 101, 114] : List UInt8) ++ XA := ⟨_, rfl⟩
      have LX1 := Aside0.mk (show X1.length ≤ 100 by have := LA.out; have := LB.out; have := LC.out; have := LD.out; have := LXA.out; have := LXB.out; rw [hX1, List.length_append]; (try simp only [List.length_cons, List.length_nil]); omega)
      have p0 : ∀ W : World, (Op.stringOp .add (⟨([97, 110, 115, 119, 101, 114] : List UInt8).toArray⟩ : ByteArray) ⟨(XA : List UInt8).toArray⟩).run Tryd.prog W = .ok (.string ⟨X1.toArray⟩) W := by rw [hX1]; exact add_lit _ _ (by have := LA.out; have := LB.out; have := LC.out; have := LD.out; have := LXA.out; have := LXB.out; (try simp only [List.length_cons, List.length_nil]); omega)
      obtain ⟨X2, hX2⟩ : ∃ X, X = (X1 : List UInt8) ++ XB := ⟨_, rfl⟩
      have LX2 := Aside0.mk (show X2.length ≤ 200 by have := LA.out; have := LB.out; have := LC.out; have := LD.out; have := LXA.out; have := LXB.out; have := LX1.out; rw [hX2, List.length_append]; (try simp only [List.length_cons, List.length_nil]); omega)
      have p1 : ∀ W : World, (Op.stringOp .add (⟨(X1 : List UInt8).toArray⟩ : ByteArray) ⟨(XB : List UInt8).toArray⟩).run Tryd.prog W = .ok (.string ⟨X2.toArray⟩) W := by rw [hX2]; exact add_lit _ _ (by have := LA.out; have := LB.out; have := LC.out; have := LD.out; have := LXA.out; have := LXB.out; have := LX1.out; (try simp only [List.length_cons, List.length_nil]); omega)
      obtain ⟨X3, hX3⟩ : ∃ X, X = (X2 : List UInt8) ++ [32, 110, 101, 101, 100, 32] := ⟨_, rfl⟩
      have LX3 := Aside0.mk (show X3.length ≤ 300 by have := LA.out; have := LB.out; have := LC.out; have := LD.out; have := LXA.out; have := LXB.out; have := LX2.out; rw [hX3, List.length_append]; (try simp only [List.length_cons, List.length_nil]); omega)
      have p2 : ∀ W : World, (Op.stringOp .add (⟨(X2 : List UInt8).toArray⟩ : ByteArray) ⟨([32, 110, 101, 101, 100, 32] : List UInt8).toArray⟩).run Tryd.prog W = .ok (.string ⟨X3.toArray⟩) W := by rw [hX3]; exact add_lit _ _ (by have := LA.out; have := LB.out; have := LC.out; have := LD.out; have := LXA.out; have := LXB.out; have := LX2.out; (try simp only [List.length_cons, List.length_nil]); omega)
      obtain ⟨X4, hX4⟩ : ∃ X, X = (X3 : List UInt8) ++ dd := ⟨_, rfl⟩
      have LX4 := Aside0.mk (show X4.length ≤ 400 by have := LA.out; have := LB.out; have := LC.out; have := LD.out; have := LXA.out; have := LXB.out; have := LX3.out; rw [hX4, List.length_append]; (try simp only [List.length_cons, List.length_nil]); omega)
      have p3 : ∀ W : World, (Op.stringOp .add (⟨(X3 : List UInt8).toArray⟩ : ByteArray) ⟨(dd : List UInt8).toArray⟩).run Tryd.prog W = .ok (.string ⟨X4.toArray⟩) W := by rw [hX4]; exact add_lit _ _ (by have := LA.out; have := LB.out; have := LC.out; have := LD.out; have := LXA.out; have := LXB.out; have := LX3.out; (try simp only [List.length_cons, List.length_nil]); omega)
      obtain ⟨X5, hX5⟩ : ∃ X, X = (X4 : List UInt8) ++ [10] := ⟨_, rfl⟩
      have LX5 := Aside0.mk (show X5.length ≤ 500 by have := LA.out; have := LB.out; have := LC.out; have := LD.out; have := LXA.out; have := LXB.out; have := LX4.out; rw [hX5, List.length_append]; (try simp only [List.length_cons, List.length_nil]); omega)
      have p4 : ∀ W : World, (Op.stringOp .add (⟨(X4 : List UInt8).toArray⟩ : ByteArray) ⟨([10] : List UInt8).toArray⟩).run Tryd.prog W = .ok (.string ⟨X5.toArray⟩) W := by rw [hX5]; exact add_lit _ _ (by have := LA.out; have := LB.out; have := LC.out; have := LD.out; have := LXA.out; have := LXB.out; have := LX4.out; (try simp only [List.length_cons, List.length_nil]); omega)
      obtain rfl : r = (X5, ((uc : Int) == 3)) := HRS.out.symm.trans (by rw [hX5, hX4, hX3, hX2, hX1, hXA, hXB]; simp [lineT, lineB, hc, hc2])
      clear HRS hXA hXB
      clear hX1
      clear hX2
      clear hX3
      clear hX4
      clear hX5
      go_upto_region 22 with (fail)
      refine start_ (n := 15) (S := fun w' => w'.cell? ⟨G, 3, none⟩ = some (.int .i64 (uc : Int)) ∧ w'.cell? ⟨G, 4, none⟩ = some (.int .i64 (ud : Int))) (ds := []) #[false, false, false, false, false, false, false, false, false, false, false, false, false, false, false] (by kernel_rfl) rfl rfl ⟨((blk_cell (blk_below OX.out (below_drew B3.out)) 3).trans rfl), ((blk_cell (blk_below OX.out (below_drew B3.out)) 4).trans rfl)⟩ (fun hHeld => ?_)
      refine pure_ (i := 0) (N := some 127) (v := ?_) (a' := ?_) #[true, false, false, false, false, false, false, false, false, false, false, false, false, false, false] rfl rfl (by kernel_rfl) (fun _ _ _ h => h) (Or.inl ⟨by rfl, ?_⟩) ?_ ?_
      rotate_left
      · intro w'
        go_simp
        with_reducible rfl
      rotate_left
      · simp only [Act.put, List.setIfInBounds_toArray, List.set_cons_zero, List.set_cons_succ, i64_w, i32_w]
        rfl
      refine pure_ (i := 1) (N := some 128) (v := ?_) (a' := ?_) #[true, true, false, false, false, false, false, false, false, false, false, false, false, false, false] rfl rfl (by kernel_rfl) (fun _ _ _ h => h) (Or.inl ⟨by rfl, ?_⟩) ?_ ?_
      rotate_left
      · intro w'
        go_simp
        with_reducible rfl
      rotate_left
      · simp only [Act.put, List.setIfInBounds_toArray, List.set_cons_zero, List.set_cons_succ, i64_w, i32_w]
        rfl
      refine pure_ (i := 2) (N := some 129) (v := ?_) (a' := ?_) #[true, true, true, false, false, false, false, false, false, false, false, false, false, false, false] rfl rfl (by kernel_rfl) (fun _ _ _ h => h) (Or.inl ⟨by rfl, ?_⟩) ?_ ?_
      rotate_left
      · intro w'
        go_simp
        with_reducible rfl
      rotate_left
      · simp only [Act.put, List.setIfInBounds_toArray, List.set_cons_zero, List.set_cons_succ, i64_w, i32_w]
        rfl
      refine pure_ (i := 3) (N := some 130) (v := ?_) (a' := ?_) #[true, true, true, true, false, false, false, false, false, false, false, false, false, false, false] rfl rfl (by kernel_rfl) (fun _ _ _ h => h) (Or.inl ⟨by rfl, ?_⟩) ?_ ?_
      rotate_left
      · intro w'
        go_simp
        with_reducible rfl
      rotate_left
      · simp only [Act.put, List.setIfInBounds_toArray, List.set_cons_zero, List.set_cons_succ, i64_w, i32_w]
        rfl
      refine pure_ (i := 4) (N := some 131) (v := ?_) (a' := ?_) #[true, true, true, true, true, false, false, false, false, false, false, false, false, false, false] rfl rfl (by kernel_rfl) (fun _ _ _ h => h) (Or.inl ⟨by rfl, ?_⟩) ?_ ?_
      rotate_left
      · intro w'
        go_simp
        with_reducible rfl
      rotate_left
      · simp only [Act.put, List.setIfInBounds_toArray, List.set_cons_zero, List.set_cons_succ, i64_w, i32_w]
        rfl
      refine pure_ (i := 5) (N := some 132) (v := ?_) (a' := ?_) #[true, true, true, true, true, true, false, false, false, false, false, false, false, false, false] rfl rfl (by kernel_rfl) (fun _ _ _ h => h) (Or.inl ⟨by rfl, ?_⟩) ?_ ?_
      rotate_left
      · intro w'
        go_simp
        with_reducible rfl
      rotate_left
      · simp only [Act.put, List.setIfInBounds_toArray, List.set_cons_zero, List.set_cons_succ, i64_w, i32_w]
        rfl
      refine pure_ (i := 10) (N := some 137) (v := ?_) (a' := ?_) #[true, true, true, true, true, true, false, false, false, false, true, false, false, false, false] rfl rfl (by kernel_rfl) (fun _ _ _ h => h) (Or.inl ⟨by rfl, ?_⟩) ?_ ?_
      rotate_left
      · intro w'
        go_simp
        with_reducible rfl
      rotate_left
      · simp only [Act.put, List.setIfInBounds_toArray, List.set_cons_zero, List.set_cons_succ, i64_w, i32_w]
        rfl
      refine take_ (i := 6) (N := some 133) (v := ?_) (a' := ?_) #[true, true, true, true, true, true, true, false, false, false, true, false, false, false, false] rfl rfl (by kernel_rfl) (fun _ _ _ h => h) (Or.inl ⟨by rfl, ?_⟩) hHeld ?_ ?_
      rotate_left
      · rintro w' ⟨s0, s1⟩
        go_simp
        with_reducible rfl
      rotate_left
      · simp only [Act.put, List.setIfInBounds_toArray, List.set_cons_zero, List.set_cons_succ, i64_w, i32_w]
        rfl
      refine take_ (i := 11) (N := some 138) (v := ?_) (a' := ?_) #[true, true, true, true, true, true, true, false, false, false, true, true, false, false, false] rfl rfl (by kernel_rfl) (fun _ _ _ h => h) (Or.inl ⟨by rfl, ?_⟩) hHeld ?_ ?_
      rotate_left
      · rintro w' ⟨s0, s1⟩
        go_simp
        with_reducible rfl
      rotate_left
      · simp only [Act.put, List.setIfInBounds_toArray, List.set_cons_zero, List.set_cons_succ, i64_w, i32_w]
        rfl
      refine pure_ (i := 12) (N := some 139) (v := ?_) (a' := ?_) #[true, true, true, true, true, true, true, false, false, false, true, true, true, false, false] rfl rfl (by kernel_rfl) (fun _ _ _ h => h) (Or.inl ⟨by rfl, ?_⟩) ?_ ?_
      rotate_left
      · intro w'
        go_simp
        with_reducible rfl
      rotate_left
      · simp only [Act.put, List.setIfInBounds_toArray, List.set_cons_zero, List.set_cons_succ, i64_w, i32_w]
        rfl
      refine one_ (i := 7) (N := some 134) #[true, true, true, true, true, true, true, true, false, false, true, true, true, false, false] rfl rfl (by kernel_rfl) (by decide) (fun K hK => ?_)
      refine goes_ Tryd.func17 (by kernel_rfl) rfl #[.int .i64 (ud : Int)] (by rfl) rfl rfl (by simp only [List.map_toArray, List.map_cons, List.map_nil]; rfl) ?_
      refine (text_d ud dd DD.out (by have := HR.out; omega) _).mono ?_
      rintro e' w4 ⟨rfl, hb⟩
      refine ⟨_, rfl, ?_⟩
      have B4 := Aside0.mk (below_step (below_drew B3.out) hb)
      clear hb
      refine hK.out _ _ ⟨((blk_cell (blk_below OX.out B4.out) 3).trans rfl), ((blk_cell (blk_below OX.out B4.out) 4).trans rfl)⟩ (fun hHeld => ?_)
      clear hK K
      refine norm_ (a' := ?_) ?_ ?_
      rotate_left
      · show Act.put _ (some 134) _ = _
        simp only [Act.put, List.setIfInBounds_toArray, List.set_cons_zero, List.set_cons_succ, i64_w, i32_w]
        rfl
      refine pure_ (i := 8) (N := some 135) (v := ?_) (a' := ?_) #[true, true, true, true, true, true, true, true, true, false, true, true, true, false, false] rfl rfl (by kernel_rfl) (fun _ _ _ h => h) (Or.inl ⟨by rfl, ?_⟩) ?_ ?_
      rotate_left
      · intro w'
        go_simp
        with_reducible rfl
      rotate_left
      · simp only [Act.put, List.setIfInBounds_toArray, List.set_cons_zero, List.set_cons_succ, i64_w, i32_w]
        rfl
      refine pure_ (i := 9) (N := some 136) (v := ?_) (a' := ?_) #[true, true, true, true, true, true, true, true, true, true, true, true, true, false, false] rfl rfl (by kernel_rfl) (fun _ _ _ h => h) (Or.inl ⟨by rfl, ?_⟩) ?_ ?_
      rotate_left
      · intro w'
        go_simp
        with_reducible rfl
      rotate_left
      · simp only [Act.put, List.setIfInBounds_toArray, List.set_cons_zero, List.set_cons_succ, i64_w, i32_w]
        rfl
      refine pure_ (i := 13) (N := some 2) (v := ?_) (a' := ?_) #[true, true, true, true, true, true, true, true, true, true, true, true, true, true, false] rfl rfl (by kernel_rfl) (fun _ _ _ h => h) (Or.inl ⟨by rfl, ?_⟩) ?_ ?_
      rotate_left
      · intro w'
        go_simp
        with_reducible rfl
      rotate_left
      · simp only [Act.put, List.setIfInBounds_toArray, List.set_cons_zero, List.set_cons_succ, i64_w, i32_w]
        rfl
      refine pure_ (i := 14) (N := some 3) (v := ?_) (a' := ?_) #[true, true, true, true, true, true, true, true, true, true, true, true, true, true, true] rfl rfl (by kernel_rfl) (fun _ _ _ h => h) (Or.inl ⟨by rfl, ?_⟩) ?_ ?_
      rotate_left
      · intro w'
        go_simp
        with_reducible rfl
      rotate_left
      · simp only [Act.put, List.setIfInBounds_toArray, List.set_cons_zero, List.set_cons_succ, i64_w, i32_w]
        rfl
      refine done_ (by kernel_rfl) ?_
      go_wp2
      first | go_ret | go_ret2
      exact ⟨by first | rfl | simp, below_step OB.out B4.out⟩
    have k5 : (k == 5) = false := beq_eq_false_iff_ne.2 hk
    have hXA := HXA.out
    have hXB := HXB.out
    obtain rfl : r = (([] : List UInt8), false) := HRS.out.symm.trans (by simp [lineT, lineB, hk, n1.out, n2.out, n3.out, n4.out, n6.out])
    clear HRS hXA hXB
    go_wp2
    first | go_ret | go_ret2
    exact ⟨by first | rfl | simp, below_step OB.out B3.out⟩
  by_cases hd0 : (ud : Int) = 0
  rotate_left
  · have zb : ((ub : Int) == 0) = true := by rw [hb0]; rfl
    have zc : ((uc : Int) == 0) = true := by rw [hc0]; rfl
    have zd : ((ud : Int) == 0) = false := beq_eq_false_iff_ne.2 hd0
    have HAL := Aside0.mk (show ((ub : Int) == 0 && ((uc : Int) == 0 && (ud : Int) == 0)) = false by simp [zb, zc, zd])
    clear hb0 hc0 hd0
    go_upto_region 7 with (fail)
    clear zb zc zd
    by_cases hk : k = 1
    · subst hk
      have hXA := HXA.out
      have hXB := HXB.out
      obtain ⟨X1, hX1⟩ : ∃ X, X = ([115, 117, 98, 109, 105, 116] : List UInt8) ++ XA := ⟨_, rfl⟩
      have LX1 := Aside0.mk (show X1.length ≤ 100 by have := LA.out; have := LB.out; have := LC.out; have := LD.out; have := LXA.out; have := LXB.out; rw [hX1, List.length_append]; (try simp only [List.length_cons, List.length_nil]); omega)
      have p0 : ∀ W : World, (Op.stringOp .add (⟨([115, 117, 98, 109, 105, 116] : List UInt8).toArray⟩ : ByteArray) ⟨(XA : List UInt8).toArray⟩).run Tryd.prog W = .ok (.string ⟨X1.toArray⟩) W := by rw [hX1]; exact add_lit _ _ (by have := LA.out; have := LB.out; have := LC.out; have := LD.out; have := LXA.out; have := LXB.out; (try simp only [List.length_cons, List.length_nil]); omega)
      obtain ⟨X2, hX2⟩ : ∃ X, X = (X1 : List UInt8) ++ XB := ⟨_, rfl⟩
      have LX2 := Aside0.mk (show X2.length ≤ 200 by have := LA.out; have := LB.out; have := LC.out; have := LD.out; have := LXA.out; have := LXB.out; have := LX1.out; rw [hX2, List.length_append]; (try simp only [List.length_cons, List.length_nil]); omega)
      have p1 : ∀ W : World, (Op.stringOp .add (⟨(X1 : List UInt8).toArray⟩ : ByteArray) ⟨(XB : List UInt8).toArray⟩).run Tryd.prog W = .ok (.string ⟨X2.toArray⟩) W := by rw [hX2]; exact add_lit _ _ (by have := LA.out; have := LB.out; have := LC.out; have := LD.out; have := LXA.out; have := LXB.out; have := LX1.out; (try simp only [List.length_cons, List.length_nil]); omega)
      obtain ⟨X3, hX3⟩ : ∃ X, X = (X2 : List UInt8) ++ [32] := ⟨_, rfl⟩
      have LX3 := Aside0.mk (show X3.length ≤ 300 by have := LA.out; have := LB.out; have := LC.out; have := LD.out; have := LXA.out; have := LXB.out; have := LX2.out; rw [hX3, List.length_append]; (try simp only [List.length_cons, List.length_nil]); omega)
      have p2 : ∀ W : World, (Op.stringOp .add (⟨(X2 : List UInt8).toArray⟩ : ByteArray) ⟨([32] : List UInt8).toArray⟩).run Tryd.prog W = .ok (.string ⟨X3.toArray⟩) W := by rw [hX3]; exact add_lit _ _ (by have := LA.out; have := LB.out; have := LC.out; have := LD.out; have := LXA.out; have := LXB.out; have := LX2.out; (try simp only [List.length_cons, List.length_nil]); omega)
      obtain ⟨X4, hX4⟩ : ∃ X, X = (X3 : List UInt8) ++ dc := ⟨_, rfl⟩
      have LX4 := Aside0.mk (show X4.length ≤ 400 by have := LA.out; have := LB.out; have := LC.out; have := LD.out; have := LXA.out; have := LXB.out; have := LX3.out; rw [hX4, List.length_append]; (try simp only [List.length_cons, List.length_nil]); omega)
      have p3 : ∀ W : World, (Op.stringOp .add (⟨(X3 : List UInt8).toArray⟩ : ByteArray) ⟨(dc : List UInt8).toArray⟩).run Tryd.prog W = .ok (.string ⟨X4.toArray⟩) W := by rw [hX4]; exact add_lit _ _ (by have := LA.out; have := LB.out; have := LC.out; have := LD.out; have := LXA.out; have := LXB.out; have := LX3.out; (try simp only [List.length_cons, List.length_nil]); omega)
      obtain ⟨X5, hX5⟩ : ∃ X, X = (X4 : List UInt8) ++ [10] := ⟨_, rfl⟩
      have LX5 := Aside0.mk (show X5.length ≤ 500 by have := LA.out; have := LB.out; have := LC.out; have := LD.out; have := LXA.out; have := LXB.out; have := LX4.out; rw [hX5, List.length_append]; (try simp only [List.length_cons, List.length_nil]); omega)
      have p4 : ∀ W : World, (Op.stringOp .add (⟨(X4 : List UInt8).toArray⟩ : ByteArray) ⟨([10] : List UInt8).toArray⟩).run Tryd.prog W = .ok (.string ⟨X5.toArray⟩) W := by rw [hX5]; exact add_lit _ _ (by have := LA.out; have := LB.out; have := LC.out; have := LD.out; have := LXA.out; have := LXB.out; have := LX4.out; (try simp only [List.length_cons, List.length_nil]); omega)
      obtain rfl : r = (X5, ((ud : Int) == 0)) := HRS.out.symm.trans (by rw [hX5, hX4, hX3, hX2, hX1, hXA, hXB]; rfl)
      clear HRS hXA hXB
      clear hX1
      clear hX2
      clear hX3
      clear hX4
      clear hX5
      go_upto_region 8 with (fail)
      refine start_ (n := 15) (S := fun w' => w'.cell? ⟨G, 3, none⟩ = some (.int .i64 (uc : Int)) ∧ w'.cell? ⟨G, 4, none⟩ = some (.int .i64 (ud : Int))) (ds := []) #[false, false, false, false, false, false, false, false, false, false, false, false, false, false, false] (by kernel_rfl) rfl rfl ⟨((blk_cell (blk_below OX.out (below_drew B3.out)) 3).trans rfl), ((blk_cell (blk_below OX.out (below_drew B3.out)) 4).trans rfl)⟩ (fun hHeld => ?_)
      refine pure_ (i := 0) (N := some 62) (v := ?_) (a' := ?_) #[true, false, false, false, false, false, false, false, false, false, false, false, false, false, false] rfl rfl (by kernel_rfl) (fun _ _ _ h => h) (Or.inl ⟨by rfl, ?_⟩) ?_ ?_
      rotate_left
      · intro w'
        go_simp
        with_reducible rfl
      rotate_left
      · simp only [Act.put, List.setIfInBounds_toArray, List.set_cons_zero, List.set_cons_succ, i64_w, i32_w]
        rfl
      refine pure_ (i := 1) (N := some 63) (v := ?_) (a' := ?_) #[true, true, false, false, false, false, false, false, false, false, false, false, false, false, false] rfl rfl (by kernel_rfl) (fun _ _ _ h => h) (Or.inl ⟨by rfl, ?_⟩) ?_ ?_
      rotate_left
      · intro w'
        go_simp
        with_reducible rfl
      rotate_left
      · simp only [Act.put, List.setIfInBounds_toArray, List.set_cons_zero, List.set_cons_succ, i64_w, i32_w]
        rfl
      refine pure_ (i := 2) (N := some 64) (v := ?_) (a' := ?_) #[true, true, true, false, false, false, false, false, false, false, false, false, false, false, false] rfl rfl (by kernel_rfl) (fun _ _ _ h => h) (Or.inl ⟨by rfl, ?_⟩) ?_ ?_
      rotate_left
      · intro w'
        go_simp
        with_reducible rfl
      rotate_left
      · simp only [Act.put, List.setIfInBounds_toArray, List.set_cons_zero, List.set_cons_succ, i64_w, i32_w]
        rfl
      refine pure_ (i := 3) (N := some 65) (v := ?_) (a' := ?_) #[true, true, true, true, false, false, false, false, false, false, false, false, false, false, false] rfl rfl (by kernel_rfl) (fun _ _ _ h => h) (Or.inl ⟨by rfl, ?_⟩) ?_ ?_
      rotate_left
      · intro w'
        go_simp
        with_reducible rfl
      rotate_left
      · simp only [Act.put, List.setIfInBounds_toArray, List.set_cons_zero, List.set_cons_succ, i64_w, i32_w]
        rfl
      refine pure_ (i := 4) (N := some 66) (v := ?_) (a' := ?_) #[true, true, true, true, true, false, false, false, false, false, false, false, false, false, false] rfl rfl (by kernel_rfl) (fun _ _ _ h => h) (Or.inl ⟨by rfl, ?_⟩) ?_ ?_
      rotate_left
      · intro w'
        go_simp
        with_reducible rfl
      rotate_left
      · simp only [Act.put, List.setIfInBounds_toArray, List.set_cons_zero, List.set_cons_succ, i64_w, i32_w]
        rfl
      refine pure_ (i := 5) (N := some 67) (v := ?_) (a' := ?_) #[true, true, true, true, true, true, false, false, false, false, false, false, false, false, false] rfl rfl (by kernel_rfl) (fun _ _ _ h => h) (Or.inl ⟨by rfl, ?_⟩) ?_ ?_
      rotate_left
      · intro w'
        go_simp
        with_reducible rfl
      rotate_left
      · simp only [Act.put, List.setIfInBounds_toArray, List.set_cons_zero, List.set_cons_succ, i64_w, i32_w]
        rfl
      refine pure_ (i := 10) (N := some 72) (v := ?_) (a' := ?_) #[true, true, true, true, true, true, false, false, false, false, true, false, false, false, false] rfl rfl (by kernel_rfl) (fun _ _ _ h => h) (Or.inl ⟨by rfl, ?_⟩) ?_ ?_
      rotate_left
      · intro w'
        go_simp
        with_reducible rfl
      rotate_left
      · simp only [Act.put, List.setIfInBounds_toArray, List.set_cons_zero, List.set_cons_succ, i64_w, i32_w]
        rfl
      refine take_ (i := 6) (N := some 68) (v := ?_) (a' := ?_) #[true, true, true, true, true, true, true, false, false, false, true, false, false, false, false] rfl rfl (by kernel_rfl) (fun _ _ _ h => h) (Or.inl ⟨by rfl, ?_⟩) hHeld ?_ ?_
      rotate_left
      · rintro w' ⟨s0, s1⟩
        go_simp
        with_reducible rfl
      rotate_left
      · simp only [Act.put, List.setIfInBounds_toArray, List.set_cons_zero, List.set_cons_succ, i64_w, i32_w]
        rfl
      refine take_ (i := 11) (N := some 73) (v := ?_) (a' := ?_) #[true, true, true, true, true, true, true, false, false, false, true, true, false, false, false] rfl rfl (by kernel_rfl) (fun _ _ _ h => h) (Or.inl ⟨by rfl, ?_⟩) hHeld ?_ ?_
      rotate_left
      · rintro w' ⟨s0, s1⟩
        go_simp
        with_reducible rfl
      rotate_left
      · simp only [Act.put, List.setIfInBounds_toArray, List.set_cons_zero, List.set_cons_succ, i64_w, i32_w]
        rfl
      refine pure_ (i := 12) (N := some 74) (v := ?_) (a' := ?_) #[true, true, true, true, true, true, true, false, false, false, true, true, true, false, false] rfl rfl (by kernel_rfl) (fun _ _ _ h => h) (Or.inl ⟨by rfl, ?_⟩) ?_ ?_
      rotate_left
      · intro w'
        go_simp
        with_reducible rfl
      rotate_left
      · simp only [Act.put, List.setIfInBounds_toArray, List.set_cons_zero, List.set_cons_succ, i64_w, i32_w]
        rfl
      refine one_ (i := 7) (N := some 69) #[true, true, true, true, true, true, true, true, false, false, true, true, true, false, false] rfl rfl (by kernel_rfl) (by decide) (fun K hK => ?_)
      refine goes_ Tryd.func17 (by kernel_rfl) rfl #[.int .i64 (uc : Int)] (by rfl) rfl rfl (by simp only [List.map_toArray, List.map_cons, List.map_nil]; rfl) ?_
      refine (text_d uc dc DC.out (by have := HR.out; omega) _).mono ?_
      rintro e' w4 ⟨rfl, hb⟩
      refine ⟨_, rfl, ?_⟩
      have B4 := Aside0.mk (below_step (below_drew B3.out) hb)
      clear hb
      refine hK.out _ _ ⟨((blk_cell (blk_below OX.out B4.out) 3).trans rfl), ((blk_cell (blk_below OX.out B4.out) 4).trans rfl)⟩ (fun hHeld => ?_)
      clear hK K
      refine norm_ (a' := ?_) ?_ ?_
      rotate_left
      · show Act.put _ (some 69) _ = _
        simp only [Act.put, List.setIfInBounds_toArray, List.set_cons_zero, List.set_cons_succ, i64_w, i32_w]
        rfl
      refine pure_ (i := 8) (N := some 70) (v := ?_) (a' := ?_) #[true, true, true, true, true, true, true, true, true, false, true, true, true, false, false] rfl rfl (by kernel_rfl) (fun _ _ _ h => h) (Or.inl ⟨by rfl, ?_⟩) ?_ ?_
      rotate_left
      · intro w'
        go_simp
        with_reducible rfl
      rotate_left
      · simp only [Act.put, List.setIfInBounds_toArray, List.set_cons_zero, List.set_cons_succ, i64_w, i32_w]
        rfl
      refine pure_ (i := 9) (N := some 71) (v := ?_) (a' := ?_) #[true, true, true, true, true, true, true, true, true, true, true, true, true, false, false] rfl rfl (by kernel_rfl) (fun _ _ _ h => h) (Or.inl ⟨by rfl, ?_⟩) ?_ ?_
      rotate_left
      · intro w'
        go_simp
        with_reducible rfl
      rotate_left
      · simp only [Act.put, List.setIfInBounds_toArray, List.set_cons_zero, List.set_cons_succ, i64_w, i32_w]
        rfl
      refine pure_ (i := 13) (N := some 2) (v := ?_) (a' := ?_) #[true, true, true, true, true, true, true, true, true, true, true, true, true, true, false] rfl rfl (by kernel_rfl) (fun _ _ _ h => h) (Or.inl ⟨by rfl, ?_⟩) ?_ ?_
      rotate_left
      · intro w'
        go_simp
        with_reducible rfl
      rotate_left
      · simp only [Act.put, List.setIfInBounds_toArray, List.set_cons_zero, List.set_cons_succ, i64_w, i32_w]
        rfl
      refine pure_ (i := 14) (N := some 3) (v := ?_) (a' := ?_) #[true, true, true, true, true, true, true, true, true, true, true, true, true, true, true] rfl rfl (by kernel_rfl) (fun _ _ _ h => h) (Or.inl ⟨by rfl, ?_⟩) ?_ ?_
      rotate_left
      · intro w'
        go_simp
        with_reducible rfl
      rotate_left
      · simp only [Act.put, List.setIfInBounds_toArray, List.set_cons_zero, List.set_cons_succ, i64_w, i32_w]
        rfl
      refine done_ (by kernel_rfl) ?_
      go_wp2
      first | go_ret | go_ret2
      exact ⟨by first | rfl | simp, below_step OB.out B4.out⟩
    have k1 : (k == 1) = false := beq_eq_false_iff_ne.2 hk
    have n1 := Aside0.mk hk
    clear hk
    by_cases hk : k = 2
    · subst hk
      have hXA := HXA.out
      have hXB := HXB.out
      obtain ⟨X1, hX1⟩ : ∃ X, X = ([99, 97, 110, 99, 101, 108] : List UInt8) ++ XA := ⟨_, rfl⟩
      have LX1 := Aside0.mk (show X1.length ≤ 100 by have := LA.out; have := LB.out; have := LC.out; have := LD.out; have := LXA.out; have := LXB.out; rw [hX1, List.length_append]; (try simp only [List.length_cons, List.length_nil]); omega)
      have p0 : ∀ W : World, (Op.stringOp .add (⟨([99, 97, 110, 99, 101, 108] : List UInt8).toArray⟩ : ByteArray) ⟨(XA : List UInt8).toArray⟩).run Tryd.prog W = .ok (.string ⟨X1.toArray⟩) W := by rw [hX1]; exact add_lit _ _ (by have := LA.out; have := LB.out; have := LC.out; have := LD.out; have := LXA.out; have := LXB.out; (try simp only [List.length_cons, List.length_nil]); omega)
      obtain ⟨X2, hX2⟩ : ∃ X, X = (X1 : List UInt8) ++ [10] := ⟨_, rfl⟩
      have LX2 := Aside0.mk (show X2.length ≤ 200 by have := LA.out; have := LB.out; have := LC.out; have := LD.out; have := LXA.out; have := LXB.out; have := LX1.out; rw [hX2, List.length_append]; (try simp only [List.length_cons, List.length_nil]); omega)
      have p1 : ∀ W : World, (Op.stringOp .add (⟨(X1 : List UInt8).toArray⟩ : ByteArray) ⟨([10] : List UInt8).toArray⟩).run Tryd.prog W = .ok (.string ⟨X2.toArray⟩) W := by rw [hX2]; exact add_lit _ _ (by have := LA.out; have := LB.out; have := LC.out; have := LD.out; have := LXA.out; have := LXB.out; have := LX1.out; (try simp only [List.length_cons, List.length_nil]); omega)
      obtain rfl : r = (X2, false) := HRS.out.symm.trans (by rw [hX2, hX1, hXA]; rw [← HAL.out]; rfl)
      clear HRS hXA hXB
      clear hX1
      clear hX2
      go_wp2
      first | go_ret | go_ret2
      exact ⟨by first | rfl | simp, below_step OB.out B3.out⟩
    have k2 : (k == 2) = false := beq_eq_false_iff_ne.2 hk
    have n2 := Aside0.mk hk
    clear hk
    by_cases hk : k = 3
    · subst hk
      have hXA := HXA.out
      have hXB := HXB.out
      obtain rfl : r = ([116, 105, 99, 107, 10], false) := HRS.out.symm.trans (by show (_, ((_ && (_ && _)) && _)) = _; rw [HAL.out]; rfl)
      clear HRS hXA hXB
      go_upto_region 12 with (fail)
      refine start_ (n := 8) (S := fun w' => w'.cell? ⟨G, 1, none⟩ = some (.int .i64 (ua : Int))) (ds := []) #[false, false, false, false, false, false, false, false] (by kernel_rfl) rfl rfl (((blk_cell (blk_below OX.out (below_drew B3.out)) 1).trans rfl)) (fun hHeld => ?_)
      refine pure_ (i := 0) (N := some 83) (v := ?_) (a' := ?_) #[true, false, false, false, false, false, false, false] rfl rfl (by kernel_rfl) (fun _ _ _ h => h) (Or.inl ⟨by rfl, ?_⟩) ?_ ?_
      rotate_left
      · intro w'
        go_simp
        with_reducible rfl
      rotate_left
      · simp only [Act.put, List.setIfInBounds_toArray, List.set_cons_zero, List.set_cons_succ, i64_w, i32_w]
        rfl
      refine pure_ (i := 1) (N := some 84) (v := ?_) (a' := ?_) #[true, true, false, false, false, false, false, false] rfl rfl (by kernel_rfl) (fun _ _ _ h => h) (Or.inl ⟨by rfl, ?_⟩) ?_ ?_
      rotate_left
      · intro w'
        go_simp
        with_reducible rfl
      rotate_left
      · simp only [Act.put, List.setIfInBounds_toArray, List.set_cons_zero, List.set_cons_succ, i64_w, i32_w]
        rfl
      refine pure_ (i := 2) (N := some 85) (v := undef) (a' := ?_) #[true, true, true, false, false, false, false, false] rfl rfl (by kernel_rfl) (fun _ _ _ h => h) (Or.inr ⟨by rfl, rfl⟩) ?_ ?_
      rotate_left
      · simp only [Act.put, List.setIfInBounds_toArray, List.set_cons_zero, List.set_cons_succ, i64_w, i32_w]
        rfl
      refine pure_ (i := 3) (N := some 86) (v := undef) (a' := ?_) #[true, true, true, true, false, false, false, false] rfl rfl (by kernel_rfl) (fun _ _ _ h => h) (Or.inr ⟨by rfl, rfl⟩) ?_ ?_
      rotate_left
      · simp only [Act.put, List.setIfInBounds_toArray, List.set_cons_zero, List.set_cons_succ, i64_w, i32_w]
        rfl
      refine pure_ (i := 4) (N := some 87) (v := undef) (a' := ?_) #[true, true, true, true, true, false, false, false] rfl rfl (by kernel_rfl) (fun _ _ _ h => h) (Or.inr ⟨by rfl, rfl⟩) ?_ ?_
      rotate_left
      · simp only [Act.put, List.setIfInBounds_toArray, List.set_cons_zero, List.set_cons_succ, i64_w, i32_w]
        rfl
      refine pure_ (i := 5) (N := some 88) (v := ?_) (a' := ?_) #[true, true, true, true, true, true, false, false] rfl rfl (by kernel_rfl) (fun _ _ _ h => h) (Or.inl ⟨by rfl, ?_⟩) ?_ ?_
      rotate_left
      · intro w'
        go_simp
        with_reducible rfl
      rotate_left
      · simp only [Act.put, List.setIfInBounds_toArray, List.set_cons_zero, List.set_cons_succ, i64_w, i32_w]
        rfl
      refine pure_ (i := 6) (N := some 2) (v := ?_) (a' := ?_) #[true, true, true, true, true, true, true, false] rfl rfl (by kernel_rfl) (fun _ _ _ h => h) (Or.inl ⟨by rfl, ?_⟩) ?_ ?_
      rotate_left
      · intro w'
        go_simp
        with_reducible rfl
      rotate_left
      · simp only [Act.put, List.setIfInBounds_toArray, List.set_cons_zero, List.set_cons_succ, i64_w, i32_w]
        rfl
      refine pure_ (i := 7) (N := some 3) (v := ?_) (a' := ?_) #[true, true, true, true, true, true, true, true] rfl rfl (by kernel_rfl) (fun _ _ _ h => h) (Or.inl ⟨by rfl, ?_⟩) ?_ ?_
      rotate_left
      · intro w'
        go_simp
        with_reducible rfl
      rotate_left
      · simp only [Act.put, List.setIfInBounds_toArray, List.set_cons_zero, List.set_cons_succ, i64_w, i32_w]
        rfl
      refine done_ (by kernel_rfl) ?_
      go_wp2
      first | go_ret | go_ret2
      exact ⟨by first | rfl | simp, below_step OB.out (below_drew B3.out)⟩
    have k3 : (k == 3) = false := beq_eq_false_iff_ne.2 hk
    have n3 := Aside0.mk hk
    clear hk
    by_cases hk : k = 4
    · subst hk
      have hXA := HXA.out
      have hXB := HXB.out
      obtain rfl : r = ([100, 105, 115, 112, 97, 116, 99, 104, 10], false) := HRS.out.symm.trans (by show (_, ((_ && (_ && _)) && _)) = _; rw [HAL.out]; rfl)
      clear HRS hXA hXB
      go_upto_region 14 with (fail)
      refine start_ (n := 8) (S := fun w' => w'.cell? ⟨G, 1, none⟩ = some (.int .i64 (ua : Int))) (ds := []) #[false, false, false, false, false, false, false, false] (by kernel_rfl) rfl rfl (((blk_cell (blk_below OX.out (below_drew B3.out)) 1).trans rfl)) (fun hHeld => ?_)
      refine pure_ (i := 0) (N := some 91) (v := ?_) (a' := ?_) #[true, false, false, false, false, false, false, false] rfl rfl (by kernel_rfl) (fun _ _ _ h => h) (Or.inl ⟨by rfl, ?_⟩) ?_ ?_
      rotate_left
      · intro w'
        go_simp
        with_reducible rfl
      rotate_left
      · simp only [Act.put, List.setIfInBounds_toArray, List.set_cons_zero, List.set_cons_succ, i64_w, i32_w]
        rfl
      refine pure_ (i := 1) (N := some 92) (v := ?_) (a' := ?_) #[true, true, false, false, false, false, false, false] rfl rfl (by kernel_rfl) (fun _ _ _ h => h) (Or.inl ⟨by rfl, ?_⟩) ?_ ?_
      rotate_left
      · intro w'
        go_simp
        with_reducible rfl
      rotate_left
      · simp only [Act.put, List.setIfInBounds_toArray, List.set_cons_zero, List.set_cons_succ, i64_w, i32_w]
        rfl
      refine pure_ (i := 2) (N := some 93) (v := undef) (a' := ?_) #[true, true, true, false, false, false, false, false] rfl rfl (by kernel_rfl) (fun _ _ _ h => h) (Or.inr ⟨by rfl, rfl⟩) ?_ ?_
      rotate_left
      · simp only [Act.put, List.setIfInBounds_toArray, List.set_cons_zero, List.set_cons_succ, i64_w, i32_w]
        rfl
      refine pure_ (i := 3) (N := some 94) (v := undef) (a' := ?_) #[true, true, true, true, false, false, false, false] rfl rfl (by kernel_rfl) (fun _ _ _ h => h) (Or.inr ⟨by rfl, rfl⟩) ?_ ?_
      rotate_left
      · simp only [Act.put, List.setIfInBounds_toArray, List.set_cons_zero, List.set_cons_succ, i64_w, i32_w]
        rfl
      refine pure_ (i := 4) (N := some 95) (v := undef) (a' := ?_) #[true, true, true, true, true, false, false, false] rfl rfl (by kernel_rfl) (fun _ _ _ h => h) (Or.inr ⟨by rfl, rfl⟩) ?_ ?_
      rotate_left
      · simp only [Act.put, List.setIfInBounds_toArray, List.set_cons_zero, List.set_cons_succ, i64_w, i32_w]
        rfl
      refine pure_ (i := 5) (N := some 96) (v := ?_) (a' := ?_) #[true, true, true, true, true, true, false, false] rfl rfl (by kernel_rfl) (fun _ _ _ h => h) (Or.inl ⟨by rfl, ?_⟩) ?_ ?_
      rotate_left
      · intro w'
        go_simp
        with_reducible rfl
      rotate_left
      · simp only [Act.put, List.setIfInBounds_toArray, List.set_cons_zero, List.set_cons_succ, i64_w, i32_w]
        rfl
      refine pure_ (i := 6) (N := some 2) (v := ?_) (a' := ?_) #[true, true, true, true, true, true, true, false] rfl rfl (by kernel_rfl) (fun _ _ _ h => h) (Or.inl ⟨by rfl, ?_⟩) ?_ ?_
      rotate_left
      · intro w'
        go_simp
        with_reducible rfl
      rotate_left
      · simp only [Act.put, List.setIfInBounds_toArray, List.set_cons_zero, List.set_cons_succ, i64_w, i32_w]
        rfl
      refine pure_ (i := 7) (N := some 3) (v := ?_) (a' := ?_) #[true, true, true, true, true, true, true, true] rfl rfl (by kernel_rfl) (fun _ _ _ h => h) (Or.inl ⟨by rfl, ?_⟩) ?_ ?_
      rotate_left
      · intro w'
        go_simp
        with_reducible rfl
      rotate_left
      · simp only [Act.put, List.setIfInBounds_toArray, List.set_cons_zero, List.set_cons_succ, i64_w, i32_w]
        rfl
      refine done_ (by kernel_rfl) ?_
      go_wp2
      first | go_ret | go_ret2
      exact ⟨by first | rfl | simp, below_step OB.out (below_drew B3.out)⟩
    have k4 : (k == 4) = false := beq_eq_false_iff_ne.2 hk
    have n4 := Aside0.mk hk
    clear hk
    by_cases hk : k = 6
    · subst hk
      have hXA := HXA.out
      have hXB := HXB.out
      obtain ⟨X1, hX1⟩ : ∃ X, X = ([113, 117, 101, 114, 121] : List UInt8) ++ XA := ⟨_, rfl⟩
      have LX1 := Aside0.mk (show X1.length ≤ 100 by have := LA.out; have := LB.out; have := LC.out; have := LD.out; have := LXA.out; have := LXB.out; rw [hX1, List.length_append]; (try simp only [List.length_cons, List.length_nil]); omega)
      have p0 : ∀ W : World, (Op.stringOp .add (⟨([113, 117, 101, 114, 121] : List UInt8).toArray⟩ : ByteArray) ⟨(XA : List UInt8).toArray⟩).run Tryd.prog W = .ok (.string ⟨X1.toArray⟩) W := by rw [hX1]; exact add_lit _ _ (by have := LA.out; have := LB.out; have := LC.out; have := LD.out; have := LXA.out; have := LXB.out; (try simp only [List.length_cons, List.length_nil]); omega)
      obtain ⟨X2, hX2⟩ : ∃ X, X = (X1 : List UInt8) ++ [10] := ⟨_, rfl⟩
      have LX2 := Aside0.mk (show X2.length ≤ 200 by have := LA.out; have := LB.out; have := LC.out; have := LD.out; have := LXA.out; have := LXB.out; have := LX1.out; rw [hX2, List.length_append]; (try simp only [List.length_cons, List.length_nil]); omega)
      have p1 : ∀ W : World, (Op.stringOp .add (⟨(X1 : List UInt8).toArray⟩ : ByteArray) ⟨([10] : List UInt8).toArray⟩).run Tryd.prog W = .ok (.string ⟨X2.toArray⟩) W := by rw [hX2]; exact add_lit _ _ (by have := LA.out; have := LB.out; have := LC.out; have := LD.out; have := LXA.out; have := LXB.out; have := LX1.out; (try simp only [List.length_cons, List.length_nil]); omega)
      obtain rfl : r = (X2, false) := HRS.out.symm.trans (by rw [hX2, hX1, hXA]; rw [← HAL.out]; rfl)
      clear HRS hXA hXB
      clear hX1
      clear hX2
      go_wp2
      first | go_ret | go_ret2
      exact ⟨by first | rfl | simp, below_step OB.out B3.out⟩
    have k6 : (k == 6) = false := beq_eq_false_iff_ne.2 hk
    have n6 := Aside0.mk hk
    clear hk
    by_cases hk : k = 5
    · subst hk
      clear k1 k2 k3 k4 k6 n1 n2 n3 n4 n6
      by_cases hc : (uc : Int) = 1
      · have c1 : ((uc : Int) == 1) = true := by rw [hc]; rfl
        have hXA := HXA.out
        have hXB := HXB.out
        obtain ⟨X1, hX1⟩ : ∃ X, X = ([97, 110, 115, 119, 101, 114] : List UInt8) ++ XA := ⟨_, rfl⟩
        have LX1 := Aside0.mk (show X1.length ≤ 100 by have := LA.out; have := LB.out; have := LC.out; have := LD.out; have := LXA.out; have := LXB.out; rw [hX1, List.length_append]; (try simp only [List.length_cons, List.length_nil]); omega)
        have p0 : ∀ W : World, (Op.stringOp .add (⟨([97, 110, 115, 119, 101, 114] : List UInt8).toArray⟩ : ByteArray) ⟨(XA : List UInt8).toArray⟩).run Tryd.prog W = .ok (.string ⟨X1.toArray⟩) W := by rw [hX1]; exact add_lit _ _ (by have := LA.out; have := LB.out; have := LC.out; have := LD.out; have := LXA.out; have := LXB.out; (try simp only [List.length_cons, List.length_nil]); omega)
        obtain ⟨X2, hX2⟩ : ∃ X, X = (X1 : List UInt8) ++ XB := ⟨_, rfl⟩
        have LX2 := Aside0.mk (show X2.length ≤ 200 by have := LA.out; have := LB.out; have := LC.out; have := LD.out; have := LXA.out; have := LXB.out; have := LX1.out; rw [hX2, List.length_append]; (try simp only [List.length_cons, List.length_nil]); omega)
        have p1 : ∀ W : World, (Op.stringOp .add (⟨(X1 : List UInt8).toArray⟩ : ByteArray) ⟨(XB : List UInt8).toArray⟩).run Tryd.prog W = .ok (.string ⟨X2.toArray⟩) W := by rw [hX2]; exact add_lit _ _ (by have := LA.out; have := LB.out; have := LC.out; have := LD.out; have := LXA.out; have := LXB.out; have := LX1.out; (try simp only [List.length_cons, List.length_nil]); omega)
        obtain ⟨X3, hX3⟩ : ∃ X, X = (X2 : List UInt8) ++ [32, 100, 105, 100, 10] := ⟨_, rfl⟩
        have LX3 := Aside0.mk (show X3.length ≤ 300 by have := LA.out; have := LB.out; have := LC.out; have := LD.out; have := LXA.out; have := LXB.out; have := LX2.out; rw [hX3, List.length_append]; (try simp only [List.length_cons, List.length_nil]); omega)
        have p2 : ∀ W : World, (Op.stringOp .add (⟨(X2 : List UInt8).toArray⟩ : ByteArray) ⟨([32, 100, 105, 100, 10] : List UInt8).toArray⟩).run Tryd.prog W = .ok (.string ⟨X3.toArray⟩) W := by rw [hX3]; exact add_lit _ _ (by have := LA.out; have := LB.out; have := LC.out; have := LD.out; have := LXA.out; have := LXB.out; have := LX2.out; (try simp only [List.length_cons, List.length_nil]); omega)
        obtain rfl : r = (X3, ((ud : Int) == 0)) := HRS.out.symm.trans (by rw [hX3, hX2, hX1, hXA, hXB]; simp [lineT, lineB, hc])
        clear HRS hXA hXB
        clear hX1
        clear hX2
        clear hX3
        go_upto_region 19 with (fail)
        refine start_ (n := 10) (S := fun w' => w'.cell? ⟨G, 4, none⟩ = some (.int .i64 (ud : Int))) (ds := []) #[false, false, false, false, false, false, false, false, false, false] (by kernel_rfl) rfl rfl (((blk_cell (blk_below OX.out (below_drew B3.out)) 4).trans rfl)) (fun hHeld => ?_)
        refine pure_ (i := 0) (N := some 108) (v := ?_) (a' := ?_) #[true, false, false, false, false, false, false, false, false, false] rfl rfl (by kernel_rfl) (fun _ _ _ h => h) (Or.inl ⟨by rfl, ?_⟩) ?_ ?_
        rotate_left
        · intro w'
          go_simp
          with_reducible rfl
        rotate_left
        · simp only [Act.put, List.setIfInBounds_toArray, List.set_cons_zero, List.set_cons_succ, i64_w, i32_w]
          rfl
        refine pure_ (i := 1) (N := some 109) (v := ?_) (a' := ?_) #[true, true, false, false, false, false, false, false, false, false] rfl rfl (by kernel_rfl) (fun _ _ _ h => h) (Or.inl ⟨by rfl, ?_⟩) ?_ ?_
        rotate_left
        · intro w'
          go_simp
          with_reducible rfl
        rotate_left
        · simp only [Act.put, List.setIfInBounds_toArray, List.set_cons_zero, List.set_cons_succ, i64_w, i32_w]
          rfl
        refine pure_ (i := 2) (N := some 110) (v := ?_) (a' := ?_) #[true, true, true, false, false, false, false, false, false, false] rfl rfl (by kernel_rfl) (fun _ _ _ h => h) (Or.inl ⟨by rfl, ?_⟩) ?_ ?_
        rotate_left
        · intro w'
          go_simp
          with_reducible rfl
        rotate_left
        · simp only [Act.put, List.setIfInBounds_toArray, List.set_cons_zero, List.set_cons_succ, i64_w, i32_w]
          rfl
        refine pure_ (i := 3) (N := some 111) (v := ?_) (a' := ?_) #[true, true, true, true, false, false, false, false, false, false] rfl rfl (by kernel_rfl) (fun _ _ _ h => h) (Or.inl ⟨by rfl, ?_⟩) ?_ ?_
        rotate_left
        · intro w'
          go_simp
          with_reducible rfl
        rotate_left
        · simp only [Act.put, List.setIfInBounds_toArray, List.set_cons_zero, List.set_cons_succ, i64_w, i32_w]
          rfl
        refine pure_ (i := 4) (N := some 112) (v := ?_) (a' := ?_) #[true, true, true, true, true, false, false, false, false, false] rfl rfl (by kernel_rfl) (fun _ _ _ h => h) (Or.inl ⟨by rfl, ?_⟩) ?_ ?_
        rotate_left
        · intro w'
          go_simp
          with_reducible rfl
        rotate_left
        · simp only [Act.put, List.setIfInBounds_toArray, List.set_cons_zero, List.set_cons_succ, i64_w, i32_w]
          rfl
        refine pure_ (i := 5) (N := some 113) (v := ?_) (a' := ?_) #[true, true, true, true, true, true, false, false, false, false] rfl rfl (by kernel_rfl) (fun _ _ _ h => h) (Or.inl ⟨by rfl, ?_⟩) ?_ ?_
        rotate_left
        · intro w'
          go_simp
          with_reducible rfl
        rotate_left
        · simp only [Act.put, List.setIfInBounds_toArray, List.set_cons_zero, List.set_cons_succ, i64_w, i32_w]
          rfl
        refine pure_ (i := 8) (N := some 2) (v := ?_) (a' := ?_) #[true, true, true, true, true, true, false, false, true, false] rfl rfl (by kernel_rfl) (fun _ _ _ h => h) (Or.inl ⟨by rfl, ?_⟩) ?_ ?_
        rotate_left
        · intro w'
          go_simp
          with_reducible rfl
        rotate_left
        · simp only [Act.put, List.setIfInBounds_toArray, List.set_cons_zero, List.set_cons_succ, i64_w, i32_w]
          rfl
        refine take_ (i := 6) (N := some 114) (v := ?_) (a' := ?_) #[true, true, true, true, true, true, true, false, true, false] rfl rfl (by kernel_rfl) (fun _ _ _ h => h) (Or.inl ⟨by rfl, ?_⟩) hHeld ?_ ?_
        rotate_left
        · intro w' s0
          go_simp
          with_reducible rfl
        rotate_left
        · simp only [Act.put, List.setIfInBounds_toArray, List.set_cons_zero, List.set_cons_succ, i64_w, i32_w]
          rfl
        refine pure_ (i := 7) (N := some 115) (v := ?_) (a' := ?_) #[true, true, true, true, true, true, true, true, true, false] rfl rfl (by kernel_rfl) (fun _ _ _ h => h) (Or.inl ⟨by rfl, ?_⟩) ?_ ?_
        rotate_left
        · intro w'
          go_simp
          with_reducible rfl
        rotate_left
        · simp only [Act.put, List.setIfInBounds_toArray, List.set_cons_zero, List.set_cons_succ, i64_w, i32_w]
          rfl
        refine pure_ (i := 9) (N := some 3) (v := ?_) (a' := ?_) #[true, true, true, true, true, true, true, true, true, true] rfl rfl (by kernel_rfl) (fun _ _ _ h => h) (Or.inl ⟨by rfl, ?_⟩) ?_ ?_
        rotate_left
        · intro w'
          go_simp
          with_reducible rfl
        rotate_left
        · simp only [Act.put, List.setIfInBounds_toArray, List.set_cons_zero, List.set_cons_succ, i64_w, i32_w]
          rfl
        refine done_ (by kernel_rfl) ?_
        go_wp2
        first | go_ret | go_ret2
        exact ⟨by first | rfl | simp, below_step OB.out (below_drew B3.out)⟩
      have c1 : ((uc : Int) == 1) = false := beq_eq_false_iff_ne.2 hc
      by_cases hc2 : (uc : Int) = 2
      · have c2 : ((uc : Int) == 2) = true := by rw [hc2]; rfl
        have hXA := HXA.out
        have hXB := HXB.out
        obtain ⟨X1, hX1⟩ : ∃ X, X = ([97, 110, 115, 119, 101, 114] : List UInt8) ++ XA := ⟨_, rfl⟩
        have LX1 := Aside0.mk (show X1.length ≤ 100 by have := LA.out; have := LB.out; have := LC.out; have := LD.out; have := LXA.out; have := LXB.out; rw [hX1, List.length_append]; (try simp only [List.length_cons, List.length_nil]); omega)
        have p0 : ∀ W : World, (Op.stringOp .add (⟨([97, 110, 115, 119, 101, 114] : List UInt8).toArray⟩ : ByteArray) ⟨(XA : List UInt8).toArray⟩).run Tryd.prog W = .ok (.string ⟨X1.toArray⟩) W := by rw [hX1]; exact add_lit _ _ (by have := LA.out; have := LB.out; have := LC.out; have := LD.out; have := LXA.out; have := LXB.out; (try simp only [List.length_cons, List.length_nil]); omega)
        obtain ⟨X2, hX2⟩ : ∃ X, X = (X1 : List UInt8) ++ XB := ⟨_, rfl⟩
        have LX2 := Aside0.mk (show X2.length ≤ 200 by have := LA.out; have := LB.out; have := LC.out; have := LD.out; have := LXA.out; have := LXB.out; have := LX1.out; rw [hX2, List.length_append]; (try simp only [List.length_cons, List.length_nil]); omega)
        have p1 : ∀ W : World, (Op.stringOp .add (⟨(X1 : List UInt8).toArray⟩ : ByteArray) ⟨(XB : List UInt8).toArray⟩).run Tryd.prog W = .ok (.string ⟨X2.toArray⟩) W := by rw [hX2]; exact add_lit _ _ (by have := LA.out; have := LB.out; have := LC.out; have := LD.out; have := LXA.out; have := LXB.out; have := LX1.out; (try simp only [List.length_cons, List.length_nil]); omega)
        obtain ⟨X3, hX3⟩ : ∃ X, X = (X2 : List UInt8) ++ [32, 102, 97, 105, 108, 10] := ⟨_, rfl⟩
        have LX3 := Aside0.mk (show X3.length ≤ 300 by have := LA.out; have := LB.out; have := LC.out; have := LD.out; have := LXA.out; have := LXB.out; have := LX2.out; rw [hX3, List.length_append]; (try simp only [List.length_cons, List.length_nil]); omega)
        have p2 : ∀ W : World, (Op.stringOp .add (⟨(X2 : List UInt8).toArray⟩ : ByteArray) ⟨([32, 102, 97, 105, 108, 10] : List UInt8).toArray⟩).run Tryd.prog W = .ok (.string ⟨X3.toArray⟩) W := by rw [hX3]; exact add_lit _ _ (by have := LA.out; have := LB.out; have := LC.out; have := LD.out; have := LXA.out; have := LXB.out; have := LX2.out; (try simp only [List.length_cons, List.length_nil]); omega)
        obtain rfl : r = (X3, ((ud : Int) == 0)) := HRS.out.symm.trans (by rw [hX3, hX2, hX1, hXA, hXB]; simp [lineT, lineB, hc2])
        clear HRS hXA hXB
        clear hX1
        clear hX2
        clear hX3
        go_upto_region 21 with (fail)
        refine start_ (n := 10) (S := fun w' => w'.cell? ⟨G, 4, none⟩ = some (.int .i64 (ud : Int))) (ds := []) #[false, false, false, false, false, false, false, false, false, false] (by kernel_rfl) rfl rfl (((blk_cell (blk_below OX.out (below_drew B3.out)) 4).trans rfl)) (fun hHeld => ?_)
        refine pure_ (i := 0) (N := some 119) (v := ?_) (a' := ?_) #[true, false, false, false, false, false, false, false, false, false] rfl rfl (by kernel_rfl) (fun _ _ _ h => h) (Or.inl ⟨by rfl, ?_⟩) ?_ ?_
        rotate_left
        · intro w'
          go_simp
          with_reducible rfl
        rotate_left
        · simp only [Act.put, List.setIfInBounds_toArray, List.set_cons_zero, List.set_cons_succ, i64_w, i32_w]
          rfl
        refine pure_ (i := 1) (N := some 120) (v := ?_) (a' := ?_) #[true, true, false, false, false, false, false, false, false, false] rfl rfl (by kernel_rfl) (fun _ _ _ h => h) (Or.inl ⟨by rfl, ?_⟩) ?_ ?_
        rotate_left
        · intro w'
          go_simp
          with_reducible rfl
        rotate_left
        · simp only [Act.put, List.setIfInBounds_toArray, List.set_cons_zero, List.set_cons_succ, i64_w, i32_w]
          rfl
        refine pure_ (i := 2) (N := some 121) (v := ?_) (a' := ?_) #[true, true, true, false, false, false, false, false, false, false] rfl rfl (by kernel_rfl) (fun _ _ _ h => h) (Or.inl ⟨by rfl, ?_⟩) ?_ ?_
        rotate_left
        · intro w'
          go_simp
          with_reducible rfl
        rotate_left
        · simp only [Act.put, List.setIfInBounds_toArray, List.set_cons_zero, List.set_cons_succ, i64_w, i32_w]
          rfl
        refine pure_ (i := 3) (N := some 122) (v := ?_) (a' := ?_) #[true, true, true, true, false, false, false, false, false, false] rfl rfl (by kernel_rfl) (fun _ _ _ h => h) (Or.inl ⟨by rfl, ?_⟩) ?_ ?_
        rotate_left
        · intro w'
          go_simp
          with_reducible rfl
        rotate_left
        · simp only [Act.put, List.setIfInBounds_toArray, List.set_cons_zero, List.set_cons_succ, i64_w, i32_w]
          rfl
        refine pure_ (i := 4) (N := some 123) (v := ?_) (a' := ?_) #[true, true, true, true, true, false, false, false, false, false] rfl rfl (by kernel_rfl) (fun _ _ _ h => h) (Or.inl ⟨by rfl, ?_⟩) ?_ ?_
        rotate_left
        · intro w'
          go_simp
          with_reducible rfl
        rotate_left
        · simp only [Act.put, List.setIfInBounds_toArray, List.set_cons_zero, List.set_cons_succ, i64_w, i32_w]
          rfl
        refine pure_ (i := 5) (N := some 124) (v := ?_) (a' := ?_) #[true, true, true, true, true, true, false, false, false, false] rfl rfl (by kernel_rfl) (fun _ _ _ h => h) (Or.inl ⟨by rfl, ?_⟩) ?_ ?_
        rotate_left
        · intro w'
          go_simp
          with_reducible rfl
        rotate_left
        · simp only [Act.put, List.setIfInBounds_toArray, List.set_cons_zero, List.set_cons_succ, i64_w, i32_w]
          rfl
        refine pure_ (i := 8) (N := some 2) (v := ?_) (a' := ?_) #[true, true, true, true, true, true, false, false, true, false] rfl rfl (by kernel_rfl) (fun _ _ _ h => h) (Or.inl ⟨by rfl, ?_⟩) ?_ ?_
        rotate_left
        · intro w'
          go_simp
          with_reducible rfl
        rotate_left
        · simp only [Act.put, List.setIfInBounds_toArray, List.set_cons_zero, List.set_cons_succ, i64_w, i32_w]
          rfl
        refine take_ (i := 6) (N := some 125) (v := ?_) (a' := ?_) #[true, true, true, true, true, true, true, false, true, false] rfl rfl (by kernel_rfl) (fun _ _ _ h => h) (Or.inl ⟨by rfl, ?_⟩) hHeld ?_ ?_
        rotate_left
        · intro w' s0
          go_simp
          with_reducible rfl
        rotate_left
        · simp only [Act.put, List.setIfInBounds_toArray, List.set_cons_zero, List.set_cons_succ, i64_w, i32_w]
          rfl
        refine pure_ (i := 7) (N := some 126) (v := ?_) (a' := ?_) #[true, true, true, true, true, true, true, true, true, false] rfl rfl (by kernel_rfl) (fun _ _ _ h => h) (Or.inl ⟨by rfl, ?_⟩) ?_ ?_
        rotate_left
        · intro w'
          go_simp
          with_reducible rfl
        rotate_left
        · simp only [Act.put, List.setIfInBounds_toArray, List.set_cons_zero, List.set_cons_succ, i64_w, i32_w]
          rfl
        refine pure_ (i := 9) (N := some 3) (v := ?_) (a' := ?_) #[true, true, true, true, true, true, true, true, true, true] rfl rfl (by kernel_rfl) (fun _ _ _ h => h) (Or.inl ⟨by rfl, ?_⟩) ?_ ?_
        rotate_left
        · intro w'
          go_simp
          with_reducible rfl
        rotate_left
        · simp only [Act.put, List.setIfInBounds_toArray, List.set_cons_zero, List.set_cons_succ, i64_w, i32_w]
          rfl
        refine done_ (by kernel_rfl) ?_
        go_wp2
        first | go_ret | go_ret2
        exact ⟨by first | rfl | simp, below_step OB.out (below_drew B3.out)⟩
      have c2 : ((uc : Int) == 2) = false := beq_eq_false_iff_ne.2 hc2
      have hXA := HXA.out
      have hXB := HXB.out
      obtain ⟨X1, hX1⟩ : ∃ X, X = ([97, 110, 115, 119, 101, 114] : List UInt8) ++ XA := ⟨_, rfl⟩
      have LX1 := Aside0.mk (show X1.length ≤ 100 by have := LA.out; have := LB.out; have := LC.out; have := LD.out; have := LXA.out; have := LXB.out; rw [hX1, List.length_append]; (try simp only [List.length_cons, List.length_nil]); omega)
      have p0 : ∀ W : World, (Op.stringOp .add (⟨([97, 110, 115, 119, 101, 114] : List UInt8).toArray⟩ : ByteArray) ⟨(XA : List UInt8).toArray⟩).run Tryd.prog W = .ok (.string ⟨X1.toArray⟩) W := by rw [hX1]; exact add_lit _ _ (by have := LA.out; have := LB.out; have := LC.out; have := LD.out; have := LXA.out; have := LXB.out; (try simp only [List.length_cons, List.length_nil]); omega)
      obtain ⟨X2, hX2⟩ : ∃ X, X = (X1 : List UInt8) ++ XB := ⟨_, rfl⟩
      have LX2 := Aside0.mk (show X2.length ≤ 200 by have := LA.out; have := LB.out; have := LC.out; have := LD.out; have := LXA.out; have := LXB.out; have := LX1.out; rw [hX2, List.length_append]; (try simp only [List.length_cons, List.length_nil]); omega)
      have p1 : ∀ W : World, (Op.stringOp .add (⟨(X1 : List UInt8).toArray⟩ : ByteArray) ⟨(XB : List UInt8).toArray⟩).run Tryd.prog W = .ok (.string ⟨X2.toArray⟩) W := by rw [hX2]; exact add_lit _ _ (by have := LA.out; have := LB.out; have := LC.out; have := LD.out; have := LXA.out; have := LXB.out; have := LX1.out; (try simp only [List.length_cons, List.length_nil]); omega)
      obtain ⟨X3, hX3⟩ : ∃ X, X = (X2 : List UInt8) ++ [32, 110, 101, 101, 100, 32] := ⟨_, rfl⟩
      have LX3 := Aside0.mk (show X3.length ≤ 300 by have := LA.out; have := LB.out; have := LC.out; have := LD.out; have := LXA.out; have := LXB.out; have := LX2.out; rw [hX3, List.length_append]; (try simp only [List.length_cons, List.length_nil]); omega)
      have p2 : ∀ W : World, (Op.stringOp .add (⟨(X2 : List UInt8).toArray⟩ : ByteArray) ⟨([32, 110, 101, 101, 100, 32] : List UInt8).toArray⟩).run Tryd.prog W = .ok (.string ⟨X3.toArray⟩) W := by rw [hX3]; exact add_lit _ _ (by have := LA.out; have := LB.out; have := LC.out; have := LD.out; have := LXA.out; have := LXB.out; have := LX2.out; (try simp only [List.length_cons, List.length_nil]); omega)
      obtain ⟨X4, hX4⟩ : ∃ X, X = (X3 : List UInt8) ++ dd := ⟨_, rfl⟩
      have LX4 := Aside0.mk (show X4.length ≤ 400 by have := LA.out; have := LB.out; have := LC.out; have := LD.out; have := LXA.out; have := LXB.out; have := LX3.out; rw [hX4, List.length_append]; (try simp only [List.length_cons, List.length_nil]); omega)
      have p3 : ∀ W : World, (Op.stringOp .add (⟨(X3 : List UInt8).toArray⟩ : ByteArray) ⟨(dd : List UInt8).toArray⟩).run Tryd.prog W = .ok (.string ⟨X4.toArray⟩) W := by rw [hX4]; exact add_lit _ _ (by have := LA.out; have := LB.out; have := LC.out; have := LD.out; have := LXA.out; have := LXB.out; have := LX3.out; (try simp only [List.length_cons, List.length_nil]); omega)
      obtain ⟨X5, hX5⟩ : ∃ X, X = (X4 : List UInt8) ++ [10] := ⟨_, rfl⟩
      have LX5 := Aside0.mk (show X5.length ≤ 500 by have := LA.out; have := LB.out; have := LC.out; have := LD.out; have := LXA.out; have := LXB.out; have := LX4.out; rw [hX5, List.length_append]; (try simp only [List.length_cons, List.length_nil]); omega)
      have p4 : ∀ W : World, (Op.stringOp .add (⟨(X4 : List UInt8).toArray⟩ : ByteArray) ⟨([10] : List UInt8).toArray⟩).run Tryd.prog W = .ok (.string ⟨X5.toArray⟩) W := by rw [hX5]; exact add_lit _ _ (by have := LA.out; have := LB.out; have := LC.out; have := LD.out; have := LXA.out; have := LXB.out; have := LX4.out; (try simp only [List.length_cons, List.length_nil]); omega)
      obtain rfl : r = (X5, ((uc : Int) == 3)) := HRS.out.symm.trans (by rw [hX5, hX4, hX3, hX2, hX1, hXA, hXB]; simp [lineT, lineB, hc, hc2])
      clear HRS hXA hXB
      clear hX1
      clear hX2
      clear hX3
      clear hX4
      clear hX5
      go_upto_region 22 with (fail)
      refine start_ (n := 15) (S := fun w' => w'.cell? ⟨G, 3, none⟩ = some (.int .i64 (uc : Int)) ∧ w'.cell? ⟨G, 4, none⟩ = some (.int .i64 (ud : Int))) (ds := []) #[false, false, false, false, false, false, false, false, false, false, false, false, false, false, false] (by kernel_rfl) rfl rfl ⟨((blk_cell (blk_below OX.out (below_drew B3.out)) 3).trans rfl), ((blk_cell (blk_below OX.out (below_drew B3.out)) 4).trans rfl)⟩ (fun hHeld => ?_)
      refine pure_ (i := 0) (N := some 127) (v := ?_) (a' := ?_) #[true, false, false, false, false, false, false, false, false, false, false, false, false, false, false] rfl rfl (by kernel_rfl) (fun _ _ _ h => h) (Or.inl ⟨by rfl, ?_⟩) ?_ ?_
      rotate_left
      · intro w'
        go_simp
        with_reducible rfl
      rotate_left
      · simp only [Act.put, List.setIfInBounds_toArray, List.set_cons_zero, List.set_cons_succ, i64_w, i32_w]
        rfl
      refine pure_ (i := 1) (N := some 128) (v := ?_) (a' := ?_) #[true, true, false, false, false, false, false, false, false, false, false, false, false, false, false] rfl rfl (by kernel_rfl) (fun _ _ _ h => h) (Or.inl ⟨by rfl, ?_⟩) ?_ ?_
      rotate_left
      · intro w'
        go_simp
        with_reducible rfl
      rotate_left
      · simp only [Act.put, List.setIfInBounds_toArray, List.set_cons_zero, List.set_cons_succ, i64_w, i32_w]
        rfl
      refine pure_ (i := 2) (N := some 129) (v := ?_) (a' := ?_) #[true, true, true, false, false, false, false, false, false, false, false, false, false, false, false] rfl rfl (by kernel_rfl) (fun _ _ _ h => h) (Or.inl ⟨by rfl, ?_⟩) ?_ ?_
      rotate_left
      · intro w'
        go_simp
        with_reducible rfl
      rotate_left
      · simp only [Act.put, List.setIfInBounds_toArray, List.set_cons_zero, List.set_cons_succ, i64_w, i32_w]
        rfl
      refine pure_ (i := 3) (N := some 130) (v := ?_) (a' := ?_) #[true, true, true, true, false, false, false, false, false, false, false, false, false, false, false] rfl rfl (by kernel_rfl) (fun _ _ _ h => h) (Or.inl ⟨by rfl, ?_⟩) ?_ ?_
      rotate_left
      · intro w'
        go_simp
        with_reducible rfl
      rotate_left
      · simp only [Act.put, List.setIfInBounds_toArray, List.set_cons_zero, List.set_cons_succ, i64_w, i32_w]
        rfl
      refine pure_ (i := 4) (N := some 131) (v := ?_) (a' := ?_) #[true, true, true, true, true, false, false, false, false, false, false, false, false, false, false] rfl rfl (by kernel_rfl) (fun _ _ _ h => h) (Or.inl ⟨by rfl, ?_⟩) ?_ ?_
      rotate_left
      · intro w'
        go_simp
        with_reducible rfl
      rotate_left
      · simp only [Act.put, List.setIfInBounds_toArray, List.set_cons_zero, List.set_cons_succ, i64_w, i32_w]
        rfl
      refine pure_ (i := 5) (N := some 132) (v := ?_) (a' := ?_) #[true, true, true, true, true, true, false, false, false, false, false, false, false, false, false] rfl rfl (by kernel_rfl) (fun _ _ _ h => h) (Or.inl ⟨by rfl, ?_⟩) ?_ ?_
      rotate_left
      · intro w'
        go_simp
        with_reducible rfl
      rotate_left
      · simp only [Act.put, List.setIfInBounds_toArray, List.set_cons_zero, List.set_cons_succ, i64_w, i32_w]
        rfl
      refine pure_ (i := 10) (N := some 137) (v := ?_) (a' := ?_) #[true, true, true, true, true, true, false, false, false, false, true, false, false, false, false] rfl rfl (by kernel_rfl) (fun _ _ _ h => h) (Or.inl ⟨by rfl, ?_⟩) ?_ ?_
      rotate_left
      · intro w'
        go_simp
        with_reducible rfl
      rotate_left
      · simp only [Act.put, List.setIfInBounds_toArray, List.set_cons_zero, List.set_cons_succ, i64_w, i32_w]
        rfl
      refine take_ (i := 6) (N := some 133) (v := ?_) (a' := ?_) #[true, true, true, true, true, true, true, false, false, false, true, false, false, false, false] rfl rfl (by kernel_rfl) (fun _ _ _ h => h) (Or.inl ⟨by rfl, ?_⟩) hHeld ?_ ?_
      rotate_left
      · rintro w' ⟨s0, s1⟩
        go_simp
        with_reducible rfl
      rotate_left
      · simp only [Act.put, List.setIfInBounds_toArray, List.set_cons_zero, List.set_cons_succ, i64_w, i32_w]
        rfl
      refine take_ (i := 11) (N := some 138) (v := ?_) (a' := ?_) #[true, true, true, true, true, true, true, false, false, false, true, true, false, false, false] rfl rfl (by kernel_rfl) (fun _ _ _ h => h) (Or.inl ⟨by rfl, ?_⟩) hHeld ?_ ?_
      rotate_left
      · rintro w' ⟨s0, s1⟩
        go_simp
        with_reducible rfl
      rotate_left
      · simp only [Act.put, List.setIfInBounds_toArray, List.set_cons_zero, List.set_cons_succ, i64_w, i32_w]
        rfl
      refine pure_ (i := 12) (N := some 139) (v := ?_) (a' := ?_) #[true, true, true, true, true, true, true, false, false, false, true, true, true, false, false] rfl rfl (by kernel_rfl) (fun _ _ _ h => h) (Or.inl ⟨by rfl, ?_⟩) ?_ ?_
      rotate_left
      · intro w'
        go_simp
        with_reducible rfl
      rotate_left
      · simp only [Act.put, List.setIfInBounds_toArray, List.set_cons_zero, List.set_cons_succ, i64_w, i32_w]
        rfl
      refine one_ (i := 7) (N := some 134) #[true, true, true, true, true, true, true, true, false, false, true, true, true, false, false] rfl rfl (by kernel_rfl) (by decide) (fun K hK => ?_)
      refine goes_ Tryd.func17 (by kernel_rfl) rfl #[.int .i64 (ud : Int)] (by rfl) rfl rfl (by simp only [List.map_toArray, List.map_cons, List.map_nil]; rfl) ?_
      refine (text_d ud dd DD.out (by have := HR.out; omega) _).mono ?_
      rintro e' w4 ⟨rfl, hb⟩
      refine ⟨_, rfl, ?_⟩
      have B4 := Aside0.mk (below_step (below_drew B3.out) hb)
      clear hb
      refine hK.out _ _ ⟨((blk_cell (blk_below OX.out B4.out) 3).trans rfl), ((blk_cell (blk_below OX.out B4.out) 4).trans rfl)⟩ (fun hHeld => ?_)
      clear hK K
      refine norm_ (a' := ?_) ?_ ?_
      rotate_left
      · show Act.put _ (some 134) _ = _
        simp only [Act.put, List.setIfInBounds_toArray, List.set_cons_zero, List.set_cons_succ, i64_w, i32_w]
        rfl
      refine pure_ (i := 8) (N := some 135) (v := ?_) (a' := ?_) #[true, true, true, true, true, true, true, true, true, false, true, true, true, false, false] rfl rfl (by kernel_rfl) (fun _ _ _ h => h) (Or.inl ⟨by rfl, ?_⟩) ?_ ?_
      rotate_left
      · intro w'
        go_simp
        with_reducible rfl
      rotate_left
      · simp only [Act.put, List.setIfInBounds_toArray, List.set_cons_zero, List.set_cons_succ, i64_w, i32_w]
        rfl
      refine pure_ (i := 9) (N := some 136) (v := ?_) (a' := ?_) #[true, true, true, true, true, true, true, true, true, true, true, true, true, false, false] rfl rfl (by kernel_rfl) (fun _ _ _ h => h) (Or.inl ⟨by rfl, ?_⟩) ?_ ?_
      rotate_left
      · intro w'
        go_simp
        with_reducible rfl
      rotate_left
      · simp only [Act.put, List.setIfInBounds_toArray, List.set_cons_zero, List.set_cons_succ, i64_w, i32_w]
        rfl
      refine pure_ (i := 13) (N := some 2) (v := ?_) (a' := ?_) #[true, true, true, true, true, true, true, true, true, true, true, true, true, true, false] rfl rfl (by kernel_rfl) (fun _ _ _ h => h) (Or.inl ⟨by rfl, ?_⟩) ?_ ?_
      rotate_left
      · intro w'
        go_simp
        with_reducible rfl
      rotate_left
      · simp only [Act.put, List.setIfInBounds_toArray, List.set_cons_zero, List.set_cons_succ, i64_w, i32_w]
        rfl
      refine pure_ (i := 14) (N := some 3) (v := ?_) (a' := ?_) #[true, true, true, true, true, true, true, true, true, true, true, true, true, true, true] rfl rfl (by kernel_rfl) (fun _ _ _ h => h) (Or.inl ⟨by rfl, ?_⟩) ?_ ?_
      rotate_left
      · intro w'
        go_simp
        with_reducible rfl
      rotate_left
      · simp only [Act.put, List.setIfInBounds_toArray, List.set_cons_zero, List.set_cons_succ, i64_w, i32_w]
        rfl
      refine done_ (by kernel_rfl) ?_
      go_wp2
      first | go_ret | go_ret2
      exact ⟨by first | rfl | simp, below_step OB.out B4.out⟩
    have k5 : (k == 5) = false := beq_eq_false_iff_ne.2 hk
    have hXA := HXA.out
    have hXB := HXB.out
    obtain rfl : r = (([] : List UInt8), false) := HRS.out.symm.trans (by simp [lineT, lineB, hk, n1.out, n2.out, n3.out, n4.out, n6.out])
    clear HRS hXA hXB
    go_wp2
    first | go_ret | go_ret2
    exact ⟨by first | rfl | simp, below_step OB.out B3.out⟩
  · have zb : ((ub : Int) == 0) = true := by rw [hb0]; rfl
    have zc : ((uc : Int) == 0) = true := by rw [hc0]; rfl
    have zd : ((ud : Int) == 0) = true := by rw [hd0]; rfl
    have HAL := Aside0.mk (show ((ub : Int) == 0 && ((uc : Int) == 0 && (ud : Int) == 0)) = true by simp [zb, zc, zd])
    clear hb0 hc0 hd0
    go_upto_region 7 with (fail)
    clear zb zc zd
    by_cases hk : k = 1
    · subst hk
      have hXA := HXA.out
      have hXB := HXB.out
      obtain ⟨X1, hX1⟩ : ∃ X, X = ([115, 117, 98, 109, 105, 116] : List UInt8) ++ XA := ⟨_, rfl⟩
      have LX1 := Aside0.mk (show X1.length ≤ 100 by have := LA.out; have := LB.out; have := LC.out; have := LD.out; have := LXA.out; have := LXB.out; rw [hX1, List.length_append]; (try simp only [List.length_cons, List.length_nil]); omega)
      have p0 : ∀ W : World, (Op.stringOp .add (⟨([115, 117, 98, 109, 105, 116] : List UInt8).toArray⟩ : ByteArray) ⟨(XA : List UInt8).toArray⟩).run Tryd.prog W = .ok (.string ⟨X1.toArray⟩) W := by rw [hX1]; exact add_lit _ _ (by have := LA.out; have := LB.out; have := LC.out; have := LD.out; have := LXA.out; have := LXB.out; (try simp only [List.length_cons, List.length_nil]); omega)
      obtain ⟨X2, hX2⟩ : ∃ X, X = (X1 : List UInt8) ++ XB := ⟨_, rfl⟩
      have LX2 := Aside0.mk (show X2.length ≤ 200 by have := LA.out; have := LB.out; have := LC.out; have := LD.out; have := LXA.out; have := LXB.out; have := LX1.out; rw [hX2, List.length_append]; (try simp only [List.length_cons, List.length_nil]); omega)
      have p1 : ∀ W : World, (Op.stringOp .add (⟨(X1 : List UInt8).toArray⟩ : ByteArray) ⟨(XB : List UInt8).toArray⟩).run Tryd.prog W = .ok (.string ⟨X2.toArray⟩) W := by rw [hX2]; exact add_lit _ _ (by have := LA.out; have := LB.out; have := LC.out; have := LD.out; have := LXA.out; have := LXB.out; have := LX1.out; (try simp only [List.length_cons, List.length_nil]); omega)
      obtain ⟨X3, hX3⟩ : ∃ X, X = (X2 : List UInt8) ++ [32] := ⟨_, rfl⟩
      have LX3 := Aside0.mk (show X3.length ≤ 300 by have := LA.out; have := LB.out; have := LC.out; have := LD.out; have := LXA.out; have := LXB.out; have := LX2.out; rw [hX3, List.length_append]; (try simp only [List.length_cons, List.length_nil]); omega)
      have p2 : ∀ W : World, (Op.stringOp .add (⟨(X2 : List UInt8).toArray⟩ : ByteArray) ⟨([32] : List UInt8).toArray⟩).run Tryd.prog W = .ok (.string ⟨X3.toArray⟩) W := by rw [hX3]; exact add_lit _ _ (by have := LA.out; have := LB.out; have := LC.out; have := LD.out; have := LXA.out; have := LXB.out; have := LX2.out; (try simp only [List.length_cons, List.length_nil]); omega)
      obtain ⟨X4, hX4⟩ : ∃ X, X = (X3 : List UInt8) ++ dc := ⟨_, rfl⟩
      have LX4 := Aside0.mk (show X4.length ≤ 400 by have := LA.out; have := LB.out; have := LC.out; have := LD.out; have := LXA.out; have := LXB.out; have := LX3.out; rw [hX4, List.length_append]; (try simp only [List.length_cons, List.length_nil]); omega)
      have p3 : ∀ W : World, (Op.stringOp .add (⟨(X3 : List UInt8).toArray⟩ : ByteArray) ⟨(dc : List UInt8).toArray⟩).run Tryd.prog W = .ok (.string ⟨X4.toArray⟩) W := by rw [hX4]; exact add_lit _ _ (by have := LA.out; have := LB.out; have := LC.out; have := LD.out; have := LXA.out; have := LXB.out; have := LX3.out; (try simp only [List.length_cons, List.length_nil]); omega)
      obtain ⟨X5, hX5⟩ : ∃ X, X = (X4 : List UInt8) ++ [10] := ⟨_, rfl⟩
      have LX5 := Aside0.mk (show X5.length ≤ 500 by have := LA.out; have := LB.out; have := LC.out; have := LD.out; have := LXA.out; have := LXB.out; have := LX4.out; rw [hX5, List.length_append]; (try simp only [List.length_cons, List.length_nil]); omega)
      have p4 : ∀ W : World, (Op.stringOp .add (⟨(X4 : List UInt8).toArray⟩ : ByteArray) ⟨([10] : List UInt8).toArray⟩).run Tryd.prog W = .ok (.string ⟨X5.toArray⟩) W := by rw [hX5]; exact add_lit _ _ (by have := LA.out; have := LB.out; have := LC.out; have := LD.out; have := LXA.out; have := LXB.out; have := LX4.out; (try simp only [List.length_cons, List.length_nil]); omega)
      obtain rfl : r = (X5, ((ud : Int) == 0)) := HRS.out.symm.trans (by rw [hX5, hX4, hX3, hX2, hX1, hXA, hXB]; rfl)
      clear HRS hXA hXB
      clear hX1
      clear hX2
      clear hX3
      clear hX4
      clear hX5
      go_upto_region 8 with (fail)
      refine start_ (n := 15) (S := fun w' => w'.cell? ⟨G, 3, none⟩ = some (.int .i64 (uc : Int)) ∧ w'.cell? ⟨G, 4, none⟩ = some (.int .i64 (ud : Int))) (ds := []) #[false, false, false, false, false, false, false, false, false, false, false, false, false, false, false] (by kernel_rfl) rfl rfl ⟨((blk_cell (blk_below OX.out (below_drew B3.out)) 3).trans rfl), ((blk_cell (blk_below OX.out (below_drew B3.out)) 4).trans rfl)⟩ (fun hHeld => ?_)
      refine pure_ (i := 0) (N := some 62) (v := ?_) (a' := ?_) #[true, false, false, false, false, false, false, false, false, false, false, false, false, false, false] rfl rfl (by kernel_rfl) (fun _ _ _ h => h) (Or.inl ⟨by rfl, ?_⟩) ?_ ?_
      rotate_left
      · intro w'
        go_simp
        with_reducible rfl
      rotate_left
      · simp only [Act.put, List.setIfInBounds_toArray, List.set_cons_zero, List.set_cons_succ, i64_w, i32_w]
        rfl
      refine pure_ (i := 1) (N := some 63) (v := ?_) (a' := ?_) #[true, true, false, false, false, false, false, false, false, false, false, false, false, false, false] rfl rfl (by kernel_rfl) (fun _ _ _ h => h) (Or.inl ⟨by rfl, ?_⟩) ?_ ?_
      rotate_left
      · intro w'
        go_simp
        with_reducible rfl
      rotate_left
      · simp only [Act.put, List.setIfInBounds_toArray, List.set_cons_zero, List.set_cons_succ, i64_w, i32_w]
        rfl
      refine pure_ (i := 2) (N := some 64) (v := ?_) (a' := ?_) #[true, true, true, false, false, false, false, false, false, false, false, false, false, false, false] rfl rfl (by kernel_rfl) (fun _ _ _ h => h) (Or.inl ⟨by rfl, ?_⟩) ?_ ?_
      rotate_left
      · intro w'
        go_simp
        with_reducible rfl
      rotate_left
      · simp only [Act.put, List.setIfInBounds_toArray, List.set_cons_zero, List.set_cons_succ, i64_w, i32_w]
        rfl
      refine pure_ (i := 3) (N := some 65) (v := ?_) (a' := ?_) #[true, true, true, true, false, false, false, false, false, false, false, false, false, false, false] rfl rfl (by kernel_rfl) (fun _ _ _ h => h) (Or.inl ⟨by rfl, ?_⟩) ?_ ?_
      rotate_left
      · intro w'
        go_simp
        with_reducible rfl
      rotate_left
      · simp only [Act.put, List.setIfInBounds_toArray, List.set_cons_zero, List.set_cons_succ, i64_w, i32_w]
        rfl
      refine pure_ (i := 4) (N := some 66) (v := ?_) (a' := ?_) #[true, true, true, true, true, false, false, false, false, false, false, false, false, false, false] rfl rfl (by kernel_rfl) (fun _ _ _ h => h) (Or.inl ⟨by rfl, ?_⟩) ?_ ?_
      rotate_left
      · intro w'
        go_simp
        with_reducible rfl
      rotate_left
      · simp only [Act.put, List.setIfInBounds_toArray, List.set_cons_zero, List.set_cons_succ, i64_w, i32_w]
        rfl
      refine pure_ (i := 5) (N := some 67) (v := ?_) (a' := ?_) #[true, true, true, true, true, true, false, false, false, false, false, false, false, false, false] rfl rfl (by kernel_rfl) (fun _ _ _ h => h) (Or.inl ⟨by rfl, ?_⟩) ?_ ?_
      rotate_left
      · intro w'
        go_simp
        with_reducible rfl
      rotate_left
      · simp only [Act.put, List.setIfInBounds_toArray, List.set_cons_zero, List.set_cons_succ, i64_w, i32_w]
        rfl
      refine pure_ (i := 10) (N := some 72) (v := ?_) (a' := ?_) #[true, true, true, true, true, true, false, false, false, false, true, false, false, false, false] rfl rfl (by kernel_rfl) (fun _ _ _ h => h) (Or.inl ⟨by rfl, ?_⟩) ?_ ?_
      rotate_left
      · intro w'
        go_simp
        with_reducible rfl
      rotate_left
      · simp only [Act.put, List.setIfInBounds_toArray, List.set_cons_zero, List.set_cons_succ, i64_w, i32_w]
        rfl
      refine take_ (i := 6) (N := some 68) (v := ?_) (a' := ?_) #[true, true, true, true, true, true, true, false, false, false, true, false, false, false, false] rfl rfl (by kernel_rfl) (fun _ _ _ h => h) (Or.inl ⟨by rfl, ?_⟩) hHeld ?_ ?_
      rotate_left
      · rintro w' ⟨s0, s1⟩
        go_simp
        with_reducible rfl
      rotate_left
      · simp only [Act.put, List.setIfInBounds_toArray, List.set_cons_zero, List.set_cons_succ, i64_w, i32_w]
        rfl
      refine take_ (i := 11) (N := some 73) (v := ?_) (a' := ?_) #[true, true, true, true, true, true, true, false, false, false, true, true, false, false, false] rfl rfl (by kernel_rfl) (fun _ _ _ h => h) (Or.inl ⟨by rfl, ?_⟩) hHeld ?_ ?_
      rotate_left
      · rintro w' ⟨s0, s1⟩
        go_simp
        with_reducible rfl
      rotate_left
      · simp only [Act.put, List.setIfInBounds_toArray, List.set_cons_zero, List.set_cons_succ, i64_w, i32_w]
        rfl
      refine pure_ (i := 12) (N := some 74) (v := ?_) (a' := ?_) #[true, true, true, true, true, true, true, false, false, false, true, true, true, false, false] rfl rfl (by kernel_rfl) (fun _ _ _ h => h) (Or.inl ⟨by rfl, ?_⟩) ?_ ?_
      rotate_left
      · intro w'
        go_simp
        with_reducible rfl
      rotate_left
      · simp only [Act.put, List.setIfInBounds_toArray, List.set_cons_zero, List.set_cons_succ, i64_w, i32_w]
        rfl
      refine one_ (i := 7) (N := some 69) #[true, true, true, true, true, true, true, true, false, false, true, true, true, false, false] rfl rfl (by kernel_rfl) (by decide) (fun K hK => ?_)
      refine goes_ Tryd.func17 (by kernel_rfl) rfl #[.int .i64 (uc : Int)] (by rfl) rfl rfl (by simp only [List.map_toArray, List.map_cons, List.map_nil]; rfl) ?_
      refine (text_d uc dc DC.out (by have := HR.out; omega) _).mono ?_
      rintro e' w4 ⟨rfl, hb⟩
      refine ⟨_, rfl, ?_⟩
      have B4 := Aside0.mk (below_step (below_drew B3.out) hb)
      clear hb
      refine hK.out _ _ ⟨((blk_cell (blk_below OX.out B4.out) 3).trans rfl), ((blk_cell (blk_below OX.out B4.out) 4).trans rfl)⟩ (fun hHeld => ?_)
      clear hK K
      refine norm_ (a' := ?_) ?_ ?_
      rotate_left
      · show Act.put _ (some 69) _ = _
        simp only [Act.put, List.setIfInBounds_toArray, List.set_cons_zero, List.set_cons_succ, i64_w, i32_w]
        rfl
      refine pure_ (i := 8) (N := some 70) (v := ?_) (a' := ?_) #[true, true, true, true, true, true, true, true, true, false, true, true, true, false, false] rfl rfl (by kernel_rfl) (fun _ _ _ h => h) (Or.inl ⟨by rfl, ?_⟩) ?_ ?_
      rotate_left
      · intro w'
        go_simp
        with_reducible rfl
      rotate_left
      · simp only [Act.put, List.setIfInBounds_toArray, List.set_cons_zero, List.set_cons_succ, i64_w, i32_w]
        rfl
      refine pure_ (i := 9) (N := some 71) (v := ?_) (a' := ?_) #[true, true, true, true, true, true, true, true, true, true, true, true, true, false, false] rfl rfl (by kernel_rfl) (fun _ _ _ h => h) (Or.inl ⟨by rfl, ?_⟩) ?_ ?_
      rotate_left
      · intro w'
        go_simp
        with_reducible rfl
      rotate_left
      · simp only [Act.put, List.setIfInBounds_toArray, List.set_cons_zero, List.set_cons_succ, i64_w, i32_w]
        rfl
      refine pure_ (i := 13) (N := some 2) (v := ?_) (a' := ?_) #[true, true, true, true, true, true, true, true, true, true, true, true, true, true, false] rfl rfl (by kernel_rfl) (fun _ _ _ h => h) (Or.inl ⟨by rfl, ?_⟩) ?_ ?_
      rotate_left
      · intro w'
        go_simp
        with_reducible rfl
      rotate_left
      · simp only [Act.put, List.setIfInBounds_toArray, List.set_cons_zero, List.set_cons_succ, i64_w, i32_w]
        rfl
      refine pure_ (i := 14) (N := some 3) (v := ?_) (a' := ?_) #[true, true, true, true, true, true, true, true, true, true, true, true, true, true, true] rfl rfl (by kernel_rfl) (fun _ _ _ h => h) (Or.inl ⟨by rfl, ?_⟩) ?_ ?_
      rotate_left
      · intro w'
        go_simp
        with_reducible rfl
      rotate_left
      · simp only [Act.put, List.setIfInBounds_toArray, List.set_cons_zero, List.set_cons_succ, i64_w, i32_w]
        rfl
      refine done_ (by kernel_rfl) ?_
      go_wp2
      first | go_ret | go_ret2
      exact ⟨by first | rfl | simp, below_step OB.out B4.out⟩
    have k1 : (k == 1) = false := beq_eq_false_iff_ne.2 hk
    have n1 := Aside0.mk hk
    clear hk
    by_cases hk : k = 2
    · subst hk
      have hXA := HXA.out
      have hXB := HXB.out
      obtain ⟨X1, hX1⟩ : ∃ X, X = ([99, 97, 110, 99, 101, 108] : List UInt8) ++ XA := ⟨_, rfl⟩
      have LX1 := Aside0.mk (show X1.length ≤ 100 by have := LA.out; have := LB.out; have := LC.out; have := LD.out; have := LXA.out; have := LXB.out; rw [hX1, List.length_append]; (try simp only [List.length_cons, List.length_nil]); omega)
      have p0 : ∀ W : World, (Op.stringOp .add (⟨([99, 97, 110, 99, 101, 108] : List UInt8).toArray⟩ : ByteArray) ⟨(XA : List UInt8).toArray⟩).run Tryd.prog W = .ok (.string ⟨X1.toArray⟩) W := by rw [hX1]; exact add_lit _ _ (by have := LA.out; have := LB.out; have := LC.out; have := LD.out; have := LXA.out; have := LXB.out; (try simp only [List.length_cons, List.length_nil]); omega)
      obtain ⟨X2, hX2⟩ : ∃ X, X = (X1 : List UInt8) ++ [10] := ⟨_, rfl⟩
      have LX2 := Aside0.mk (show X2.length ≤ 200 by have := LA.out; have := LB.out; have := LC.out; have := LD.out; have := LXA.out; have := LXB.out; have := LX1.out; rw [hX2, List.length_append]; (try simp only [List.length_cons, List.length_nil]); omega)
      have p1 : ∀ W : World, (Op.stringOp .add (⟨(X1 : List UInt8).toArray⟩ : ByteArray) ⟨([10] : List UInt8).toArray⟩).run Tryd.prog W = .ok (.string ⟨X2.toArray⟩) W := by rw [hX2]; exact add_lit _ _ (by have := LA.out; have := LB.out; have := LC.out; have := LD.out; have := LXA.out; have := LXB.out; have := LX1.out; (try simp only [List.length_cons, List.length_nil]); omega)
      obtain rfl : r = (X2, true) := HRS.out.symm.trans (by rw [hX2, hX1, hXA]; rw [← HAL.out]; rfl)
      clear HRS hXA hXB
      clear hX1
      clear hX2
      go_wp2
      first | go_ret | go_ret2
      exact ⟨by first | rfl | simp, below_step OB.out B3.out⟩
    have k2 : (k == 2) = false := beq_eq_false_iff_ne.2 hk
    have n2 := Aside0.mk hk
    clear hk
    by_cases hk : k = 3
    · subst hk
      have hXA := HXA.out
      have hXB := HXB.out
      obtain rfl : r = ([116, 105, 99, 107, 10], ((ua : Int) == 0)) := HRS.out.symm.trans (by show (_, ((_ && (_ && _)) && _)) = _; rw [HAL.out]; rfl)
      clear HRS hXA hXB
      go_upto_region 12 with (fail)
      refine start_ (n := 8) (S := fun w' => w'.cell? ⟨G, 1, none⟩ = some (.int .i64 (ua : Int))) (ds := []) #[false, false, false, false, false, false, false, false] (by kernel_rfl) rfl rfl (((blk_cell (blk_below OX.out (below_drew B3.out)) 1).trans rfl)) (fun hHeld => ?_)
      refine pure_ (i := 0) (N := some 83) (v := ?_) (a' := ?_) #[true, false, false, false, false, false, false, false] rfl rfl (by kernel_rfl) (fun _ _ _ h => h) (Or.inl ⟨by rfl, ?_⟩) ?_ ?_
      rotate_left
      · intro w'
        go_simp
        with_reducible rfl
      rotate_left
      · simp only [Act.put, List.setIfInBounds_toArray, List.set_cons_zero, List.set_cons_succ, i64_w, i32_w]
        rfl
      refine pure_ (i := 1) (N := some 84) (v := ?_) (a' := ?_) #[true, true, false, false, false, false, false, false] rfl rfl (by kernel_rfl) (fun _ _ _ h => h) (Or.inl ⟨by rfl, ?_⟩) ?_ ?_
      rotate_left
      · intro w'
        go_simp
        with_reducible rfl
      rotate_left
      · simp only [Act.put, List.setIfInBounds_toArray, List.set_cons_zero, List.set_cons_succ, i64_w, i32_w]
        rfl
      refine pure_ (i := 2) (N := some 85) (v := ?_) (a' := ?_) #[true, true, true, false, false, false, false, false] rfl rfl (by kernel_rfl) (fun _ _ _ h => h) (Or.inl ⟨by rfl, ?_⟩) ?_ ?_
      rotate_left
      · intro w'
        go_simp
        with_reducible rfl
      rotate_left
      · simp only [Act.put, List.setIfInBounds_toArray, List.set_cons_zero, List.set_cons_succ, i64_w, i32_w]
        rfl
      refine pure_ (i := 6) (N := some 2) (v := ?_) (a' := ?_) #[true, true, true, false, false, false, true, false] rfl rfl (by kernel_rfl) (fun _ _ _ h => h) (Or.inl ⟨by rfl, ?_⟩) ?_ ?_
      rotate_left
      · intro w'
        go_simp
        with_reducible rfl
      rotate_left
      · simp only [Act.put, List.setIfInBounds_toArray, List.set_cons_zero, List.set_cons_succ, i64_w, i32_w]
        rfl
      refine take_ (i := 3) (N := some 86) (v := ?_) (a' := ?_) #[true, true, true, true, false, false, true, false] rfl rfl (by kernel_rfl) (fun _ _ _ h => h) (Or.inl ⟨by rfl, ?_⟩) hHeld ?_ ?_
      rotate_left
      · intro w' s0
        go_simp
        with_reducible rfl
      rotate_left
      · simp only [Act.put, List.setIfInBounds_toArray, List.set_cons_zero, List.set_cons_succ, i64_w, i32_w]
        rfl
      refine pure_ (i := 4) (N := some 87) (v := ?_) (a' := ?_) #[true, true, true, true, true, false, true, false] rfl rfl (by kernel_rfl) (fun _ _ _ h => h) (Or.inl ⟨by rfl, ?_⟩) ?_ ?_
      rotate_left
      · intro w'
        go_simp
        with_reducible rfl
      rotate_left
      · simp only [Act.put, List.setIfInBounds_toArray, List.set_cons_zero, List.set_cons_succ, i64_w, i32_w]
        rfl
      refine pure_ (i := 5) (N := some 88) (v := ?_) (a' := ?_) #[true, true, true, true, true, true, true, false] rfl rfl (by kernel_rfl) (fun _ _ _ h => h) (Or.inl ⟨by rfl, ?_⟩) ?_ ?_
      rotate_left
      · intro w'
        go_simp
        with_reducible rfl
      rotate_left
      · simp only [Act.put, List.setIfInBounds_toArray, List.set_cons_zero, List.set_cons_succ, i64_w, i32_w]
        rfl
      refine pure_ (i := 7) (N := some 3) (v := ?_) (a' := ?_) #[true, true, true, true, true, true, true, true] rfl rfl (by kernel_rfl) (fun _ _ _ h => h) (Or.inl ⟨by rfl, ?_⟩) ?_ ?_
      rotate_left
      · intro w'
        go_simp
        with_reducible rfl
      rotate_left
      · simp only [Act.put, List.setIfInBounds_toArray, List.set_cons_zero, List.set_cons_succ, i64_w, i32_w]
        rfl
      refine done_ (by kernel_rfl) ?_
      go_wp2
      first | go_ret | go_ret2
      exact ⟨by first | rfl | simp, below_step OB.out (below_drew B3.out)⟩
    have k3 : (k == 3) = false := beq_eq_false_iff_ne.2 hk
    have n3 := Aside0.mk hk
    clear hk
    by_cases hk : k = 4
    · subst hk
      have hXA := HXA.out
      have hXB := HXB.out
      obtain rfl : r = ([100, 105, 115, 112, 97, 116, 99, 104, 10], ((ua : Int) == 0)) := HRS.out.symm.trans (by show (_, ((_ && (_ && _)) && _)) = _; rw [HAL.out]; rfl)
      clear HRS hXA hXB
      go_upto_region 14 with (fail)
      refine start_ (n := 8) (S := fun w' => w'.cell? ⟨G, 1, none⟩ = some (.int .i64 (ua : Int))) (ds := []) #[false, false, false, false, false, false, false, false] (by kernel_rfl) rfl rfl (((blk_cell (blk_below OX.out (below_drew B3.out)) 1).trans rfl)) (fun hHeld => ?_)
      refine pure_ (i := 0) (N := some 91) (v := ?_) (a' := ?_) #[true, false, false, false, false, false, false, false] rfl rfl (by kernel_rfl) (fun _ _ _ h => h) (Or.inl ⟨by rfl, ?_⟩) ?_ ?_
      rotate_left
      · intro w'
        go_simp
        with_reducible rfl
      rotate_left
      · simp only [Act.put, List.setIfInBounds_toArray, List.set_cons_zero, List.set_cons_succ, i64_w, i32_w]
        rfl
      refine pure_ (i := 1) (N := some 92) (v := ?_) (a' := ?_) #[true, true, false, false, false, false, false, false] rfl rfl (by kernel_rfl) (fun _ _ _ h => h) (Or.inl ⟨by rfl, ?_⟩) ?_ ?_
      rotate_left
      · intro w'
        go_simp
        with_reducible rfl
      rotate_left
      · simp only [Act.put, List.setIfInBounds_toArray, List.set_cons_zero, List.set_cons_succ, i64_w, i32_w]
        rfl
      refine pure_ (i := 2) (N := some 93) (v := ?_) (a' := ?_) #[true, true, true, false, false, false, false, false] rfl rfl (by kernel_rfl) (fun _ _ _ h => h) (Or.inl ⟨by rfl, ?_⟩) ?_ ?_
      rotate_left
      · intro w'
        go_simp
        with_reducible rfl
      rotate_left
      · simp only [Act.put, List.setIfInBounds_toArray, List.set_cons_zero, List.set_cons_succ, i64_w, i32_w]
        rfl
      refine pure_ (i := 6) (N := some 2) (v := ?_) (a' := ?_) #[true, true, true, false, false, false, true, false] rfl rfl (by kernel_rfl) (fun _ _ _ h => h) (Or.inl ⟨by rfl, ?_⟩) ?_ ?_
      rotate_left
      · intro w'
        go_simp
        with_reducible rfl
      rotate_left
      · simp only [Act.put, List.setIfInBounds_toArray, List.set_cons_zero, List.set_cons_succ, i64_w, i32_w]
        rfl
      refine take_ (i := 3) (N := some 94) (v := ?_) (a' := ?_) #[true, true, true, true, false, false, true, false] rfl rfl (by kernel_rfl) (fun _ _ _ h => h) (Or.inl ⟨by rfl, ?_⟩) hHeld ?_ ?_
      rotate_left
      · intro w' s0
        go_simp
        with_reducible rfl
      rotate_left
      · simp only [Act.put, List.setIfInBounds_toArray, List.set_cons_zero, List.set_cons_succ, i64_w, i32_w]
        rfl
      refine pure_ (i := 4) (N := some 95) (v := ?_) (a' := ?_) #[true, true, true, true, true, false, true, false] rfl rfl (by kernel_rfl) (fun _ _ _ h => h) (Or.inl ⟨by rfl, ?_⟩) ?_ ?_
      rotate_left
      · intro w'
        go_simp
        with_reducible rfl
      rotate_left
      · simp only [Act.put, List.setIfInBounds_toArray, List.set_cons_zero, List.set_cons_succ, i64_w, i32_w]
        rfl
      refine pure_ (i := 5) (N := some 96) (v := ?_) (a' := ?_) #[true, true, true, true, true, true, true, false] rfl rfl (by kernel_rfl) (fun _ _ _ h => h) (Or.inl ⟨by rfl, ?_⟩) ?_ ?_
      rotate_left
      · intro w'
        go_simp
        with_reducible rfl
      rotate_left
      · simp only [Act.put, List.setIfInBounds_toArray, List.set_cons_zero, List.set_cons_succ, i64_w, i32_w]
        rfl
      refine pure_ (i := 7) (N := some 3) (v := ?_) (a' := ?_) #[true, true, true, true, true, true, true, true] rfl rfl (by kernel_rfl) (fun _ _ _ h => h) (Or.inl ⟨by rfl, ?_⟩) ?_ ?_
      rotate_left
      · intro w'
        go_simp
        with_reducible rfl
      rotate_left
      · simp only [Act.put, List.setIfInBounds_toArray, List.set_cons_zero, List.set_cons_succ, i64_w, i32_w]
        rfl
      refine done_ (by kernel_rfl) ?_
      go_wp2
      first | go_ret | go_ret2
      exact ⟨by first | rfl | simp, below_step OB.out (below_drew B3.out)⟩
    have k4 : (k == 4) = false := beq_eq_false_iff_ne.2 hk
    have n4 := Aside0.mk hk
    clear hk
    by_cases hk : k = 6
    · subst hk
      have hXA := HXA.out
      have hXB := HXB.out
      obtain ⟨X1, hX1⟩ : ∃ X, X = ([113, 117, 101, 114, 121] : List UInt8) ++ XA := ⟨_, rfl⟩
      have LX1 := Aside0.mk (show X1.length ≤ 100 by have := LA.out; have := LB.out; have := LC.out; have := LD.out; have := LXA.out; have := LXB.out; rw [hX1, List.length_append]; (try simp only [List.length_cons, List.length_nil]); omega)
      have p0 : ∀ W : World, (Op.stringOp .add (⟨([113, 117, 101, 114, 121] : List UInt8).toArray⟩ : ByteArray) ⟨(XA : List UInt8).toArray⟩).run Tryd.prog W = .ok (.string ⟨X1.toArray⟩) W := by rw [hX1]; exact add_lit _ _ (by have := LA.out; have := LB.out; have := LC.out; have := LD.out; have := LXA.out; have := LXB.out; (try simp only [List.length_cons, List.length_nil]); omega)
      obtain ⟨X2, hX2⟩ : ∃ X, X = (X1 : List UInt8) ++ [10] := ⟨_, rfl⟩
      have LX2 := Aside0.mk (show X2.length ≤ 200 by have := LA.out; have := LB.out; have := LC.out; have := LD.out; have := LXA.out; have := LXB.out; have := LX1.out; rw [hX2, List.length_append]; (try simp only [List.length_cons, List.length_nil]); omega)
      have p1 : ∀ W : World, (Op.stringOp .add (⟨(X1 : List UInt8).toArray⟩ : ByteArray) ⟨([10] : List UInt8).toArray⟩).run Tryd.prog W = .ok (.string ⟨X2.toArray⟩) W := by rw [hX2]; exact add_lit _ _ (by have := LA.out; have := LB.out; have := LC.out; have := LD.out; have := LXA.out; have := LXB.out; have := LX1.out; (try simp only [List.length_cons, List.length_nil]); omega)
      obtain rfl : r = (X2, true) := HRS.out.symm.trans (by rw [hX2, hX1, hXA]; rw [← HAL.out]; rfl)
      clear HRS hXA hXB
      clear hX1
      clear hX2
      go_wp2
      first | go_ret | go_ret2
      exact ⟨by first | rfl | simp, below_step OB.out B3.out⟩
    have k6 : (k == 6) = false := beq_eq_false_iff_ne.2 hk
    have n6 := Aside0.mk hk
    clear hk
    by_cases hk : k = 5
    · subst hk
      clear k1 k2 k3 k4 k6 n1 n2 n3 n4 n6
      by_cases hc : (uc : Int) = 1
      · have c1 : ((uc : Int) == 1) = true := by rw [hc]; rfl
        have hXA := HXA.out
        have hXB := HXB.out
        obtain ⟨X1, hX1⟩ : ∃ X, X = ([97, 110, 115, 119, 101, 114] : List UInt8) ++ XA := ⟨_, rfl⟩
        have LX1 := Aside0.mk (show X1.length ≤ 100 by have := LA.out; have := LB.out; have := LC.out; have := LD.out; have := LXA.out; have := LXB.out; rw [hX1, List.length_append]; (try simp only [List.length_cons, List.length_nil]); omega)
        have p0 : ∀ W : World, (Op.stringOp .add (⟨([97, 110, 115, 119, 101, 114] : List UInt8).toArray⟩ : ByteArray) ⟨(XA : List UInt8).toArray⟩).run Tryd.prog W = .ok (.string ⟨X1.toArray⟩) W := by rw [hX1]; exact add_lit _ _ (by have := LA.out; have := LB.out; have := LC.out; have := LD.out; have := LXA.out; have := LXB.out; (try simp only [List.length_cons, List.length_nil]); omega)
        obtain ⟨X2, hX2⟩ : ∃ X, X = (X1 : List UInt8) ++ XB := ⟨_, rfl⟩
        have LX2 := Aside0.mk (show X2.length ≤ 200 by have := LA.out; have := LB.out; have := LC.out; have := LD.out; have := LXA.out; have := LXB.out; have := LX1.out; rw [hX2, List.length_append]; (try simp only [List.length_cons, List.length_nil]); omega)
        have p1 : ∀ W : World, (Op.stringOp .add (⟨(X1 : List UInt8).toArray⟩ : ByteArray) ⟨(XB : List UInt8).toArray⟩).run Tryd.prog W = .ok (.string ⟨X2.toArray⟩) W := by rw [hX2]; exact add_lit _ _ (by have := LA.out; have := LB.out; have := LC.out; have := LD.out; have := LXA.out; have := LXB.out; have := LX1.out; (try simp only [List.length_cons, List.length_nil]); omega)
        obtain ⟨X3, hX3⟩ : ∃ X, X = (X2 : List UInt8) ++ [32, 100, 105, 100, 10] := ⟨_, rfl⟩
        have LX3 := Aside0.mk (show X3.length ≤ 300 by have := LA.out; have := LB.out; have := LC.out; have := LD.out; have := LXA.out; have := LXB.out; have := LX2.out; rw [hX3, List.length_append]; (try simp only [List.length_cons, List.length_nil]); omega)
        have p2 : ∀ W : World, (Op.stringOp .add (⟨(X2 : List UInt8).toArray⟩ : ByteArray) ⟨([32, 100, 105, 100, 10] : List UInt8).toArray⟩).run Tryd.prog W = .ok (.string ⟨X3.toArray⟩) W := by rw [hX3]; exact add_lit _ _ (by have := LA.out; have := LB.out; have := LC.out; have := LD.out; have := LXA.out; have := LXB.out; have := LX2.out; (try simp only [List.length_cons, List.length_nil]); omega)
        obtain rfl : r = (X3, ((ud : Int) == 0)) := HRS.out.symm.trans (by rw [hX3, hX2, hX1, hXA, hXB]; simp [lineT, lineB, hc])
        clear HRS hXA hXB
        clear hX1
        clear hX2
        clear hX3
        go_upto_region 19 with (fail)
        refine start_ (n := 10) (S := fun w' => w'.cell? ⟨G, 4, none⟩ = some (.int .i64 (ud : Int))) (ds := []) #[false, false, false, false, false, false, false, false, false, false] (by kernel_rfl) rfl rfl (((blk_cell (blk_below OX.out (below_drew B3.out)) 4).trans rfl)) (fun hHeld => ?_)
        refine pure_ (i := 0) (N := some 108) (v := ?_) (a' := ?_) #[true, false, false, false, false, false, false, false, false, false] rfl rfl (by kernel_rfl) (fun _ _ _ h => h) (Or.inl ⟨by rfl, ?_⟩) ?_ ?_
        rotate_left
        · intro w'
          go_simp
          with_reducible rfl
        rotate_left
        · simp only [Act.put, List.setIfInBounds_toArray, List.set_cons_zero, List.set_cons_succ, i64_w, i32_w]
          rfl
        refine pure_ (i := 1) (N := some 109) (v := ?_) (a' := ?_) #[true, true, false, false, false, false, false, false, false, false] rfl rfl (by kernel_rfl) (fun _ _ _ h => h) (Or.inl ⟨by rfl, ?_⟩) ?_ ?_
        rotate_left
        · intro w'
          go_simp
          with_reducible rfl
        rotate_left
        · simp only [Act.put, List.setIfInBounds_toArray, List.set_cons_zero, List.set_cons_succ, i64_w, i32_w]
          rfl
        refine pure_ (i := 2) (N := some 110) (v := ?_) (a' := ?_) #[true, true, true, false, false, false, false, false, false, false] rfl rfl (by kernel_rfl) (fun _ _ _ h => h) (Or.inl ⟨by rfl, ?_⟩) ?_ ?_
        rotate_left
        · intro w'
          go_simp
          with_reducible rfl
        rotate_left
        · simp only [Act.put, List.setIfInBounds_toArray, List.set_cons_zero, List.set_cons_succ, i64_w, i32_w]
          rfl
        refine pure_ (i := 3) (N := some 111) (v := ?_) (a' := ?_) #[true, true, true, true, false, false, false, false, false, false] rfl rfl (by kernel_rfl) (fun _ _ _ h => h) (Or.inl ⟨by rfl, ?_⟩) ?_ ?_
        rotate_left
        · intro w'
          go_simp
          with_reducible rfl
        rotate_left
        · simp only [Act.put, List.setIfInBounds_toArray, List.set_cons_zero, List.set_cons_succ, i64_w, i32_w]
          rfl
        refine pure_ (i := 4) (N := some 112) (v := ?_) (a' := ?_) #[true, true, true, true, true, false, false, false, false, false] rfl rfl (by kernel_rfl) (fun _ _ _ h => h) (Or.inl ⟨by rfl, ?_⟩) ?_ ?_
        rotate_left
        · intro w'
          go_simp
          with_reducible rfl
        rotate_left
        · simp only [Act.put, List.setIfInBounds_toArray, List.set_cons_zero, List.set_cons_succ, i64_w, i32_w]
          rfl
        refine pure_ (i := 5) (N := some 113) (v := ?_) (a' := ?_) #[true, true, true, true, true, true, false, false, false, false] rfl rfl (by kernel_rfl) (fun _ _ _ h => h) (Or.inl ⟨by rfl, ?_⟩) ?_ ?_
        rotate_left
        · intro w'
          go_simp
          with_reducible rfl
        rotate_left
        · simp only [Act.put, List.setIfInBounds_toArray, List.set_cons_zero, List.set_cons_succ, i64_w, i32_w]
          rfl
        refine pure_ (i := 8) (N := some 2) (v := ?_) (a' := ?_) #[true, true, true, true, true, true, false, false, true, false] rfl rfl (by kernel_rfl) (fun _ _ _ h => h) (Or.inl ⟨by rfl, ?_⟩) ?_ ?_
        rotate_left
        · intro w'
          go_simp
          with_reducible rfl
        rotate_left
        · simp only [Act.put, List.setIfInBounds_toArray, List.set_cons_zero, List.set_cons_succ, i64_w, i32_w]
          rfl
        refine take_ (i := 6) (N := some 114) (v := ?_) (a' := ?_) #[true, true, true, true, true, true, true, false, true, false] rfl rfl (by kernel_rfl) (fun _ _ _ h => h) (Or.inl ⟨by rfl, ?_⟩) hHeld ?_ ?_
        rotate_left
        · intro w' s0
          go_simp
          with_reducible rfl
        rotate_left
        · simp only [Act.put, List.setIfInBounds_toArray, List.set_cons_zero, List.set_cons_succ, i64_w, i32_w]
          rfl
        refine pure_ (i := 7) (N := some 115) (v := ?_) (a' := ?_) #[true, true, true, true, true, true, true, true, true, false] rfl rfl (by kernel_rfl) (fun _ _ _ h => h) (Or.inl ⟨by rfl, ?_⟩) ?_ ?_
        rotate_left
        · intro w'
          go_simp
          with_reducible rfl
        rotate_left
        · simp only [Act.put, List.setIfInBounds_toArray, List.set_cons_zero, List.set_cons_succ, i64_w, i32_w]
          rfl
        refine pure_ (i := 9) (N := some 3) (v := ?_) (a' := ?_) #[true, true, true, true, true, true, true, true, true, true] rfl rfl (by kernel_rfl) (fun _ _ _ h => h) (Or.inl ⟨by rfl, ?_⟩) ?_ ?_
        rotate_left
        · intro w'
          go_simp
          with_reducible rfl
        rotate_left
        · simp only [Act.put, List.setIfInBounds_toArray, List.set_cons_zero, List.set_cons_succ, i64_w, i32_w]
          rfl
        refine done_ (by kernel_rfl) ?_
        go_wp2
        first | go_ret | go_ret2
        exact ⟨by first | rfl | simp, below_step OB.out (below_drew B3.out)⟩
      have c1 : ((uc : Int) == 1) = false := beq_eq_false_iff_ne.2 hc
      by_cases hc2 : (uc : Int) = 2
      · have c2 : ((uc : Int) == 2) = true := by rw [hc2]; rfl
        have hXA := HXA.out
        have hXB := HXB.out
        obtain ⟨X1, hX1⟩ : ∃ X, X = ([97, 110, 115, 119, 101, 114] : List UInt8) ++ XA := ⟨_, rfl⟩
        have LX1 := Aside0.mk (show X1.length ≤ 100 by have := LA.out; have := LB.out; have := LC.out; have := LD.out; have := LXA.out; have := LXB.out; rw [hX1, List.length_append]; (try simp only [List.length_cons, List.length_nil]); omega)
        have p0 : ∀ W : World, (Op.stringOp .add (⟨([97, 110, 115, 119, 101, 114] : List UInt8).toArray⟩ : ByteArray) ⟨(XA : List UInt8).toArray⟩).run Tryd.prog W = .ok (.string ⟨X1.toArray⟩) W := by rw [hX1]; exact add_lit _ _ (by have := LA.out; have := LB.out; have := LC.out; have := LD.out; have := LXA.out; have := LXB.out; (try simp only [List.length_cons, List.length_nil]); omega)
        obtain ⟨X2, hX2⟩ : ∃ X, X = (X1 : List UInt8) ++ XB := ⟨_, rfl⟩
        have LX2 := Aside0.mk (show X2.length ≤ 200 by have := LA.out; have := LB.out; have := LC.out; have := LD.out; have := LXA.out; have := LXB.out; have := LX1.out; rw [hX2, List.length_append]; (try simp only [List.length_cons, List.length_nil]); omega)
        have p1 : ∀ W : World, (Op.stringOp .add (⟨(X1 : List UInt8).toArray⟩ : ByteArray) ⟨(XB : List UInt8).toArray⟩).run Tryd.prog W = .ok (.string ⟨X2.toArray⟩) W := by rw [hX2]; exact add_lit _ _ (by have := LA.out; have := LB.out; have := LC.out; have := LD.out; have := LXA.out; have := LXB.out; have := LX1.out; (try simp only [List.length_cons, List.length_nil]); omega)
        obtain ⟨X3, hX3⟩ : ∃ X, X = (X2 : List UInt8) ++ [32, 102, 97, 105, 108, 10] := ⟨_, rfl⟩
        have LX3 := Aside0.mk (show X3.length ≤ 300 by have := LA.out; have := LB.out; have := LC.out; have := LD.out; have := LXA.out; have := LXB.out; have := LX2.out; rw [hX3, List.length_append]; (try simp only [List.length_cons, List.length_nil]); omega)
        have p2 : ∀ W : World, (Op.stringOp .add (⟨(X2 : List UInt8).toArray⟩ : ByteArray) ⟨([32, 102, 97, 105, 108, 10] : List UInt8).toArray⟩).run Tryd.prog W = .ok (.string ⟨X3.toArray⟩) W := by rw [hX3]; exact add_lit _ _ (by have := LA.out; have := LB.out; have := LC.out; have := LD.out; have := LXA.out; have := LXB.out; have := LX2.out; (try simp only [List.length_cons, List.length_nil]); omega)
        obtain rfl : r = (X3, ((ud : Int) == 0)) := HRS.out.symm.trans (by rw [hX3, hX2, hX1, hXA, hXB]; simp [lineT, lineB, hc2])
        clear HRS hXA hXB
        clear hX1
        clear hX2
        clear hX3
        go_upto_region 21 with (fail)
        refine start_ (n := 10) (S := fun w' => w'.cell? ⟨G, 4, none⟩ = some (.int .i64 (ud : Int))) (ds := []) #[false, false, false, false, false, false, false, false, false, false] (by kernel_rfl) rfl rfl (((blk_cell (blk_below OX.out (below_drew B3.out)) 4).trans rfl)) (fun hHeld => ?_)
        refine pure_ (i := 0) (N := some 119) (v := ?_) (a' := ?_) #[true, false, false, false, false, false, false, false, false, false] rfl rfl (by kernel_rfl) (fun _ _ _ h => h) (Or.inl ⟨by rfl, ?_⟩) ?_ ?_
        rotate_left
        · intro w'
          go_simp
          with_reducible rfl
        rotate_left
        · simp only [Act.put, List.setIfInBounds_toArray, List.set_cons_zero, List.set_cons_succ, i64_w, i32_w]
          rfl
        refine pure_ (i := 1) (N := some 120) (v := ?_) (a' := ?_) #[true, true, false, false, false, false, false, false, false, false] rfl rfl (by kernel_rfl) (fun _ _ _ h => h) (Or.inl ⟨by rfl, ?_⟩) ?_ ?_
        rotate_left
        · intro w'
          go_simp
          with_reducible rfl
        rotate_left
        · simp only [Act.put, List.setIfInBounds_toArray, List.set_cons_zero, List.set_cons_succ, i64_w, i32_w]
          rfl
        refine pure_ (i := 2) (N := some 121) (v := ?_) (a' := ?_) #[true, true, true, false, false, false, false, false, false, false] rfl rfl (by kernel_rfl) (fun _ _ _ h => h) (Or.inl ⟨by rfl, ?_⟩) ?_ ?_
        rotate_left
        · intro w'
          go_simp
          with_reducible rfl
        rotate_left
        · simp only [Act.put, List.setIfInBounds_toArray, List.set_cons_zero, List.set_cons_succ, i64_w, i32_w]
          rfl
        refine pure_ (i := 3) (N := some 122) (v := ?_) (a' := ?_) #[true, true, true, true, false, false, false, false, false, false] rfl rfl (by kernel_rfl) (fun _ _ _ h => h) (Or.inl ⟨by rfl, ?_⟩) ?_ ?_
        rotate_left
        · intro w'
          go_simp
          with_reducible rfl
        rotate_left
        · simp only [Act.put, List.setIfInBounds_toArray, List.set_cons_zero, List.set_cons_succ, i64_w, i32_w]
          rfl
        refine pure_ (i := 4) (N := some 123) (v := ?_) (a' := ?_) #[true, true, true, true, true, false, false, false, false, false] rfl rfl (by kernel_rfl) (fun _ _ _ h => h) (Or.inl ⟨by rfl, ?_⟩) ?_ ?_
        rotate_left
        · intro w'
          go_simp
          with_reducible rfl
        rotate_left
        · simp only [Act.put, List.setIfInBounds_toArray, List.set_cons_zero, List.set_cons_succ, i64_w, i32_w]
          rfl
        refine pure_ (i := 5) (N := some 124) (v := ?_) (a' := ?_) #[true, true, true, true, true, true, false, false, false, false] rfl rfl (by kernel_rfl) (fun _ _ _ h => h) (Or.inl ⟨by rfl, ?_⟩) ?_ ?_
        rotate_left
        · intro w'
          go_simp
          with_reducible rfl
        rotate_left
        · simp only [Act.put, List.setIfInBounds_toArray, List.set_cons_zero, List.set_cons_succ, i64_w, i32_w]
          rfl
        refine pure_ (i := 8) (N := some 2) (v := ?_) (a' := ?_) #[true, true, true, true, true, true, false, false, true, false] rfl rfl (by kernel_rfl) (fun _ _ _ h => h) (Or.inl ⟨by rfl, ?_⟩) ?_ ?_
        rotate_left
        · intro w'
          go_simp
          with_reducible rfl
        rotate_left
        · simp only [Act.put, List.setIfInBounds_toArray, List.set_cons_zero, List.set_cons_succ, i64_w, i32_w]
          rfl
        refine take_ (i := 6) (N := some 125) (v := ?_) (a' := ?_) #[true, true, true, true, true, true, true, false, true, false] rfl rfl (by kernel_rfl) (fun _ _ _ h => h) (Or.inl ⟨by rfl, ?_⟩) hHeld ?_ ?_
        rotate_left
        · intro w' s0
          go_simp
          with_reducible rfl
        rotate_left
        · simp only [Act.put, List.setIfInBounds_toArray, List.set_cons_zero, List.set_cons_succ, i64_w, i32_w]
          rfl
        refine pure_ (i := 7) (N := some 126) (v := ?_) (a' := ?_) #[true, true, true, true, true, true, true, true, true, false] rfl rfl (by kernel_rfl) (fun _ _ _ h => h) (Or.inl ⟨by rfl, ?_⟩) ?_ ?_
        rotate_left
        · intro w'
          go_simp
          with_reducible rfl
        rotate_left
        · simp only [Act.put, List.setIfInBounds_toArray, List.set_cons_zero, List.set_cons_succ, i64_w, i32_w]
          rfl
        refine pure_ (i := 9) (N := some 3) (v := ?_) (a' := ?_) #[true, true, true, true, true, true, true, true, true, true] rfl rfl (by kernel_rfl) (fun _ _ _ h => h) (Or.inl ⟨by rfl, ?_⟩) ?_ ?_
        rotate_left
        · intro w'
          go_simp
          with_reducible rfl
        rotate_left
        · simp only [Act.put, List.setIfInBounds_toArray, List.set_cons_zero, List.set_cons_succ, i64_w, i32_w]
          rfl
        refine done_ (by kernel_rfl) ?_
        go_wp2
        first | go_ret | go_ret2
        exact ⟨by first | rfl | simp, below_step OB.out (below_drew B3.out)⟩
      have c2 : ((uc : Int) == 2) = false := beq_eq_false_iff_ne.2 hc2
      have hXA := HXA.out
      have hXB := HXB.out
      obtain ⟨X1, hX1⟩ : ∃ X, X = ([97, 110, 115, 119, 101, 114] : List UInt8) ++ XA := ⟨_, rfl⟩
      have LX1 := Aside0.mk (show X1.length ≤ 100 by have := LA.out; have := LB.out; have := LC.out; have := LD.out; have := LXA.out; have := LXB.out; rw [hX1, List.length_append]; (try simp only [List.length_cons, List.length_nil]); omega)
      have p0 : ∀ W : World, (Op.stringOp .add (⟨([97, 110, 115, 119, 101, 114] : List UInt8).toArray⟩ : ByteArray) ⟨(XA : List UInt8).toArray⟩).run Tryd.prog W = .ok (.string ⟨X1.toArray⟩) W := by rw [hX1]; exact add_lit _ _ (by have := LA.out; have := LB.out; have := LC.out; have := LD.out; have := LXA.out; have := LXB.out; (try simp only [List.length_cons, List.length_nil]); omega)
      obtain ⟨X2, hX2⟩ : ∃ X, X = (X1 : List UInt8) ++ XB := ⟨_, rfl⟩
      have LX2 := Aside0.mk (show X2.length ≤ 200 by have := LA.out; have := LB.out; have := LC.out; have := LD.out; have := LXA.out; have := LXB.out; have := LX1.out; rw [hX2, List.length_append]; (try simp only [List.length_cons, List.length_nil]); omega)
      have p1 : ∀ W : World, (Op.stringOp .add (⟨(X1 : List UInt8).toArray⟩ : ByteArray) ⟨(XB : List UInt8).toArray⟩).run Tryd.prog W = .ok (.string ⟨X2.toArray⟩) W := by rw [hX2]; exact add_lit _ _ (by have := LA.out; have := LB.out; have := LC.out; have := LD.out; have := LXA.out; have := LXB.out; have := LX1.out; (try simp only [List.length_cons, List.length_nil]); omega)
      obtain ⟨X3, hX3⟩ : ∃ X, X = (X2 : List UInt8) ++ [32, 110, 101, 101, 100, 32] := ⟨_, rfl⟩
      have LX3 := Aside0.mk (show X3.length ≤ 300 by have := LA.out; have := LB.out; have := LC.out; have := LD.out; have := LXA.out; have := LXB.out; have := LX2.out; rw [hX3, List.length_append]; (try simp only [List.length_cons, List.length_nil]); omega)
      have p2 : ∀ W : World, (Op.stringOp .add (⟨(X2 : List UInt8).toArray⟩ : ByteArray) ⟨([32, 110, 101, 101, 100, 32] : List UInt8).toArray⟩).run Tryd.prog W = .ok (.string ⟨X3.toArray⟩) W := by rw [hX3]; exact add_lit _ _ (by have := LA.out; have := LB.out; have := LC.out; have := LD.out; have := LXA.out; have := LXB.out; have := LX2.out; (try simp only [List.length_cons, List.length_nil]); omega)
      obtain ⟨X4, hX4⟩ : ∃ X, X = (X3 : List UInt8) ++ dd := ⟨_, rfl⟩
      have LX4 := Aside0.mk (show X4.length ≤ 400 by have := LA.out; have := LB.out; have := LC.out; have := LD.out; have := LXA.out; have := LXB.out; have := LX3.out; rw [hX4, List.length_append]; (try simp only [List.length_cons, List.length_nil]); omega)
      have p3 : ∀ W : World, (Op.stringOp .add (⟨(X3 : List UInt8).toArray⟩ : ByteArray) ⟨(dd : List UInt8).toArray⟩).run Tryd.prog W = .ok (.string ⟨X4.toArray⟩) W := by rw [hX4]; exact add_lit _ _ (by have := LA.out; have := LB.out; have := LC.out; have := LD.out; have := LXA.out; have := LXB.out; have := LX3.out; (try simp only [List.length_cons, List.length_nil]); omega)
      obtain ⟨X5, hX5⟩ : ∃ X, X = (X4 : List UInt8) ++ [10] := ⟨_, rfl⟩
      have LX5 := Aside0.mk (show X5.length ≤ 500 by have := LA.out; have := LB.out; have := LC.out; have := LD.out; have := LXA.out; have := LXB.out; have := LX4.out; rw [hX5, List.length_append]; (try simp only [List.length_cons, List.length_nil]); omega)
      have p4 : ∀ W : World, (Op.stringOp .add (⟨(X4 : List UInt8).toArray⟩ : ByteArray) ⟨([10] : List UInt8).toArray⟩).run Tryd.prog W = .ok (.string ⟨X5.toArray⟩) W := by rw [hX5]; exact add_lit _ _ (by have := LA.out; have := LB.out; have := LC.out; have := LD.out; have := LXA.out; have := LXB.out; have := LX4.out; (try simp only [List.length_cons, List.length_nil]); omega)
      obtain rfl : r = (X5, ((uc : Int) == 3)) := HRS.out.symm.trans (by rw [hX5, hX4, hX3, hX2, hX1, hXA, hXB]; simp [lineT, lineB, hc, hc2])
      clear HRS hXA hXB
      clear hX1
      clear hX2
      clear hX3
      clear hX4
      clear hX5
      go_upto_region 22 with (fail)
      refine start_ (n := 15) (S := fun w' => w'.cell? ⟨G, 3, none⟩ = some (.int .i64 (uc : Int)) ∧ w'.cell? ⟨G, 4, none⟩ = some (.int .i64 (ud : Int))) (ds := []) #[false, false, false, false, false, false, false, false, false, false, false, false, false, false, false] (by kernel_rfl) rfl rfl ⟨((blk_cell (blk_below OX.out (below_drew B3.out)) 3).trans rfl), ((blk_cell (blk_below OX.out (below_drew B3.out)) 4).trans rfl)⟩ (fun hHeld => ?_)
      refine pure_ (i := 0) (N := some 127) (v := ?_) (a' := ?_) #[true, false, false, false, false, false, false, false, false, false, false, false, false, false, false] rfl rfl (by kernel_rfl) (fun _ _ _ h => h) (Or.inl ⟨by rfl, ?_⟩) ?_ ?_
      rotate_left
      · intro w'
        go_simp
        with_reducible rfl
      rotate_left
      · simp only [Act.put, List.setIfInBounds_toArray, List.set_cons_zero, List.set_cons_succ, i64_w, i32_w]
        rfl
      refine pure_ (i := 1) (N := some 128) (v := ?_) (a' := ?_) #[true, true, false, false, false, false, false, false, false, false, false, false, false, false, false] rfl rfl (by kernel_rfl) (fun _ _ _ h => h) (Or.inl ⟨by rfl, ?_⟩) ?_ ?_
      rotate_left
      · intro w'
        go_simp
        with_reducible rfl
      rotate_left
      · simp only [Act.put, List.setIfInBounds_toArray, List.set_cons_zero, List.set_cons_succ, i64_w, i32_w]
        rfl
      refine pure_ (i := 2) (N := some 129) (v := ?_) (a' := ?_) #[true, true, true, false, false, false, false, false, false, false, false, false, false, false, false] rfl rfl (by kernel_rfl) (fun _ _ _ h => h) (Or.inl ⟨by rfl, ?_⟩) ?_ ?_
      rotate_left
      · intro w'
        go_simp
        with_reducible rfl
      rotate_left
      · simp only [Act.put, List.setIfInBounds_toArray, List.set_cons_zero, List.set_cons_succ, i64_w, i32_w]
        rfl
      refine pure_ (i := 3) (N := some 130) (v := ?_) (a' := ?_) #[true, true, true, true, false, false, false, false, false, false, false, false, false, false, false] rfl rfl (by kernel_rfl) (fun _ _ _ h => h) (Or.inl ⟨by rfl, ?_⟩) ?_ ?_
      rotate_left
      · intro w'
        go_simp
        with_reducible rfl
      rotate_left
      · simp only [Act.put, List.setIfInBounds_toArray, List.set_cons_zero, List.set_cons_succ, i64_w, i32_w]
        rfl
      refine pure_ (i := 4) (N := some 131) (v := ?_) (a' := ?_) #[true, true, true, true, true, false, false, false, false, false, false, false, false, false, false] rfl rfl (by kernel_rfl) (fun _ _ _ h => h) (Or.inl ⟨by rfl, ?_⟩) ?_ ?_
      rotate_left
      · intro w'
        go_simp
        with_reducible rfl
      rotate_left
      · simp only [Act.put, List.setIfInBounds_toArray, List.set_cons_zero, List.set_cons_succ, i64_w, i32_w]
        rfl
      refine pure_ (i := 5) (N := some 132) (v := ?_) (a' := ?_) #[true, true, true, true, true, true, false, false, false, false, false, false, false, false, false] rfl rfl (by kernel_rfl) (fun _ _ _ h => h) (Or.inl ⟨by rfl, ?_⟩) ?_ ?_
      rotate_left
      · intro w'
        go_simp
        with_reducible rfl
      rotate_left
      · simp only [Act.put, List.setIfInBounds_toArray, List.set_cons_zero, List.set_cons_succ, i64_w, i32_w]
        rfl
      refine pure_ (i := 10) (N := some 137) (v := ?_) (a' := ?_) #[true, true, true, true, true, true, false, false, false, false, true, false, false, false, false] rfl rfl (by kernel_rfl) (fun _ _ _ h => h) (Or.inl ⟨by rfl, ?_⟩) ?_ ?_
      rotate_left
      · intro w'
        go_simp
        with_reducible rfl
      rotate_left
      · simp only [Act.put, List.setIfInBounds_toArray, List.set_cons_zero, List.set_cons_succ, i64_w, i32_w]
        rfl
      refine take_ (i := 6) (N := some 133) (v := ?_) (a' := ?_) #[true, true, true, true, true, true, true, false, false, false, true, false, false, false, false] rfl rfl (by kernel_rfl) (fun _ _ _ h => h) (Or.inl ⟨by rfl, ?_⟩) hHeld ?_ ?_
      rotate_left
      · rintro w' ⟨s0, s1⟩
        go_simp
        with_reducible rfl
      rotate_left
      · simp only [Act.put, List.setIfInBounds_toArray, List.set_cons_zero, List.set_cons_succ, i64_w, i32_w]
        rfl
      refine take_ (i := 11) (N := some 138) (v := ?_) (a' := ?_) #[true, true, true, true, true, true, true, false, false, false, true, true, false, false, false] rfl rfl (by kernel_rfl) (fun _ _ _ h => h) (Or.inl ⟨by rfl, ?_⟩) hHeld ?_ ?_
      rotate_left
      · rintro w' ⟨s0, s1⟩
        go_simp
        with_reducible rfl
      rotate_left
      · simp only [Act.put, List.setIfInBounds_toArray, List.set_cons_zero, List.set_cons_succ, i64_w, i32_w]
        rfl
      refine pure_ (i := 12) (N := some 139) (v := ?_) (a' := ?_) #[true, true, true, true, true, true, true, false, false, false, true, true, true, false, false] rfl rfl (by kernel_rfl) (fun _ _ _ h => h) (Or.inl ⟨by rfl, ?_⟩) ?_ ?_
      rotate_left
      · intro w'
        go_simp
        with_reducible rfl
      rotate_left
      · simp only [Act.put, List.setIfInBounds_toArray, List.set_cons_zero, List.set_cons_succ, i64_w, i32_w]
        rfl
      refine one_ (i := 7) (N := some 134) #[true, true, true, true, true, true, true, true, false, false, true, true, true, false, false] rfl rfl (by kernel_rfl) (by decide) (fun K hK => ?_)
      refine goes_ Tryd.func17 (by kernel_rfl) rfl #[.int .i64 (ud : Int)] (by rfl) rfl rfl (by simp only [List.map_toArray, List.map_cons, List.map_nil]; rfl) ?_
      refine (text_d ud dd DD.out (by have := HR.out; omega) _).mono ?_
      rintro e' w4 ⟨rfl, hb⟩
      refine ⟨_, rfl, ?_⟩
      have B4 := Aside0.mk (below_step (below_drew B3.out) hb)
      clear hb
      refine hK.out _ _ ⟨((blk_cell (blk_below OX.out B4.out) 3).trans rfl), ((blk_cell (blk_below OX.out B4.out) 4).trans rfl)⟩ (fun hHeld => ?_)
      clear hK K
      refine norm_ (a' := ?_) ?_ ?_
      rotate_left
      · show Act.put _ (some 134) _ = _
        simp only [Act.put, List.setIfInBounds_toArray, List.set_cons_zero, List.set_cons_succ, i64_w, i32_w]
        rfl
      refine pure_ (i := 8) (N := some 135) (v := ?_) (a' := ?_) #[true, true, true, true, true, true, true, true, true, false, true, true, true, false, false] rfl rfl (by kernel_rfl) (fun _ _ _ h => h) (Or.inl ⟨by rfl, ?_⟩) ?_ ?_
      rotate_left
      · intro w'
        go_simp
        with_reducible rfl
      rotate_left
      · simp only [Act.put, List.setIfInBounds_toArray, List.set_cons_zero, List.set_cons_succ, i64_w, i32_w]
        rfl
      refine pure_ (i := 9) (N := some 136) (v := ?_) (a' := ?_) #[true, true, true, true, true, true, true, true, true, true, true, true, true, false, false] rfl rfl (by kernel_rfl) (fun _ _ _ h => h) (Or.inl ⟨by rfl, ?_⟩) ?_ ?_
      rotate_left
      · intro w'
        go_simp
        with_reducible rfl
      rotate_left
      · simp only [Act.put, List.setIfInBounds_toArray, List.set_cons_zero, List.set_cons_succ, i64_w, i32_w]
        rfl
      refine pure_ (i := 13) (N := some 2) (v := ?_) (a' := ?_) #[true, true, true, true, true, true, true, true, true, true, true, true, true, true, false] rfl rfl (by kernel_rfl) (fun _ _ _ h => h) (Or.inl ⟨by rfl, ?_⟩) ?_ ?_
      rotate_left
      · intro w'
        go_simp
        with_reducible rfl
      rotate_left
      · simp only [Act.put, List.setIfInBounds_toArray, List.set_cons_zero, List.set_cons_succ, i64_w, i32_w]
        rfl
      refine pure_ (i := 14) (N := some 3) (v := ?_) (a' := ?_) #[true, true, true, true, true, true, true, true, true, true, true, true, true, true, true] rfl rfl (by kernel_rfl) (fun _ _ _ h => h) (Or.inl ⟨by rfl, ?_⟩) ?_ ?_
      rotate_left
      · intro w'
        go_simp
        with_reducible rfl
      rotate_left
      · simp only [Act.put, List.setIfInBounds_toArray, List.set_cons_zero, List.set_cons_succ, i64_w, i32_w]
        rfl
      refine done_ (by kernel_rfl) ?_
      go_wp2
      first | go_ret | go_ret2
      exact ⟨by first | rfl | simp, below_step OB.out B4.out⟩
    have k5 : (k == 5) = false := beq_eq_false_iff_ne.2 hk
    have hXA := HXA.out
    have hXB := HXB.out
    obtain rfl : r = (([] : List UInt8), false) := HRS.out.symm.trans (by simp [lineT, lineB, hk, n1.out, n2.out, n3.out, n4.out, n6.out])
    clear HRS hXA hXB
    go_wp2
    first | go_ret | go_ret2
    exact ⟨by first | rfl | simp, below_step OB.out B3.out⟩
end Go.Proofs.YtegbfimfpkendaaDoor.PbI
namespace Go.Proofs.YtegbfimfpkendaaDoor.PbJ
open Go.RowKit Go.Proofs.YtegbfimfpkendaaDoorW.PrintWords Go.Proofs.YtegbfimfpkendaaDoorW.PrintLast Go.Proofs.YtegbfimfpkendaaDoorW.PrintMore LexS LexR LexQ LexT PaC PaD PaE PaF PaG PaJ PaL PaP PaQ PaS PaY PaZ PbA PbB PbF PbG PbI
set_option linter.unusedVariables false
set_option linter.unusedSimpArgs false
section
attribute [local go_sem] max2_int min2_int max_two min_two max_three min_three max_four min_four
def millwrightref03_right.f (a0 : Int) : Option (Bool) := if a0 ≥ 0 then (some (decide (a0 ≤ 1048576))) else (some false)
set_option maxHeartbeats 8000000 in
set_option maxRecDepth 100000 in
theorem millwrightref03_right.calls (a0 : Int) (r : Bool) (w : World) (h : millwrightref03_right.f a0 = some r) :
    Calls Tryd.prog 29 #[.int .i64 a0] w fun e w' => e = .returned (.bool r) ∧ Drawn0 w w' := by
  have H : (if a0 ≥ 0 then (some (decide (a0 ≤ 1048576))) else (some false)) = some r := h
  clear h
  by_cases c2 : a0 ≥ 0
  · rw [if_pos c2] at H
    have c2b0 : decide (0 ≤ a0) = true := decide_eq_true c2
    clear c2
    obtain rfl := Option.some.inj H
    go_enter Tryd.func29, Tryd.ntmps29
    go_wp2
    go_ret
    exact ⟨by first | rfl | (simp; done) | (simp [*]; done), by repeat (first | exact Drawn0.refl _ | apply Drawn0.step)⟩
  · rw [if_neg c2] at H
    have c2b0 : decide (0 ≤ a0) = false := decide_eq_false c2
    clear c2
    obtain rfl := Option.some.inj H
    go_enter Tryd.func29, Tryd.ntmps29
    go_wp2
    go_ret
    exact ⟨by first | rfl | (simp; done) | (simp [*]; done), by repeat (first | exact Drawn0.refl _ | apply Drawn0.step)⟩
def millwrightref03_Name.f (a0 : Int) : Option (ByteArray) := (some (([(⟨#[98, 117, 100, 103, 101, 116]⟩ : ByteArray), (⟨#[115, 108, 111, 116, 115]⟩ : ByteArray), (⟨#[97, 99, 116, 105, 118, 101]⟩ : ByteArray), (⟨#[113, 117, 101, 117, 101]⟩ : ByteArray), (⟨#[116, 114, 105, 101, 115]⟩ : ByteArray), (⟨#[112, 114, 101, 101, 109, 112, 116, 115]⟩ : ByteArray), (⟨#[116, 105, 109, 101, 111, 117, 116]⟩ : ByteArray), (⟨#[98, 97, 99, 107, 111, 102, 102]⟩ : ByteArray), (⟨#[109, 111, 115, 116]⟩ : ByteArray), (⟨#[113, 117, 97, 110, 116, 117, 109]⟩ : ByteArray)] : List ByteArray) : List ByteArray)).bind fun y107 => (if 0 ≤ a0 then (if a0 < (y107.length : Int) then (some (rdOf ByteArray.empty y107 a0)) else (none)) else (none))
set_option maxHeartbeats 8000000 in
set_option maxRecDepth 100000 in
theorem millwrightref03_Name.calls (a0 : Int) (r : ByteArray) (w : World) (h : millwrightref03_Name.f a0 = some r) :
    Calls Tryd.prog 30 #[.int .i64 a0] w fun e w' => e = .returned (.string r) ∧ Below w.heap.size w w' := by
  have HB := Aside0.mk (Below.refl w.heap.size w)
  have H : ((some (([(⟨#[98, 117, 100, 103, 101, 116]⟩ : ByteArray), (⟨#[115, 108, 111, 116, 115]⟩ : ByteArray), (⟨#[97, 99, 116, 105, 118, 101]⟩ : ByteArray), (⟨#[113, 117, 101, 117, 101]⟩ : ByteArray), (⟨#[116, 114, 105, 101, 115]⟩ : ByteArray), (⟨#[112, 114, 101, 101, 109, 112, 116, 115]⟩ : ByteArray), (⟨#[116, 105, 109, 101, 111, 117, 116]⟩ : ByteArray), (⟨#[98, 97, 99, 107, 111, 102, 102]⟩ : ByteArray), (⟨#[109, 111, 115, 116]⟩ : ByteArray), (⟨#[113, 117, 97, 110, 116, 117, 109]⟩ : ByteArray)] : List ByteArray) : List ByteArray)).bind fun y107 => (if 0 ≤ a0 then (if a0 < (y107.length : Int) then (some (rdOf ByteArray.empty y107 a0)) else (none)) else (none))) = some r := h
  clear h
  obtain ⟨y107, hy107⟩ : ∃ y_ : List ByteArray, y_ = (([(⟨#[98, 117, 100, 103, 101, 116]⟩ : ByteArray), (⟨#[115, 108, 111, 116, 115]⟩ : ByteArray), (⟨#[97, 99, 116, 105, 118, 101]⟩ : ByteArray), (⟨#[113, 117, 101, 117, 101]⟩ : ByteArray), (⟨#[116, 114, 105, 101, 115]⟩ : ByteArray), (⟨#[112, 114, 101, 101, 109, 112, 116, 115]⟩ : ByteArray), (⟨#[116, 105, 109, 101, 111, 117, 116]⟩ : ByteArray), (⟨#[98, 97, 99, 107, 111, 102, 102]⟩ : ByteArray), (⟨#[109, 111, 115, 116]⟩ : ByteArray), (⟨#[113, 117, 97, 110, 116, 117, 109]⟩ : ByteArray)] : List ByteArray)) := ⟨_, rfl⟩
  replace H : (if 0 ≤ a0 then (if a0 < (y107.length : Int) then (some (rdOf ByteArray.empty y107 a0)) else (none)) else (none)) = some r := by first | (rw [hy107]; with_reducible exact H) | (have H2_ := (Option.bind_some _ _).symm.trans H; rw [hy107]; with_reducible exact H2_) | (have H2_ := (Option.bind_some _ _).symm.trans H; with_reducible exact H2_) | with_reducible exact H | (rw [hy107]; exact H) | exact H
  have Ny107 := Aside0.mk hy107
  clear hy107
  by_cases c2 : 0 ≤ a0
  · rw [if_pos c2] at H
    have c2b0 : decide (0 ≤ a0) = true := decide_eq_true c2
    clear c2
    by_cases c3 : a0 < (y107.length : Int)
    · rw [if_pos c3] at H
      have c3b0 : decide (a0 < (y107.length : Int)) = true := decide_eq_true c3
      clear c3
      obtain rfl := Option.some.inj H
      go_enter Tryd.func30, Tryd.ntmps30
      go_wp2_with (first | ((with_reducible refine gate_dst (N := 4) rfl ?_); refine Kd.R_lit Kd.string _ 9 ?hg (N := 4) ?hd (xs := ([(⟨#[98, 117, 100, 103, 101, 116]⟩ : ByteArray), (⟨#[115, 108, 111, 116, 115]⟩ : ByteArray), (⟨#[97, 99, 116, 105, 118, 101]⟩ : ByteArray), (⟨#[113, 117, 101, 117, 101]⟩ : ByteArray), (⟨#[116, 114, 105, 101, 115]⟩ : ByteArray), (⟨#[112, 114, 101, 101, 109, 112, 116, 115]⟩ : ByteArray), (⟨#[116, 105, 109, 101, 111, 117, 116]⟩ : ByteArray), (⟨#[98, 97, 99, 107, 111, 102, 102]⟩ : ByteArray), (⟨#[109, 111, 115, 116]⟩ : ByteArray), (⟨#[113, 117, 97, 110, 116, 117, 109]⟩ : ByteArray)] : List ByteArray)) (inner := [.string (⟨#[98, 117, 100, 103, 101, 116]⟩ : ByteArray), .string (⟨#[115, 108, 111, 116, 115]⟩ : ByteArray), .string (⟨#[97, 99, 116, 105, 118, 101]⟩ : ByteArray), .string (⟨#[113, 117, 101, 117, 101]⟩ : ByteArray), .string (⟨#[116, 114, 105, 101, 115]⟩ : ByteArray), .string (⟨#[112, 114, 101, 101, 109, 112, 116, 115]⟩ : ByteArray), .string (⟨#[116, 105, 109, 101, 111, 117, 116]⟩ : ByteArray), .string (⟨#[98, 97, 99, 107, 111, 102, 102]⟩ : ByteArray), .string (⟨#[109, 111, 115, 116]⟩ : ByteArray), .string (⟨#[113, 117, 97, 110, 116, 117, 109]⟩ : ByteArray)]) (ok := fun _ => True) (okp := fun _ => True) ?hr ?hp (fun _ hk => hk) trivial (Below.refl _ _) (Nat.le_refl _) (by simp) ?_; (case hd => rfl); (case hg => rfl); (case hr => first | (go_simp; done) | (go_simp; rfl)); (case hp => exact (Reps.one (show Kd.M Kd.string _ _ _ (⟨#[98, 117, 100, 103, 101, 116]⟩ : ByteArray) [.string (⟨#[98, 117, 100, 103, 101, 116]⟩ : ByteArray)] from rfl) (Reps.one (show Kd.M Kd.string _ _ _ (⟨#[115, 108, 111, 116, 115]⟩ : ByteArray) [.string (⟨#[115, 108, 111, 116, 115]⟩ : ByteArray)] from rfl) (Reps.one (show Kd.M Kd.string _ _ _ (⟨#[97, 99, 116, 105, 118, 101]⟩ : ByteArray) [.string (⟨#[97, 99, 116, 105, 118, 101]⟩ : ByteArray)] from rfl) (Reps.one (show Kd.M Kd.string _ _ _ (⟨#[113, 117, 101, 117, 101]⟩ : ByteArray) [.string (⟨#[113, 117, 101, 117, 101]⟩ : ByteArray)] from rfl) (Reps.one (show Kd.M Kd.string _ _ _ (⟨#[116, 114, 105, 101, 115]⟩ : ByteArray) [.string (⟨#[116, 114, 105, 101, 115]⟩ : ByteArray)] from rfl) (Reps.one (show Kd.M Kd.string _ _ _ (⟨#[112, 114, 101, 101, 109, 112, 116, 115]⟩ : ByteArray) [.string (⟨#[112, 114, 101, 101, 109, 112, 116, 115]⟩ : ByteArray)] from rfl) (Reps.one (show Kd.M Kd.string _ _ _ (⟨#[116, 105, 109, 101, 111, 117, 116]⟩ : ByteArray) [.string (⟨#[116, 105, 109, 101, 111, 117, 116]⟩ : ByteArray)] from rfl) (Reps.one (show Kd.M Kd.string _ _ _ (⟨#[98, 97, 99, 107, 111, 102, 102]⟩ : ByteArray) [.string (⟨#[98, 97, 99, 107, 111, 102, 102]⟩ : ByteArray)] from rfl) (Reps.one (show Kd.M Kd.string _ _ _ (⟨#[109, 111, 115, 116]⟩ : ByteArray) [.string (⟨#[109, 111, 115, 116]⟩ : ByteArray)] from rfl) (Reps.one (show Kd.M Kd.string _ _ _ (⟨#[113, 117, 97, 110, 116, 117, 109]⟩ : ByteArray) [.string (⟨#[113, 117, 97, 110, 116, 117, 109]⟩ : ByteArray)] from rfl) (Reps.none _ _)))))))))))); intro v108 w4 ho5 hb hg_ hnew_; clear hg_ hnew_; (first | rw [← Ny107.out] at ho5 | (simp only [Int.reduceToNat] at ho5; rw [← Ny107.out] at ho5)); have n0_ := Aside0.mk (Kd.R_lower ho5 (below_size (by repeat (first | (with_reducible first | exact HB.out | apply below_alloc | apply pw_below_drewN | apply below_drew1) | exact HB.out)))); have n1_ := Aside0.mk (below_step (by repeat (first | (with_reducible first | exact HB.out | apply below_alloc | apply pw_below_drewN | apply below_drew1) | exact HB.out)) hb); clear HB; have HO109 := n0_; have HB := n1_; clear n0_ n1_; clear hb ho5; obtain ⟨Ao6, co6, eo6⟩ := Kd.R_slice HO109.out; subst eo6; have p110 : 0 ≤ (a0 : Int) := of_decide_eq_true (by first | (with_reducible assumption) | assumption); have q110 : a0 < (y107.length : Int) := of_decide_eq_true (by first | (with_reducible assumption) | assumption); obtain ⟨ad110, e110, hx110_0⟩ := Kd.at_string (Kd.R_reads' HO109.out).2.2 a0 p110 q110; cases e110; replace p110 := eq_true p110; replace q110 := eq_true q110))
      go_ret
      exact ⟨by first | rfl | (simp [errW_none, errW_some] <;> rfl) | (simp [*, errW_none, errW_some] <;> rfl), by repeat (first | (with_reducible first | exact HB.out | apply below_alloc | apply pw_below_drewN | apply below_drew1) | exact HB.out)⟩
    · rw [if_neg c3] at H
      exact absurd H (by simp)
  · rw [if_neg c2] at H
    exact absurd H (by simp)
end
theorem right_ref (v : Int) (w : World) : Calls Tryd.prog 29 #[.int .i64 v] w fun e w' => e = .returned (.bool (okN v)) ∧ Below w.heap.size w w' := by
  refine (millwrightref03_right.calls v (okN v) w ?_).mono fun e w' hh => ?_
  · unfold millwrightref03_right.f okN
    by_cases h : v ≥ 0
    · rw [if_pos h, decide_eq_true (show (0 : Int) ≤ v from h), Bool.true_and]
    · rw [if_neg h, decide_eq_false (show ¬ (0 : Int) ≤ v from h), Bool.false_and]
  · obtain ⟨he, n, rfl⟩ := hh
    exact ⟨he, pw_below_drewN (Below.refl _ _) n⟩
theorem name_f (i : Nat) (hi : i < 10) : millwrightref03_Name.f (i : Int) = some ⟨(namesT.getD i []).toArray⟩ := by
  have : i = 0 ∨ i = 1 ∨ i = 2 ∨ i = 3 ∨ i = 4 ∨ i = 5 ∨ i = 6 ∨ i = 7 ∨ i = 8 ∨ i = 9 := by omega
  rcases this with rfl | rfl | rfl | rfl | rfl | rfl | rfl | rfl | rfl | rfl <;> first | rfl | decide | (simp [millwrightref03_Name.f, rdOf, namesT]; done)
theorem name_ref (i : Nat) (hi : i < 10) (w : World) : Calls Tryd.prog 30 #[.int .i64 (i : Int)] w fun e w' => e = .returned (.string ⟨(namesT.getD i []).toArray⟩) ∧ Below w.heap.size w w' := by
  exact millwrightref03_Name.calls (i : Int) _ w (name_f i hi)
def mx0 (v : Int) : Int := if v < 0 then 0 else v
def pieceU (k : Nat) (v : Int) : List UInt8 := (([32] ++ namesT.getD k []) ++ [32]) ++ dig (mx0 v)
def cfgU : Nat → List Int → List UInt8
  | _, [] => []
  | k, v :: vs => pieceU k v ++ cfgU (k + 1) vs
def taskU (t : Tk) : List UInt8 := (((([116, 97, 115, 107, 32] ++ dig (mx0 t.mem)) ++ [32]) ++ dig (mx0 t.cost)) ++ [10])
def tasksU (ts : List Tk) : List UInt8 := ts.flatMap taskU
def opsU (os : List Opn) : List UInt8 := os.flatMap fun o => (lineP o).1
def okTk (t : Tk) : Bool := okN t.mem && okN t.cost
def okU (f : FileS) : Bool := (((decide (f.tasks.length ≤ 64) && decide (f.ops.length ≤ 4096)) && f.cfg.all okN) && (f.tasks.take 65).all okTk) && f.ops.all (fun o => (lineP o).2)
def refT (f : FileS) : List UInt8 × Int := if okU f = true then ((((configB ++ cfgU 0 f.cfg) ++ [10]) ++ tasksU (f.tasks.take 65)) ++ opsU f.ops, 0) else ([], 1)
theorem cfgU_snoc : ∀ (vs : List Int) (k : Nat) (v : Int), cfgU k (vs ++ [v]) = cfgU k vs ++ pieceU (k + vs.length) v
  | [], k, v => by simp [cfgU]
  | x :: vs, k, v => by
    rw [List.cons_append, cfgU, cfgU, cfgU_snoc vs (k + 1) v, List.length_cons, List.append_assoc, show k + 1 + vs.length = k + (vs.length + 1) by omega]
theorem lineP_ok (o : Opn) : (lineP o).2 = okOp o := by
  obtain ⟨k, a, b, c, d⟩ := o
  rw [Bool.eq_iff_iff]
  unfold lineP
  by_cases hr : inR ⟨k, a, b, c, d⟩
  · rw [if_pos hr]
    simp only [inR] at hr
    simp only [lineB, okOp, okN]
    (repeat' split) <;> simp only [Bool.and_eq_true, decide_eq_true_eq, beq_iff_eq] <;> omega
  · rw [if_neg hr]
    simp only [inR] at hr
    simp only [okOp, okN]
    (repeat' split) <;> simp only [Bool.and_eq_true, decide_eq_true_eq, Bool.false_eq_true, false_iff, iff_false, not_false_eq_true] <;> omega
theorem nm_dig (v : Int) (h : 0 ≤ v) : (Nm v).text = ints (dig v) := by
  unfold Nm dig Lib.itoa
  rw [if_neg (by omega)]
theorem line_text (o : Opn) (h : okOp o = true) : ints (lineP o).1 = joinW (opL o) ++ [10] := by
  have h2 := lineP_ok o
  rw [h] at h2
  obtain ⟨k, a, b, c, d⟩ := o
  unfold lineP at h2 ⊢
  by_cases hr : inR ⟨k, a, b, c, d⟩
  rotate_left
  · rw [if_neg hr] at h2
    cases h2
  rw [if_pos hr]
  simp only [inR] at hr
  have ea := nm_dig a hr.1.1
  have eb := nm_dig b hr.1.2.1
  have ec := nm_dig c hr.1.2.2.1
  have ed := nm_dig d hr.1.2.2.2
  by_cases h1 : k = 1
  · subst h1
    simp only [opL, lineT, if_true, joinW, ea, eb, ec, W, ints_append, submitB]
    simp [ints]
  by_cases h2 : k = 2
  · subst h2
    simp only [opL, lineT, h1, if_true, if_false, joinW, ea, W, ints_append, cancelB]
    simp [ints]
  by_cases h3 : k = 3
  · subst h3
    simp only [opL, lineT, h1, h2, if_true, if_false, joinW, W, tickB]
    simp [ints]
  by_cases h4 : k = 4
  · subst h4
    simp only [opL, lineT, h1, h2, h3, if_true, if_false, joinW, W, dispatchB]
    simp [ints]
  by_cases h6 : k = 6
  · subst h6
    simp only [opL, lineT, h1, h2, h3, h4, if_true, if_false, joinW, ea, W, ints_append, queryB]
    simp [ints]
  by_cases h5 : k = 5
  · subst h5
    by_cases c1 : c = 1
    · subst c1
      simp only [opL, lineT, h1, h2, h3, h4, h6, if_true, if_false, joinW, ea, eb, W, ints_append, answerB, didB]
      simp [ints, joinW, ea, eb]
    by_cases c2 : c = 2
    · subst c2
      simp only [opL, lineT, h1, h2, h3, h4, h6, c1, if_true, if_false, joinW, ea, eb, W, ints_append, answerB, failB]
      simp [ints, joinW, ea, eb]
    simp only [opL, lineT, h1, h2, h3, h4, h6, c1, c2, if_true, if_false, joinW, ea, eb, ed, W, ints_append, answerB, needB]
    simp [ints]
  · simp [okOp, h1, h2, h3, h4, h5, h6] at h
theorem mx0_ok {v : Int} (h : okN v = true) : mx0 v = v ∧ 0 ≤ v := by
  simp only [okN, Bool.and_eq_true, decide_eq_true_eq] at h
  exact ⟨if_neg (by omega), h.1⟩
theorem sp_cfg : ∀ (vs : List Int) (k : Nat), (∀ v ∈ vs, okN v = true) → sp (cfgL k vs) = ints (cfgU k vs)
  | [], k, _ => rfl
  | v :: vs, k, h => by
    obtain ⟨e1, e2⟩ := mx0_ok (h v (by simp))
    rw [cfgL, sp, sp, cfgU, ints_append, sp_cfg vs (k + 1) (fun x hx => h x (List.mem_cons_of_mem _ hx)), nm_dig v e2, pieceU, e1]
    simp [ints_append, ints, W]
theorem tasks_text : ∀ (ts : List Tk), (∀ t ∈ ts, okTk t = true) → docB (ts.map taskL) = ints (tasksU ts)
  | [], _ => rfl
  | t :: ts, h => by
    have h1 := h t (by simp)
    simp only [okTk, Bool.and_eq_true] at h1
    obtain ⟨e1, e2⟩ := mx0_ok h1.1
    obtain ⟨e3, e4⟩ := mx0_ok h1.2
    rw [List.map_cons, docB, tasks_text ts (fun x hx => h x (List.mem_cons_of_mem _ hx))]
    simp only [tasksU, List.flatMap_cons, taskL, joinW, nm_dig _ e2, nm_dig _ e4, taskU, e1, e3, W, taskB, ints_append]
    simp [ints]
theorem ops_text : ∀ (os : List Opn), (∀ o ∈ os, okOp o = true) → docB (os.map opL) = ints (opsU os)
  | [], _ => rfl
  | o :: os, h => by
    rw [List.map_cons, docB, ops_text os (fun x hx => h x (List.mem_cons_of_mem _ hx))]
    simp only [opsU, List.flatMap_cons, ints_append, line_text o (h o (by simp))]
    simp
theorem refT_eq (f : FileS) : refT f = textP f := by
  rw [textP_eq]
  unfold refT
  by_cases h : (64 < f.tasks.length ∨ 4096 < f.ops.length) ∨ okF f = false
  · rw [if_pos h, if_neg]
    intro hu
    simp only [okU, Bool.and_eq_true, decide_eq_true_eq] at hu
    rcases h with h | h
    · omega
    · have ht : f.tasks.take 65 = f.tasks := List.take_of_length_le (by omega)
      rw [ht] at hu
      have : okF f = true := by
        simp only [okF, Bool.and_eq_true]
        refine ⟨hu.1.1.2, hu.1.2, ?_⟩
        rw [List.all_eq_true]
        intro o ho
        have := List.all_eq_true.1 hu.2 o ho
        rw [lineP_ok] at this
        exact this
      rw [h] at this
      cases this
  · rw [if_neg h]
    have h1 : f.tasks.length ≤ 64 ∧ f.ops.length ≤ 4096 := by omega
    have h2 : okF f = true := by
      cases hk : okF f with
      | true => rfl
      | false => exact absurd (.inr hk) h
    have ht : f.tasks.take 65 = f.tasks := List.take_of_length_le (by omega)
    have h3 := h2
    simp only [okF, Bool.and_eq_true, List.all_eq_true] at h3
    have hu : okU f = true := by
      simp only [okU, Bool.and_eq_true, decide_eq_true_eq, List.all_eq_true]
      rw [ht]
      refine ⟨⟨⟨h1, h3.1⟩, fun t htm => ?_⟩, fun o ho => ?_⟩
      · simp only [okTk, Bool.and_eq_true]
        exact h3.2.1 t htm
      · rw [lineP_ok]
        exact h3.2.2 o ho
    rw [if_pos hu]
    congr 1
    apply ints_inj
    rw [textW_ok f h2, words, docB, docB_append, tasks_text f.tasks (fun t htm => by simp only [okTk, Bool.and_eq_true]; exact h3.2.1 t htm), ops_text f.ops h3.2.2, headL, joinW_cons, sp_cfg f.cfg 0 h3.1, ht]
    simp [ints, W]
end Go.Proofs.YtegbfimfpkendaaDoor.PbJ
