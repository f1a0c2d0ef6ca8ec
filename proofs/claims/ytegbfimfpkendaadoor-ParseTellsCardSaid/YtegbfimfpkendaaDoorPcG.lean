/- The walk of the reference's op. No condition but that there are the numbers. -/
import Derived.Test.YtegbfimfpkendaaDoorPcF
import Derived.Test.YtegbfimfpkendaaDoorMg27
namespace Go.Proofs.YtegbfimfpkendaaDoor.PcG
open Go.RowKit Go.Proofs.YtegbfimfpkendaaDoor.PParseTells Go.Proofs.YtegbfimfpkendaaDoorW.PrintWords Go.Proofs.YtegbfimfpkendaaDoorW.PrintLast Go.Proofs.YtegbfimfpkendaaDoorW.PrintMore LexS LexB PaA LexBox PaC PaD PaE PaF PaG PaL PcA PcB PcC PcD PcE PcF
set_option linter.unusedVariables false
set_option linter.unusedSimpArgs false
def opN (a b : ByteArray) : Nat :=
  if a.toList = submitB then 3
  else if a.toList = cancelB then 1
  else if a.toList = tickB then 0
  else if a.toList = dispatchB then 0
  else if a.toList = queryB then 1
  else if b.toList = needB then 3
  else 2
theorem set5 {w0 w : World} {g : Nat} {t : TypeId} {a b c d e : Value} (u0 u1 u2 u3 u4 : Value) (h : w.heap[g]? = some (.cells #[a, b, c, d, e] t (0, 0))) (hB : Below w0.heap.size w0 w) (hg : w0.heap.size ≤ g) :
    ∃ W, W = ((((w.setCell ⟨g, 0, none⟩ u0).setCell ⟨g, 1, none⟩ u1).setCell ⟨g, 2, none⟩ u2).setCell ⟨g, 3, none⟩ u3).setCell ⟨g, 4, none⟩ u4 ∧ W.heap[g]? = some (.cells #[u0, u1, u2, u3, u4] t (0, 0)) ∧ Below w0.heap.size w0 W :=
  ⟨_, rfl, blk_put (blk_put (blk_put (blk_put (blk_put h 0 u0 (cs' := #[u0, b, c, d, e]) rfl) 1 u1 (cs' := #[u0, u1, c, d, e]) rfl) 2 u2 (cs' := #[u0, u1, u2, d, e]) rfl) 3 u3 (cs' := #[u0, u1, u2, u3, e]) rfl) 4 u4 (cs' := #[u0, u1, u2, u3, u4]) rfl, ((((hB.setCell hg u0).setCell hg u1).setCell hg u2).setCell hg u3).setCell hg u4⟩
theorem ints_at {w : World} {A : Option Addr} {n : List Int} (h : (Kd.int .i64).C w A n.length n) (j : Nat) (hj : j < n.length) : ∃ ad : Addr, A = some ad ∧ w.cell? (ad.add j) = some (.int .i64 (n.getD j 0)) := by
  obtain ⟨ad, cs, e, hl, hK, hcc⟩ := Kd.C_get h 0 (j : Int) (by omega) (by omega)
  have hk : cs = [.int .i64 (n.getD j 0)] := hK
  subst hk
  have h0 := hcc 0 _ rfl
  rw [Int.toNat_natCast, show (Kd.int .i64).sz = 1 from rfl, Nat.mul_one, Nat.add_zero] at h0
  exact ⟨ad, e, h0⟩
theorem cell_lt {w : World} {p : Addr} {v : Value} (h : w.cell? p = some v) : p.block < w.heap.size := by
  unfold World.cell? at h
  cases hh : w.heap[p.block]? with
  | none => rw [hh] at h; simp at h
  | some ob => exact blk_lt hh
theorem len2 {n : List Int} (h : n.length = 2) : ∃ x y, n = [x, y] := by
  match n, h with
  | [x, y], _ => exact ⟨x, y, rfl⟩
theorem len3 {n : List Int} (h : n.length = 3) : ∃ x y z, n = [x, y, z] := by
  match n, h with
  | [x, y, z], _ => exact ⟨x, y, z, rfl⟩
def opVal (o : Opn) : Value := .agg #[.int .i64 o.kind, .int .i64 o.a, .int .i64 o.b, .int .i64 o.c, .int .i64 o.d]
set_option maxHeartbeats 4000000 in
set_option maxRecDepth 100000 in
theorem op_calls (a b : ByteArray) (n : List Int) (A : Option Addr) (m c : Nat) (w : World) (hm : n.length = m) (hC : (Kd.int .i64).C w A n.length n) (hn : n.length = opN a b) (r : Opn) (hr : opR a b n = r) :
    Calls Tryd.prog 45 #[.string a, .string b, .slice A m c] w fun e w' => e = .returned (opVal r) ∧ Below w.heap.size w w' := by
  subst hm
  have HC := Aside0.mk hC
  have HR := Aside0.mk hr
  have HN := Aside0.mk hn
  clear hC hr hn
  go_enter Tryd.func45, Tryd.ntmps45
  go_upto_region 1 with (first
    | ((with_reducible refine gate_dst (N := 6) rfl ?_); (try (refine gate_guard (by rfl) ?_; dsimp only)); refine box_event ?hg (N := 6) ?hd (cs := #[.int .i64 0, .int .i64 0, .int .i64 0, .int .i64 0, .int .i64 0]) (t := 46) ?hr ?_; (case hd => rfl); (case hg => rfl); (case hr => first | (go_simp; done) | (go_simp; rfl)); intro R hg w1 hbox hb; have RX := Aside0.mk hbox; have RB := Aside0.mk hb; have RG := Aside0.mk (Nat.le_of_eq hg.symm); clear hbox hb hg))
  obtain ⟨z0, z1, z2, z3, z4, y0, y1, y2, y3, y4⟩ := cells5 RX.out
  by_cases h_submitB : a.toList = submitB
  · have k : (a.toList == ([115, 117, 98, 109, 105, 116] : List UInt8)) = true := beq_iff_eq.2 h_submitB
    have hN : opN a b = 3 := by unfold opN; rw [if_pos h_submitB]
    obtain ⟨n0, n1, n2,  rfl⟩ : ∃ n0 n1 n2, n = [n0, n1, n2] := by
      have h := HN.out.trans hN
      exact len3 h
    obtain rfl : r = ⟨1, n0, n1, n2, 0⟩ := HR.out.symm.trans (by unfold opR; rw [if_pos h_submitB]; try rfl)
    obtain ⟨ad, e0, u0⟩ := ints_at (Kd.C_below HC.out RB.out) 0 (by simp)
    subst e0
    obtain ⟨ad1, e1, u1⟩ := ints_at (Kd.C_below HC.out RB.out) 1 (by simp)
    obtain rfl := Option.some.inj e1
    obtain ⟨ad2, e2, u2⟩ := ints_at (Kd.C_below HC.out RB.out) 2 (by simp)
    obtain rfl := Option.some.inj e2
    simp only [Addr.add_zero', List.getD_cons_zero, List.getD_cons_succ] at u0 u1 u2
    replace u1 : w1.cell? ⟨ad.block, ad.off + 1, none⟩ = some (.int .i64 n1) := u1
    replace u2 : w1.cell? ⟨ad.block, ad.off + 2, none⟩ = some (.int .i64 n2) := u2
    clear hN
    go_upto_region 3 with (fail)
    refine start_ (n := 11) (S := fun w' => w'.cell? ad = some (.int .i64 n0) ∧ w'.cell? ⟨ad.block, ad.off + 1, none⟩ = some (.int .i64 n1) ∧ w'.cell? ⟨ad.block, ad.off + 2, none⟩ = some (.int .i64 n2)) (ds := [10]) #[false, false, false, false, false, false, false, false, false, false, false] (by kernel_rfl) rfl rfl ⟨u0, u1, u2⟩ (fun hHeld => ?_)
    refine pure_ (i := 0) (N := some 11) (v := ?_) (a' := ?_) #[true, false, false, false, false, false, false, false, false, false, false] rfl rfl (by kernel_rfl) (fun _ _ _ h => h) (Or.inl ⟨by rfl, ?_⟩) ?_ ?_
    rotate_left
    · intro w'
      go_simp
      with_reducible rfl
    rotate_left
    · simp only [Act.put, List.setIfInBounds_toArray, List.set_cons_zero, List.set_cons_succ, i64_w, i32_w]
      rfl
    refine pure_ (i := 1) (N := some 12) (v := ?_) (a' := ?_) #[true, true, false, false, false, false, false, false, false, false, false] rfl rfl (by kernel_rfl) (fun _ _ _ h => h) (Or.inl ⟨by rfl, ?_⟩) ?_ ?_
    rotate_left
    · intro w'
      go_simp
      with_reducible rfl
    rotate_left
    · simp only [Act.put, List.setIfInBounds_toArray, List.set_cons_zero, List.set_cons_succ, i64_w, i32_w]
      rfl
    refine pure_ (i := 3) (N := some 14) (v := ?_) (a' := ?_) #[true, true, false, true, false, false, false, false, false, false, false] rfl rfl (by kernel_rfl) (fun _ _ _ h => h) (Or.inl ⟨by rfl, ?_⟩) ?_ ?_
    rotate_left
    · intro w'
      go_simp
      with_reducible rfl
    rotate_left
    · simp only [Act.put, List.setIfInBounds_toArray, List.set_cons_zero, List.set_cons_succ, i64_w, i32_w]
      rfl
    refine pure_ (i := 4) (N := some 15) (v := ?_) (a' := ?_) #[true, true, false, true, true, false, false, false, false, false, false] rfl rfl (by kernel_rfl) (fun _ _ _ h => h) (Or.inl ⟨by rfl, ?_⟩) ?_ ?_
    rotate_left
    · intro w'
      go_simp
      with_reducible rfl
    rotate_left
    · simp only [Act.put, List.setIfInBounds_toArray, List.set_cons_zero, List.set_cons_succ, i64_w, i32_w]
      rfl
    refine pure_ (i := 6) (N := some 17) (v := ?_) (a' := ?_) #[true, true, false, true, true, false, true, false, false, false, false] rfl rfl (by kernel_rfl) (fun _ _ _ h => h) (Or.inl ⟨by rfl, ?_⟩) ?_ ?_
    rotate_left
    · intro w'
      go_simp
      with_reducible rfl
    rotate_left
    · simp only [Act.put, List.setIfInBounds_toArray, List.set_cons_zero, List.set_cons_succ, i64_w, i32_w]
      rfl
    refine pure_ (i := 7) (N := some 18) (v := ?_) (a' := ?_) #[true, true, false, true, true, false, true, true, false, false, false] rfl rfl (by kernel_rfl) (fun _ _ _ h => h) (Or.inl ⟨by rfl, ?_⟩) ?_ ?_
    rotate_left
    · intro w'
      go_simp
      with_reducible rfl
    rotate_left
    · simp only [Act.put, List.setIfInBounds_toArray, List.set_cons_zero, List.set_cons_succ, i64_w, i32_w]
      rfl
    refine take_ (i := 2) (N := some 13) (v := ?_) (a' := ?_) #[true, true, true, true, true, false, true, true, false, false, false] rfl rfl (by kernel_rfl) (fun _ _ _ h => h) (Or.inl ⟨by rfl, ?_⟩) hHeld ?_ ?_
    rotate_left
    · rintro w' ⟨s0, s1, s2⟩
      go_simp
      with_reducible rfl
    rotate_left
    · simp only [Act.put, List.setIfInBounds_toArray, List.set_cons_zero, List.set_cons_succ, i64_w, i32_w]
      rfl
    refine take_ (i := 5) (N := some 16) (v := ?_) (a' := ?_) #[true, true, true, true, true, true, true, true, false, false, false] rfl rfl (by kernel_rfl) (fun _ _ _ h => h) (Or.inl ⟨by rfl, ?_⟩) hHeld ?_ ?_
    rotate_left
    · rintro w' ⟨s0, s1, s2⟩
      go_simp
      with_reducible rfl
    rotate_left
    · simp only [Act.put, List.setIfInBounds_toArray, List.set_cons_zero, List.set_cons_succ, i64_w, i32_w]
      rfl
    refine take_ (i := 8) (N := some 19) (v := ?_) (a' := ?_) #[true, true, true, true, true, true, true, true, true, false, false] rfl rfl (by kernel_rfl) (fun _ _ _ h => h) (Or.inl ⟨by rfl, ?_⟩) hHeld ?_ ?_
    rotate_left
    · rintro w' ⟨s0, s1, s2⟩
      go_simp
      with_reducible rfl
    rotate_left
    · simp only [Act.put, List.setIfInBounds_toArray, List.set_cons_zero, List.set_cons_succ, i64_w, i32_w]
      rfl
    refine pure_ (i := 9) (N := some 20) (v := ?_) (a' := ?_) #[true, true, true, true, true, true, true, true, true, true, false] rfl rfl (by kernel_rfl) (fun _ _ _ h => h) (Or.inl ⟨by rfl, ?_⟩) ?_ ?_
    rotate_left
    · intro w'
      go_simp
      with_reducible rfl
    rotate_left
    · simp only [Act.put, List.setIfInBounds_toArray, List.set_cons_zero, List.set_cons_succ, i64_w, i32_w]
      rfl
    refine last_ (i := 10) (N := none) #[true, true, true, true, true, true, true, true, true, true, true] rfl rfl (by kernel_rfl) (by decide) (fun K hK => ?_)
    refine skip_ (w1 := ?_) (by rfl) rfl ?_ ?_
    rotate_left
    · go_simp
      rfl
    refine hK.out _ _ ?_
    clear hK K
    refine done_ (by kernel_rfl) ?_
    obtain ⟨w9, hw9, hX, hB9⟩ := set5 (.int .i64 1) (.int .i64 n0) (.int .i64 n1) (.int .i64 n2) (.int .i64 0) RX.out RB.out RG.out
    rw [← hw9]
    have RF := Aside0.mk hX
    have B9 := Aside0.mk hB9
    clear hw9 hX hB9
    have RF := Aside0.mk (blk_drew RF.out)
    have B9 := Aside0.mk (below_drew B9.out)
    go_wp2
    obtain ⟨g0, g1, g2, g3, g4, -, -, -, -, -⟩ := cells5 RF.out
    refine bodyPost_ret (v := .agg #[.int .i64 1, .int .i64 n0, .int .i64 n1, .int .i64 n2, .int .i64 0]) ?_ rfl ⟨rfl, B9.out⟩
    simp [results, Tryd.results45, go_sem, g0, g1, g2, g3, g4]
  have k_submitB : (a.toList == ([115, 117, 98, 109, 105, 116] : List UInt8)) = false := beq_eq_false_iff_ne.2 h_submitB
  by_cases h_cancelB : a.toList = cancelB
  · have k : (a.toList == ([99, 97, 110, 99, 101, 108] : List UInt8)) = true := beq_iff_eq.2 h_cancelB
    have hN : opN a b = 1 := by unfold opN; rw [if_neg h_submitB, if_pos h_cancelB]
    obtain ⟨n0,  rfl⟩ : ∃ n0, n = [n0] := by
      have h := HN.out.trans hN
      exact List.length_eq_one_iff.1 h
    obtain rfl : r = ⟨2, n0, 0, 0, 0⟩ := HR.out.symm.trans (by unfold opR; rw [if_neg h_submitB, if_pos h_cancelB]; try rfl)
    obtain ⟨ad, e0, u0⟩ := ints_at (Kd.C_below HC.out RB.out) 0 (by simp)
    subst e0
    simp only [Addr.add_zero', List.getD_cons_zero, List.getD_cons_succ] at u0
    clear hN
    go_wp2
    obtain ⟨w9, hw9, hX, hB9⟩ := set5 (.int .i64 2) (.int .i64 n0) (.int .i64 0) (.int .i64 0) (.int .i64 0) RX.out RB.out RG.out
    rw [← hw9]
    have RF := Aside0.mk hX
    have B9 := Aside0.mk hB9
    clear hw9 hX hB9
    obtain ⟨g0, g1, g2, g3, g4, -, -, -, -, -⟩ := cells5 RF.out
    refine bodyPost_ret (v := .agg #[.int .i64 2, .int .i64 n0, .int .i64 0, .int .i64 0, .int .i64 0]) ?_ rfl ⟨rfl, B9.out⟩
    simp [results, Tryd.results45, go_sem, g0, g1, g2, g3, g4]
  have k_cancelB : (a.toList == ([99, 97, 110, 99, 101, 108] : List UInt8)) = false := beq_eq_false_iff_ne.2 h_cancelB
  by_cases h_tickB : a.toList = tickB
  · have k : (a.toList == ([116, 105, 99, 107] : List UInt8)) = true := beq_iff_eq.2 h_tickB
    have hN : opN a b = 0 := by unfold opN; rw [if_neg h_submitB, if_neg h_cancelB, if_pos h_tickB]
    obtain rfl : n = [] := List.length_eq_zero_iff.1 (HN.out.trans hN)
    obtain rfl : r = ⟨3, 0, 0, 0, 0⟩ := HR.out.symm.trans (by unfold opR; rw [if_neg h_submitB, if_neg h_cancelB, if_pos h_tickB]; try rfl)

    clear hN
    go_wp2
    obtain ⟨w9, hw9, hX, hB9⟩ := set5 (.int .i64 3) (.int .i64 0) (.int .i64 0) (.int .i64 0) (.int .i64 0) RX.out RB.out RG.out
    rw [← hw9]
    have RF := Aside0.mk hX
    have B9 := Aside0.mk hB9
    clear hw9 hX hB9
    obtain ⟨g0, g1, g2, g3, g4, -, -, -, -, -⟩ := cells5 RF.out
    refine bodyPost_ret (v := .agg #[.int .i64 3, .int .i64 0, .int .i64 0, .int .i64 0, .int .i64 0]) ?_ rfl ⟨rfl, B9.out⟩
    simp [results, Tryd.results45, go_sem, g0, g1, g2, g3, g4]
  have k_tickB : (a.toList == ([116, 105, 99, 107] : List UInt8)) = false := beq_eq_false_iff_ne.2 h_tickB
  by_cases h_dispatchB : a.toList = dispatchB
  · have k : (a.toList == ([100, 105, 115, 112, 97, 116, 99, 104] : List UInt8)) = true := beq_iff_eq.2 h_dispatchB
    have hN : opN a b = 0 := by unfold opN; rw [if_neg h_submitB, if_neg h_cancelB, if_neg h_tickB, if_pos h_dispatchB]
    obtain rfl : n = [] := List.length_eq_zero_iff.1 (HN.out.trans hN)
    obtain rfl : r = ⟨4, 0, 0, 0, 0⟩ := HR.out.symm.trans (by unfold opR; rw [if_neg h_submitB, if_neg h_cancelB, if_neg h_tickB, if_pos h_dispatchB]; try rfl)

    clear hN
    go_wp2
    obtain ⟨w9, hw9, hX, hB9⟩ := set5 (.int .i64 4) (.int .i64 0) (.int .i64 0) (.int .i64 0) (.int .i64 0) RX.out RB.out RG.out
    rw [← hw9]
    have RF := Aside0.mk hX
    have B9 := Aside0.mk hB9
    clear hw9 hX hB9
    obtain ⟨g0, g1, g2, g3, g4, -, -, -, -, -⟩ := cells5 RF.out
    refine bodyPost_ret (v := .agg #[.int .i64 4, .int .i64 0, .int .i64 0, .int .i64 0, .int .i64 0]) ?_ rfl ⟨rfl, B9.out⟩
    simp [results, Tryd.results45, go_sem, g0, g1, g2, g3, g4]
  have k_dispatchB : (a.toList == ([100, 105, 115, 112, 97, 116, 99, 104] : List UInt8)) = false := beq_eq_false_iff_ne.2 h_dispatchB
  by_cases h_queryB : a.toList = queryB
  · have k : (a.toList == ([113, 117, 101, 114, 121] : List UInt8)) = true := beq_iff_eq.2 h_queryB
    have hN : opN a b = 1 := by unfold opN; rw [if_neg h_submitB, if_neg h_cancelB, if_neg h_tickB, if_neg h_dispatchB, if_pos h_queryB]
    obtain ⟨n0,  rfl⟩ : ∃ n0, n = [n0] := by
      have h := HN.out.trans hN
      exact List.length_eq_one_iff.1 h
    obtain rfl : r = ⟨6, n0, 0, 0, 0⟩ := HR.out.symm.trans (by unfold opR; rw [if_neg h_submitB, if_neg h_cancelB, if_neg h_tickB, if_neg h_dispatchB, if_pos h_queryB]; try rfl)
    obtain ⟨ad, e0, u0⟩ := ints_at (Kd.C_below HC.out RB.out) 0 (by simp)
    subst e0
    simp only [Addr.add_zero', List.getD_cons_zero, List.getD_cons_succ] at u0
    clear hN
    go_wp2
    obtain ⟨w9, hw9, hX, hB9⟩ := set5 (.int .i64 6) (.int .i64 n0) (.int .i64 0) (.int .i64 0) (.int .i64 0) RX.out RB.out RG.out
    rw [← hw9]
    have RF := Aside0.mk hX
    have B9 := Aside0.mk hB9
    clear hw9 hX hB9
    obtain ⟨g0, g1, g2, g3, g4, -, -, -, -, -⟩ := cells5 RF.out
    refine bodyPost_ret (v := .agg #[.int .i64 6, .int .i64 n0, .int .i64 0, .int .i64 0, .int .i64 0]) ?_ rfl ⟨rfl, B9.out⟩
    simp [results, Tryd.results45, go_sem, g0, g1, g2, g3, g4]
  have k_queryB : (a.toList == ([113, 117, 101, 114, 121] : List UInt8)) = false := beq_eq_false_iff_ne.2 h_queryB
  go_upto_region 12 with (fail)
  clear k_submitB k_cancelB k_tickB k_dispatchB k_queryB
  by_cases h_needB : b.toList = needB
  · have kn : (b.toList == ([110, 101, 101, 100] : List UInt8)) = true := beq_iff_eq.2 h_needB
    have kf : (b.toList == ([102, 97, 105, 108] : List UInt8)) = false := beq_eq_false_iff_ne.2 (by rw [h_needB]; decide)
    have h_failB := True.intro
    have hN : opN a b = 3 := by unfold opN; rw [if_neg h_submitB, if_neg h_cancelB, if_neg h_tickB, if_neg h_dispatchB, if_neg h_queryB, if_pos h_needB]
    obtain ⟨n0, n1, n2,  rfl⟩ : ∃ n0 n1 n2, n = [n0, n1, n2] := by
      have h := HN.out.trans hN
      exact len3 h
    obtain rfl : r = ⟨5, n0, n1, 3, n2⟩ := HR.out.symm.trans (by unfold opR; rw [if_neg h_submitB, if_neg h_cancelB, if_neg h_tickB, if_neg h_dispatchB, if_neg h_queryB, if_pos h_needB]; try rfl)
    obtain ⟨ad, e0, u0⟩ := ints_at (Kd.C_below HC.out RB.out) 0 (by simp)
    subst e0
    obtain ⟨ad1, e1, u1⟩ := ints_at (Kd.C_below HC.out RB.out) 1 (by simp)
    obtain rfl := Option.some.inj e1
    obtain ⟨ad2, e2, u2⟩ := ints_at (Kd.C_below HC.out RB.out) 2 (by simp)
    obtain rfl := Option.some.inj e2
    simp only [Addr.add_zero', List.getD_cons_zero, List.getD_cons_succ] at u0 u1 u2
    replace u1 : w1.cell? ⟨ad.block, ad.off + 1, none⟩ = some (.int .i64 n1) := u1
    replace u2 : w1.cell? ⟨ad.block, ad.off + 2, none⟩ = some (.int .i64 n2) := u2
    clear hN h_submitB h_cancelB h_tickB h_dispatchB h_queryB h_needB h_failB
    have HU0 := Aside0.mk u0
    have HU1 := Aside0.mk u1
    refine start_ (n := 9) (S := fun w' => w'.cell? ad = some (.int .i64 n0) ∧ w'.cell? ⟨ad.block, ad.off + 1, none⟩ = some (.int .i64 n1)) (ds := [8]) #[false, false, false, false, false, false, false, false, false] (by kernel_rfl) rfl rfl ⟨u0, u1⟩ (fun hHeld => ?_)
    refine pure_ (i := 0) (N := some 39) (v := ?_) (a' := ?_) #[true, false, false, false, false, false, false, false, false] rfl rfl (by kernel_rfl) (fun _ _ _ h => h) (Or.inl ⟨by rfl, ?_⟩) ?_ ?_
    rotate_left
    · intro w'
      go_simp
      with_reducible rfl
    rotate_left
    · simp only [Act.put, List.setIfInBounds_toArray, List.set_cons_zero, List.set_cons_succ, i64_w, i32_w]
      rfl
    refine pure_ (i := 1) (N := some 40) (v := ?_) (a' := ?_) #[true, true, false, false, false, false, false, false, false] rfl rfl (by kernel_rfl) (fun _ _ _ h => h) (Or.inl ⟨by rfl, ?_⟩) ?_ ?_
    rotate_left
    · intro w'
      go_simp
      with_reducible rfl
    rotate_left
    · simp only [Act.put, List.setIfInBounds_toArray, List.set_cons_zero, List.set_cons_succ, i64_w, i32_w]
      rfl
    refine pure_ (i := 3) (N := some 42) (v := ?_) (a' := ?_) #[true, true, false, true, false, false, false, false, false] rfl rfl (by kernel_rfl) (fun _ _ _ h => h) (Or.inl ⟨by rfl, ?_⟩) ?_ ?_
    rotate_left
    · intro w'
      go_simp
      with_reducible rfl
    rotate_left
    · simp only [Act.put, List.setIfInBounds_toArray, List.set_cons_zero, List.set_cons_succ, i64_w, i32_w]
      rfl
    refine pure_ (i := 4) (N := some 43) (v := ?_) (a' := ?_) #[true, true, false, true, true, false, false, false, false] rfl rfl (by kernel_rfl) (fun _ _ _ h => h) (Or.inl ⟨by rfl, ?_⟩) ?_ ?_
    rotate_left
    · intro w'
      go_simp
      with_reducible rfl
    rotate_left
    · simp only [Act.put, List.setIfInBounds_toArray, List.set_cons_zero, List.set_cons_succ, i64_w, i32_w]
      rfl
    refine take_ (i := 2) (N := some 41) (v := ?_) (a' := ?_) #[true, true, true, true, true, false, false, false, false] rfl rfl (by kernel_rfl) (fun _ _ _ h => h) (Or.inl ⟨by rfl, ?_⟩) hHeld ?_ ?_
    rotate_left
    · rintro w' ⟨s0, s1⟩
      go_simp
      with_reducible rfl
    rotate_left
    · simp only [Act.put, List.setIfInBounds_toArray, List.set_cons_zero, List.set_cons_succ, i64_w, i32_w]
      rfl
    refine take_ (i := 5) (N := some 44) (v := ?_) (a' := ?_) #[true, true, true, true, true, true, false, false, false] rfl rfl (by kernel_rfl) (fun _ _ _ h => h) (Or.inl ⟨by rfl, ?_⟩) hHeld ?_ ?_
    rotate_left
    · rintro w' ⟨s0, s1⟩
      go_simp
      with_reducible rfl
    rotate_left
    · simp only [Act.put, List.setIfInBounds_toArray, List.set_cons_zero, List.set_cons_succ, i64_w, i32_w]
      rfl
    refine pure_ (i := 6) (N := some 45) (v := ?_) (a' := ?_) #[true, true, true, true, true, true, true, false, false] rfl rfl (by kernel_rfl) (fun _ _ _ h => h) (Or.inl ⟨by rfl, ?_⟩) ?_ ?_
    rotate_left
    · intro w'
      go_simp
      with_reducible rfl
    rotate_left
    · simp only [Act.put, List.setIfInBounds_toArray, List.set_cons_zero, List.set_cons_succ, i64_w, i32_w]
      rfl
    refine one_ (i := 7) (N := some 7) #[true, true, true, true, true, true, true, true, false] rfl rfl (by kernel_rfl) (by decide) (fun K hK => ?_)
    refine box_step (by rfl) (N := 7) rfl (cs := #[.int .i64 0, .int .i64 0, .int .i64 0, .int .i64 0, .int .i64 0]) (t := 46) ?hrneedB ?_
    (case hrneedB => first | (go_simp; done) | (go_simp; rfl))
    intro O hg w5 hbox hb
    have OX := Aside0.mk hbox
    have OG : Aside0 (w1.heap.size ≤ O) := ⟨Nat.le_of_eq hg.symm⟩
    have OB : Aside0 (Below w1.heap.size w1 w5) := ⟨by first | exact hb | exact below_step (below_drew (Below.refl _ _)) hb⟩
    obtain ⟨q0, q1, q2, q3, q4, f0, f1, f2, f3, f4⟩ := cells5 hbox
    clear hbox hb hg
    refine hK.out _ _ ⟨((OB.out.cell (cell_lt HU0.out)).trans HU0.out), ((OB.out.cell (p := ⟨ad.block, ad.off + 1, none⟩) (cell_lt HU1.out)).trans HU1.out)⟩ (fun hHeld => ?_)
    clear hK K
    refine norm_ (a' := ?_) ?_ ?_
    rotate_left
    · show Act.put _ (some 7) _ = _
      simp only [Act.put, List.setIfInBounds_toArray, List.set_cons_zero, List.set_cons_succ, i64_w, i32_w]
      rfl
    refine last_ (i := 8) (N := none) #[true, true, true, true, true, true, true, true, true] rfl rfl (by kernel_rfl) (by decide) (fun K hK => ?_)
    refine skip_ (w1 := ?_) (by rfl) rfl ?_ ?_
    rotate_left
    · go_simp
      rfl
    refine hK.out _ _ ?_
    clear hK K
    refine done_ (by kernel_rfl) ?_
    obtain ⟨w9, hw9, hX, hB9⟩ := set5 (.int .i64 5) (.int .i64 n0) (.int .i64 n1) (.int .i64 1) (.int .i64 0) OX.out OB.out OG.out
    rw [← hw9]
    have O9 := Aside0.mk hX
    have D9 := Aside0.mk hB9
    have R9 := Aside0.mk (blk_below RX.out D9.out)
    clear hw9 hX hB9 q0 q1 q2 q3 q4 f0 f1 f2 f3 f4 hHeld u0 u1 z0 z1 z2 z3 z4 y0 y1 y2 y3 y4
    obtain ⟨q0, q1, q2, q3, q4, f0, f1, f2, f3, f4⟩ := cells5 O9.out
    go_upto_region 17 with (fail)
    obtain ⟨w9b, hw9, hX, hB9⟩ : ∃ W, W = w9.setCell ⟨O, 3, none⟩ (.int .i64 3) ∧ W.heap[O]? = some (.cells #[.int .i64 5, .int .i64 n0, .int .i64 n1, .int .i64 3, .int .i64 0] 46 (0, 0)) ∧ Below w1.heap.size w1 W := ⟨_, rfl, blk_put O9.out 3 _ rfl, D9.out.setCell OG.out _⟩
    rw [← hw9]
    have O9 := Aside0.mk hX
    have D9 := Aside0.mk hB9
    clear hw9 hX hB9 q0 q1 q2 q3 q4 f0 f1 f2 f3 f4
    have u2 := (D9.out.cell (p := ⟨ad.block, ad.off + 2, none⟩) (cell_lt u2)).trans u2
    obtain ⟨q0, q1, q2, q3, q4, f0, f1, f2, f3, f4⟩ := cells5 O9.out
    go_upto_region 18 with (fail)
    obtain ⟨w9c, hw9, hX, hB9⟩ : ∃ W, W = w9b.setCell ⟨O, 4, none⟩ (.int .i64 n2) ∧ W.heap[O]? = some (.cells #[.int .i64 5, .int .i64 n0, .int .i64 n1, .int .i64 3, .int .i64 n2] 46 (0, 0)) ∧ Below w1.heap.size w1 W := ⟨_, rfl, blk_put O9.out 4 _ rfl, D9.out.setCell OG.out _⟩
    rw [← hw9]
    have O9 := Aside0.mk hX
    have D9 := Aside0.mk hB9
    have R9 := Aside0.mk (blk_below RX.out D9.out)
    clear hw9 hX hB9 q0 q1 q2 q3 q4 f0 f1 f2 f3 f4 u2
    obtain ⟨q0, q1, q2, q3, q4, -, -, -, -, -⟩ := cells5 O9.out
    obtain ⟨z0, z1, z2, z3, z4, y0, y1, y2, y3, y4⟩ := cells5 R9.out
    go_wp2
    obtain ⟨w9, hw9, hX, hB9⟩ := set5 (.int .i64 5) (.int .i64 n0) (.int .i64 n1) (.int .i64 3) (.int .i64 n2) R9.out (below_step RB.out D9.out) RG.out
    rw [← hw9]
    have RF := Aside0.mk hX
    have B9 := Aside0.mk hB9
    clear hw9 hX hB9
    obtain ⟨g0, g1, g2, g3, g4, -, -, -, -, -⟩ := cells5 RF.out
    refine bodyPost_ret (v := .agg #[.int .i64 5, .int .i64 n0, .int .i64 n1, .int .i64 3, .int .i64 n2]) ?_ rfl ⟨rfl, B9.out⟩
    simp [results, Tryd.results45, go_sem, g0, g1, g2, g3, g4]
  have kn : (b.toList == ([110, 101, 101, 100] : List UInt8)) = false := beq_eq_false_iff_ne.2 h_needB
  by_cases h_failB : b.toList = failB
  · have kf : (b.toList == ([102, 97, 105, 108] : List UInt8)) = true := beq_iff_eq.2 h_failB
    have hN : opN a b = 2 := by unfold opN; rw [if_neg h_submitB, if_neg h_cancelB, if_neg h_tickB, if_neg h_dispatchB, if_neg h_queryB, if_neg h_needB]
    obtain ⟨n0, n1,  rfl⟩ : ∃ n0 n1, n = [n0, n1] := by
      have h := HN.out.trans hN
      exact len2 h
    obtain rfl : r = ⟨5, n0, n1, 2, 0⟩ := HR.out.symm.trans (by unfold opR; rw [if_neg h_submitB, if_neg h_cancelB, if_neg h_tickB, if_neg h_dispatchB, if_neg h_queryB, if_neg h_needB, if_pos h_failB]; try rfl)
    obtain ⟨ad, e0, u0⟩ := ints_at (Kd.C_below HC.out RB.out) 0 (by simp)
    subst e0
    obtain ⟨ad1, e1, u1⟩ := ints_at (Kd.C_below HC.out RB.out) 1 (by simp)
    obtain rfl := Option.some.inj e1
    simp only [Addr.add_zero', List.getD_cons_zero, List.getD_cons_succ] at u0 u1
    replace u1 : w1.cell? ⟨ad.block, ad.off + 1, none⟩ = some (.int .i64 n1) := u1
    clear hN h_submitB h_cancelB h_tickB h_dispatchB h_queryB h_needB h_failB
    have HU0 := Aside0.mk u0
    have HU1 := Aside0.mk u1
    refine start_ (n := 9) (S := fun w' => w'.cell? ad = some (.int .i64 n0) ∧ w'.cell? ⟨ad.block, ad.off + 1, none⟩ = some (.int .i64 n1)) (ds := [8]) #[false, false, false, false, false, false, false, false, false] (by kernel_rfl) rfl rfl ⟨u0, u1⟩ (fun hHeld => ?_)
    refine pure_ (i := 0) (N := some 39) (v := ?_) (a' := ?_) #[true, false, false, false, false, false, false, false, false] rfl rfl (by kernel_rfl) (fun _ _ _ h => h) (Or.inl ⟨by rfl, ?_⟩) ?_ ?_
    rotate_left
    · intro w'
      go_simp
      with_reducible rfl
    rotate_left
    · simp only [Act.put, List.setIfInBounds_toArray, List.set_cons_zero, List.set_cons_succ, i64_w, i32_w]
      rfl
    refine pure_ (i := 1) (N := some 40) (v := ?_) (a' := ?_) #[true, true, false, false, false, false, false, false, false] rfl rfl (by kernel_rfl) (fun _ _ _ h => h) (Or.inl ⟨by rfl, ?_⟩) ?_ ?_
    rotate_left
    · intro w'
      go_simp
      with_reducible rfl
    rotate_left
    · simp only [Act.put, List.setIfInBounds_toArray, List.set_cons_zero, List.set_cons_succ, i64_w, i32_w]
      rfl
    refine pure_ (i := 3) (N := some 42) (v := ?_) (a' := ?_) #[true, true, false, true, false, false, false, false, false] rfl rfl (by kernel_rfl) (fun _ _ _ h => h) (Or.inl ⟨by rfl, ?_⟩) ?_ ?_
    rotate_left
    · intro w'
      go_simp
      with_reducible rfl
    rotate_left
    · simp only [Act.put, List.setIfInBounds_toArray, List.set_cons_zero, List.set_cons_succ, i64_w, i32_w]
      rfl
    refine pure_ (i := 4) (N := some 43) (v := ?_) (a' := ?_) #[true, true, false, true, true, false, false, false, false] rfl rfl (by kernel_rfl) (fun _ _ _ h => h) (Or.inl ⟨by rfl, ?_⟩) ?_ ?_
    rotate_left
    · intro w'
      go_simp
      with_reducible rfl
    rotate_left
    · simp only [Act.put, List.setIfInBounds_toArray, List.set_cons_zero, List.set_cons_succ, i64_w, i32_w]
      rfl
    refine take_ (i := 2) (N := some 41) (v := ?_) (a' := ?_) #[true, true, true, true, true, false, false, false, false] rfl rfl (by kernel_rfl) (fun _ _ _ h => h) (Or.inl ⟨by rfl, ?_⟩) hHeld ?_ ?_
    rotate_left
    · rintro w' ⟨s0, s1⟩
      go_simp
      with_reducible rfl
    rotate_left
    · simp only [Act.put, List.setIfInBounds_toArray, List.set_cons_zero, List.set_cons_succ, i64_w, i32_w]
      rfl
    refine take_ (i := 5) (N := some 44) (v := ?_) (a' := ?_) #[true, true, true, true, true, true, false, false, false] rfl rfl (by kernel_rfl) (fun _ _ _ h => h) (Or.inl ⟨by rfl, ?_⟩) hHeld ?_ ?_
    rotate_left
    · rintro w' ⟨s0, s1⟩
      go_simp
      with_reducible rfl
    rotate_left
    · simp only [Act.put, List.setIfInBounds_toArray, List.set_cons_zero, List.set_cons_succ, i64_w, i32_w]
      rfl
    refine pure_ (i := 6) (N := some 45) (v := ?_) (a' := ?_) #[true, true, true, true, true, true, true, false, false] rfl rfl (by kernel_rfl) (fun _ _ _ h => h) (Or.inl ⟨by rfl, ?_⟩) ?_ ?_
    rotate_left
    · intro w'
      go_simp
      with_reducible rfl
    rotate_left
    · simp only [Act.put, List.setIfInBounds_toArray, List.set_cons_zero, List.set_cons_succ, i64_w, i32_w]
      rfl
    refine one_ (i := 7) (N := some 7) #[true, true, true, true, true, true, true, true, false] rfl rfl (by kernel_rfl) (by decide) (fun K hK => ?_)
    refine box_step (by rfl) (N := 7) rfl (cs := #[.int .i64 0, .int .i64 0, .int .i64 0, .int .i64 0, .int .i64 0]) (t := 46) ?hrfailB ?_
    (case hrfailB => first | (go_simp; done) | (go_simp; rfl))
    intro O hg w5 hbox hb
    have OX := Aside0.mk hbox
    have OG : Aside0 (w1.heap.size ≤ O) := ⟨Nat.le_of_eq hg.symm⟩
    have OB : Aside0 (Below w1.heap.size w1 w5) := ⟨by first | exact hb | exact below_step (below_drew (Below.refl _ _)) hb⟩
    obtain ⟨q0, q1, q2, q3, q4, f0, f1, f2, f3, f4⟩ := cells5 hbox
    clear hbox hb hg
    refine hK.out _ _ ⟨((OB.out.cell (cell_lt HU0.out)).trans HU0.out), ((OB.out.cell (p := ⟨ad.block, ad.off + 1, none⟩) (cell_lt HU1.out)).trans HU1.out)⟩ (fun hHeld => ?_)
    clear hK K
    refine norm_ (a' := ?_) ?_ ?_
    rotate_left
    · show Act.put _ (some 7) _ = _
      simp only [Act.put, List.setIfInBounds_toArray, List.set_cons_zero, List.set_cons_succ, i64_w, i32_w]
      rfl
    refine last_ (i := 8) (N := none) #[true, true, true, true, true, true, true, true, true] rfl rfl (by kernel_rfl) (by decide) (fun K hK => ?_)
    refine skip_ (w1 := ?_) (by rfl) rfl ?_ ?_
    rotate_left
    · go_simp
      rfl
    refine hK.out _ _ ?_
    clear hK K
    refine done_ (by kernel_rfl) ?_
    obtain ⟨w9, hw9, hX, hB9⟩ := set5 (.int .i64 5) (.int .i64 n0) (.int .i64 n1) (.int .i64 1) (.int .i64 0) OX.out OB.out OG.out
    rw [← hw9]
    have O9 := Aside0.mk hX
    have D9 := Aside0.mk hB9
    have R9 := Aside0.mk (blk_below RX.out D9.out)
    clear hw9 hX hB9 q0 q1 q2 q3 q4 f0 f1 f2 f3 f4 hHeld u0 u1 z0 z1 z2 z3 z4 y0 y1 y2 y3 y4
    obtain ⟨q0, q1, q2, q3, q4, f0, f1, f2, f3, f4⟩ := cells5 O9.out
    go_upto_region 15 with (fail)
    obtain ⟨w9b, hw9, hX, hB9⟩ : ∃ W, W = w9.setCell ⟨O, 3, none⟩ (.int .i64 2) ∧ W.heap[O]? = some (.cells #[.int .i64 5, .int .i64 n0, .int .i64 n1, .int .i64 2, .int .i64 0] 46 (0, 0)) ∧ Below w1.heap.size w1 W := ⟨_, rfl, blk_put O9.out 3 _ rfl, D9.out.setCell OG.out _⟩
    rw [← hw9]
    have O9 := Aside0.mk hX
    have D9 := Aside0.mk hB9
    have R9 := Aside0.mk (blk_below RX.out D9.out)
    clear hw9 hX hB9 q0 q1 q2 q3 q4 f0 f1 f2 f3 f4
    obtain ⟨q0, q1, q2, q3, q4, -, -, -, -, -⟩ := cells5 O9.out
    obtain ⟨z0, z1, z2, z3, z4, y0, y1, y2, y3, y4⟩ := cells5 R9.out
    go_wp2
    obtain ⟨w9, hw9, hX, hB9⟩ := set5 (.int .i64 5) (.int .i64 n0) (.int .i64 n1) (.int .i64 2) (.int .i64 0) R9.out (below_step RB.out D9.out) RG.out
    rw [← hw9]
    have RF := Aside0.mk hX
    have B9 := Aside0.mk hB9
    clear hw9 hX hB9
    obtain ⟨g0, g1, g2, g3, g4, -, -, -, -, -⟩ := cells5 RF.out
    refine bodyPost_ret (v := .agg #[.int .i64 5, .int .i64 n0, .int .i64 n1, .int .i64 2, .int .i64 0]) ?_ rfl ⟨rfl, B9.out⟩
    simp [results, Tryd.results45, go_sem, g0, g1, g2, g3, g4]
  · have kf : (b.toList == ([102, 97, 105, 108] : List UInt8)) = false := beq_eq_false_iff_ne.2 h_failB
    have hN : opN a b = 2 := by unfold opN; rw [if_neg h_submitB, if_neg h_cancelB, if_neg h_tickB, if_neg h_dispatchB, if_neg h_queryB, if_neg h_needB]
    obtain ⟨n0, n1,  rfl⟩ : ∃ n0 n1, n = [n0, n1] := by
      have h := HN.out.trans hN
      exact len2 h
    obtain rfl : r = ⟨5, n0, n1, 1, 0⟩ := HR.out.symm.trans (by unfold opR; rw [if_neg h_submitB, if_neg h_cancelB, if_neg h_tickB, if_neg h_dispatchB, if_neg h_queryB, if_neg h_needB, if_neg h_failB]; try rfl)
    obtain ⟨ad, e0, u0⟩ := ints_at (Kd.C_below HC.out RB.out) 0 (by simp)
    subst e0
    obtain ⟨ad1, e1, u1⟩ := ints_at (Kd.C_below HC.out RB.out) 1 (by simp)
    obtain rfl := Option.some.inj e1
    simp only [Addr.add_zero', List.getD_cons_zero, List.getD_cons_succ] at u0 u1
    replace u1 : w1.cell? ⟨ad.block, ad.off + 1, none⟩ = some (.int .i64 n1) := u1
    clear hN h_submitB h_cancelB h_tickB h_dispatchB h_queryB h_needB h_failB
    have HU0 := Aside0.mk u0
    have HU1 := Aside0.mk u1
    refine start_ (n := 9) (S := fun w' => w'.cell? ad = some (.int .i64 n0) ∧ w'.cell? ⟨ad.block, ad.off + 1, none⟩ = some (.int .i64 n1)) (ds := [8]) #[false, false, false, false, false, false, false, false, false] (by kernel_rfl) rfl rfl ⟨u0, u1⟩ (fun hHeld => ?_)
    refine pure_ (i := 0) (N := some 39) (v := ?_) (a' := ?_) #[true, false, false, false, false, false, false, false, false] rfl rfl (by kernel_rfl) (fun _ _ _ h => h) (Or.inl ⟨by rfl, ?_⟩) ?_ ?_
    rotate_left
    · intro w'
      go_simp
      with_reducible rfl
    rotate_left
    · simp only [Act.put, List.setIfInBounds_toArray, List.set_cons_zero, List.set_cons_succ, i64_w, i32_w]
      rfl
    refine pure_ (i := 1) (N := some 40) (v := ?_) (a' := ?_) #[true, true, false, false, false, false, false, false, false] rfl rfl (by kernel_rfl) (fun _ _ _ h => h) (Or.inl ⟨by rfl, ?_⟩) ?_ ?_
    rotate_left
    · intro w'
      go_simp
      with_reducible rfl
    rotate_left
    · simp only [Act.put, List.setIfInBounds_toArray, List.set_cons_zero, List.set_cons_succ, i64_w, i32_w]
      rfl
    refine pure_ (i := 3) (N := some 42) (v := ?_) (a' := ?_) #[true, true, false, true, false, false, false, false, false] rfl rfl (by kernel_rfl) (fun _ _ _ h => h) (Or.inl ⟨by rfl, ?_⟩) ?_ ?_
    rotate_left
    · intro w'
      go_simp
      with_reducible rfl
    rotate_left
    · simp only [Act.put, List.setIfInBounds_toArray, List.set_cons_zero, List.set_cons_succ, i64_w, i32_w]
      rfl
    refine pure_ (i := 4) (N := some 43) (v := ?_) (a' := ?_) #[true, true, false, true, true, false, false, false, false] rfl rfl (by kernel_rfl) (fun _ _ _ h => h) (Or.inl ⟨by rfl, ?_⟩) ?_ ?_
    rotate_left
    · intro w'
      go_simp
      with_reducible rfl
    rotate_left
    · simp only [Act.put, List.setIfInBounds_toArray, List.set_cons_zero, List.set_cons_succ, i64_w, i32_w]
      rfl
    refine take_ (i := 2) (N := some 41) (v := ?_) (a' := ?_) #[true, true, true, true, true, false, false, false, false] rfl rfl (by kernel_rfl) (fun _ _ _ h => h) (Or.inl ⟨by rfl, ?_⟩) hHeld ?_ ?_
    rotate_left
    · rintro w' ⟨s0, s1⟩
      go_simp
      with_reducible rfl
    rotate_left
    · simp only [Act.put, List.setIfInBounds_toArray, List.set_cons_zero, List.set_cons_succ, i64_w, i32_w]
      rfl
    refine take_ (i := 5) (N := some 44) (v := ?_) (a' := ?_) #[true, true, true, true, true, true, false, false, false] rfl rfl (by kernel_rfl) (fun _ _ _ h => h) (Or.inl ⟨by rfl, ?_⟩) hHeld ?_ ?_
    rotate_left
    · rintro w' ⟨s0, s1⟩
      go_simp
      with_reducible rfl
    rotate_left
    · simp only [Act.put, List.setIfInBounds_toArray, List.set_cons_zero, List.set_cons_succ, i64_w, i32_w]
      rfl
    refine pure_ (i := 6) (N := some 45) (v := ?_) (a' := ?_) #[true, true, true, true, true, true, true, false, false] rfl rfl (by kernel_rfl) (fun _ _ _ h => h) (Or.inl ⟨by rfl, ?_⟩) ?_ ?_
    rotate_left
    · intro w'
      go_simp
      with_reducible rfl
    rotate_left
    · simp only [Act.put, List.setIfInBounds_toArray, List.set_cons_zero, List.set_cons_succ, i64_w, i32_w]
      rfl
    refine one_ (i := 7) (N := some 7) #[true, true, true, true, true, true, true, true, false] rfl rfl (by kernel_rfl) (by decide) (fun K hK => ?_)
    refine box_step (by rfl) (N := 7) rfl (cs := #[.int .i64 0, .int .i64 0, .int .i64 0, .int .i64 0, .int .i64 0]) (t := 46) ?hrdidB ?_
    (case hrdidB => first | (go_simp; done) | (go_simp; rfl))
    intro O hg w5 hbox hb
    have OX := Aside0.mk hbox
    have OG : Aside0 (w1.heap.size ≤ O) := ⟨Nat.le_of_eq hg.symm⟩
    have OB : Aside0 (Below w1.heap.size w1 w5) := ⟨by first | exact hb | exact below_step (below_drew (Below.refl _ _)) hb⟩
    obtain ⟨q0, q1, q2, q3, q4, f0, f1, f2, f3, f4⟩ := cells5 hbox
    clear hbox hb hg
    refine hK.out _ _ ⟨((OB.out.cell (cell_lt HU0.out)).trans HU0.out), ((OB.out.cell (p := ⟨ad.block, ad.off + 1, none⟩) (cell_lt HU1.out)).trans HU1.out)⟩ (fun hHeld => ?_)
    clear hK K
    refine norm_ (a' := ?_) ?_ ?_
    rotate_left
    · show Act.put _ (some 7) _ = _
      simp only [Act.put, List.setIfInBounds_toArray, List.set_cons_zero, List.set_cons_succ, i64_w, i32_w]
      rfl
    refine last_ (i := 8) (N := none) #[true, true, true, true, true, true, true, true, true] rfl rfl (by kernel_rfl) (by decide) (fun K hK => ?_)
    refine skip_ (w1 := ?_) (by rfl) rfl ?_ ?_
    rotate_left
    · go_simp
      rfl
    refine hK.out _ _ ?_
    clear hK K
    refine done_ (by kernel_rfl) ?_
    obtain ⟨w9, hw9, hX, hB9⟩ := set5 (.int .i64 5) (.int .i64 n0) (.int .i64 n1) (.int .i64 1) (.int .i64 0) OX.out OB.out OG.out
    rw [← hw9]
    have O9 := Aside0.mk hX
    have D9 := Aside0.mk hB9
    have R9 := Aside0.mk (blk_below RX.out D9.out)
    clear hw9 hX hB9 q0 q1 q2 q3 q4 f0 f1 f2 f3 f4 hHeld u0 u1 z0 z1 z2 z3 z4 y0 y1 y2 y3 y4
    obtain ⟨q0, q1, q2, q3, q4, -, -, -, -, -⟩ := cells5 O9.out
    obtain ⟨z0, z1, z2, z3, z4, y0, y1, y2, y3, y4⟩ := cells5 R9.out
    go_wp2
    obtain ⟨w9, hw9, hX, hB9⟩ := set5 (.int .i64 5) (.int .i64 n0) (.int .i64 n1) (.int .i64 1) (.int .i64 0) R9.out (below_step RB.out D9.out) RG.out
    rw [← hw9]
    have RF := Aside0.mk hX
    have B9 := Aside0.mk hB9
    clear hw9 hX hB9
    obtain ⟨g0, g1, g2, g3, g4, -, -, -, -, -⟩ := cells5 RF.out
    refine bodyPost_ret (v := .agg #[.int .i64 5, .int .i64 n0, .int .i64 n1, .int .i64 1, .int .i64 0]) ?_ rfl ⟨rfl, B9.out⟩
    simp [results, Tryd.results45, go_sem, g0, g1, g2, g3, g4]
end Go.Proofs.YtegbfimfpkendaaDoor.PcG
