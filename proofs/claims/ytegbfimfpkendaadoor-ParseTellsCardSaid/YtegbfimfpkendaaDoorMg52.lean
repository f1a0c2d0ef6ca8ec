/- The walk of ParseOrder: it returns true. Conditions: the tables are laid. The walk of same at two files that are alike. No condition. -/
import Derived.Test.YtegbfimfpkendaaDoorMg48
namespace Go.Proofs.YtegbfimfpkendaaDoor.PbC
open Go.RowKit Go.Proofs.YtegbfimfpkendaaDoorW.PrintWords Go.Proofs.YtegbfimfpkendaaDoorW.PrintLast Go.Proofs.YtegbfimfpkendaaDoorW.PrintMore LexS LexB PaA LexBox PaC PaD PaB PaE PaF PaG PaH PaL PaM PaN PaQ PaS PaT PaU PaV PaW PaX PaY PaZ PbA PbB
set_option linter.unusedVariables false
set_option linter.unusedSimpArgs false
theorem C_takes {α : Type} {k : Kd α} {w : World} {A : Option Addr} {xs : List α} (h : k.C w A xs.length xs) (n : Nat) : k.C w A (xs.take n).length (xs.take n) := by
  by_cases hn : n ≤ xs.length
  · exact Kd.C_take h hn
  · rw [List.take_of_length_le (by omega)]; exact h
end Go.Proofs.YtegbfimfpkendaaDoor.PbC
namespace Go.Proofs.YtegbfimfpkendaaDoor.PbS
open Go.RowKit Go.Proofs.YtegbfimfpkendaaDoorW.PrintWords Go.Proofs.YtegbfimfpkendaaDoorW.PrintLast Go.Proofs.YtegbfimfpkendaaDoorW.PrintMore LexS LexB PaA LexBox PaC PaD PaB PaE PaF PaG PaH PaL PaM PaN PaQ PaS PaT PaU PaV PaW PaX PaY PaZ PbA PbB PbC
set_option linter.unusedVariables false
set_option linter.unusedSimpArgs false
theorem eqS25 (d : Nat) (w : World) (x0 : Int) (x1 : Int) (x2 : Int) (x3 : Int) (x4 : Int) (x5 : Int) (x6 : Int) (x7 : Int) (x8 : Int) (x9 : Int) :
    (Op.equalIn (d + 2) 25 (.agg #[.int .i64 x0, .int .i64 x1, .int .i64 x2, .int .i64 x3, .int .i64 x4, .int .i64 x5, .int .i64 x6, .int .i64 x7, .int .i64 x8, .int .i64 x9]) (.agg #[.int .i64 x0, .int .i64 x1, .int .i64 x2, .int .i64 x3, .int .i64 x4, .int .i64 x5, .int .i64 x6, .int .i64 x7, .int .i64 x8, .int .i64 x9])).run Tryd.prog w = .ok true w := by
  have h : (Op.equalIn (d + 2) 25 (.agg #[.int .i64 x0, .int .i64 x1, .int .i64 x2, .int .i64 x3, .int .i64 x4, .int .i64 x5, .int .i64 x6, .int .i64 x7, .int .i64 x8, .int .i64 x9]) (.agg #[.int .i64 x0, .int .i64 x1, .int .i64 x2, .int .i64 x3, .int .i64 x4, .int .i64 x5, .int .i64 x6, .int .i64 x7, .int .i64 x8, .int .i64 x9])).run Tryd.prog w = .ok (x0 == x0 && (x1 == x1 && (x2 == x2 && (x3 == x3 && (x4 == x4 && (x5 == x5 && (x6 == x6 && (x7 == x7 && (x8 == x8 && (x9 == x9)))))))))) w := by
    refine eqA_of Tryd.underlying25 (by kernel_rfl) ?_
    refine eqf_cons (by rfl) (by go_simp; rfl) (by go_simp; rfl) (by go_simp) ?_
    refine eqf_cons (by rfl) (by go_simp; rfl) (by go_simp; rfl) (by go_simp) ?_
    refine eqf_cons (by rfl) (by go_simp; rfl) (by go_simp; rfl) (by go_simp) ?_
    refine eqf_cons (by rfl) (by go_simp; rfl) (by go_simp; rfl) (by go_simp) ?_
    refine eqf_cons (by rfl) (by go_simp; rfl) (by go_simp; rfl) (by go_simp) ?_
    refine eqf_cons (by rfl) (by go_simp; rfl) (by go_simp; rfl) (by go_simp) ?_
    refine eqf_cons (by rfl) (by go_simp; rfl) (by go_simp; rfl) (by go_simp) ?_
    refine eqf_cons (by rfl) (by go_simp; rfl) (by go_simp; rfl) (by go_simp) ?_
    refine eqf_cons (by rfl) (by go_simp; rfl) (by go_simp; rfl) (by go_simp) ?_
    exact eqf_last (by rfl) (by go_simp; rfl) (by go_simp; rfl) (by go_simp)
  rw [h]
  simp
theorem eqS51 (d : Nat) (w : World) (x0 : Int) (x1 : Int) :
    (Op.equalIn (d + 2) 51 (.agg #[.int .i64 x0, .int .i64 x1]) (.agg #[.int .i64 x0, .int .i64 x1])).run Tryd.prog w = .ok true w := by
  have h : (Op.equalIn (d + 2) 51 (.agg #[.int .i64 x0, .int .i64 x1]) (.agg #[.int .i64 x0, .int .i64 x1])).run Tryd.prog w = .ok (x0 == x0 && (x1 == x1)) w := by
    refine eqA_of Tryd.underlying51 (by kernel_rfl) ?_
    refine eqf_cons (by rfl) (by go_simp; rfl) (by go_simp; rfl) (by go_simp) ?_
    exact eqf_last (by rfl) (by go_simp; rfl) (by go_simp; rfl) (by go_simp)
  rw [h]
  simp
theorem eqS46 (d : Nat) (w : World) (x0 : Int) (x1 : Int) (x2 : Int) (x3 : Int) (x4 : Int) :
    (Op.equalIn (d + 2) 46 (.agg #[.int .i64 x0, .int .i64 x1, .int .i64 x2, .int .i64 x3, .int .i64 x4]) (.agg #[.int .i64 x0, .int .i64 x1, .int .i64 x2, .int .i64 x3, .int .i64 x4])).run Tryd.prog w = .ok true w := by
  have h : (Op.equalIn (d + 2) 46 (.agg #[.int .i64 x0, .int .i64 x1, .int .i64 x2, .int .i64 x3, .int .i64 x4]) (.agg #[.int .i64 x0, .int .i64 x1, .int .i64 x2, .int .i64 x3, .int .i64 x4])).run Tryd.prog w = .ok (x0 == x0 && (x1 == x1 && (x2 == x2 && (x3 == x3 && (x4 == x4))))) w := by
    refine eqA_of Tryd.underlying46 (by kernel_rfl) ?_
    refine eqf_cons (by rfl) (by go_simp; rfl) (by go_simp; rfl) (by go_simp) ?_
    refine eqf_cons (by rfl) (by go_simp; rfl) (by go_simp; rfl) (by go_simp) ?_
    refine eqf_cons (by rfl) (by go_simp; rfl) (by go_simp; rfl) (by go_simp) ?_
    refine eqf_cons (by rfl) (by go_simp; rfl) (by go_simp; rfl) (by go_simp) ?_
    exact eqf_last (by rfl) (by go_simp; rfl) (by go_simp; rfl) (by go_simp)
  rw [h]
  simp
theorem tk_get {w : World} {A : Option Addr} {n : Nat} {xs : List Tk} (h : kTk.C w A n xs) (i : Nat) (hi : i < n) : ∃ ad : Addr, A = some ad ∧ w.cell? (ad.add (i * 2)) = some (.int .i64 (xs.getD i ⟨0, 0⟩).mem) ∧ w.cell? ⟨(ad.add (i * 2)).block, (ad.add (i * 2)).off + 1, none⟩ = some (.int .i64 (xs.getD i ⟨0, 0⟩).cost) := by
  obtain ⟨ad, c, e, hl, hK, hc⟩ := Kd.C_get h ⟨0, 0⟩ (i : Int) (by omega) (by omega)
  obtain ⟨_, _, rfl, rfl, rfl⟩ := hK
  rw [Int.toNat_natCast] at hc
  exact ⟨ad, e, hc 0 _ rfl, by rw [← add_field _ _ 1 (by omega)]; exact hc 1 _ rfl⟩
theorem op_get {w : World} {A : Option Addr} {n : Nat} {xs : List Opn} (h : kOp.C w A n xs) (i : Nat) (hi : i < n) : ∃ ad : Addr, A = some ad ∧ w.cell? (ad.add (i * 5)) = some (.int .i64 (xs.getD i ⟨0, 0, 0, 0, 0⟩).kind) ∧ w.cell? ⟨(ad.add (i * 5)).block, (ad.add (i * 5)).off + 1, none⟩ = some (.int .i64 (xs.getD i ⟨0, 0, 0, 0, 0⟩).a) ∧ w.cell? ⟨(ad.add (i * 5)).block, (ad.add (i * 5)).off + 2, none⟩ = some (.int .i64 (xs.getD i ⟨0, 0, 0, 0, 0⟩).b) ∧ w.cell? ⟨(ad.add (i * 5)).block, (ad.add (i * 5)).off + 3, none⟩ = some (.int .i64 (xs.getD i ⟨0, 0, 0, 0, 0⟩).c) ∧ w.cell? ⟨(ad.add (i * 5)).block, (ad.add (i * 5)).off + 4, none⟩ = some (.int .i64 (xs.getD i ⟨0, 0, 0, 0, 0⟩).d) := by
  obtain ⟨ad, c, e, hl, hK, hc⟩ := Kd.C_get h ⟨0, 0, 0, 0, 0⟩ (i : Int) (by omega) (by omega)
  obtain ⟨_, _, rfl, rfl, ⟨_, _, rfl, rfl, ⟨_, _, rfl, rfl, ⟨_, _, rfl, rfl, rfl⟩⟩⟩⟩ := hK
  rw [Int.toNat_natCast] at hc
  exact ⟨ad, e, hc 0 _ rfl, by rw [← add_field _ _ 1 (by omega)]; exact hc 1 _ rfl, by rw [← add_field _ _ 2 (by omega)]; exact hc 2 _ rfl, by rw [← add_field _ _ 3 (by omega)]; exact hc 3 _ rfl, by rw [← add_field _ _ 4 (by omega)]; exact hc 4 _ rfl⟩
set_option maxHeartbeats 1000000 in
set_option maxRecDepth 100000 in
theorem same_calls (v0 v1 v2 v3 v4 v5 v6 v7 v8 v9 : Int) (tasks : List Tk) (ops : List Opn) (A1 A2 B1 B2 : Option Addr) (n1 n2 m1 m2 c1 c2 d1 d2 : Nat) (w : World) (ht1 : tasks.length = n1) (ht2 : tasks.length = n2) (ho1 : ops.length = m1) (ho2 : ops.length = m2) (hA1 : kTk.C w A1 tasks.length tasks) (hA2 : kTk.C w A2 tasks.length tasks) (hB1 : kOp.C w B1 ops.length ops) (hB2 : kOp.C w B2 ops.length ops) (hm : tasks.length ≤ 1000000 ∧ ops.length ≤ 1000000) :
    Calls Tryd.prog 12 #[.agg #[.int .i64 v0, .int .i64 v1, .int .i64 v2, .int .i64 v3, .int .i64 v4, .int .i64 v5, .int .i64 v6, .int .i64 v7, .int .i64 v8, .int .i64 v9, .slice A1 n1 c1, .slice B1 m1 d1], .agg #[.int .i64 v0, .int .i64 v1, .int .i64 v2, .int .i64 v3, .int .i64 v4, .int .i64 v5, .int .i64 v6, .int .i64 v7, .int .i64 v8, .int .i64 v9, .slice A2 n2 c2, .slice B2 m2 d2]] w fun e w' => e = .returned (.bool true) ∧ Below w.heap.size w w' := by
  subst ht1 ht2 ho1 ho2
  have HA1 := Aside0.mk hA1
  have HA2 := Aside0.mk hA2
  have HB1 := Aside0.mk hB1
  have HB2 := Aside0.mk hB2
  have HM := Aside0.mk hm
  clear hA1 hA2 hB1 hB2 hm
  have q25 := fun W => eqS25 9998 W v0 v1 v2 v3 v4 v5 v6 v7 v8 v9
  go_enter Tryd.func12, Tryd.ntmps12
  go_upto_region 1 with (first
    | ((with_reducible refine gate_dst (N := 2) rfl ?_); (try (refine gate_guard (by rfl) ?_; dsimp only)); refine box_event ?hg (N := 2) ?hd (cs := #[.int .i64 v0, .int .i64 v1, .int .i64 v2, .int .i64 v3, .int .i64 v4, .int .i64 v5, .int .i64 v6, .int .i64 v7, .int .i64 v8, .int .i64 v9, .slice A1 tasks.length c1, .slice B1 ops.length d1]) (t := 29) ?hr ?_; (case hd => rfl); (case hg => rfl); (case hr => first | (go_simp; done) | (go_simp; rfl)); intro F hg w1 hbox hb; have FX := Aside0.mk hbox; have FB := Aside0.mk hb; have FG := Aside0.mk (Nat.le_of_eq hg.symm); clear hbox hb hg)
    | ((with_reducible refine gate_dst (N := 3) rfl ?_); (try (refine gate_guard (by rfl) ?_; dsimp only)); refine box_event ?hg (N := 3) ?hd (cs := #[.int .i64 v0, .int .i64 v1, .int .i64 v2, .int .i64 v3, .int .i64 v4, .int .i64 v5, .int .i64 v6, .int .i64 v7, .int .i64 v8, .int .i64 v9, .slice A2 tasks.length c2, .slice B2 ops.length d2]) (t := 33) ?hr ?_; (case hd => rfl); (case hg => rfl); (case hr => first | (go_simp; done) | (go_simp; rfl)); intro R hg w2 hbox hb; have RX := Aside0.mk hbox; have RB := Aside0.mk hb; have RG := Aside0.mk (Nat.le_of_eq hg.symm); clear hbox hb hg))
  have FX2 := Aside0.mk (blk_below FX.out RB.out)
  have WB := Aside0.mk (below_step FB.out RB.out)
  clear FX FG RG FB RB
  obtain ⟨x0, x1, x2, x3, x4, x5, x6, x7, x8, x9, x10, x11, -, -, -, -, -, -, -, -, -, -, -, -⟩ := cells12 FX2.out
  obtain ⟨y0, y1, y2, y3, y4, y5, y6, y7, y8, y9, y10, y11, -, -, -, -, -, -, -, -, -, -, -, -⟩ := cells12 RX.out
  go_upto_region 4 with (fail)
  clear x0 x1 x2 x3 x4 x5 x6 x7 x8 x9 x10 x11 y0 y1 y2 y3 y4 y5 y6 y7 y8 y9 y10 y11 q25
  go_loopg [5] tasks.length (fun gg s5 wr => ∃ kk : Nat, kk ≤ tasks.length ∧ tasks.length - kk ≤ gg ∧ s5 = .int .i64 kk ∧ Aside0 (Below w2.heap.size w2 wr))
  case atStart => exact ⟨0, by omega, by omega, rfl, ⟨Below.refl _ _⟩⟩
  case round =>
    obtain ⟨kk, hkk, hg, rfl, BR⟩ := hrel
    have FR := Aside0.mk (blk_below FX2.out BR.out)
    have GR := Aside0.mk (blk_below RX.out BR.out)
    obtain ⟨-, -, -, -, -, -, -, -, -, -, x10, x11, -, -, -, -, -, -, -, -, -, -, -, -⟩ := cells12 FR.out
    obtain ⟨-, -, -, -, -, -, -, -, -, -, y10, y11, -, -, -, -, -, -, -, -, -, -, -, -⟩ := cells12 GR.out
    by_cases hlt : kk < tasks.length
    · have hltz : (kk : Int) < (tasks.length : Int) := by omega
      have hk0 : (0 : Int) ≤ (kk : Int) := by omega
      obtain ⟨a1, e1, u1, u2⟩ := tk_get (Kd.C_below (Kd.C_below HA1.out WB.out) BR.out) kk hlt
      obtain ⟨a2, e2, u3, u4⟩ := tk_get (Kd.C_below (Kd.C_below HA2.out WB.out) BR.out) kk hlt
      subst e1 e2
      generalize (tasks.getD kk ⟨0, 0⟩).mem = tm at u1 u3
      generalize (tasks.getD kk ⟨0, 0⟩).cost = tc at u2 u4
      have q51 := fun W => eqS51 9998 W tm tc
      have p1 := eq_true hk0
      have p2 := eq_true hltz
      have Hlt := Aside0.mk hlt
      have Hg := Aside0.mk hg
      clear hk0 hlt hltz hg hkk
      go_upto_region 6 with (fail)
      go_quiet (fail)
      go_wp2
      go_roundg (tasks.length - (kk + 1))
      case measure => have := Hlt.out; have := Hg.out; omega
      case rel =>
        have hlt := Hlt.out
        have hm := HM.out
        have e : wrap64 ((kk : Int) + 1) = ((kk + 1 : Nat) : Int) := by unfold wrap64; omega
        refine ⟨kk + 1, by omega, by omega, by first | (rw [e]) | (simp [e]), ⟨?_⟩⟩
        first | exact BR.out | exact pw_below_drewN BR.out _
    · have hltz : ¬ (kk : Int) < (tasks.length : Int) := by omega
      obtain rfl : kk = tasks.length := by omega
      clear hg hkk hlt
      go_upto_region 9 with (fail)
      clear x10 x11 y10 y11
      go_loopg [6] ops.length (fun gg s6 wr => ∃ kk : Nat, kk ≤ ops.length ∧ ops.length - kk ≤ gg ∧ s6 = .int .i64 kk ∧ Aside0 (Below w2.heap.size w2 wr))
      case atStart => exact ⟨0, by omega, by omega, rfl, BR⟩
      case round =>
        obtain ⟨kk, hkk, hg, rfl, BR⟩ := hrel
        have FR := Aside0.mk (blk_below FX2.out BR.out)
        have GR := Aside0.mk (blk_below RX.out BR.out)
        obtain ⟨-, -, -, -, -, -, -, -, -, -, x10, x11, -, -, -, -, -, -, -, -, -, -, -, -⟩ := cells12 FR.out
        obtain ⟨-, -, -, -, -, -, -, -, -, -, y10, y11, -, -, -, -, -, -, -, -, -, -, -, -⟩ := cells12 GR.out
        by_cases hlt : kk < ops.length
        · have hltz : (kk : Int) < (ops.length : Int) := by omega
          have hk0 : (0 : Int) ≤ (kk : Int) := by omega
          obtain ⟨b1, e1, u1, u2, u3, u4, u5⟩ := op_get (Kd.C_below (Kd.C_below HB1.out WB.out) BR.out) kk hlt
          obtain ⟨b2, e2, t1, t2, t3, t4, t5⟩ := op_get (Kd.C_below (Kd.C_below HB2.out WB.out) BR.out) kk hlt
          subst e1 e2
          generalize (ops.getD kk ⟨0, 0, 0, 0, 0⟩).kind = r1 at u1 t1
          generalize (ops.getD kk ⟨0, 0, 0, 0, 0⟩).a = r2 at u2 t2
          generalize (ops.getD kk ⟨0, 0, 0, 0, 0⟩).b = r3 at u3 t3
          generalize (ops.getD kk ⟨0, 0, 0, 0, 0⟩).c = r4 at u4 t4
          generalize (ops.getD kk ⟨0, 0, 0, 0, 0⟩).d = r5 at u5 t5
          have q46 := fun W => eqS46 9998 W r1 r2 r3 r4 r5
          have p1 := eq_true hk0
          have p2 := eq_true hltz
          have Hlt := Aside0.mk hlt
          have Hg := Aside0.mk hg
          clear hk0 hlt hltz hg hkk
          go_upto_region 11 with (fail)
          go_quiet (fail)
          go_wp2
          go_roundg (ops.length - (kk + 1))
          case measure => have := Hlt.out; have := Hg.out; omega
          case rel =>
            have hlt := Hlt.out
            have hm := HM.out
            have e : wrap64 ((kk : Int) + 1) = ((kk + 1 : Nat) : Int) := by unfold wrap64; omega
            refine ⟨kk + 1, by omega, by omega, by first | (rw [e]) | (simp [e]), ⟨?_⟩⟩
            first | exact BR.out | exact pw_below_drewN BR.out _
        · have hltz : ¬ (kk : Int) < (ops.length : Int) := by omega
          obtain rfl : kk = ops.length := by omega
          clear hg hkk hlt
          go_wp2
          first | go_ret | go_ret2
          exact ⟨rfl, below_step WB.out BR.out⟩
end Go.Proofs.YtegbfimfpkendaaDoor.PbS
