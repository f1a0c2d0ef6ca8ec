/- The walk of LexBytes: at every byte it returns true. No condition. -/
import Derived.Test.YtekedpnlodnmnaaLexBy
namespace Go.Proofs.Ytekedpnlodnmnaa.LexBv
open Go.RowKit Go.Proofs.YtekedpnlodnmnaaW.PrintWords Go.Proofs.YtekedpnlodnmnaaW.PrintLast LexS LexB LexD LexSh LexBy
set_option linter.unusedVariables false
set_option linter.unusedSimpArgs false
theorem lit_C1 (w : World) (X : Obj) (bs : List Int) (C : Array Value) (hCl : C = (bs.map (Value.int .u8)).toArray) (e : TypeId) (fr : Nat × Nat) (n : Nat) (hn : bs.length = n) (hm : n ≤ 9223372036854775807) :
    (Kd.int .u8).C (((w.alloc X).alloc (.cells C e fr)).drew) (some ⟨w.heap.size + 1, 0, none⟩) n bs := by
  have h := Kd.C_drew (lit_C (w.alloc X) bs C hCl e fr n hn hm)
  have hs : (w.alloc X).heap.size = w.heap.size + 1 := by show (w.heap.push X).size = _; simp
  rw [hs] at h
  exact h
set_option maxHeartbeats 4000000 in
set_option maxRecDepth 100000 in
theorem at_lt9 (c : Int) (hc : 0 ≤ c ∧ c ≤ 255) (h : c ≤ 8) (w : World) : Calls Try.prog 9 #[.int .u8 c] w fun e w' => e = .returned (.bool true) ∧ Below w.heap.size w w' := by
  have f0 : ¬ 97 ≤ c := by omega
  have f1 : ¬ 65 ≤ c := by omega
  have f2 : ¬ 48 ≤ c := by omega
  have u0 : c ≤ 122 := by omega
  have u1 : c ≤ 90 := by omega
  have u2 : c ≤ 57 := by omega
  have w0 : decide (c ≤ 122) = true := decide_eq_true (by omega)
  have w1 : decide (c ≤ 90) = true := decide_eq_true (by omega)
  have w2 : decide (c ≤ 57) = true := decide_eq_true (by omega)
  have e32 : (c == 32) = false := beq_eq_false_iff_ne.mpr (by omega)
  have e9 : (c == 9) = false := beq_eq_false_iff_ne.mpr (by omega)
  have e13 : (c == 13) = false := beq_eq_false_iff_ne.mpr (by omega)
  have e10 : (c == 10) = false := beq_eq_false_iff_ne.mpr (by omega)
  have e35 : (c == 35) = false := beq_eq_false_iff_ne.mpr (by omega)
  have hlet : letter c = false := let_f (by omega)
  have hdig : digit c = false := dig_f (by omega)
  have hbla : LexBy.blank c = false := bla_f (by omega)
  have hc : (0 : Int) ≤ c ∧ (c : Int) ≤ 255 := by omega
  have ha := a_eq c hc
  have hd := d_eq c hc
  have h1 : lexF [c] = ([], 1, 2) := by rw [one_eq c hc]; unfold one; rw [hlet, hdig, hbla]; rfl
  go_enter Try.func9, Try.ntmps9
  go_wp2_with fail
  refine (shown_calls _).mono ?_
  rintro e w1 ⟨rfl, hB1⟩
  have HB1 := Aside0.mk hB1
  clear hB1
  go_wp2_with fail
  refine (lex_calls _ 1 [c] _ (lit_C w1 [c] _ rfl _ _ _ rfl (by simp)) (by simp)).mono ?_
  rintro e w2 ⟨v, rfl, ho, hB⟩
  rw [h1] at ho ⊢
  have hB2 : Below w1.heap.size w1 w2 := below_then (below_alloc (Below.refl _ _) _) (by simp) hB
  have HB2 := Aside0.mk (below_step HB1.out hB2)
  obtain ⟨vA, vc, rfl, _⟩ := Kd.R_reads ho
  clear ho hB hB2 HB1 h1
  go_wp2_with fail
  refine (lex_calls _ 3 [97, c, 98] _ (lit_C w2 [97, c, 98] _ rfl _ _ _ rfl (by simp)) (by simp)).mono ?_
  rintro e w3 ⟨v3, rfl, ho3, hB3⟩
  have HB3 := Aside0.mk (below_step HB2.out (below_then (below_alloc (Below.refl _ _) _) (by simp) hB3))
  obtain ⟨wA, wc, rfl, _⟩ := Kd.R_reads ho3
  rw [ha.1, hlet, hbla]
  clear ho3 hB3 HB2
  go_wp2_with fail
  refine (lex_calls _ 3 [49, c, 50] _ (lit_C w3 [49, c, 50] _ rfl _ _ _ rfl (by simp)) (by simp)).mono ?_
  rintro e w4 ⟨v4, rfl, ho4, hB4⟩
  have HB4 := Aside0.mk (below_step HB3.out (below_then (below_alloc (Below.refl _ _) _) (by simp) hB4))
  obtain ⟨xA, xc, rfl, _⟩ := Kd.R_reads ho4
  rw [hd.1, hdig, hbla]
  clear ho4 hB4 HB3
  go_wp2
  go_ret
  exact ⟨rfl, HB4.out⟩
set_option maxHeartbeats 4000000 in
set_option maxRecDepth 100000 in
theorem at_p9 (w : World) : Calls Try.prog 9 #[.int .u8 9] w fun e w' => e = .returned (.bool true) ∧ Below w.heap.size w w' := by
  have hlet : letter 9 = false := by decide
  have hdig : digit 9 = false := by decide
  have hbla : LexBy.blank 9 = true := by decide
  have hc : (0 : Int) ≤ 9 ∧ (9 : Int) ≤ 255 := by omega
  have ha := a_eq 9 hc
  have hd := d_eq 9 hc
  have h1 : lexF [9] = ([], 0, 0) := by rw [one_eq 9 hc]; unfold one; rw [hlet, hdig, hbla]; rfl
  go_enter Try.func9, Try.ntmps9
  go_wp2_with fail
  refine (shown_calls _).mono ?_
  rintro e w1 ⟨rfl, hB1⟩
  have HB1 := Aside0.mk hB1
  clear hB1
  go_wp2_with fail
  refine (lex_calls _ 1 [9] _ (lit_C w1 [9] _ rfl _ _ _ rfl (by simp)) (by simp)).mono ?_
  rintro e w2 ⟨v, rfl, ho, hB⟩
  rw [h1] at ho ⊢
  have hB2 : Below w1.heap.size w1 w2 := below_then (below_alloc (Below.refl _ _) _) (by simp) hB
  have HB2 := Aside0.mk (below_step HB1.out hB2)
  obtain ⟨vA, vc, rfl, _⟩ := Kd.R_reads ho
  clear ho hB hB2 HB1 h1
  go_wp2_with fail
  refine (lex_calls _ 3 [97, 9, 98] _ (lit_C w2 [97, 9, 98] _ rfl _ _ _ rfl (by simp)) (by simp)).mono ?_
  rintro e w3 ⟨v3, rfl, ho3, hB3⟩
  have HB3 := Aside0.mk (below_step HB2.out (below_then (below_alloc (Below.refl _ _) _) (by simp) hB3))
  obtain ⟨wA, wc, rfl, _⟩ := Kd.R_reads ho3
  rw [ha.1, hlet, hbla]
  clear ho3 hB3 HB2
  go_wp2_with fail
  refine (lex_calls _ 3 [49, 9, 50] _ (lit_C w3 [49, 9, 50] _ rfl _ _ _ rfl (by simp)) (by simp)).mono ?_
  rintro e w4 ⟨v4, rfl, ho4, hB4⟩
  have HB4 := Aside0.mk (below_step HB3.out (below_then (below_alloc (Below.refl _ _) _) (by simp) hB4))
  obtain ⟨xA, xc, rfl, _⟩ := Kd.R_reads ho4
  rw [hd.1, hdig, hbla]
  clear ho4 hB4 HB3
  go_wp2
  go_ret
  exact ⟨rfl, HB4.out⟩
set_option maxHeartbeats 4000000 in
set_option maxRecDepth 100000 in
theorem at_p10 (w : World) : Calls Try.prog 9 #[.int .u8 10] w fun e w' => e = .returned (.bool true) ∧ Below w.heap.size w w' := by
  have hlet : letter 10 = false := by decide
  have hdig : digit 10 = false := by decide
  have hbla : LexBy.blank 10 = true := by decide
  have hc : (0 : Int) ≤ 10 ∧ (10 : Int) ≤ 255 := by omega
  have ha := a_eq 10 hc
  have hd := d_eq 10 hc
  have h1 : lexF [10] = ([], 0, 0) := by rw [one_eq 10 hc]; unfold one; rw [hlet, hdig, hbla]; rfl
  go_enter Try.func9, Try.ntmps9
  go_wp2_with fail
  refine (shown_calls _).mono ?_
  rintro e w1 ⟨rfl, hB1⟩
  have HB1 := Aside0.mk hB1
  clear hB1
  go_wp2_with fail
  refine (lex_calls _ 1 [10] _ (lit_C w1 [10] _ rfl _ _ _ rfl (by simp)) (by simp)).mono ?_
  rintro e w2 ⟨v, rfl, ho, hB⟩
  rw [h1] at ho ⊢
  have hB2 : Below w1.heap.size w1 w2 := below_then (below_alloc (Below.refl _ _) _) (by simp) hB
  have HB2 := Aside0.mk (below_step HB1.out hB2)
  obtain ⟨vA, vc, rfl, _⟩ := Kd.R_reads ho
  clear ho hB hB2 HB1 h1
  go_wp2_with fail
  refine (lex_calls _ 3 [97, 10, 98] _ (lit_C w2 [97, 10, 98] _ rfl _ _ _ rfl (by simp)) (by simp)).mono ?_
  rintro e w3 ⟨v3, rfl, ho3, hB3⟩
  have HB3 := Aside0.mk (below_step HB2.out (below_then (below_alloc (Below.refl _ _) _) (by simp) hB3))
  obtain ⟨wA, wc, rfl, _⟩ := Kd.R_reads ho3
  rw [ha.1, hlet, hbla]
  clear ho3 hB3 HB2
  go_wp2_with fail
  refine (lex_calls _ 3 [49, 10, 50] _ (lit_C w3 [49, 10, 50] _ rfl _ _ _ rfl (by simp)) (by simp)).mono ?_
  rintro e w4 ⟨v4, rfl, ho4, hB4⟩
  have HB4 := Aside0.mk (below_step HB3.out (below_then (below_alloc (Below.refl _ _) _) (by simp) hB4))
  obtain ⟨xA, xc, rfl, _⟩ := Kd.R_reads ho4
  rw [hd.1, hdig, hbla]
  clear ho4 hB4 HB3
  go_wp2
  go_ret
  exact ⟨rfl, HB4.out⟩
set_option maxHeartbeats 4000000 in
set_option maxRecDepth 100000 in
theorem at_i11 (c : Int) (hc : 0 ≤ c ∧ c ≤ 255) (h : 11 ≤ c ∧ c ≤ 12) (w : World) : Calls Try.prog 9 #[.int .u8 c] w fun e w' => e = .returned (.bool true) ∧ Below w.heap.size w w' := by
  have f0 : ¬ 97 ≤ c := by omega
  have f1 : ¬ 65 ≤ c := by omega
  have f2 : ¬ 48 ≤ c := by omega
  have u0 : c ≤ 122 := by omega
  have u1 : c ≤ 90 := by omega
  have u2 : c ≤ 57 := by omega
  have w0 : decide (c ≤ 122) = true := decide_eq_true (by omega)
  have w1 : decide (c ≤ 90) = true := decide_eq_true (by omega)
  have w2 : decide (c ≤ 57) = true := decide_eq_true (by omega)
  have e32 : (c == 32) = false := beq_eq_false_iff_ne.mpr (by omega)
  have e9 : (c == 9) = false := beq_eq_false_iff_ne.mpr (by omega)
  have e13 : (c == 13) = false := beq_eq_false_iff_ne.mpr (by omega)
  have e10 : (c == 10) = false := beq_eq_false_iff_ne.mpr (by omega)
  have e35 : (c == 35) = false := beq_eq_false_iff_ne.mpr (by omega)
  have hlet : letter c = false := let_f (by omega)
  have hdig : digit c = false := dig_f (by omega)
  have hbla : LexBy.blank c = false := bla_f (by omega)
  have hc : (0 : Int) ≤ c ∧ (c : Int) ≤ 255 := by omega
  have ha := a_eq c hc
  have hd := d_eq c hc
  have h1 : lexF [c] = ([], 1, 2) := by rw [one_eq c hc]; unfold one; rw [hlet, hdig, hbla]; rfl
  go_enter Try.func9, Try.ntmps9
  go_wp2_with fail
  refine (shown_calls _).mono ?_
  rintro e w1 ⟨rfl, hB1⟩
  have HB1 := Aside0.mk hB1
  clear hB1
  go_wp2_with fail
  refine (lex_calls _ 1 [c] _ (lit_C w1 [c] _ rfl _ _ _ rfl (by simp)) (by simp)).mono ?_
  rintro e w2 ⟨v, rfl, ho, hB⟩
  rw [h1] at ho ⊢
  have hB2 : Below w1.heap.size w1 w2 := below_then (below_alloc (Below.refl _ _) _) (by simp) hB
  have HB2 := Aside0.mk (below_step HB1.out hB2)
  obtain ⟨vA, vc, rfl, _⟩ := Kd.R_reads ho
  clear ho hB hB2 HB1 h1
  go_wp2_with fail
  refine (lex_calls _ 3 [97, c, 98] _ (lit_C w2 [97, c, 98] _ rfl _ _ _ rfl (by simp)) (by simp)).mono ?_
  rintro e w3 ⟨v3, rfl, ho3, hB3⟩
  have HB3 := Aside0.mk (below_step HB2.out (below_then (below_alloc (Below.refl _ _) _) (by simp) hB3))
  obtain ⟨wA, wc, rfl, _⟩ := Kd.R_reads ho3
  rw [ha.1, hlet, hbla]
  clear ho3 hB3 HB2
  go_wp2_with fail
  refine (lex_calls _ 3 [49, c, 50] _ (lit_C w3 [49, c, 50] _ rfl _ _ _ rfl (by simp)) (by simp)).mono ?_
  rintro e w4 ⟨v4, rfl, ho4, hB4⟩
  have HB4 := Aside0.mk (below_step HB3.out (below_then (below_alloc (Below.refl _ _) _) (by simp) hB4))
  obtain ⟨xA, xc, rfl, _⟩ := Kd.R_reads ho4
  rw [hd.1, hdig, hbla]
  clear ho4 hB4 HB3
  go_wp2
  go_ret
  exact ⟨rfl, HB4.out⟩
set_option maxHeartbeats 4000000 in
set_option maxRecDepth 100000 in
theorem at_p13 (w : World) : Calls Try.prog 9 #[.int .u8 13] w fun e w' => e = .returned (.bool true) ∧ Below w.heap.size w w' := by
  have hlet : letter 13 = false := by decide
  have hdig : digit 13 = false := by decide
  have hbla : LexBy.blank 13 = true := by decide
  have hc : (0 : Int) ≤ 13 ∧ (13 : Int) ≤ 255 := by omega
  have ha := a_eq 13 hc
  have hd := d_eq 13 hc
  have h1 : lexF [13] = ([], 0, 0) := by rw [one_eq 13 hc]; unfold one; rw [hlet, hdig, hbla]; rfl
  go_enter Try.func9, Try.ntmps9
  go_wp2_with fail
  refine (shown_calls _).mono ?_
  rintro e w1 ⟨rfl, hB1⟩
  have HB1 := Aside0.mk hB1
  clear hB1
  go_wp2_with fail
  refine (lex_calls _ 1 [13] _ (lit_C w1 [13] _ rfl _ _ _ rfl (by simp)) (by simp)).mono ?_
  rintro e w2 ⟨v, rfl, ho, hB⟩
  rw [h1] at ho ⊢
  have hB2 : Below w1.heap.size w1 w2 := below_then (below_alloc (Below.refl _ _) _) (by simp) hB
  have HB2 := Aside0.mk (below_step HB1.out hB2)
  obtain ⟨vA, vc, rfl, _⟩ := Kd.R_reads ho
  clear ho hB hB2 HB1 h1
  go_wp2_with fail
  refine (lex_calls _ 3 [97, 13, 98] _ (lit_C w2 [97, 13, 98] _ rfl _ _ _ rfl (by simp)) (by simp)).mono ?_
  rintro e w3 ⟨v3, rfl, ho3, hB3⟩
  have HB3 := Aside0.mk (below_step HB2.out (below_then (below_alloc (Below.refl _ _) _) (by simp) hB3))
  obtain ⟨wA, wc, rfl, _⟩ := Kd.R_reads ho3
  rw [ha.1, hlet, hbla]
  clear ho3 hB3 HB2
  go_wp2_with fail
  refine (lex_calls _ 3 [49, 13, 50] _ (lit_C w3 [49, 13, 50] _ rfl _ _ _ rfl (by simp)) (by simp)).mono ?_
  rintro e w4 ⟨v4, rfl, ho4, hB4⟩
  have HB4 := Aside0.mk (below_step HB3.out (below_then (below_alloc (Below.refl _ _) _) (by simp) hB4))
  obtain ⟨xA, xc, rfl, _⟩ := Kd.R_reads ho4
  rw [hd.1, hdig, hbla]
  clear ho4 hB4 HB3
  go_wp2
  go_ret
  exact ⟨rfl, HB4.out⟩
set_option maxHeartbeats 4000000 in
set_option maxRecDepth 100000 in
theorem at_i14 (c : Int) (hc : 0 ≤ c ∧ c ≤ 255) (h : 14 ≤ c ∧ c ≤ 31) (w : World) : Calls Try.prog 9 #[.int .u8 c] w fun e w' => e = .returned (.bool true) ∧ Below w.heap.size w w' := by
  have f0 : ¬ 97 ≤ c := by omega
  have f1 : ¬ 65 ≤ c := by omega
  have f2 : ¬ 48 ≤ c := by omega
  have u0 : c ≤ 122 := by omega
  have u1 : c ≤ 90 := by omega
  have u2 : c ≤ 57 := by omega
  have w0 : decide (c ≤ 122) = true := decide_eq_true (by omega)
  have w1 : decide (c ≤ 90) = true := decide_eq_true (by omega)
  have w2 : decide (c ≤ 57) = true := decide_eq_true (by omega)
  have e32 : (c == 32) = false := beq_eq_false_iff_ne.mpr (by omega)
  have e9 : (c == 9) = false := beq_eq_false_iff_ne.mpr (by omega)
  have e13 : (c == 13) = false := beq_eq_false_iff_ne.mpr (by omega)
  have e10 : (c == 10) = false := beq_eq_false_iff_ne.mpr (by omega)
  have e35 : (c == 35) = false := beq_eq_false_iff_ne.mpr (by omega)
  have hlet : letter c = false := let_f (by omega)
  have hdig : digit c = false := dig_f (by omega)
  have hbla : LexBy.blank c = false := bla_f (by omega)
  have hc : (0 : Int) ≤ c ∧ (c : Int) ≤ 255 := by omega
  have ha := a_eq c hc
  have hd := d_eq c hc
  have h1 : lexF [c] = ([], 1, 2) := by rw [one_eq c hc]; unfold one; rw [hlet, hdig, hbla]; rfl
  go_enter Try.func9, Try.ntmps9
  go_wp2_with fail
  refine (shown_calls _).mono ?_
  rintro e w1 ⟨rfl, hB1⟩
  have HB1 := Aside0.mk hB1
  clear hB1
  go_wp2_with fail
  refine (lex_calls _ 1 [c] _ (lit_C w1 [c] _ rfl _ _ _ rfl (by simp)) (by simp)).mono ?_
  rintro e w2 ⟨v, rfl, ho, hB⟩
  rw [h1] at ho ⊢
  have hB2 : Below w1.heap.size w1 w2 := below_then (below_alloc (Below.refl _ _) _) (by simp) hB
  have HB2 := Aside0.mk (below_step HB1.out hB2)
  obtain ⟨vA, vc, rfl, _⟩ := Kd.R_reads ho
  clear ho hB hB2 HB1 h1
  go_wp2_with fail
  refine (lex_calls _ 3 [97, c, 98] _ (lit_C w2 [97, c, 98] _ rfl _ _ _ rfl (by simp)) (by simp)).mono ?_
  rintro e w3 ⟨v3, rfl, ho3, hB3⟩
  have HB3 := Aside0.mk (below_step HB2.out (below_then (below_alloc (Below.refl _ _) _) (by simp) hB3))
  obtain ⟨wA, wc, rfl, _⟩ := Kd.R_reads ho3
  rw [ha.1, hlet, hbla]
  clear ho3 hB3 HB2
  go_wp2_with fail
  refine (lex_calls _ 3 [49, c, 50] _ (lit_C w3 [49, c, 50] _ rfl _ _ _ rfl (by simp)) (by simp)).mono ?_
  rintro e w4 ⟨v4, rfl, ho4, hB4⟩
  have HB4 := Aside0.mk (below_step HB3.out (below_then (below_alloc (Below.refl _ _) _) (by simp) hB4))
  obtain ⟨xA, xc, rfl, _⟩ := Kd.R_reads ho4
  rw [hd.1, hdig, hbla]
  clear ho4 hB4 HB3
  go_wp2
  go_ret
  exact ⟨rfl, HB4.out⟩
set_option maxHeartbeats 4000000 in
set_option maxRecDepth 100000 in
theorem at_p32 (w : World) : Calls Try.prog 9 #[.int .u8 32] w fun e w' => e = .returned (.bool true) ∧ Below w.heap.size w w' := by
  have hlet : letter 32 = false := by decide
  have hdig : digit 32 = false := by decide
  have hbla : LexBy.blank 32 = true := by decide
  have hc : (0 : Int) ≤ 32 ∧ (32 : Int) ≤ 255 := by omega
  have ha := a_eq 32 hc
  have hd := d_eq 32 hc
  have h1 : lexF [32] = ([], 0, 0) := by rw [one_eq 32 hc]; unfold one; rw [hlet, hdig, hbla]; rfl
  go_enter Try.func9, Try.ntmps9
  go_wp2_with fail
  refine (shown_calls _).mono ?_
  rintro e w1 ⟨rfl, hB1⟩
  have HB1 := Aside0.mk hB1
  clear hB1
  go_wp2_with fail
  refine (lex_calls _ 1 [32] _ (lit_C w1 [32] _ rfl _ _ _ rfl (by simp)) (by simp)).mono ?_
  rintro e w2 ⟨v, rfl, ho, hB⟩
  rw [h1] at ho ⊢
  have hB2 : Below w1.heap.size w1 w2 := below_then (below_alloc (Below.refl _ _) _) (by simp) hB
  have HB2 := Aside0.mk (below_step HB1.out hB2)
  obtain ⟨vA, vc, rfl, _⟩ := Kd.R_reads ho
  clear ho hB hB2 HB1 h1
  go_wp2_with fail
  refine (lex_calls _ 3 [97, 32, 98] _ (lit_C w2 [97, 32, 98] _ rfl _ _ _ rfl (by simp)) (by simp)).mono ?_
  rintro e w3 ⟨v3, rfl, ho3, hB3⟩
  have HB3 := Aside0.mk (below_step HB2.out (below_then (below_alloc (Below.refl _ _) _) (by simp) hB3))
  obtain ⟨wA, wc, rfl, _⟩ := Kd.R_reads ho3
  rw [ha.1, hlet, hbla]
  clear ho3 hB3 HB2
  go_wp2_with fail
  refine (lex_calls _ 3 [49, 32, 50] _ (lit_C w3 [49, 32, 50] _ rfl _ _ _ rfl (by simp)) (by simp)).mono ?_
  rintro e w4 ⟨v4, rfl, ho4, hB4⟩
  have HB4 := Aside0.mk (below_step HB3.out (below_then (below_alloc (Below.refl _ _) _) (by simp) hB4))
  obtain ⟨xA, xc, rfl, _⟩ := Kd.R_reads ho4
  rw [hd.1, hdig, hbla]
  clear ho4 hB4 HB3
  go_wp2
  go_ret
  exact ⟨rfl, HB4.out⟩
set_option maxHeartbeats 4000000 in
set_option maxRecDepth 100000 in
theorem at_i33 (c : Int) (hc : 0 ≤ c ∧ c ≤ 255) (h : 33 ≤ c ∧ c ≤ 34) (w : World) : Calls Try.prog 9 #[.int .u8 c] w fun e w' => e = .returned (.bool true) ∧ Below w.heap.size w w' := by
  have f0 : ¬ 97 ≤ c := by omega
  have f1 : ¬ 65 ≤ c := by omega
  have f2 : ¬ 48 ≤ c := by omega
  have u0 : c ≤ 122 := by omega
  have u1 : c ≤ 90 := by omega
  have u2 : c ≤ 57 := by omega
  have w0 : decide (c ≤ 122) = true := decide_eq_true (by omega)
  have w1 : decide (c ≤ 90) = true := decide_eq_true (by omega)
  have w2 : decide (c ≤ 57) = true := decide_eq_true (by omega)
  have e32 : (c == 32) = false := beq_eq_false_iff_ne.mpr (by omega)
  have e9 : (c == 9) = false := beq_eq_false_iff_ne.mpr (by omega)
  have e13 : (c == 13) = false := beq_eq_false_iff_ne.mpr (by omega)
  have e10 : (c == 10) = false := beq_eq_false_iff_ne.mpr (by omega)
  have e35 : (c == 35) = false := beq_eq_false_iff_ne.mpr (by omega)
  have hlet : letter c = false := let_f (by omega)
  have hdig : digit c = false := dig_f (by omega)
  have hbla : LexBy.blank c = false := bla_f (by omega)
  have hc : (0 : Int) ≤ c ∧ (c : Int) ≤ 255 := by omega
  have ha := a_eq c hc
  have hd := d_eq c hc
  have h1 : lexF [c] = ([], 1, 2) := by rw [one_eq c hc]; unfold one; rw [hlet, hdig, hbla]; rfl
  go_enter Try.func9, Try.ntmps9
  go_wp2_with fail
  refine (shown_calls _).mono ?_
  rintro e w1 ⟨rfl, hB1⟩
  have HB1 := Aside0.mk hB1
  clear hB1
  go_wp2_with fail
  refine (lex_calls _ 1 [c] _ (lit_C w1 [c] _ rfl _ _ _ rfl (by simp)) (by simp)).mono ?_
  rintro e w2 ⟨v, rfl, ho, hB⟩
  rw [h1] at ho ⊢
  have hB2 : Below w1.heap.size w1 w2 := below_then (below_alloc (Below.refl _ _) _) (by simp) hB
  have HB2 := Aside0.mk (below_step HB1.out hB2)
  obtain ⟨vA, vc, rfl, _⟩ := Kd.R_reads ho
  clear ho hB hB2 HB1 h1
  go_wp2_with fail
  refine (lex_calls _ 3 [97, c, 98] _ (lit_C w2 [97, c, 98] _ rfl _ _ _ rfl (by simp)) (by simp)).mono ?_
  rintro e w3 ⟨v3, rfl, ho3, hB3⟩
  have HB3 := Aside0.mk (below_step HB2.out (below_then (below_alloc (Below.refl _ _) _) (by simp) hB3))
  obtain ⟨wA, wc, rfl, _⟩ := Kd.R_reads ho3
  rw [ha.1, hlet, hbla]
  clear ho3 hB3 HB2
  go_wp2_with fail
  refine (lex_calls _ 3 [49, c, 50] _ (lit_C w3 [49, c, 50] _ rfl _ _ _ rfl (by simp)) (by simp)).mono ?_
  rintro e w4 ⟨v4, rfl, ho4, hB4⟩
  have HB4 := Aside0.mk (below_step HB3.out (below_then (below_alloc (Below.refl _ _) _) (by simp) hB4))
  obtain ⟨xA, xc, rfl, _⟩ := Kd.R_reads ho4
  rw [hd.1, hdig, hbla]
  clear ho4 hB4 HB3
  go_wp2
  go_ret
  exact ⟨rfl, HB4.out⟩
set_option maxHeartbeats 4000000 in
set_option maxRecDepth 100000 in
theorem at_p35 (w : World) : Calls Try.prog 9 #[.int .u8 35] w fun e w' => e = .returned (.bool true) ∧ Below w.heap.size w w' := by
  have hlet : letter 35 = false := by decide
  have hdig : digit 35 = false := by decide
  have hbla : LexBy.blank 35 = true := by decide
  have hc : (0 : Int) ≤ 35 ∧ (35 : Int) ≤ 255 := by omega
  have ha := a_eq 35 hc
  have hd := d_eq 35 hc
  have h1 : lexF [35] = ([], 0, 0) := by rw [one_eq 35 hc]; unfold one; rw [hlet, hdig, hbla]; rfl
  go_enter Try.func9, Try.ntmps9
  go_wp2_with fail
  refine (shown_calls _).mono ?_
  rintro e w1 ⟨rfl, hB1⟩
  have HB1 := Aside0.mk hB1
  clear hB1
  go_wp2_with fail
  refine (lex_calls _ 1 [35] _ (lit_C w1 [35] _ rfl _ _ _ rfl (by simp)) (by simp)).mono ?_
  rintro e w2 ⟨v, rfl, ho, hB⟩
  rw [h1] at ho ⊢
  have hB2 : Below w1.heap.size w1 w2 := below_then (below_alloc (Below.refl _ _) _) (by simp) hB
  have HB2 := Aside0.mk (below_step HB1.out hB2)
  obtain ⟨vA, vc, rfl, _⟩ := Kd.R_reads ho
  clear ho hB hB2 HB1 h1
  go_wp2_with fail
  refine (lex_calls _ 3 [97, 35, 98] _ (lit_C w2 [97, 35, 98] _ rfl _ _ _ rfl (by simp)) (by simp)).mono ?_
  rintro e w3 ⟨v3, rfl, ho3, hB3⟩
  have HB3 := Aside0.mk (below_step HB2.out (below_then (below_alloc (Below.refl _ _) _) (by simp) hB3))
  obtain ⟨wA, wc, rfl, _⟩ := Kd.R_reads ho3
  rw [ha.1, hlet, hbla]
  clear ho3 hB3 HB2
  go_wp2_with fail
  refine (lex_calls _ 3 [49, 35, 50] _ (lit_C w3 [49, 35, 50] _ rfl _ _ _ rfl (by simp)) (by simp)).mono ?_
  rintro e w4 ⟨v4, rfl, ho4, hB4⟩
  have HB4 := Aside0.mk (below_step HB3.out (below_then (below_alloc (Below.refl _ _) _) (by simp) hB4))
  obtain ⟨xA, xc, rfl, _⟩ := Kd.R_reads ho4
  rw [hd.1, hdig, hbla]
  clear ho4 hB4 HB3
  go_wp2
  go_ret
  exact ⟨rfl, HB4.out⟩
set_option maxHeartbeats 4000000 in
set_option maxRecDepth 100000 in
theorem at_i36 (c : Int) (hc : 0 ≤ c ∧ c ≤ 255) (h : 36 ≤ c ∧ c ≤ 47) (w : World) : Calls Try.prog 9 #[.int .u8 c] w fun e w' => e = .returned (.bool true) ∧ Below w.heap.size w w' := by
  have f0 : ¬ 97 ≤ c := by omega
  have f1 : ¬ 65 ≤ c := by omega
  have f2 : ¬ 48 ≤ c := by omega
  have u0 : c ≤ 122 := by omega
  have u1 : c ≤ 90 := by omega
  have u2 : c ≤ 57 := by omega
  have w0 : decide (c ≤ 122) = true := decide_eq_true (by omega)
  have w1 : decide (c ≤ 90) = true := decide_eq_true (by omega)
  have w2 : decide (c ≤ 57) = true := decide_eq_true (by omega)
  have e32 : (c == 32) = false := beq_eq_false_iff_ne.mpr (by omega)
  have e9 : (c == 9) = false := beq_eq_false_iff_ne.mpr (by omega)
  have e13 : (c == 13) = false := beq_eq_false_iff_ne.mpr (by omega)
  have e10 : (c == 10) = false := beq_eq_false_iff_ne.mpr (by omega)
  have e35 : (c == 35) = false := beq_eq_false_iff_ne.mpr (by omega)
  have hlet : letter c = false := let_f (by omega)
  have hdig : digit c = false := dig_f (by omega)
  have hbla : LexBy.blank c = false := bla_f (by omega)
  have hc : (0 : Int) ≤ c ∧ (c : Int) ≤ 255 := by omega
  have ha := a_eq c hc
  have hd := d_eq c hc
  have h1 : lexF [c] = ([], 1, 2) := by rw [one_eq c hc]; unfold one; rw [hlet, hdig, hbla]; rfl
  go_enter Try.func9, Try.ntmps9
  go_wp2_with fail
  refine (shown_calls _).mono ?_
  rintro e w1 ⟨rfl, hB1⟩
  have HB1 := Aside0.mk hB1
  clear hB1
  go_wp2_with fail
  refine (lex_calls _ 1 [c] _ (lit_C w1 [c] _ rfl _ _ _ rfl (by simp)) (by simp)).mono ?_
  rintro e w2 ⟨v, rfl, ho, hB⟩
  rw [h1] at ho ⊢
  have hB2 : Below w1.heap.size w1 w2 := below_then (below_alloc (Below.refl _ _) _) (by simp) hB
  have HB2 := Aside0.mk (below_step HB1.out hB2)
  obtain ⟨vA, vc, rfl, _⟩ := Kd.R_reads ho
  clear ho hB hB2 HB1 h1
  go_wp2_with fail
  refine (lex_calls _ 3 [97, c, 98] _ (lit_C w2 [97, c, 98] _ rfl _ _ _ rfl (by simp)) (by simp)).mono ?_
  rintro e w3 ⟨v3, rfl, ho3, hB3⟩
  have HB3 := Aside0.mk (below_step HB2.out (below_then (below_alloc (Below.refl _ _) _) (by simp) hB3))
  obtain ⟨wA, wc, rfl, _⟩ := Kd.R_reads ho3
  rw [ha.1, hlet, hbla]
  clear ho3 hB3 HB2
  go_wp2_with fail
  refine (lex_calls _ 3 [49, c, 50] _ (lit_C w3 [49, c, 50] _ rfl _ _ _ rfl (by simp)) (by simp)).mono ?_
  rintro e w4 ⟨v4, rfl, ho4, hB4⟩
  have HB4 := Aside0.mk (below_step HB3.out (below_then (below_alloc (Below.refl _ _) _) (by simp) hB4))
  obtain ⟨xA, xc, rfl, _⟩ := Kd.R_reads ho4
  rw [hd.1, hdig, hbla]
  clear ho4 hB4 HB3
  go_wp2
  go_ret
  exact ⟨rfl, HB4.out⟩
set_option maxHeartbeats 4000000 in
set_option maxRecDepth 100000 in
theorem at_i58 (c : Int) (hc : 0 ≤ c ∧ c ≤ 255) (h : 58 ≤ c ∧ c ≤ 64) (w : World) : Calls Try.prog 9 #[.int .u8 c] w fun e w' => e = .returned (.bool true) ∧ Below w.heap.size w w' := by
  have f0 : ¬ 97 ≤ c := by omega
  have f1 : ¬ 65 ≤ c := by omega
  have f2 : 48 ≤ c := by omega
  have u0 : c ≤ 122 := by omega
  have u1 : c ≤ 90 := by omega
  have u2 : ¬ c ≤ 57 := by omega
  have w0 : decide (c ≤ 122) = true := decide_eq_true (by omega)
  have w1 : decide (c ≤ 90) = true := decide_eq_true (by omega)
  have w2 : decide (c ≤ 57) = false := decide_eq_false (by omega)
  have e32 : (c == 32) = false := beq_eq_false_iff_ne.mpr (by omega)
  have e9 : (c == 9) = false := beq_eq_false_iff_ne.mpr (by omega)
  have e13 : (c == 13) = false := beq_eq_false_iff_ne.mpr (by omega)
  have e10 : (c == 10) = false := beq_eq_false_iff_ne.mpr (by omega)
  have e35 : (c == 35) = false := beq_eq_false_iff_ne.mpr (by omega)
  have hlet : letter c = false := let_f (by omega)
  have hdig : digit c = false := dig_f (by omega)
  have hbla : LexBy.blank c = false := bla_f (by omega)
  have hc : (0 : Int) ≤ c ∧ (c : Int) ≤ 255 := by omega
  have ha := a_eq c hc
  have hd := d_eq c hc
  have h1 : lexF [c] = ([], 1, 2) := by rw [one_eq c hc]; unfold one; rw [hlet, hdig, hbla]; rfl
  go_enter Try.func9, Try.ntmps9
  go_wp2_with fail
  refine (shown_calls _).mono ?_
  rintro e w1 ⟨rfl, hB1⟩
  have HB1 := Aside0.mk hB1
  clear hB1
  go_wp2_with fail
  refine (lex_calls _ 1 [c] _ (lit_C w1 [c] _ rfl _ _ _ rfl (by simp)) (by simp)).mono ?_
  rintro e w2 ⟨v, rfl, ho, hB⟩
  rw [h1] at ho ⊢
  have hB2 : Below w1.heap.size w1 w2 := below_then (below_alloc (Below.refl _ _) _) (by simp) hB
  have HB2 := Aside0.mk (below_step HB1.out hB2)
  obtain ⟨vA, vc, rfl, _⟩ := Kd.R_reads ho
  clear ho hB hB2 HB1 h1
  go_wp2_with fail
  refine (lex_calls _ 3 [97, c, 98] _ (lit_C w2 [97, c, 98] _ rfl _ _ _ rfl (by simp)) (by simp)).mono ?_
  rintro e w3 ⟨v3, rfl, ho3, hB3⟩
  have HB3 := Aside0.mk (below_step HB2.out (below_then (below_alloc (Below.refl _ _) _) (by simp) hB3))
  obtain ⟨wA, wc, rfl, _⟩ := Kd.R_reads ho3
  rw [ha.1, hlet, hbla]
  clear ho3 hB3 HB2
  go_wp2_with fail
  refine (lex_calls _ 3 [49, c, 50] _ (lit_C w3 [49, c, 50] _ rfl _ _ _ rfl (by simp)) (by simp)).mono ?_
  rintro e w4 ⟨v4, rfl, ho4, hB4⟩
  have HB4 := Aside0.mk (below_step HB3.out (below_then (below_alloc (Below.refl _ _) _) (by simp) hB4))
  obtain ⟨xA, xc, rfl, _⟩ := Kd.R_reads ho4
  rw [hd.1, hdig, hbla]
  clear ho4 hB4 HB3
  go_wp2
  go_ret
  exact ⟨rfl, HB4.out⟩
set_option maxHeartbeats 4000000 in
set_option maxRecDepth 100000 in
theorem at_i91 (c : Int) (hc : 0 ≤ c ∧ c ≤ 255) (h : 91 ≤ c ∧ c ≤ 96) (w : World) : Calls Try.prog 9 #[.int .u8 c] w fun e w' => e = .returned (.bool true) ∧ Below w.heap.size w w' := by
  have f0 : ¬ 97 ≤ c := by omega
  have f1 : 65 ≤ c := by omega
  have f2 : 48 ≤ c := by omega
  have u0 : c ≤ 122 := by omega
  have u1 : ¬ c ≤ 90 := by omega
  have u2 : ¬ c ≤ 57 := by omega
  have w0 : decide (c ≤ 122) = true := decide_eq_true (by omega)
  have w1 : decide (c ≤ 90) = false := decide_eq_false (by omega)
  have w2 : decide (c ≤ 57) = false := decide_eq_false (by omega)
  have e32 : (c == 32) = false := beq_eq_false_iff_ne.mpr (by omega)
  have e9 : (c == 9) = false := beq_eq_false_iff_ne.mpr (by omega)
  have e13 : (c == 13) = false := beq_eq_false_iff_ne.mpr (by omega)
  have e10 : (c == 10) = false := beq_eq_false_iff_ne.mpr (by omega)
  have e35 : (c == 35) = false := beq_eq_false_iff_ne.mpr (by omega)
  have hlet : letter c = false := let_f (by omega)
  have hdig : digit c = false := dig_f (by omega)
  have hbla : LexBy.blank c = false := bla_f (by omega)
  have hc : (0 : Int) ≤ c ∧ (c : Int) ≤ 255 := by omega
  have ha := a_eq c hc
  have hd := d_eq c hc
  have h1 : lexF [c] = ([], 1, 2) := by rw [one_eq c hc]; unfold one; rw [hlet, hdig, hbla]; rfl
  go_enter Try.func9, Try.ntmps9
  go_wp2_with fail
  refine (shown_calls _).mono ?_
  rintro e w1 ⟨rfl, hB1⟩
  have HB1 := Aside0.mk hB1
  clear hB1
  go_wp2_with fail
  refine (lex_calls _ 1 [c] _ (lit_C w1 [c] _ rfl _ _ _ rfl (by simp)) (by simp)).mono ?_
  rintro e w2 ⟨v, rfl, ho, hB⟩
  rw [h1] at ho ⊢
  have hB2 : Below w1.heap.size w1 w2 := below_then (below_alloc (Below.refl _ _) _) (by simp) hB
  have HB2 := Aside0.mk (below_step HB1.out hB2)
  obtain ⟨vA, vc, rfl, _⟩ := Kd.R_reads ho
  clear ho hB hB2 HB1 h1
  go_wp2_with fail
  refine (lex_calls _ 3 [97, c, 98] _ (lit_C w2 [97, c, 98] _ rfl _ _ _ rfl (by simp)) (by simp)).mono ?_
  rintro e w3 ⟨v3, rfl, ho3, hB3⟩
  have HB3 := Aside0.mk (below_step HB2.out (below_then (below_alloc (Below.refl _ _) _) (by simp) hB3))
  obtain ⟨wA, wc, rfl, _⟩ := Kd.R_reads ho3
  rw [ha.1, hlet, hbla]
  clear ho3 hB3 HB2
  go_wp2_with fail
  refine (lex_calls _ 3 [49, c, 50] _ (lit_C w3 [49, c, 50] _ rfl _ _ _ rfl (by simp)) (by simp)).mono ?_
  rintro e w4 ⟨v4, rfl, ho4, hB4⟩
  have HB4 := Aside0.mk (below_step HB3.out (below_then (below_alloc (Below.refl _ _) _) (by simp) hB4))
  obtain ⟨xA, xc, rfl, _⟩ := Kd.R_reads ho4
  rw [hd.1, hdig, hbla]
  clear ho4 hB4 HB3
  go_wp2
  go_ret
  exact ⟨rfl, HB4.out⟩
set_option maxHeartbeats 4000000 in
set_option maxRecDepth 100000 in
theorem at_gt (c : Int) (hc : 0 ≤ c ∧ c ≤ 255) (h : 123 ≤ c) (w : World) : Calls Try.prog 9 #[.int .u8 c] w fun e w' => e = .returned (.bool true) ∧ Below w.heap.size w w' := by
  have f0 : 97 ≤ c := by omega
  have f1 : 65 ≤ c := by omega
  have f2 : 48 ≤ c := by omega
  have u0 : ¬ c ≤ 122 := by omega
  have u1 : ¬ c ≤ 90 := by omega
  have u2 : ¬ c ≤ 57 := by omega
  have w0 : decide (c ≤ 122) = false := decide_eq_false (by omega)
  have w1 : decide (c ≤ 90) = false := decide_eq_false (by omega)
  have w2 : decide (c ≤ 57) = false := decide_eq_false (by omega)
  have e32 : (c == 32) = false := beq_eq_false_iff_ne.mpr (by omega)
  have e9 : (c == 9) = false := beq_eq_false_iff_ne.mpr (by omega)
  have e13 : (c == 13) = false := beq_eq_false_iff_ne.mpr (by omega)
  have e10 : (c == 10) = false := beq_eq_false_iff_ne.mpr (by omega)
  have e35 : (c == 35) = false := beq_eq_false_iff_ne.mpr (by omega)
  have hlet : letter c = false := let_f (by omega)
  have hdig : digit c = false := dig_f (by omega)
  have hbla : LexBy.blank c = false := bla_f (by omega)
  have hc : (0 : Int) ≤ c ∧ (c : Int) ≤ 255 := by omega
  have ha := a_eq c hc
  have hd := d_eq c hc
  have h1 : lexF [c] = ([], 1, 2) := by rw [one_eq c hc]; unfold one; rw [hlet, hdig, hbla]; rfl
  go_enter Try.func9, Try.ntmps9
  go_wp2_with fail
  refine (shown_calls _).mono ?_
  rintro e w1 ⟨rfl, hB1⟩
  have HB1 := Aside0.mk hB1
  clear hB1
  go_wp2_with fail
  refine (lex_calls _ 1 [c] _ (lit_C w1 [c] _ rfl _ _ _ rfl (by simp)) (by simp)).mono ?_
  rintro e w2 ⟨v, rfl, ho, hB⟩
  rw [h1] at ho ⊢
  have hB2 : Below w1.heap.size w1 w2 := below_then (below_alloc (Below.refl _ _) _) (by simp) hB
  have HB2 := Aside0.mk (below_step HB1.out hB2)
  obtain ⟨vA, vc, rfl, _⟩ := Kd.R_reads ho
  clear ho hB hB2 HB1 h1
  go_wp2_with fail
  refine (lex_calls _ 3 [97, c, 98] _ (lit_C w2 [97, c, 98] _ rfl _ _ _ rfl (by simp)) (by simp)).mono ?_
  rintro e w3 ⟨v3, rfl, ho3, hB3⟩
  have HB3 := Aside0.mk (below_step HB2.out (below_then (below_alloc (Below.refl _ _) _) (by simp) hB3))
  obtain ⟨wA, wc, rfl, _⟩ := Kd.R_reads ho3
  rw [ha.1, hlet, hbla]
  clear ho3 hB3 HB2
  go_wp2_with fail
  refine (lex_calls _ 3 [49, c, 50] _ (lit_C w3 [49, c, 50] _ rfl _ _ _ rfl (by simp)) (by simp)).mono ?_
  rintro e w4 ⟨v4, rfl, ho4, hB4⟩
  have HB4 := Aside0.mk (below_step HB3.out (below_then (below_alloc (Below.refl _ _) _) (by simp) hB4))
  obtain ⟨xA, xc, rfl, _⟩ := Kd.R_reads ho4
  rw [hd.1, hdig, hbla]
  clear ho4 hB4 HB3
  go_wp2
  go_ret
  exact ⟨rfl, HB4.out⟩
end Go.Proofs.Ytekedpnlodnmnaa.LexBv
