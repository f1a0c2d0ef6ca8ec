/- The walk of the statements' first part, shown: it returns true. No condition. -/
import Derived.Test.YtekedpnlodnmnaaLexE
import Derived.Lib.SlBytesConst
namespace Go.Proofs.Ytekedpnlodnmnaa.LexSh
open Go.RowKit Go.Proofs.YtekedpnlodnmnaaW.PrintWords LexS LexB LexD
set_option linter.unusedVariables false
set_option linter.unusedSimpArgs false
theorem lit_C (w : World) (bs : List Int) (C : Array Value) (hCl : C = (bs.map (Value.int .u8)).toArray) (e : TypeId) (fr : Nat × Nat) (n : Nat) (hn : bs.length = n) (hm : n ≤ 9223372036854775807) :
    (Kd.int .u8).C (w.alloc (.cells C e fr)) (some ⟨w.heap.size, 0, none⟩) n bs := by
  refine Kd.C_of_reads (d := (0 : Int)) ⟨hn, hm, fun _ => ⟨_, rfl, fun j hj => ?_⟩⟩
  have hb : (w.alloc (.cells C e fr)).heap[w.heap.size]? = some (.cells C e fr) := by
    show (w.heap.push (.cells C e fr))[w.heap.size]? = _
    simp
  rw [add_plain, cell_of_row _ _ _ _ _ _ hb, hCl]
  simp [List.getD_eq_getElem?_getD, List.getElem?_eq_getElem (show j < bs.length by omega)]
theorem tok_at {w : World} {b n : Nat} {xs : List Tok} (h : kTok.C w (some ⟨b, 0, none⟩) n xs) (i : Nat) (hi : i < n) :
    w.cell? ⟨b, i * 3, none⟩ = some (.int .i64 (xs.getD i ⟨0, [], 0⟩).kind) ∧ w.cell? ⟨b, i * 3 + 1, none⟩ = some (.string (strOfNums (xs.getD i ⟨0, [], 0⟩).text)) ∧ w.cell? ⟨b, i * 3 + 2, none⟩ = some (.int .i64 (xs.getD i ⟨0, [], 0⟩).line) := by
  obtain ⟨ad, c, e, hl, hK, hc⟩ := Kd.C_get h ⟨0, [], 0⟩ (i : Int) (by omega) (by omega)
  cases e
  obtain ⟨_, _, rfl, rfl, ⟨_, _, rfl, rfl, rfl⟩⟩ := hK
  rw [Int.toNat_natCast] at hc
  have hc0 := hc 0 _ rfl
  have hc1 := hc 1 _ rfl
  have hc2 := hc 2 _ rfl
  rw [add_plain] at hc0 hc1 hc2
  exact ⟨hc0, hc1, hc2⟩
def bs1 : List Int := [10, 32, 116, 97, 115, 107, 32, 53, 32, 35, 32, 111, 110, 101, 10, 120]
def bs2 : List Int := [97, 10, 53, 120]
theorem lex1 : lexF bs1 = ([⟨1, [116, 97, 115, 107], 2⟩, ⟨2, [53], 2⟩, ⟨3, [], 2⟩, ⟨1, [120], 3⟩, ⟨3, [], 3⟩], 0, 0) := by decide +kernel
theorem lex2 : lexF bs2 = ([], 2, 2) := by decide +kernel
theorem cells1 {W : World} {b : Nat} (hC : kTok.C W (some ⟨b, 0, none⟩) 5 [⟨1, [116, 97, 115, 107], 2⟩, ⟨2, [53], 2⟩, ⟨3, [], 2⟩, ⟨1, [120], 3⟩, ⟨3, [], 3⟩]) : W.cell? ⟨b, 0, none⟩ = some (.int .i64 1) ∧ W.cell? ⟨b, 1, none⟩ = some (.string ⟨#[116, 97, 115, 107]⟩) ∧ W.cell? ⟨b, 2, none⟩ = some (.int .i64 2) ∧ W.cell? ⟨b, 3, none⟩ = some (.int .i64 2) ∧ W.cell? ⟨b, 4, none⟩ = some (.string ⟨#[53]⟩) ∧ W.cell? ⟨b, 5, none⟩ = some (.int .i64 2) ∧ W.cell? ⟨b, 6, none⟩ = some (.int .i64 3) ∧ W.cell? ⟨b, 7, none⟩ = some (.string ⟨#[]⟩) ∧ W.cell? ⟨b, 8, none⟩ = some (.int .i64 2) ∧ W.cell? ⟨b, 9, none⟩ = some (.int .i64 1) ∧ W.cell? ⟨b, 10, none⟩ = some (.string ⟨#[120]⟩) ∧ W.cell? ⟨b, 11, none⟩ = some (.int .i64 3) ∧ W.cell? ⟨b, 12, none⟩ = some (.int .i64 3) ∧ W.cell? ⟨b, 13, none⟩ = some (.string ⟨#[]⟩) ∧ W.cell? ⟨b, 14, none⟩ = some (.int .i64 3) :=
  ⟨(tok_at hC 0 (by decide)).1, (tok_at hC 0 (by decide)).2.1, (tok_at hC 0 (by decide)).2.2, (tok_at hC 1 (by decide)).1, (tok_at hC 1 (by decide)).2.1, (tok_at hC 1 (by decide)).2.2, (tok_at hC 2 (by decide)).1, (tok_at hC 2 (by decide)).2.1, (tok_at hC 2 (by decide)).2.2, (tok_at hC 3 (by decide)).1, (tok_at hC 3 (by decide)).2.1, (tok_at hC 3 (by decide)).2.2, (tok_at hC 4 (by decide)).1, (tok_at hC 4 (by decide)).2.1, (tok_at hC 4 (by decide)).2.2⟩
set_option maxHeartbeats 4000000 in
set_option maxRecDepth 100000 in
theorem shown_calls (w : World) : Calls Try.prog 10 #[] w fun e w' => e = .returned (.bool true) ∧ Below w.heap.size w w' := by
  have kc := fun (w : World) (C : Array Value) (n c : Nat) => Lib.run_convert_bytes_const (P := Try.prog) w 22 5 C n c Try.underlying22 Try.underlying5
  go_enter Try.func10, Try.ntmps10
  go_wp2_with fail
  refine (lex_calls _ 16 bs1 _ (lit_C w bs1 _ rfl _ _ _ rfl (by decide)) (by decide)).mono ?_
  rintro e w1 ⟨v, rfl, ho, hB⟩
  rw [lex1] at ho ⊢
  obtain ⟨b, cap, rfl, hb1, hb2, _⟩ := Kd.R_form ho (by decide)
  obtain ⟨_, _, hv, _, hC⟩ := Kd.R_reads ho
  cases hv
  have hB1 : Below w.heap.size w w1 := below_then (below_alloc (Below.refl _ _) _) (by simp) hB
  have Hc := Aside0.mk hC
  have HB1 := Aside0.mk hB1
  clear ho hB hC hB1 hb1 hb2
  go_wp2_with fail
  refine (lex_calls _ 4 bs2 _ (lit_C w1 bs2 _ rfl _ _ _ rfl (by decide)) (by decide)).mono ?_
  rintro e w2 ⟨v, rfl, ho, hB⟩
  rw [lex2] at ho ⊢
  have hB2 : Below w1.heap.size w1 w2 := below_then (below_alloc (Below.refl _ _) _) (by simp) hB
  obtain ⟨h00, h01, h02, h10, h11, h12, h20, h21, h22, h30, h31, h32, h40, h41, h42⟩ := cells1 (Kd.C_below Hc.out hB2)
  have HB2 := Aside0.mk (below_step HB1.out hB2)
  clear ho hB hB2 Hc HB1 kc
  go_wp2
  go_ret
  exact ⟨rfl, HB2.out⟩
end Go.Proofs.Ytekedpnlodnmnaa.LexSh
