/- The walk of parse's Text. Conditions: the tables names, forms, answers and uint64pow10 are laid. -/
import Derived.Test.YtegbfimfpkendaaDoorPaS
namespace Go.Proofs.YtegbfimfpkendaaDoor.PaT
open Go.RowKit Go.Proofs.YtegbfimfpkendaaDoorW.PrintWords Go.Proofs.YtegbfimfpkendaaDoorW.PrintLast Go.Proofs.YtegbfimfpkendaaDoorW.PrintMore LexS LexB PaA LexBox PaC PaD PaB PaE PaF PaG PaH PaO PaP PaQ PaR PaS
set_option linter.unusedVariables false
set_option linter.unusedSimpArgs false
def TextPost (w : World) (r : List UInt8 × Int) (e : Ending) (w' : World) : Prop := e = .returned (.tuple #[.string ⟨r.1.toArray⟩, .int .i64 r.2]) ∧ Below w.heap.size w w'
theorem textP_ne (f : FileS) : (textW f).1 ≠ [] := by
  have h1 : ∀ (l : List Tk) (s : List UInt8 × Bool), s.1 ≠ [] → (l.foldl taskW s).1 ≠ [] := fun l => by
    induction l with
    | nil => exact fun s h => h
    | cons t l ih => exact fun s h => ih _ (by simp [taskW])
  have h2 : ∀ (l : List Opn) (s : List UInt8 × Bool), s.1 ≠ [] → (l.foldl opW s).1 ≠ [] := fun l => by
    induction l with
    | nil => exact fun s h => h
    | cons t l ih => exact fun s h => ih _ (by simp [opW])
  exact h2 _ _ (h1 _ _ (by simp [headW]))
theorem cells2 {w : World} {o : Nat} {t : TypeId} {a0 a1 : Value} (h : w.heap[o]? = some (.cells #[a0, a1] t (0, 0))) : w.cell? ⟨o, 0, none⟩ = some a0 ∧ w.cell? ⟨o, 1, none⟩ = some a1 ∧ w.frozen? ⟨o, 0, none⟩ = false ∧ w.frozen? ⟨o, 1, none⟩ = false :=
  ⟨(blk_cell h 0).trans rfl, (blk_cell h 1).trans rfl, blk_frozen h 0, blk_frozen h 1⟩
theorem cfg_cell {w : World} {fb : Nat} {t : TypeId} {v0 v1 v2 v3 v4 v5 v6 v7 v8 v9 : Int} {x y : Value} (h : w.heap[fb]? = some (.cells #[.int .i64 v0, .int .i64 v1, .int .i64 v2, .int .i64 v3, .int .i64 v4, .int .i64 v5, .int .i64 v6, .int .i64 v7, .int .i64 v8, .int .i64 v9, x, y] t (0, 0))) (k : Nat) (hk : k < 10) : w.cell? ⟨fb, k, none⟩ = some (.int .i64 ([v0, v1, v2, v3, v4, v5, v6, v7, v8, v9].getD k 0)) := by
  rw [blk_cell h k]
  have : k = 0 ∨ k = 1 ∨ k = 2 ∨ k = 3 ∨ k = 4 ∨ k = 5 ∨ k = 6 ∨ k = 7 ∨ k = 8 ∨ k = 9 := by omega
  rcases this with rfl | rfl | rfl | rfl | rfl | rfl | rfl | rfl | rfl | rfl <;> rfl
set_option maxHeartbeats 2000000 in
set_option maxRecDepth 100000 in
theorem text_t (v0 v1 v2 v3 v4 v5 v6 v7 v8 v9 : Int) (tasks : List Tk) (ops : List Opn) (AT AO : Option Addr) (cT cO : Nat) (w : World) (hT : kTk.C w AT tasks.length tasks) (hTc : tasks.length ≤ cT) (hO : kOp.C w AO ops.length ops) (hOc : ops.length ≤ cO) (hTab : NumA.Tab w) (hN : NamesIs w) (hM : Blocks w) (hI : FIn ⟨[v0, v1, v2, v3, v4, v5, v6, v7, v8, v9], tasks, ops⟩) (ht : tasks.length ≤ 4398046511104) (ho : ops.length ≤ 4398046511104) :
    Calls Tryd.prog 14 #[.agg #[.int .i64 v0, .int .i64 v1, .int .i64 v2, .int .i64 v3, .int .i64 v4, .int .i64 v5, .int .i64 v6, .int .i64 v7, .int .i64 v8, .int .i64 v9, .slice AT tasks.length cT, .slice AO ops.length cO]] w (TextPost w (textP ⟨[v0, v1, v2, v3, v4, v5, v6, v7, v8, v9], tasks, ops⟩)) := by
  have HT := Aside0.mk hTab
  have HTC := Aside0.mk hT
  have HOC := Aside0.mk hO
  have HN := Aside0.mk hN
  have HM := Aside0.mk hM
  have HI := Aside0.mk hI
  have HTL := Aside0.mk ht
  have HOL := Aside0.mk ho
  clear hT hO hTab hN hM hI ht ho hTc hOc
  by_cases h1 : 64 < tasks.length ∨ 4096 < ops.length
  · have hp : textP ⟨[v0, v1, v2, v3, v4, v5, v6, v7, v8, v9], tasks, ops⟩ = ([], 1) := by unfold textP; rw [if_pos h1]
    rw [hp]
    by_cases h2 : 64 < tasks.length
    · have d1 : ¬ (tasks.length : Int) ≤ 64 := by omega
      clear h1 h2 hp
      go_enter Tryd.func14, Tryd.ntmps14
      go_wp2
      go_ret2
      exact ⟨rfl, below_alloc (Below.refl _ _) _⟩
    · have d1 : (tasks.length : Int) ≤ 64 := by omega
      have d2 : ¬ (ops.length : Int) ≤ 4096 := by omega
      clear h1 h2 hp
      go_enter Tryd.func14, Tryd.ntmps14
      go_wp2
      go_ret2
      exact ⟨rfl, below_alloc (Below.refl _ _) _⟩
  have d1 : (tasks.length : Int) ≤ 64 := by omega
  have d2 : (ops.length : Int) ≤ 4096 := by omega
  have H1 := Aside0.mk h1
  have HT64 := Aside0.mk (show tasks.length ≤ 64 ∧ ops.length ≤ 4096 by omega)
  clear h1
  obtain ⟨vs, hvs⟩ : ∃ vs, vs = [v0, v1, v2, v3, v4, v5, v6, v7, v8, v9] := ⟨_, rfl⟩
  have HVS := Aside0.mk hvs
  rw [← hvs] at HI
  rw [← hvs]
  have HVL : Aside0 (vs.length = 10) := ⟨by rw [hvs]; rfl⟩
  clear hvs
  go_enter Tryd.func14, Tryd.ntmps14
  go_upto_region 4 with (first
    | ((with_reducible refine gate_dst (N := 1) rfl ?_); (try (refine gate_guard (by rfl) ?_; dsimp only)); refine box_event ?hg (N := 1) ?hd (cs := #[.int .i64 v0, .int .i64 v1, .int .i64 v2, .int .i64 v3, .int .i64 v4, .int .i64 v5, .int .i64 v6, .int .i64 v7, .int .i64 v8, .int .i64 v9, .slice AT tasks.length cT, .slice AO ops.length cO]) (t := 29) ?hr ?_; (case hd => rfl); (case hg => rfl); (case hr => first | (go_simp; done) | (go_simp; rfl)); intro fb hg w1 hbox hb; have FX := Aside0.mk hbox; have FB := Aside0.mk hb; have FG := Aside0.mk (Nat.le_of_eq hg.symm); obtain ⟨x0, x1, x2, x3, x4, x5, x6, x7, x8, x9, x10, x11, -, -, -, -, -, -, -, -, -, -, -, -⟩ := cells12 hbox; clear hbox hb hg)
    | ((with_reducible refine gate_dst (N := 4) rfl ?_); (try (refine gate_guard (by rfl) ?_; dsimp only)); refine box_event ?hg (N := 4) ?hd (cs := #[.pointer none, .slice none 0 0, .bool false]) (t := 74) ?hr ?_; (case hd => rfl); (case hg => rfl); (case hr => first | (go_simp; done) | (go_simp; rfl)); intro b hg wB hbox hb; have TX := Aside0.mk hbox; have TB := Aside0.mk hb; have TG := Aside0.mk (Nat.le_of_eq hg.symm); clear hbox hb hg))
  clear x0 x1 x2 x3 x4 x5 x6 x7 x8 x9 x10 x11
  have hfb : fb < w1.heap.size := blk_lt FX.out
  have FXB := Aside0.mk (blk_below FX.out TB.out)
  have NFB := Aside0.mk (show fb ≠ b by have := TG.out; omega)
  have TX0 : Aside0 (TxSt w wB b ([], false) wB) := ⟨⟨⟨.pointer none, .slice none 0 0, .inl rfl, by have := TG.out; have := FB.out.size; omega, TX.out, ⟨rfl, .inl ⟨rfl, rfl⟩⟩⟩, below_step FB.out TB.out, KeepU.refl _ _⟩⟩
  clear hfb
  go_upto_region 6 with (first
    | (go_at_call 24; refine (write_calls w.heap.size b _ _ (⟨#[99, 111, 110, 102, 105, 103]⟩) _ TX0.out.text (by decide) TX0.out.below.size).mono ?_; rintro e' w3 ⟨rfl, ht, hb3, hu⟩; have TX1 := Aside0.mk (TxSt.wrote TX0.out ht hb3 hu); clear ht hb3 hu)
    | (go_at_call 25; refine (numbers_calls fb _).mono ?_; rintro e' w4 ⟨rfl, hb2⟩; have TX2 : Aside0 (TxSt w wB b (configB, false) w4) := ⟨TX1.out.step hb2⟩; clear hb2))
  go_loopg [25] 10 (fun gg s25 wr => ∃ kk : Nat, kk ≤ 10 ∧ 10 - kk ≤ gg ∧ s25 = .int .i64 kk ∧ Aside0 (TxSt w wB b (cfgW 0 (vs.take kk) (configB, false)) wr))
  case atStart => exact ⟨0, by omega, by omega, rfl, TX2⟩
  case round =>
    obtain ⟨kk, hkk, hg, rfl, TR⟩ := hrel
    by_cases hlt : kk < 10
    · have hltz : (kk : Int) < 10 := by omega
      have hk0 : (0 : Int) ≤ (kk : Int) := by omega
      have hnm : wr.cell? ⟨0, kk, none⟩ = some (.string (nameT kk)) := (TR.out.below.cell HN.out.1).trans (HN.out.2 kk hlt)
      have hix := places_at fb kk hlt
      have hna := nameT_at kk hlt
      have HNA := Aside0.mk hna
      have hadd : ∀ W : World, (Op.stringOp .add (⟨#[32]⟩ : ByteArray) (nameT kk)).run Tryd.prog W = .ok (.string ⟨(32 :: (nameT kk).data.toList).toArray⟩) W := fun W => by
        rw [run_string_add_sum W _ _ (by have h8 : (⟨#[32]⟩ : ByteArray).size = 1 := rfl; have := hna.2; omega), show (⟨#[32]⟩ : ByteArray) ++ nameT kk = ⟨(32 :: (nameT kk).data.toList).toArray⟩ from by apply ByteArray.ext; simp]
      have hbd := cfgW_len (vs.take kk) 0 (configB, false) (fun x hx => HI.out.cfg x (List.mem_of_mem_take hx))
      have HBD : Aside0 ((cfgW 0 (vs.take kk) (configB, false)).1.length ≤ 600) := ⟨by have h9 : (configB).length = 6 := rfl; rw [List.length_take] at hbd; simp only [h9] at hbd; omega⟩
      have hvi : inI (vs.getD kk 0) := HI.out.cfg _ (by rw [List.getD_eq_getElem?_getD, List.getElem?_eq_getElem (by rw [HVL.out]; exact hlt)]; exact List.getElem_mem _)
      have HVI := Aside0.mk hvi
      have p1 := eq_true hk0
      have q1 := eq_true hltz
      have Hlt := Aside0.mk hlt
      have Hg := Aside0.mk hg
      clear hk0 hltz hlt hg hkk hna hbd hvi
      go_wp2_with (first
        | (go_at_call 24; refine (write_calls w.heap.size b _ _ (⟨(32 :: (nameT kk).data.toList).toArray⟩) _ TR.out.text (by have := HBD.out; have := HNA.out.2; rw [size_cons32]; omega) TR.out.below.size).mono ?_; rintro e' w5 ⟨rfl, ht, hb3, hu⟩; have TR1 := Aside0.mk (TxSt.wrote TR.out ht hb3 hu); clear ht hb3 hu hnm; have hcv : w5.cell? ⟨fb, kk, none⟩ = some (.int .i64 (vs.getD kk 0)) := by rw [HVS.out]; exact cfg_cell (TR1.out.keep.block fb _ 29 NFB.out (by decide) FXB.out) kk Hlt.out)
        | (go_at_call 26; refine (number_t w _ b _ _ (vs.getD kk 0) TR1.out.text TR1.out.below HT.out (HVI.out) (by have h1 := HBD.out; have h2 := numB_len HVI.out; have h3 := HNA.out.2; have h4 : (nameT kk).data.toList.length = (nameT kk).size := Array.length_toList; simp only [List.length_append, List.length_cons]; omega)).mono ?_; rintro e' w6 ⟨rfl, ht, hb3, hu⟩; have TR2 := Aside0.mk (TxSt.wrote' TR1.out ht hb3 hu); clear ht hb3 hu; skip))
      go_roundg (10 - (kk + 1))
      case measure => have := Hlt.out; have := Hg.out; omega
      case rel =>
        have hlt := Hlt.out
        have e : wrap64 ((kk : Int) + 1) = ((kk + 1 : Nat) : Int) := by unfold wrap64; omega
        exact ⟨kk + 1, by omega, by omega, by first | (rw [e]) | (simp [e]), by rw [cfgW_step (by rw [HVL.out]; exact hlt), ← HNA.out.1]; exact TR2⟩
    · have hltz : ¬ (kk : Int) < 10 := by omega
      obtain rfl : kk = 10 := by omega
      have hbd := cfgW_len vs 0 (configB, false) HI.out.cfg
      have hfull : vs.take 10 = vs := List.take_of_length_le (by rw [HVL.out]; exact Nat.le_refl _)
      rw [hfull] at TR
      have HBD : Aside0 ((cfgW 0 vs (configB, false)).1.length ≤ 600) := ⟨by have h9 : (configB).length = 6 := rfl; have := HVL.out; simp only [h9] at hbd; omega⟩
      clear hg hkk hlt hltz hbd hfull
      go_upto_region 12 with (first | (go_at_call 24; refine (write_calls w.heap.size b _ _ (⟨#[10]⟩) _ TR.out.text (by have := HBD.out; have h8 : (⟨#[10]⟩ : ByteArray).size = 1 := rfl; omega) TR.out.below.size).mono ?_; rintro e' w5 ⟨rfl, ht, hb3, hu⟩; have TR1 := Aside0.mk (TxSt.wrote TR.out ht hb3 hu); clear ht hb3 hu))
      have TH : Aside0 (TxSt w wB b (headW vs) w5) := ⟨TR1.out⟩
      have HHL : Aside0 ((headW vs).1.length ≤ 700) := ⟨by have := HBD.out; simp only [headW, List.length_append, List.length_cons, List.length_nil]; omega⟩
      obtain ⟨-, -, -, -, -, -, -, -, -, -, x10, -, -⟩ := cells12 (TH.out.keep.block fb _ 29 NFB.out (by decide) FXB.out)
      go_upto_region 13 with (fail)
      go_loopg [45] tasks.length (fun gg s45 wr => ∃ kk : Nat, kk ≤ tasks.length ∧ tasks.length - kk ≤ gg ∧ s45 = .int .i64 kk ∧ Aside0 (TxSt w wB b ((tasks.take kk).foldl taskW (headW vs)) wr))
      case atStart => exact ⟨0, by omega, by omega, rfl, TH⟩
      case round =>
        obtain ⟨kk, hkk, hg, rfl, TR⟩ := hrel
        have hbd := fold_len taskW 60 (tasks.take kk) (headW vs) (fun x hx s => taskW_len s (HI.out.tasks x (List.mem_of_mem_take hx)))
        have HBD : Aside0 (((tasks.take kk).foldl taskW (headW vs)).1.length ≤ 700 + 60 * kk) := ⟨by have := HHL.out; have h3 : (tasks.take kk).length ≤ kk := List.length_take_le _ _; have := Nat.mul_le_mul_left 60 h3; omega⟩
        clear hbd
        by_cases hlt : kk < tasks.length
        · have hltz : (kk : Int) < (tasks.length : Int) := by omega
          have hk0 : (0 : Int) ≤ (kk : Int) := by omega
          obtain ⟨ad, ea, hx0, hx1⟩ := at_Tk (Kd.C_below HTC.out TR.out.below) kk hlt
          subst ea
          have hti : inI (getTk tasks kk).mem ∧ inI (getTk tasks kk).cost := HI.out.tasks _ (by unfold getTk; rw [List.getD_eq_getElem?_getD, List.getElem?_eq_getElem hlt]; exact List.getElem_mem _)
          have HTI := Aside0.mk hti
          have p1 := eq_true hk0
          have q1 := eq_true hltz
          have Hlt := Aside0.mk hlt
          have Hg := Aside0.mk hg
          clear hk0 hltz hlt hg hkk hti
          go_upto_region 15 with (first | ((with_reducible refine gate_dst (N := 8) rfl ?_); (try (refine gate_guard (by rfl) ?_; dsimp only)); refine box_event ?hg (N := 8) ?hd (cs := #[.int .i64 0, .int .i64 0]) (t := 51) ?hr ?_; (case hd => rfl); (case hg => rfl); (case hr => first | (go_simp; done) | (go_simp; rfl)); intro tb hg wy hbox hb; have BX := Aside0.mk hbox; have BB := Aside0.mk hb; have BG := Aside0.mk (Nat.le_of_eq hg.symm); obtain ⟨z0, z1, y0, y1⟩ := cells2 hbox; clear hbox hb hg))
          obtain ⟨wT, hwT, hX, hW⟩ : ∃ W, W = (wy.setCell ⟨tb, 0, none⟩ (.int .i64 (getTk tasks kk).mem)).setCell ⟨tb, 1, none⟩ (.int .i64 (getTk tasks kk).cost) ∧ W.heap[tb]? = some (.cells #[.int .i64 (getTk tasks kk).mem, .int .i64 (getTk tasks kk).cost] 51 (0, 0)) ∧ Below wr.heap.size wr W :=
            ⟨_, rfl, blk_put (blk_put BX.out 0 _ (cs' := #[.int .i64 (getTk tasks kk).mem, .int .i64 0]) rfl) 1 _ rfl, below_set (below_set BB.out BG.out) BG.out⟩
          rw [← hwT]
          have TBX := Aside0.mk hX
          have NTB := Aside0.mk (show tb ≠ b by have := TextAt.lt TR.out.text; have := BG.out; omega)
          have TB0 := Aside0.mk (TR.out.step hW)
          have TT0 : Aside0 (TxSt w wT b ((tasks.take kk).foldl taskW (headW vs)) wT) := ⟨⟨TB0.out.text, TB0.out.below, KeepU.refl _ _⟩⟩
          clear hwT hX hW z0 z1 y0 y1 hx0 hx1
          have hta : (⟨#[116, 97, 115, 107]⟩ : ByteArray).size = 4 := rfl
          go_upto_region 16 with (first | (go_at_call 24; refine (write_calls w.heap.size b _ _ (⟨#[116, 97, 115, 107]⟩) _ TT0.out.text (by have h0 := HBD.out; have h1 := Hlt.out; have h2 := HT64.out; omega) TT0.out.below.size).mono ?_; rintro e' w5 ⟨rfl, ht, hb3, hu⟩; have TT1 := Aside0.mk (TxSt.wrote TT0.out ht hb3 hu); clear ht hb3 hu; have TT1 : Aside0 (TxSt w wT b (((tasks.take kk).foldl taskW (headW vs)).1 ++ taskB, ((tasks.take kk).foldl taskW (headW vs)).2) w5) := ⟨TT1.out⟩; have t5 : w5.cell? ⟨tb, 0, none⟩ = some (.int .i64 (getTk tasks kk).mem) := (cells2 (TT1.out.keep.block tb _ 51 NTB.out (by decide) TBX.out)).1))
          go_upto_region 17 with (first | (go_at_call 26; refine (number_t w _ b _ _ ((getTk tasks kk).mem) TT1.out.text TT1.out.below HT.out (HTI.out.1) (by have h0 := HBD.out; have h1 := Hlt.out; have h2 := HT64.out; have h3 := numB_len HTI.out.1; have h4 : taskB.length = 4 := rfl; simp only [List.length_append]; omega)).mono ?_; rintro e' w6 ⟨rfl, ht, hb3, hu⟩; have TT2 := Aside0.mk (TxSt.wrote' TT1.out ht hb3 hu); clear ht hb3 hu; have t6 : w6.cell? ⟨tb, 1, none⟩ = some (.int .i64 (getTk tasks kk).cost) := (cells2 (TT2.out.keep.block tb _ 51 NTB.out (by decide) TBX.out)).2.1))
          go_upto_region 18 with (first | (go_at_call 26; refine (number_t w _ b _ _ ((getTk tasks kk).cost) TT2.out.text TT2.out.below HT.out (HTI.out.2) (by have h0 := HBD.out; have h1 := Hlt.out; have h2 := HT64.out; have h3 := numB_len HTI.out.1; have h5 := numB_len HTI.out.2; have h4 : taskB.length = 4 := rfl; simp only [List.length_append]; omega)).mono ?_; rintro e' w7 ⟨rfl, ht, hb3, hu⟩; have TT3 := Aside0.mk (TxSt.wrote' TT2.out ht hb3 hu); clear ht hb3 hu; skip))
          go_wp2_with (first | (go_at_call 24; refine (write_calls w.heap.size b _ _ (⟨#[10]⟩) _ TT3.out.text (by have h0 := HBD.out; have h1 := Hlt.out; have h2 := HT64.out; have h3 := numB_len HTI.out.1; have h5 := numB_len HTI.out.2; have h4 : taskB.length = 4 := rfl; have h8 : (⟨#[10]⟩ : ByteArray).size = 1 := rfl; simp only [List.length_append]; omega) TT3.out.below.size).mono ?_; rintro e' w8 ⟨rfl, ht, hb3, hu⟩; have TT4 := Aside0.mk (TxSt.wrote TT3.out ht hb3 hu); clear ht hb3 hu))
          go_roundg (tasks.length - (kk + 1))
          case measure => have := Hlt.out; have := Hg.out; omega
          case rel =>
            have hlt := Hlt.out
            have e : wrap64 ((kk : Int) + 1) = ((kk + 1 : Nat) : Int) := by have := HTL.out; unfold wrap64; omega
            exact ⟨kk + 1, by omega, by omega, by first | (rw [e]) | (simp [e]), by rw [foldl_step taskW tasks (headW vs) kk tk0 hlt]; exact ⟨⟨TT4.out.text, TT4.out.below, TB0.out.keep.trans TT4.out.keep⟩⟩⟩
        · have hltz : ¬ (kk : Int) < (tasks.length : Int) := by omega
          obtain rfl : kk = tasks.length := by omega
          rw [List.take_length] at TR HBD
          clear hg hkk hlt
          obtain ⟨-, -, -, -, -, -, -, -, -, -, -, x11, -⟩ := cells12 (TR.out.keep.block fb _ 29 NFB.out (by decide) FXB.out)
          go_upto_region 21 with (fail)
          clear x11
          go_loopg [63] ops.length (fun gg s63 wr => ∃ kk : Nat, kk ≤ ops.length ∧ ops.length - kk ≤ gg ∧ s63 = .int .i64 kk ∧ Aside0 (TxSt w wB b ((ops.take kk).foldl opW (tasks.foldl taskW (headW vs))) wr))
          case atStart => exact ⟨0, by omega, by omega, rfl, TR⟩
          case round =>
            obtain ⟨kk, hkk, hg, rfl, TQ⟩ := hrel
            have hbd := fold_len opW 1000 (ops.take kk) (tasks.foldl taskW (headW vs)) (fun x hx s => opW_len s (HI.out.ops x (List.mem_of_mem_take hx)))
            have HBO : Aside0 (((ops.take kk).foldl opW (tasks.foldl taskW (headW vs))).1.length ≤ 700 + 60 * tasks.length + 1000 * kk) := ⟨by have := HBD.out; have h3 : (ops.take kk).length ≤ kk := List.length_take_le _ _; have := Nat.mul_le_mul_left 1000 h3; omega⟩
            clear hbd
            by_cases hlt : kk < ops.length
            · have hltz : (kk : Int) < (ops.length : Int) := by omega
              have hk0 : (0 : Int) ≤ (kk : Int) := by omega
              obtain ⟨ad, ea, hx0, hx1, hx2, hx3, hx4⟩ := at_Opn (Kd.C_below HOC.out TQ.out.below) kk hlt
              subst ea
              have hoi : inI (getOpn ops kk).kind ∧ inI (getOpn ops kk).a ∧ inI (getOpn ops kk).b ∧ inI (getOpn ops kk).c ∧ inI (getOpn ops kk).d := HI.out.ops _ (by unfold getOpn; rw [List.getD_eq_getElem?_getD, List.getElem?_eq_getElem hlt]; exact List.getElem_mem _)
              have HOI := Aside0.mk hoi
              have p1 := eq_true hk0
              have q1 := eq_true hltz
              have Hlt := Aside0.mk hlt
              have Hg := Aside0.mk hg
              clear hk0 hltz hlt hg hkk hoi
              go_upto_region 23 with (first | ((with_reducible refine gate_dst (N := 10) rfl ?_); (try (refine gate_guard (by rfl) ?_; dsimp only)); refine box_event ?hg (N := 10) ?hd (cs := #[.int .i64 0, .int .i64 0, .int .i64 0, .int .i64 0, .int .i64 0]) (t := 46) ?hr ?_; (case hd => rfl); (case hg => rfl); (case hr => first | (go_simp; done) | (go_simp; rfl)); intro tb hg wy hbox hb; have BX := Aside0.mk hbox; have BB := Aside0.mk hb; have BG := Aside0.mk (Nat.le_of_eq hg.symm); obtain ⟨z0, z1, z2, z3, z4, y0, y1, y2, y3, y4⟩ := cells5 hbox; clear hbox hb hg))
              obtain ⟨wT, hwT, hX, hW⟩ : ∃ W, W = ((((wy.setCell ⟨tb, 0, none⟩ (.int .i64 (getOpn ops kk).kind)).setCell ⟨tb, 1, none⟩ (.int .i64 (getOpn ops kk).a)).setCell ⟨tb, 2, none⟩ (.int .i64 (getOpn ops kk).b)).setCell ⟨tb, 3, none⟩ (.int .i64 (getOpn ops kk).c)).setCell ⟨tb, 4, none⟩ (.int .i64 (getOpn ops kk).d) ∧ W.heap[tb]? = some (.cells #[.int .i64 (getOpn ops kk).kind, .int .i64 (getOpn ops kk).a, .int .i64 (getOpn ops kk).b, .int .i64 (getOpn ops kk).c, .int .i64 (getOpn ops kk).d] 46 (0, 0)) ∧ Below wr.heap.size wr W :=
                ⟨_, rfl, set5 _ _ _ _ _ BX.out, below_set (below_set (below_set (below_set (below_set BB.out BG.out) BG.out) BG.out) BG.out) BG.out⟩
              rw [← hwT]
              have TB0 := Aside0.mk (TQ.out.step hW)
              have TBX := Aside0.mk hX
              clear hwT hX hW z0 z1 z2 z3 z4 y0 y1 y2 y3 y4 hx0 hx1 hx2 hx3 hx4
              obtain ⟨z0, z1, z2, z3, z4, -, -, -, -, -⟩ := cells5 TBX.out
              go_wp2_with (first
                | (go_at_call 27; refine (op_t w _ b _ _ (getOpn ops kk).kind (getOpn ops kk).a (getOpn ops kk).b (getOpn ops kk).c (getOpn ops kk).d TB0.out.text TB0.out.below HT.out HM.out HOI.out (by have h0 := HBO.out; have h1 := Hlt.out; have h2 := HT64.out; omega)).mono ?_; rintro e' w9 ⟨rfl, ht, hb3, hu⟩; have TT9 := Aside0.mk (TxSt.wrote' TB0.out ht hb3 hu); clear ht hb3 hu))
              go_roundg (ops.length - (kk + 1))
              case measure => have := Hlt.out; have := Hg.out; omega
              case rel =>
                have hlt := Hlt.out
                have e : wrap64 ((kk : Int) + 1) = ((kk + 1 : Nat) : Int) := by have := HOL.out; unfold wrap64; omega
                exact ⟨kk + 1, by omega, by omega, by first | (rw [e]) | (simp [e]), by rw [foldl_step opW ops _ kk opn0 hlt]; exact TT9⟩
            · have hltz : ¬ (kk : Int) < (ops.length : Int) := by omega
              obtain rfl : kk = ops.length := by omega
              rw [List.take_length] at TQ
              have TW : Aside0 (TxSt w wB b (textW ⟨vs, tasks, ops⟩) wr) := TQ
              clear hg hkk hlt HBO
              obtain ⟨b0, -⟩ := TextAt.bads TW.out.text
              cases hbad : (textW ⟨vs, tasks, ops⟩).2 with
              | true =>
                have hp : textP ⟨vs, tasks, ops⟩ = ([], 1) := by unfold textP; rw [if_neg H1.out, if_pos hbad]
                rw [hbad] at b0
                have HP := Aside0.mk hp
                clear hp hbad
                go_wp2
                go_ret2
                rw [HP.out]
                exact ⟨rfl, TW.out.below⟩
              | false =>
                have hp : textP ⟨vs, tasks, ops⟩ = ((textW ⟨vs, tasks, ops⟩).1, 0) := by unfold textP; rw [if_neg H1.out, if_neg (by rw [hbad]; decide)]
                rw [hbad] at b0
                have HP := Aside0.mk hp
                clear hp hbad
                go_wp2_with (first
                  | (go_at_call 28; refine (string_t w.heap.size b _ _ _ TW.out.text (textP_ne _)).mono ?_; rintro e' w9 ⟨rfl, hb9⟩; have B9 := Aside0.mk (below_weak TW.out.below hb9); clear hb9))
                go_ret2
                rw [HP.out]
                exact ⟨rfl, B9.out⟩
end Go.Proofs.YtegbfimfpkendaaDoor.PaT
