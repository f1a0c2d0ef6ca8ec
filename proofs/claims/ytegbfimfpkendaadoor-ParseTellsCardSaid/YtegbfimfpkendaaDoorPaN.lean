/- The walk of parse's Parse. Conditions: the tables names, forms and answers are laid. -/
import Derived.Test.YtegbfimfpkendaaDoorMg20
import Derived.Deep.RegionHeld3
namespace Go.Proofs.YtegbfimfpkendaaDoor.PaN
open Go.RowKit Go.Proofs.YtegbfimfpkendaaDoorW.PrintWords Go.Proofs.YtegbfimfpkendaaDoorW.PrintLast Go.Proofs.YtegbfimfpkendaaDoorW.PrintMore LexS LexB PaA LexBox PaC PaD PaB PaE PaF PaG PaH PaI PaJ PaK PaL PaM LexD
set_option linter.unusedVariables false
set_option linter.unusedSimpArgs false
def zCells : List Value := [(.int .i64 0), (.int .i64 0), (.int .i64 0), (.int .i64 0), (.int .i64 0), (.int .i64 0), (.int .i64 0), (.int .i64 0), (.int .i64 0), (.int .i64 0), (.slice none 0 0), (.slice none 0 0)]
theorem z_str : ∀ (i : Nat) (s : ByteArray), (zCells.toArray)[i]? ≠ some (.string s) := by
  intro i s h
  have : Value.string s ∈ zCells := by
    have h' : zCells[i]? = some (.string s) := by simpa using h
    exact List.mem_of_getElem? h'
  simp [zCells] at this
theorem parseP_err {bs : List Int} (h : ¬ (lexF bs).2.2 = 0) : parseP bs = (zeroF, (lexF bs).2.1, (lexF bs).2.2) := by unfold parseP; rw [if_neg h]
theorem SameW.below {w w5 W : World} {F : Nat} (h : SameW w5 W) (hb : Below w.heap.size w w5) (hF : w.heap.size ≤ F) (hk : ∀ k, k ≠ F → W.heap[k]? = w5.heap[k]?) : Below w.heap.size w W :=
  ⟨h.os.trans hb.os, h.tape.trans hb.tape, h.output.trans hb.output, by rw [h.size]; exact hb.size, fun k hlt => (hk k (by omega)).trans (hb.block k hlt)⟩
theorem cells1 {w : World} {o : Nat} {t : TypeId} {a : Value} (h : w.heap[o]? = some (.cells #[a] t (0, 0))) : w.cell? ⟨o, 0, none⟩ = some a ∧ w.frozen? ⟨o, 0, none⟩ = false := ⟨(blk_cell h 0).trans rfl, blk_frozen h 0⟩
theorem rowsG_len : ∀ (ts cur : List Tok), (rowsG cur ts).length ≤ ts.length
  | [], _ => by simp [rowsG]
  | t :: ts, cur => by
    rw [rowsG]
    split
    · have := rowsG_len ts []
      simp; omega
    · have := rowsG_len ts (cur ++ [t])
      simp; omega
theorem finP_ok {st st' : FileS} {t : List Tok} (h : finP st t = .ok st') : st' = st := by
  cases t with
  | nil => simpa [finP] using h.symm
  | cons a b => simp [finP] at h
theorem takesP_len {st st' : FileS} {first : Bool} {ts : List Tok} (h : takesP st first ts = .ok st') : st'.ops.length ≤ st.ops.length + 1 ∧ st'.tasks.length ≤ st.tasks.length + 1 := by
  unfold takesP at h
  (repeat' split at h) <;> first
    | (cases h; done)
    | (obtain rfl := finP_ok h; simp)
theorem TakesPost.elim {w0 w w' : World} {g : Nat} {line : Int} {F : Nat} {r : Rt} {x : Ending} (h : TakesPost w0 w g line F r x w') :
    (∃ st', r = .ok st' ∧ x = .returned (.tuple #[]) ∧ FileAt w0 w' F st' ∧ KeepT w w' g F) ∨ (∃ e, r = .bad e ∧ x = .panicked (wrongC line e) ∧ ButF w0 w' F ∧ IsFile w' F) := by
  cases r with
  | ok st => exact .inl ⟨st, rfl, h.1, h.2.1, h.2.2⟩
  | bad e => exact .inr ⟨e, rfl, h.1, h.2.1, h.2.2⟩
theorem at_P {w : World} {A : Option Addr} {n : Nat} {xs : List Nat} (h : Kd.C kP w A n xs) (i : Int) (h0 : 0 ≤ i) (h1 : i < n) : ∃ ad, A = some ad ∧ w.cell? (ad.add i.toNat) = some (.pointer (some ⟨xs.getD i.toNat 0, 0, none⟩)) := by
  obtain ⟨ad, c, e, _, hK, hc0⟩ := Kd.C_get h 0 i h0 h1
  have hK' : c = [.pointer (some ⟨xs.getD i.toNat 0, 0, none⟩)] := hK
  subst hK'
  have := hc0 0 _ rfl
  exact ⟨ad, e, by simpa [kP, Kd.scalar] using this⟩
theorem cut_below2 {w wr : World} {n : Nat} (hb : Below w.heap.size w wr) (h1 : w.heap.size ≤ n) (h2 : n ≤ wr.heap.size) : Below w.heap.size w (cut n wr) :=
  ⟨hb.os, hb.tape, hb.output, by rw [cut_size n wr h2]; exact h1, fun k hk => (cut_get n wr k (Nat.lt_of_lt_of_le hk h1)).trans (hb.block k hk)⟩
theorem PSt.bad {w w1 w2 wr w7 : World} {F : Nat} {rs : List Nat} {kk : Nat} {v : Value} {st : FileS} (h : PSt w w1 w2 wr F rs kk v st) (hb : ButF (cut w1.heap.size wr) w7 F) (hF : w.heap.size ≤ F) (hw : w.heap.size ≤ w1.heap.size) : Below w.heap.size w w7 ∧ (∀ k, k < w1.heap.size → k ≠ F → w7.heap[k]? = wr.heap[k]?) := by
  have hs := h.toks.size
  have hcs := cut_size _ _ hs
  have h1 : ∀ k, k < w1.heap.size → k ≠ F → w7.heap[k]? = wr.heap[k]? := fun k hk hne => by
    rw [hb.block k (by rw [hcs]; exact hk) hne, cut_get _ _ _ hk]
  exact ⟨⟨hb.os.trans h.below.os, hb.tape.trans h.below.tape, hb.output.trans h.below.output, Nat.le_trans hw (by have := hb.size; rw [hcs] at this; exact this), fun k hk => (h1 k (Nat.lt_of_lt_of_le hk hw) (by omega)).trans (h.below.block k hk)⟩, h1⟩
theorem runP_step {rows : List (Int × List Tok)} {kk : Nat} {st : FileS} (hk : kk < rows.length) : runP (rows.drop kk) (kk == 0) st = (match takesP st (kk == 0) (rows.getD kk row0).2 with
    | .bad e => (zeroF, (rows.getD kk row0).1, e)
    | .ok st' => runP (rows.drop (kk + 1)) (kk + 1 == 0) st') := by
  rw [List.drop_eq_getElem_cons hk]
  have e : rows.getD kk row0 = rows[kk] := by simp [List.getD_eq_getElem?_getD, hk]
  rw [e]
  rw [show rows[kk] = (rows[kk].1, rows[kk].2) from rfl, runP]
  rfl
theorem R_three {α : Type} {d : Kd α} {e base : Nat} {wr W : World} {v : Value} {xs : List α} {F L E : Nat} {c1 c2 c3 : Array Value} (h : d.R e wr base (fun _ => True) v xs) (hE : d.E = []) (hF : wr.heap[F]? = some (.cells c1 29 (0, 0))) (hL : wr.heap[L]? = some (.cells c2 3 (0, 0))) (hEE : wr.heap[E]? = some (.cells c3 30 (0, 0))) (h1 : e ≠ 29) (h2 : e ≠ 3) (h3 : e ≠ 30) (hk : ∀ k, k ≠ F → k ≠ L → k ≠ E → W.heap[k]? = wr.heap[k]?) : d.R e W base (fun _ => True) v xs := by
  refine Kd.R_mono (Kd.R_step (Kd.R_bound h) (fun k hk' hlt => ?_)) (fun _ _ => trivial)
  obtain ⟨_, _, _, q, hq, cells, hc⟩ := hk'
  have hq' : q = e := by simpa [hE] using hq
  subst hq'
  exact hk k (blk_ne hc hF h1) (blk_ne hc hL h2) (blk_ne hc hEE h3)
theorem three_far (w : World) (F L E : Nat) (l e : Value) (u0 u1 u2 u3 u4 u5 u6 u7 u8 u9 u10 u11 : Value) (k : Nat) (h1 : k ≠ F) (h2 : k ≠ L) (h3 : k ≠ E) : ((((((((((((((w.setCell ⟨F, 0, none⟩ u0).setCell ⟨F, 1, none⟩ u1).setCell ⟨F, 2, none⟩ u2).setCell ⟨F, 3, none⟩ u3).setCell ⟨F, 4, none⟩ u4).setCell ⟨F, 5, none⟩ u5).setCell ⟨F, 6, none⟩ u6).setCell ⟨F, 7, none⟩ u7).setCell ⟨F, 8, none⟩ u8).setCell ⟨F, 9, none⟩ u9).setCell ⟨F, 10, none⟩ u10).setCell ⟨F, 11, none⟩ u11).setCell ⟨L, 0, none⟩ l).setCell ⟨E, 0, none⟩ e).heap[k]? = w.heap[k]? := by
  rw [heap_far _ _ _ _ _ h3, heap_far _ _ _ _ _ h2, heap_set12 _ _ _ h1]
theorem three_same (w : World) (F L E : Nat) (l e : Value) (u0 u1 u2 u3 u4 u5 u6 u7 u8 u9 u10 u11 : Value) : SameW w ((((((((((((((w.setCell ⟨F, 0, none⟩ u0).setCell ⟨F, 1, none⟩ u1).setCell ⟨F, 2, none⟩ u2).setCell ⟨F, 3, none⟩ u3).setCell ⟨F, 4, none⟩ u4).setCell ⟨F, 5, none⟩ u5).setCell ⟨F, 6, none⟩ u6).setCell ⟨F, 7, none⟩ u7).setCell ⟨F, 8, none⟩ u8).setCell ⟨F, 9, none⟩ u9).setCell ⟨F, 10, none⟩ u10).setCell ⟨F, 11, none⟩ u11).setCell ⟨L, 0, none⟩ l).setCell ⟨E, 0, none⟩ e) :=
  (SameW.set (SameW.set (SameW.set (SameW.set (SameW.set (SameW.set (SameW.set (SameW.set (SameW.set (SameW.set (SameW.set (SameW.set (SameW.set (SameW.set ((⟨rfl, rfl, rfl, rfl⟩ : SameW w w)) _ _) _ _) _ _) _ _) _ _) _ _) _ _) _ _) _ _) _ _) _ _) _ _) _ _) _ _)
theorem SameW.below3 {w w5 W : World} {F L E : Nat} (h : SameW w5 W) (hb : Below w.heap.size w w5) (hF : w.heap.size ≤ F) (hL : w.heap.size ≤ L) (hE : w.heap.size ≤ E) (hk : ∀ k, k ≠ F → k ≠ L → k ≠ E → W.heap[k]? = w5.heap[k]?) : Below w.heap.size w W :=
  ⟨h.os.trans hb.os, h.tape.trans hb.tape, h.output.trans hb.output, by rw [h.size]; exact hb.size, fun k hlt => (hk k (by omega) (by omega) (by omega)).trans (hb.block k hlt)⟩
theorem parseP_none {bs : List Int} (h : (lexF bs).2.2 = 0) (h1 : (rowsF (lexF bs).1).length = 0) : parseP bs = (zeroF, 0, 2) := by unfold parseP; rw [if_pos h, if_pos h1]
theorem parseP_run {bs : List Int} (h : (lexF bs).2.2 = 0) (h1 : ¬ (rowsF (lexF bs).1).length = 0) : parseP bs = runP (rowsF (lexF bs).1) true zeroF := by unfold parseP; rw [if_pos h, if_neg h1]
set_option maxHeartbeats 1000000 in
set_option maxRecDepth 100000 in
theorem parse_calls (A0 : Option Addr) (cA : Nat) (bs : List Int) (w : World) (hr : (Kd.int .u8).C w A0 bs.length bs) (hc : bs.length ≤ cA) (hN : NamesIs w) (hM : FormsIs w) (hA : AnswersIs w) :
    Calls Tryd.prog 10 #[.slice A0 bs.length cA] w (ParsePost w (parseP bs)) := by
  have HC := Aside0.mk hr
  have HCC := Aside0.mk hc
  have HN := Aside0.mk hN
  have HM := Aside0.mk hM
  have HA := Aside0.mk hA
  clear hr hc hN hM hA
  go_enter_defers Tryd.func10, Tryd.ntmps10
  go_upto_region 1 with (first
    | ((with_reducible refine gate_dst (N := 2) rfl ?_); (try (refine gate_guard (by rfl) ?_; dsimp only)); refine box_event ?hg (N := 2) ?hd (cs := #[.int .i64 0, .int .i64 0, .int .i64 0, .int .i64 0, .int .i64 0, .int .i64 0, .int .i64 0, .int .i64 0, .int .i64 0, .int .i64 0, .slice none 0 0, .slice none 0 0]) (t := 29) ?hr ?_; (case hd => rfl); (case hg => rfl); (case hr => first | (go_simp; done) | (go_simp; rfl)); intro F hg w1 hbox hb; have FX := Aside0.mk hbox; have FB := Aside0.mk hb; have FG := Aside0.mk (Nat.le_of_eq hg.symm); clear hbox hb hg)
    | ((with_reducible refine gate_dst (N := 3) rfl ?_); (try (refine gate_guard (by rfl) ?_; dsimp only)); refine box_event ?hg (N := 3) ?hd (cs := #[.int .i64 0]) (t := 3) ?hr ?_; (case hd => rfl); (case hg => rfl); (case hr => first | (go_simp; done) | (go_simp; rfl)); intro L hg w2 hbox hb; have LX := Aside0.mk hbox; have LB := Aside0.mk hb; have LG := Aside0.mk (Nat.le_of_eq hg.symm); clear hbox hb hg)
    | ((with_reducible refine gate_dst (N := 4) rfl ?_); (try (refine gate_guard (by rfl) ?_; dsimp only)); refine box_event ?hg (N := 4) ?hd (cs := #[.int .i64 0]) (t := 30) ?hr ?_; (case hd => rfl); (case hg => rfl); (case hr => first | (go_simp; done) | (go_simp; rfl)); intro E hg w3 hbox hb; have EX := Aside0.mk hbox; have EB := Aside0.mk hb; have EG := Aside0.mk (Nat.le_of_eq hg.symm); clear hbox hb hg))
  have HB3 := Aside0.mk (below_step (below_step FB.out LB.out) EB.out)
  have HC3 := Aside0.mk (Kd.C_below HC.out HB3.out)
  have FX3 := Aside0.mk (blk_below (blk_below FX.out LB.out) EB.out)
  have LX3 := Aside0.mk (blk_below LX.out EB.out)
  have GF := Aside0.mk (show w.heap.size ≤ F by exact FG.out)
  have GL := Aside0.mk (show w.heap.size ≤ L ∧ F < L by have := blk_lt FX.out; have := LG.out; have := FB.out.size; omega)
  have GE := Aside0.mk (show w.heap.size ≤ E ∧ L < E by have := blk_lt LX.out; have := EG.out; have := LB.out.size; have := FB.out.size; omega)
  have GS := Aside0.mk (show F < w3.heap.size ∧ L < w3.heap.size ∧ E < w3.heap.size by have := blk_lt FX3.out; have := blk_lt LX3.out; have := blk_lt EX.out; omega)
  clear FB LB EB FX LX FG LG EG
  obtain ⟨l0c, l0f⟩ := cells1 LX3.out
  obtain ⟨e0c, e0f⟩ := cells1 EX.out
  have hEL : ¬ E = L := by have := GE.out; omega
  have hLE : ¬ L = E := by omega
  have hFL : ¬ F = L := by have := GL.out; omega
  have hLF : ¬ L = F := by omega
  have hFE : ¬ F = E := by have := GL.out; have := GE.out; omega
  have hEF : ¬ E = F := by omega
  go_upto_region 2 with (first | (go_at_call 18; refine (lex_calls A0 cA bs _ HC3.out HCC.out).mono ?_; rintro e' w4 ⟨v, rfl, hR, hB⟩; obtain ⟨AT, cT, rfl⟩ := Kd.R_slice hR; have HT := Aside0.mk hR; have HB4 := Aside0.mk hB; clear hR hB l0c l0f e0c e0f; have LX4 := Aside0.mk (blk_below LX3.out HB4.out); have EX4 := Aside0.mk (blk_below EX.out HB4.out); obtain ⟨l0c, l0f⟩ := cells1 LX4.out; obtain ⟨e0c, e0f⟩ := cells1 EX4.out))
  obtain ⟨lv, hlv⟩ : ∃ x, x = (lexF bs).2.1 := ⟨_, rfl⟩
  obtain ⟨ev, hev⟩ : ∃ x, x = (lexF bs).2.2 := ⟨_, rfl⟩
  rw [← hlv, ← hev]
  obtain ⟨w5, hw5, hF5, hL5, hE5, hR5, hB5⟩ : ∃ W, W = (w4.setCell ⟨L, 0, none⟩ (.int .i64 lv)).setCell ⟨E, 0, none⟩ (.int .i64 ev) ∧ W.heap[F]? = some (.cells zCells.toArray 29 (0, 0)) ∧ W.heap[L]? = some (.cells #[.int .i64 lv] 3 (0, 0)) ∧ W.heap[E]? = some (.cells #[.int .i64 ev] 30 (0, 0)) ∧ kTok.R 95 W w3.heap.size (fun _ => True) (.slice AT (lexF bs).1.length cT) (lexF bs).1 ∧ Below w.heap.size w W := by
    have hFL := GL.out.2
    have hLE := GE.out.2
    have hge := GE.out.1
    have hgl := GL.out.1
    have hs := GS.out
    refine ⟨_, rfl, blk_far (blk_far (blk_below FX3.out HB4.out) (by simp; omega) _) (by simp; omega) _, blk_far (blk_put LX4.out 0 _ rfl) (by simp; omega) _, blk_put (blk_far EX4.out (by simp; omega) _) 0 _ rfl, Kd.R_mono (Kd.R_far (Kd.R_far (Kd.R_mono (Kd.R_bound HT.out) (fun k hk => (⟨by omega, by omega⟩ : k ≠ L ∧ k ≠ E))) (fun k hk => hk.1) _) (fun k hk => hk.2) _) (fun _ _ => trivial), ((below_step HB3.out HB4.out).setCell hgl _).setCell hge _⟩
  rw [← hw5]
  have HLV := Aside0.mk hlv
  have HEV := Aside0.mk hev
  have F5 := Aside0.mk hF5
  have L5 := Aside0.mk hL5
  have E5 := Aside0.mk hE5
  have R5 := Aside0.mk hR5
  have B5 := Aside0.mk hB5
  have S5 : Aside0 (w5.heap.size = w4.heap.size) := ⟨by rw [hw5]; simp [World.setCell]⟩
  clear hw5 hlv hev hF5 hL5 hE5 hR5 hB5 l0c l0f e0c e0f
  obtain ⟨l0c, l0f⟩ := cells1 L5.out
  obtain ⟨e0c, e0f⟩ := cells1 E5.out
  obtain ⟨c0, c1, c2, c3, c4, c5, c6, c7, c8, c9, c10, c11, f0, f1, f2, f3, f4, f5, f6, f7, f8, f9, f10, f11⟩ := cells12 F5.out
  by_cases he : ev = 0
  · have heb : (ev != 0) = false := by simp [he]
    have HE := Aside0.mk he
    clear he
    have hmf : ∀ (fn : Fn) (first cap : Array Value) (w : World), (Instr.makeFunc fn first cap).run Tryd.prog w = .ok (.func fn first cap) w := fun _ _ _ _ => rfl
    have hC5 := (Kd.R_reads' R5.out)
    have HC5 := Aside0.mk hC5
    clear hC5
    go_upto_region 6 with (first | (go_at_call 20; refine (rows_calls (lexF bs).1 AT cT w5 HC5.out.2.2 HC5.out.2.1 (lexF_ok bs) (by have := LexR.lexF_len bs; omega)).mono ?_; rintro e' w6 ⟨rs, v, rfl, hrs⟩; obtain ⟨AP, cP, rfl⟩ := Kd.R_slice hrs.own; have RS := Aside0.mk hrs; clear hrs))
    have F6 := Aside0.mk (blk_below F5.out RS.out.below)
    have L6 := Aside0.mk (blk_below L5.out RS.out.below)
    have E6 := Aside0.mk (blk_below E5.out RS.out.below)
    have B6 := Aside0.mk (below_step B5.out RS.out.below)
    clear l0c l0f e0c e0f c0 f0 c1 f1 c2 f2 c3 f3 c4 f4 c5 f5 c6 f6 c7 f7 c8 f8 c9 f9 c10 f10 c11 f11
    have hlen : rs.length = (rowsF (lexF bs).1).length := RS.out.len
    have HLEN := Aside0.mk hlen
    clear hlen
    by_cases hz : rs.length = 0
    · have hzb : ((rs.length : Int) == 0) = true := by simp [hz]
      have HZ := Aside0.mk hz
      clear hz
      obtain ⟨l0c, l0f⟩ := cells1 L6.out
      obtain ⟨e0c, e0f⟩ := cells1 E6.out
      obtain ⟨c0, c1, c2, c3, c4, c5, c6, c7, c8, c9, c10, c11, f0, f1, f2, f3, f4, f5, f6, f7, f8, f9, f10, f11⟩ := cells12 F6.out
      go_wp2
      rw [parseP_none (by rw [← HEV.out]; exact HE.out) (by rw [← HLEN.out]; exact HZ.out)]
      have hk := three_far w6 F L E (.int .i64 0) (.int .i64 2) (.int .i64 0) (.int .i64 0) (.int .i64 0) (.int .i64 0) (.int .i64 0) (.int .i64 0) (.int .i64 0) (.int .i64 0) (.int .i64 0) (.int .i64 0) (.slice none 0 0) (.slice none 0 0)
      have hs := three_same w6 F L E (.int .i64 0) (.int .i64 2) (.int .i64 0) (.int .i64 0) (.int .i64 0) (.int .i64 0) (.int .i64 0) (.int .i64 0) (.int .i64 0) (.int .i64 0) (.int .i64 0) (.int .i64 0) (.slice none 0 0) (.slice none 0 0)
      exact door _ F L E w _ (zeroF, 0, 2) zCells rfl rfl rfl (blk_far (blk_far (set12 (.int .i64 0) (.int .i64 0) (.int .i64 0) (.int .i64 0) (.int .i64 0) (.int .i64 0) (.int .i64 0) (.int .i64 0) (.int .i64 0) (.int .i64 0) (.slice none 0 0) (.slice none 0 0) F6.out) hFL _) hFE _) rfl (blk_far (blk_put (cs' := #[.int .i64 0]) (cs := #[.int .i64 lv]) ((heap_set12 _ _ _ hLF (.int .i64 0) (.int .i64 0) (.int .i64 0) (.int .i64 0) (.int .i64 0) (.int .i64 0) (.int .i64 0) (.int .i64 0) (.int .i64 0) (.int .i64 0) (.slice none 0 0) (.slice none 0 0)).trans L6.out) 0 _ rfl) hLE _) (blk_put (cs' := #[.int .i64 2]) (cs := #[.int .i64 ev]) ((heap_far _ _ _ _ _ hEL).trans ((heap_set12 _ _ _ hEF (.int .i64 0) (.int .i64 0) (.int .i64 0) (.int .i64 0) (.int .i64 0) (.int .i64 0) (.int .i64 0) (.int .i64 0) (.int .i64 0) (.int .i64 0) (.slice none 0 0) (.slice none 0 0)).trans E6.out)) 0 _ rfl)
        ⟨.slice none 0 0, .slice none 0 0, rfl, Kd.R_nil _ _ _ _ _, Kd.R_nil _ _ _ _ _, SameW.below3 hs B6.out GF.out GL.out.1 GE.out.1 hk, rfl⟩
    · have hzb : ((rs.length : Int) == 0) = false := beq_eq_false_iff_ne.2 (by omega)
      have HZ := Aside0.mk hz
      clear hz
      have hpp : parseP bs = runP (rowsF (lexF bs).1) true zeroF := parseP_run (by rw [← HEV.out]; exact HE.out) (by rw [← HLEN.out]; exact HZ.out)
      have HPP := Aside0.mk hpp
      have HRL := Aside0.mk (show rs.length ≤ 70000 by have h1 := LexR.lexF_len bs; have h2 := rowsG_len (lexF bs).1 []; have h3 := HLEN.out; unfold rowsF at h3; omega)
      have HW5 := Aside0.mk (show w.heap.size ≤ w5.heap.size from B5.out.size)
      have HS5 := Aside0.mk (show F < w5.heap.size ∧ L < w5.heap.size ∧ E < w5.heap.size from ⟨blk_lt F5.out, blk_lt L5.out, blk_lt E5.out⟩)
      clear hpp
      have PS0 : Aside0 (PSt w w5 w6 w6 F rs 0 (.slice AP rs.length cP) zeroF) := by
        have hs6 := RS.out.below.size
        refine ⟨⟨B6.out, ButF.of_below RS.out.below F, fun _ _ _ => rfl, RS.out.own, ButF.of_below (cut_below _ _ hs6) F, rfl, .slice none 0 0, .slice none 0 0, F6.out, Kd.R_nil _ _ _ _ _, Kd.R_nil _ _ _ _ _⟩⟩
      go_wp2
      go_loopg [29] rs.length (fun gg s29 wr => ∃ (kk : Nat) (st : FileS), kk ≤ rs.length ∧ rs.length - kk ≤ gg ∧ s29 = .int .i64 kk ∧ Aside0 (PSt w w5 w6 wr F rs kk (.slice AP rs.length cP) st) ∧ Aside0 (wr.heap[L]? = some (.cells #[.int .i64 lv] 3 (0, 0))) ∧ Aside0 (wr.heap[E]? = some (.cells #[.int .i64 ev] 30 (0, 0))) ∧ Aside0 (st.ops.length ≤ kk ∧ st.tasks.length ≤ kk) ∧ Aside0 (runP (rowsF (lexF bs).1) true zeroF = runP ((rowsF (lexF bs).1).drop kk) (kk == 0) st))
      case atStart => exact ⟨0, zeroF, by omega, by omega, rfl, PS0, L6, E6, ⟨by simp [zeroF]⟩, ⟨rfl⟩⟩
      case round =>
        obtain ⟨kk, st, hkk, hg, rfl, PS, LR, ER, HB, A1⟩ := hrel
        by_cases hlt : kk < rs.length
        · have hltz : (kk : Int) < (rs.length : Int) := by omega
          have hk0 : (0 : Int) ≤ (kk : Int) := by omega
          obtain ⟨pd, ep, hpc⟩ := at_P (Kd.R_reads' PS.out.ptr).2.2 (kk : Int) hk0 hltz
          simp only [Int.toNat_natCast] at hpc
          subst ep
          have p1 := eq_true hk0
          have q1 := eq_true hltz
          have RW := Aside0.mk (PSt.row PS.out RS.out hlt F5.out z_str)
          have hrl : kk < (rowsF (lexF bs).1).length := by rw [← HLEN.out]; exact hlt
          have A2 := Aside0.mk (A1.out.trans (runP_step (st := st) hrl))
          have HCB := Aside0.mk (cut_below2 PS.out.below HW5.out PS.out.toks.size)
          have HFC := Aside0.mk (show F < (cut w5.heap.size wr).heap.size by rw [cut_size _ _ PS.out.toks.size]; exact HS5.out.1)
          obtain ⟨gr, hgr⟩ : ∃ x, x = rs.getD kk 0 := ⟨_, rfl⟩
          rw [← hgr] at hpc
          have HGR := Aside0.mk hgr
          rw [← hgr] at RW
          have Hlt := Aside0.mk hlt
          have Hg := Aside0.mk hg
          clear hk0 hltz hlt hg hkk hgr hrl
          by_cases hf0 : kk = 0
          · have hfb : ((kk : Int) == 0) = true := by simp [hf0]
            have hfn : (kk == 0) = true := by simp [hf0]
            rw [hfn] at A2
            clear hf0 hfn
            go_wp2_with (first | (go_at_call 21; refine (takes_first gr _ F st _ (cut w5.heap.size wr) wr RW.out PS.out.file HFC.out (NamesIs.below HN.out HCB.out)).mono ?_; intro e' w7 hp; rcases TakesPost.elim hp with ⟨st', hk1, rfl, hf, hkp⟩ | ⟨er, hk1, rfl, hbf, hif⟩; rotate_left; (have hbb := PSt.bad PS.out hbf GF.out HW5.out; have hpp : parseP bs = (zeroF, ((rowsF (lexF bs).1).getD kk row0).1, er) := (by rw [HPP.out, A2.out, hk1]); show bodyPostD _ _ (ParsePost w (parseP bs)) (Exit.panic _) _ _; rw [hpp]; exact panics _ F L E w w7 _ er lv ev rfl rfl rfl hif ((hbb.2 L HS5.out.2.1 hLF).trans LR.out) ((hbb.2 E HS5.out.2.2 hEF).trans ER.out) GF.out GL.out.1 GE.out.1 hbb.1); have K1 := Aside0.mk hk1; have F7 := Aside0.mk hf; have K7 := Aside0.mk hkp; clear hk1 hf hkp))
            go_roundg (rs.length - (kk + 1))
            case measure => have := Hlt.out; have := Hg.out; omega
            case rel =>
              obtain rfl := HGR.out
              have hlt := Hlt.out
              have e : wrap64 ((kk : Int) + 1) = ((kk + 1 : Nat) : Int) := by have := HRL.out; unfold wrap64; omega
              have hn := PSt.next PS.out RS.out hlt GF.out HW5.out (RowAt.typed RW.out) F7.out K7.out
              exact ⟨kk + 1, st', by omega, by omega, by first | (rw [e]) | (simp [e]), ⟨hn⟩, ⟨K7.out.block L _ 3 (by obtain ⟨cs, hc⟩ := RowAt.typed RW.out; exact blk_ne LR.out hc (by decide)) hLF (by decide) (by decide) LR.out⟩, ⟨K7.out.block E _ 30 (by obtain ⟨cs, hc⟩ := RowAt.typed RW.out; exact blk_ne ER.out hc (by decide)) hEF (by decide) (by decide) ER.out⟩, ⟨by have h1 := takesP_len K1.out; have h2 := HB.out; omega⟩, ⟨by rw [A2.out, K1.out]⟩⟩
          · have hfb : ((kk : Int) == 0) = false := beq_eq_false_iff_ne.2 (by omega)
            have hfn : (kk == 0) = false := by simp [hf0]
            rw [hfn] at A2
            clear hf0 hfn
            go_wp2_with (first | (go_at_call 21; refine (takes_rest gr _ F st _ (cut w5.heap.size wr) wr RW.out PS.out.file HFC.out (FormsIs.below HM.out HCB.out) (AnswersIs.below HA.out HCB.out) (by have := HB.out; have := HRL.out; have := Hlt.out; omega) (by have := HB.out; have := HRL.out; have := Hlt.out; omega)).mono ?_; intro e' w7 hp; rcases TakesPost.elim hp with ⟨st', hk1, rfl, hf, hkp⟩ | ⟨er, hk1, rfl, hbf, hif⟩; rotate_left; (have hbb := PSt.bad PS.out hbf GF.out HW5.out; have hpp : parseP bs = (zeroF, ((rowsF (lexF bs).1).getD kk row0).1, er) := (by rw [HPP.out, A2.out, hk1]); show bodyPostD _ _ (ParsePost w (parseP bs)) (Exit.panic _) _ _; rw [hpp]; exact panics _ F L E w w7 _ er lv ev rfl rfl rfl hif ((hbb.2 L HS5.out.2.1 hLF).trans LR.out) ((hbb.2 E HS5.out.2.2 hEF).trans ER.out) GF.out GL.out.1 GE.out.1 hbb.1); have K1 := Aside0.mk hk1; have F7 := Aside0.mk hf; have K7 := Aside0.mk hkp; clear hk1 hf hkp))
            go_roundg (rs.length - (kk + 1))
            case measure => have := Hlt.out; have := Hg.out; omega
            case rel =>
              obtain rfl := HGR.out
              have hlt := Hlt.out
              have e : wrap64 ((kk : Int) + 1) = ((kk + 1 : Nat) : Int) := by have := HRL.out; unfold wrap64; omega
              have hn := PSt.next PS.out RS.out hlt GF.out HW5.out (RowAt.typed RW.out) F7.out K7.out
              exact ⟨kk + 1, st', by omega, by omega, by first | (rw [e]) | (simp [e]), ⟨hn⟩, ⟨K7.out.block L _ 3 (by obtain ⟨cs, hc⟩ := RowAt.typed RW.out; exact blk_ne LR.out hc (by decide)) hLF (by decide) (by decide) LR.out⟩, ⟨K7.out.block E _ 30 (by obtain ⟨cs, hc⟩ := RowAt.typed RW.out; exact blk_ne ER.out hc (by decide)) hEF (by decide) (by decide) ER.out⟩, ⟨by have h1 := takesP_len K1.out; have h2 := HB.out; omega⟩, ⟨by rw [A2.out, K1.out]⟩⟩
        · have hltz : ¬ (kk : Int) < (rs.length : Int) := by omega
          obtain rfl : kk = rs.length := by omega
          have hfin : parseP bs = (st, 0, 0) := by
            rw [HPP.out, A1.out, HLEN.out, List.drop_length]
            rfl
          have HFIN := Aside0.mk hfin
          clear hg hkk hlt hfin
          obtain ⟨vT, vO, hV⟩ := PS.out.file.vals
          obtain ⟨cfg, tasks, ops⟩ := st
          obtain ⟨o0, o1, o2, o3, o4, o5, o6, o7, o8, o9, rfl⟩ := ten hV.len
          have hbx := hV.box
          simp only [List.map_cons, List.map_nil, List.cons_append, List.nil_append] at hbx
          have HBX := Aside0.mk hbx
          have HRT := Aside0.mk hV.rT
          have HRO := Aside0.mk hV.rO
          clear hV
          obtain ⟨l0c, l0f⟩ := cells1 LR.out
          obtain ⟨e0c, e0f⟩ := cells1 ER.out
          obtain ⟨c0, c1, c2, c3, c4, c5, c6, c7, c8, c9, c10, c11, f0, f1, f2, f3, f4, f5, f6, f7, f8, f9, f10, f11⟩ := cells12 hbx
          clear hbx
          obtain ⟨AT', cT', hvT⟩ := Kd.R_slice HRT.out
          obtain ⟨AO', cO', hvO⟩ := Kd.R_slice HRO.out
          dsimp only at hvT hvO
          generalize List.length _ = LT at hvT
          generalize List.length _ = LO at hvO
          subst hvT
          subst hvO
          go_wp2
          rw [HFIN.out]
          have hk := three_far wr F L E (.int .i64 0) (.int .i64 0) (.int .i64 o0) (.int .i64 o1) (.int .i64 o2) (.int .i64 o3) (.int .i64 o4) (.int .i64 o5) (.int .i64 o6) (.int .i64 o7) (.int .i64 o8) (.int .i64 o9) (.slice AT' LT cT') (.slice AO' LO cO')
          have hs := three_same wr F L E (.int .i64 0) (.int .i64 0) (.int .i64 o0) (.int .i64 o1) (.int .i64 o2) (.int .i64 o3) (.int .i64 o4) (.int .i64 o5) (.int .i64 o6) (.int .i64 o7) (.int .i64 o8) (.int .i64 o9) (.slice AT' LT cT') (.slice AO' LO cO')
          have hn := cut_size _ _ PS.out.toks.size
          exact door _ F L E w _ (⟨[o0, o1, o2, o3, o4, o5, o6, o7, o8, o9], tasks, ops⟩, 0, 0) _ rfl rfl rfl (blk_far (blk_far (set12 (.int .i64 o0) (.int .i64 o1) (.int .i64 o2) (.int .i64 o3) (.int .i64 o4) (.int .i64 o5) (.int .i64 o6) (.int .i64 o7) (.int .i64 o8) (.int .i64 o9) (.slice AT' LT cT') (.slice AO' LO cO') HBX.out) hFL _) hFE _) rfl (blk_far (blk_put (cs' := #[.int .i64 0]) (cs := #[.int .i64 lv]) ((heap_set12 _ _ _ hLF (.int .i64 o0) (.int .i64 o1) (.int .i64 o2) (.int .i64 o3) (.int .i64 o4) (.int .i64 o5) (.int .i64 o6) (.int .i64 o7) (.int .i64 o8) (.int .i64 o9) (.slice AT' LT cT') (.slice AO' LO cO')).trans LR.out) 0 _ rfl) hLE _) (blk_put (cs' := #[.int .i64 0]) (cs := #[.int .i64 ev]) ((heap_far _ _ _ _ _ hEL).trans ((heap_set12 _ _ _ hEF (.int .i64 o0) (.int .i64 o1) (.int .i64 o2) (.int .i64 o3) (.int .i64 o4) (.int .i64 o5) (.int .i64 o6) (.int .i64 o7) (.int .i64 o8) (.int .i64 o9) (.slice AT' LT cT') (.slice AO' LO cO')).trans ER.out)) 0 _ rfl)
            ⟨.slice AT' LT cT', .slice AO' LO cO', rfl, Kd.R_lower (R_three HRT.out rfl HBX.out LR.out ER.out (by decide) (by decide) (by decide) hk) (by rw [hn]; exact HW5.out), Kd.R_lower (R_three HRO.out rfl HBX.out LR.out ER.out (by decide) (by decide) (by decide) hk) (by rw [hn]; exact HW5.out), SameW.below3 hs PS.out.below GF.out GL.out.1 GE.out.1 hk, rfl⟩
  · have heb : (ev != 0) = true := by simpa using he
    have HE := Aside0.mk he
    clear he
    go_upto_region 3 with (fail)
    refine wp_region_noPanic ?_
    refine start_ (n := 6) (S := fun w' => w'.cell? ⟨L, 0, none⟩ = some (.int .i64 lv) ∧ w'.cell? ⟨E, 0, none⟩ = some (.int .i64 ev)) (ds := []) #[false, false, false, false, false, false] (by kernel_rfl) rfl rfl ⟨l0c, e0c⟩ (fun hHeld => ?_)
    refine pure_ (i := 0) (N := some 17) (v := ?_) (a' := ?_) #[true, false, false, false, false, false] rfl rfl (by kernel_rfl) (fun _ _ _ h => h) (Or.inl ⟨by rfl, ?_⟩) ?_ ?_
    rotate_left
    · intro w'
      go_simp
      with_reducible rfl
    rotate_left
    · simp only [Act.put, List.setIfInBounds_toArray, List.set_cons_zero, List.set_cons_succ, i64_w, i32_w]
      rfl
    refine take_ (i := 1) (N := some 18) (v := ?_) (a' := ?_) #[true, true, false, false, false, false] rfl rfl (by kernel_rfl) (fun _ _ _ h => h) (Or.inl ⟨by rfl, ?_⟩) hHeld ?_ ?_
    rotate_left
    · rintro w' ⟨s0, s1⟩
      go_simp
      with_reducible rfl
    rotate_left
    · simp only [Act.put, List.setIfInBounds_toArray, List.set_cons_zero, List.set_cons_succ, i64_w, i32_w]
      rfl
    refine take_ (i := 2) (N := some 19) (v := ?_) (a' := ?_) #[true, true, true, false, false, false] rfl rfl (by kernel_rfl) (fun _ _ _ h => h) (Or.inl ⟨by rfl, ?_⟩) hHeld ?_ ?_
    rotate_left
    · rintro w' ⟨s0, s1⟩
      go_simp
      with_reducible rfl
    rotate_left
    · simp only [Act.put, List.setIfInBounds_toArray, List.set_cons_zero, List.set_cons_succ, i64_w, i32_w]
      rfl
    refine one_ (i := 3) (N := none) #[true, true, true, true, false, false] rfl rfl (by kernel_rfl) (by decide) (fun K hK => ?_)
    refine skip_ (w1 := ?_) (by rfl) rfl ?_ ?_
    rotate_left
    · go_simp
      rfl
    obtain ⟨wa, hwa, aF, aK, aS⟩ : ∃ W, W = ((((((((((((w5.setCell ⟨F, 0, none⟩ (.int .i64 0)).setCell ⟨F, 1, none⟩ (.int .i64 0)).setCell ⟨F, 2, none⟩ (.int .i64 0)).setCell ⟨F, 3, none⟩ (.int .i64 0)).setCell ⟨F, 4, none⟩ (.int .i64 0)).setCell ⟨F, 5, none⟩ (.int .i64 0)).setCell ⟨F, 6, none⟩ (.int .i64 0)).setCell ⟨F, 7, none⟩ (.int .i64 0)).setCell ⟨F, 8, none⟩ (.int .i64 0)).setCell ⟨F, 9, none⟩ (.int .i64 0)).setCell ⟨F, 10, none⟩ (.slice none 0 0)).setCell ⟨F, 11, none⟩ (.slice none 0 0)).drew ∧ W.heap[F]? = some (.cells #[(.int .i64 0), (.int .i64 0), (.int .i64 0), (.int .i64 0), (.int .i64 0), (.int .i64 0), (.int .i64 0), (.int .i64 0), (.int .i64 0), (.int .i64 0), (.slice none 0 0), (.slice none 0 0)] 29 (0, 0)) ∧ (∀ k, k ≠ F → W.heap[k]? = w5.heap[k]?) ∧ SameW w5 W := ⟨_, rfl, blk_drew (set12 (.int .i64 0) (.int .i64 0) (.int .i64 0) (.int .i64 0) (.int .i64 0) (.int .i64 0) (.int .i64 0) (.int .i64 0) (.int .i64 0) (.int .i64 0) (.slice none 0 0) (.slice none 0 0) F5.out), fun k hk => (drew_heap _ k).trans (heap_set12 _ F k hk (.int .i64 0) (.int .i64 0) (.int .i64 0) (.int .i64 0) (.int .i64 0) (.int .i64 0) (.int .i64 0) (.int .i64 0) (.int .i64 0) (.int .i64 0) (.slice none 0 0) (.slice none 0 0)), same_set12 w5 F (.int .i64 0) (.int .i64 0) (.int .i64 0) (.int .i64 0) (.int .i64 0) (.int .i64 0) (.int .i64 0) (.int .i64 0) (.int .i64 0) (.int .i64 0) (.slice none 0 0) (.slice none 0 0)⟩
    rw [← hwa]
    have AF := Aside0.mk aF
    have AK := Aside0.mk aK
    have AS := Aside0.mk aS
    have LA := Aside0.mk ((aK L hLF).trans L5.out)
    have EA := Aside0.mk ((aK E hEF).trans E5.out)
    clear hwa aF aK aS
    obtain ⟨l1c, l1f⟩ := cells1 LA.out
    obtain ⟨e1c, e1f⟩ := cells1 EA.out
    refine hK.out _ _ ⟨(cells1 (LA.out)).1, (cells1 (EA.out)).1⟩ (fun hHeld => ?_)
    clear hK K
    refine one_ (i := 4) (N := none) #[true, true, true, true, true, false] rfl rfl (by kernel_rfl) (by decide) (fun K hK => ?_)
    refine skip_ (w1 := ?_) (by rfl) rfl ?_ ?_
    rotate_left
    · go_simp
      rfl
    refine hK.out _ _ ⟨(cells1 ((blk_put (cs' := #[.int .i64 lv]) LA.out 0 (.int .i64 lv) rfl))).1, (cells1 ((blk_far EA.out hEL (.int .i64 lv)))).1⟩ (fun hHeld => ?_)
    clear hK K
    refine one_ (i := 5) (N := none) #[true, true, true, true, true, true] rfl rfl (by kernel_rfl) (by decide) (fun K hK => ?_)
    refine skip_ (w1 := ?_) (by rfl) rfl ?_ ?_
    rotate_left
    · go_simp
      rfl
    refine hK.out _ _ ⟨(cells1 ((blk_far (blk_put (cs' := #[.int .i64 lv]) LA.out 0 (.int .i64 lv) rfl) hLE (.int .i64 ev)))).1, (cells1 ((blk_put (cs' := #[.int .i64 ev]) (blk_far EA.out hEL (.int .i64 lv)) 0 (.int .i64 ev) rfl))).1⟩ (fun hHeld => ?_)
    clear hK K
    refine done_ (by kernel_rfl) ?_
    refine NoPanic.normal ?_
    go_wp2
    refine ⟨_, res10 _ F L E _ zCells lv ev rfl rfl rfl (blk_far (blk_far AF.out hFL _) hFE _) rfl (blk_far (blk_put (cs' := #[.int .i64 lv]) LA.out 0 (.int .i64 lv) rfl) hLE (.int .i64 ev)) (blk_put (cs' := #[.int .i64 ev]) (blk_far EA.out hEL (.int .i64 lv)) 0 (.int .i64 ev) rfl), ?_⟩
    rw [parseP_err (by rw [← HEV.out]; exact HE.out), ← HLV.out, ← HEV.out]
    exact ⟨.slice none 0 0, .slice none 0 0, rfl, Kd.R_nil _ _ _ _ _, Kd.R_nil _ _ _ _ _, ((SameW.below AS.out B5.out GF.out (fun k hk => AK.out k hk)).setCell GL.out.1 _).setCell GE.out.1 _, rfl⟩
end Go.Proofs.YtegbfimfpkendaaDoor.PaN
