/- parse's config: ten numbers, each behind its word. Condition: the table names is laid. -/
import Derived.Test.YtegbfimfpkendaaDoorMg8
import Derived.Deep.RegionHeld3
import Derived.Deep.RegionHeld2
import Derived.Deep.LoopGhost
namespace Go.Proofs.YtegbfimfpkendaaDoor.PaE
open Go.RowKit Go.Proofs.YtegbfimfpkendaaDoorW.PrintWords Go.Proofs.YtegbfimfpkendaaDoorW.PrintLast Go.Proofs.YtegbfimfpkendaaDoorW.PrintMore LexS LexB PaA LexBox PaC PaD PaB
set_option linter.unusedVariables false
set_option linter.unusedSimpArgs false
def namesT : List (List UInt8) := [[98, 117, 100, 103, 101, 116], [115, 108, 111, 116, 115], [97, 99, 116, 105, 118, 101], [113, 117, 101, 117, 101], [116, 114, 105, 101, 115], [112, 114, 101, 101, 109, 112, 116, 115], [116, 105, 109, 101, 111, 117, 116], [98, 97, 99, 107, 111, 102, 102], [109, 111, 115, 116], [113, 117, 97, 110, 116, 117, 109]]
def nameT (k : Nat) : ByteArray := ⟨(namesT.getD k []).toArray⟩
def NamesIs (w : World) : Prop := 0 < w.heap.size ∧ ∀ k : Nat, k < 10 → w.cell? ⟨0, k, none⟩ = some (.string (nameT k))
theorem NamesIs.below {w W : World} (h : NamesIs w) (hb : Below w.heap.size w W) : NamesIs W :=
  ⟨Nat.lt_of_lt_of_le h.1 hb.size, fun k hk => (hb.cell h.1).trans (h.2 k hk)⟩
def cfgF : Nat → Nat → List Int → List Tok → Rs (List Int)
  | 0, _, vs, ts => .ok vs ts
  | f + 1, k, vs, ts => match wordP ts with
    | .bad e => .bad e
    | .ok s t1 => if s.toList = (nameT k).toList then (match numP t1 with
      | .bad e => .bad e
      | .ok n t2 => cfgF f (k + 1) (vs.set k n) t2) else .bad 2
def cfgV (vs : List Int) : Value := .agg (vs.map (.int .i64)).toArray
def configP (ts : List Tok) : Rs (List Int) := cfgF 10 0 [0, 0, 0, 0, 0, 0, 0, 0, 0, 0] ts
theorem row_below {w0 w w' : World} {g : Nat} {line : Int} {ts : List Tok} (h : RowAt w0 w g line ts) (hb : Below w.heap.size w w') : RowAt w0 w' g line ts := by
  obtain ⟨h1, h2, h3, A, c, h4, h5, h6⟩ := h
  exact ⟨h1, below_step h2 hb, h3, A, c, h4, h5, blk_below h6 hb⟩
theorem RPost.elim {α : Type} {val : α → Value} {w0 w w' : World} {g : Nat} {line : Int} {r : Rs α} {x : Ending} (h : RPost val w0 w g line r x w') :
    (∃ a ts, r = .ok a ts ∧ x = .returned (val a) ∧ RowAt w0 w' g line ts ∧ KeepBut w w' g none) ∨ (∃ e, r = .bad e ∧ x = .panicked (wrongC line e) ∧ Below w0.heap.size w0 w') := by
  cases r with
  | ok a ts => exact .inl ⟨a, ts, rfl, h.1, h.2.1, h.2.2⟩
  | bad e => exact .inr ⟨e, rfl, h.1, h.2⟩
theorem RPost.bad {α : Type} {val : α → Value} {w0 w w' : World} {g : Nat} {line e : Int} {r : Rs α} (h : r = .bad e) (hb : Below w0.heap.size w0 w') : RPost val w0 w g line r (.panicked (wrongC line e)) w' := by
  subst h; exact ⟨rfl, hb⟩
theorem RPost.ok {α : Type} {val : α → Value} {w0 w w' : World} {g : Nat} {line : Int} {r : Rs α} {a : α} {ts : List Tok} (h : r = .ok a ts) (hr : RowAt w0 w' g line ts) (hk : KeepBut w w' g none) : RPost val w0 w g line r (.returned (val a)) w' := by
  subst h; exact ⟨rfl, hr, hk⟩
def MustPost (w : World) (b : Bool) (line e : Int) (x : Ending) (w' : World) : Prop := w = w' ∧ (b = true ∧ x = .returned (.tuple #[]) ∨ b = false ∧ x = .panicked (wrongC line e))
theorem must_any (g : Nat) (b : Bool) (line e : Int) (w : World) (hl : w.cell? ⟨g, 0, none⟩ = some (.int .i64 line)) :
    Calls Tryd.prog 36 #[.pointer (some ⟨g, 0, none⟩), .bool b, .int .i64 e] w (MustPost w b line e) := by
  cases b with
  | true => exact (must_yes _ e w).mono fun x w' ⟨h1, h2⟩ => ⟨h2.symm, .inl ⟨rfl, h1⟩⟩
  | false => exact (must_no _ line e w hl rfl).mono fun x w' ⟨h1, h2⟩ => ⟨h2.symm, .inr ⟨rfl, h1⟩⟩
theorem RowAt.line {w0 w : World} {g : Nat} {line : Int} {ts : List Tok} (h : RowAt w0 w g line ts) : w.cell? ⟨g, 0, none⟩ = some (.int .i64 line) := by
  obtain ⟨_, _, _, A, c, _, _, h6⟩ := h
  exact (blk_cell h6 0).trans rfl
theorem cfg_bad1 {ts tl : List Tok} {vs : List Int} {kk : Nat} {e : Int} (h : configP ts = cfgF (10 - kk) kk vs tl) (hw : wordP tl = .bad e) (hk : kk < 10) : configP ts = .bad e := by
  rw [h, show 10 - kk = (9 - kk) + 1 from by omega, cfgF, hw]
theorem cfg_bad2 {ts tl t1 : List Tok} {vs : List Int} {kk : Nat} {s : ByteArray} (h : configP ts = cfgF (10 - kk) kk vs tl) (hw : wordP tl = .ok s t1) (hk : kk < 10) (hs : ¬ s.toList = (nameT kk).toList) : configP ts = .bad 2 := by
  rw [h, show 10 - kk = (9 - kk) + 1 from by omega, cfgF, hw]; simp only [hs, if_false]
theorem cfg_bad3 {ts tl t1 : List Tok} {vs : List Int} {kk : Nat} {s : ByteArray} {e : Int} (h : configP ts = cfgF (10 - kk) kk vs tl) (hw : wordP tl = .ok s t1) (hk : kk < 10) (hs : s.toList = (nameT kk).toList) (hn : numP t1 = .bad e) : configP ts = .bad e := by
  rw [h, show 10 - kk = (9 - kk) + 1 from by omega, cfgF, hw]; simp only [hs, if_true, hn]
theorem cfg_ok {ts tl t1 t2 : List Tok} {vs : List Int} {kk : Nat} {s : ByteArray} {n : Int} (h : configP ts = cfgF (10 - kk) kk vs tl) (hw : wordP tl = .ok s t1) (hk : kk < 10) (hs : s.toList = (nameT kk).toList) (hn : numP t1 = .ok n t2) : configP ts = cfgF (10 - (kk + 1)) (kk + 1) (vs.set kk n) t2 := by
  rw [h, show 10 - kk = (10 - (kk + 1)) + 1 from by omega, cfgF, hw]; simp only [hs, if_true, hn]
theorem keep_blk {w w' : World} {g i : Nat} {o : Obj} (h : KeepBut w w' g none) (hi : w.heap[i]? = some o) (hg : i ≠ g) : w'.heap[i]? = some o := (h.2 i (blk_lt hi) hg (by simp)).trans hi
theorem ints_cell {w : World} {ob kk : Nat} {vs : List Int} {t : TypeId} (h : w.heap[ob]? = some (.cells (vs.map (.int .i64)).toArray t (0, 0))) (hk : kk < vs.length) : w.cell? ⟨ob, kk, none⟩ = some (.int .i64 (vs.getD kk 0)) := by
  rw [blk_cell h kk]
  simp [List.getD_eq_getElem?_getD, hk]
theorem ints_put {w : World} {ob kk : Nat} {vs : List Int} {t : TypeId} (h : w.heap[ob]? = some (.cells (vs.map (.int .i64)).toArray t (0, 0))) (n : Int) : (w.setCell ⟨ob, kk, none⟩ (.int .i64 n)).heap[ob]? = some (.cells ((vs.set kk n).map (.int .i64)).toArray t (0, 0)) :=
  blk_put h kk _ (by simp [List.map_set])
theorem RowAt.lt {w0 w : World} {g : Nat} {line : Int} {ts : List Tok} (h : RowAt w0 w g line ts) : g < w.heap.size := by
  obtain ⟨_, _, _, A, c, _, _, h6⟩ := h
  exact blk_lt h6
theorem RowAt.far {w0 w : World} {g : Nat} {line : Int} {ts : List Tok} (h : RowAt w0 w g line ts) {p : Addr} (hp : g ≠ p.block) (hB : w0.heap.size ≤ p.block) (u : Value) : RowAt w0 (w.setCell p u) g line ts := by
  obtain ⟨h1, h2, h3, A, c, h4, h5, h6⟩ := h
  exact ⟨h1, h2.setCell hB _, h3, A, c, h4, h5, blk_far h6 hp u⟩
theorem ten {vs : List Int} (h : vs.length = 10) : ∃ a b c d e f g i j k : Int, vs = [a, b, c, d, e, f, g, i, j, k] := by
  match vs, h with
  | [a, b, c, d, e, f, g, i, j, k], _ => exact ⟨a, b, c, d, e, f, g, i, j, k, rfl⟩
theorem cells10 {w : World} {o : Nat} {t : TypeId} {a b c d e f g i j k : Value} (h : w.heap[o]? = some (.cells #[a, b, c, d, e, f, g, i, j, k] t (0, 0))) :
    w.cell? ⟨o, 0, none⟩ = some a ∧ w.cell? ⟨o, 1, none⟩ = some b ∧ w.cell? ⟨o, 2, none⟩ = some c ∧ w.cell? ⟨o, 3, none⟩ = some d ∧ w.cell? ⟨o, 4, none⟩ = some e ∧ w.cell? ⟨o, 5, none⟩ = some f ∧ w.cell? ⟨o, 6, none⟩ = some g ∧ w.cell? ⟨o, 7, none⟩ = some i ∧ w.cell? ⟨o, 8, none⟩ = some j ∧ w.cell? ⟨o, 9, none⟩ = some k ∧ w.frozen? ⟨o, 0, none⟩ = false ∧ w.frozen? ⟨o, 1, none⟩ = false ∧ w.frozen? ⟨o, 2, none⟩ = false ∧ w.frozen? ⟨o, 3, none⟩ = false ∧ w.frozen? ⟨o, 4, none⟩ = false ∧ w.frozen? ⟨o, 5, none⟩ = false ∧ w.frozen? ⟨o, 6, none⟩ = false ∧ w.frozen? ⟨o, 7, none⟩ = false ∧ w.frozen? ⟨o, 8, none⟩ = false ∧ w.frozen? ⟨o, 9, none⟩ = false :=
  ⟨(blk_cell h 0).trans rfl, (blk_cell h 1).trans rfl, (blk_cell h 2).trans rfl, (blk_cell h 3).trans rfl, (blk_cell h 4).trans rfl, (blk_cell h 5).trans rfl, (blk_cell h 6).trans rfl, (blk_cell h 7).trans rfl, (blk_cell h 8).trans rfl, (blk_cell h 9).trans rfl, blk_frozen h 0, blk_frozen h 1, blk_frozen h 2, blk_frozen h 3, blk_frozen h 4, blk_frozen h 5, blk_frozen h 6, blk_frozen h 7, blk_frozen h 8, blk_frozen h 9⟩
theorem far10 {w0 w : World} {g : Nat} {line : Int} {ts : List Tok} (h : RowAt w0 w g line ts) {ob : Nat} (hp : g ≠ ob) (hB : w0.heap.size ≤ ob) (a : Value) (b : Value) (c : Value) (d : Value) (e : Value) (f : Value) (i : Value) (j : Value) (k : Value) (g' : Value) :
    RowAt w0 ((((((((((w.setCell ⟨ob, 0, none⟩ a).setCell ⟨ob, 1, none⟩ b).setCell ⟨ob, 2, none⟩ c).setCell ⟨ob, 3, none⟩ d).setCell ⟨ob, 4, none⟩ e).setCell ⟨ob, 5, none⟩ f).setCell ⟨ob, 6, none⟩ g').setCell ⟨ob, 7, none⟩ i).setCell ⟨ob, 8, none⟩ j).setCell ⟨ob, 9, none⟩ k) g line ts := by
  exact RowAt.far (RowAt.far (RowAt.far (RowAt.far (RowAt.far (RowAt.far (RowAt.far (RowAt.far (RowAt.far (RowAt.far h hp hB _) hp hB _) hp hB _) hp hB _) hp hB _) hp hB _) hp hB _) hp hB _) hp hB _) hp hB _
theorem keep10 {w w1 : World} {g : Nat} (h : KeepBut w w1 g none) {ob : Nat} (hB : w.heap.size ≤ ob) (a : Value) (b : Value) (c : Value) (d : Value) (e : Value) (f : Value) (i : Value) (j : Value) (k : Value) (g' : Value) :
    KeepBut w ((((((((((w1.setCell ⟨ob, 0, none⟩ a).setCell ⟨ob, 1, none⟩ b).setCell ⟨ob, 2, none⟩ c).setCell ⟨ob, 3, none⟩ d).setCell ⟨ob, 4, none⟩ e).setCell ⟨ob, 5, none⟩ f).setCell ⟨ob, 6, none⟩ g').setCell ⟨ob, 7, none⟩ i).setCell ⟨ob, 8, none⟩ j).setCell ⟨ob, 9, none⟩ k) g none := by
  exact keep_far (keep_far (keep_far (keep_far (keep_far (keep_far (keep_far (keep_far (keep_far (keep_far h hB _) hB _) hB _) hB _) hB _) hB _) hB _) hB _) hB _) hB _
theorem set10 {w : World} {o : Nat} {t : TypeId} {a b c d e f g i j k : Value} (u0 u1 u2 u3 u4 u5 u6 u7 u8 u9 : Value) (h : w.heap[o]? = some (.cells #[a, b, c, d, e, f, g, i, j, k] t (0, 0))) :
    ((((((((((w.setCell ⟨o, 0, none⟩ u0).setCell ⟨o, 1, none⟩ u1).setCell ⟨o, 2, none⟩ u2).setCell ⟨o, 3, none⟩ u3).setCell ⟨o, 4, none⟩ u4).setCell ⟨o, 5, none⟩ u5).setCell ⟨o, 6, none⟩ u6).setCell ⟨o, 7, none⟩ u7).setCell ⟨o, 8, none⟩ u8).setCell ⟨o, 9, none⟩ u9).heap[o]? = some (.cells #[u0, u1, u2, u3, u4, u5, u6, u7, u8, u9] t (0, 0)) :=
  blk_put (blk_put (blk_put (blk_put (blk_put (blk_put (blk_put (blk_put (blk_put (blk_put (h) 0 u0 (cs' := #[u0, b, c, d, e, f, g, i, j, k]) rfl) 1 u1 (cs' := #[u0, u1, c, d, e, f, g, i, j, k]) rfl) 2 u2 (cs' := #[u0, u1, u2, d, e, f, g, i, j, k]) rfl) 3 u3 (cs' := #[u0, u1, u2, u3, e, f, g, i, j, k]) rfl) 4 u4 (cs' := #[u0, u1, u2, u3, u4, f, g, i, j, k]) rfl) 5 u5 (cs' := #[u0, u1, u2, u3, u4, u5, g, i, j, k]) rfl) 6 u6 (cs' := #[u0, u1, u2, u3, u4, u5, u6, i, j, k]) rfl) 7 u7 (cs' := #[u0, u1, u2, u3, u4, u5, u6, u7, j, k]) rfl) 8 u8 (cs' := #[u0, u1, u2, u3, u4, u5, u6, u7, u8, k]) rfl) 9 u9 (cs' := #[u0, u1, u2, u3, u4, u5, u6, u7, u8, u9]) rfl
theorem row_drew {w0 w : World} {g : Nat} {line : Int} {ts : List Tok} (h : RowAt w0 w g line ts) : RowAt w0 w.drew g line ts := row_below h ⟨rfl, rfl, rfl, Nat.le_refl _, fun _ _ => rfl⟩
set_option maxRecDepth 100000 in
theorem places_at (ob k : Nat) (hk : k < 10) (W : World) : (Instr.index 80 (placesV ob) (.int .i64 k)).run Tryd.prog W = .ok (.pointer (some ⟨ob, k, none⟩)) W := by
  have hc : k = 0 ∨ k = 1 ∨ k = 2 ∨ k = 3 ∨ k = 4 ∨ k = 5 ∨ k = 6 ∨ k = 7 ∨ k = 8 ∨ k = 9 := by omega
  rcases hc with rfl | rfl | rfl | rfl | rfl | rfl | rfl | rfl | rfl | rfl <;> rfl
set_option maxHeartbeats 4000000 in
set_option maxRecDepth 100000 in
theorem config_r (g : Nat) (line : Int) (ts : List Tok) (w0 w : World) (h : RowAt w0 w g line ts) (hN : NamesIs w0) :
    Calls Tryd.prog 37 #[.pointer (some ⟨g, 0, none⟩)] w (RPost cfgV w0 w g line (configP ts)) := by
  have HR := Aside0.mk h
  have HN := Aside0.mk hN
  clear h hN
  go_enter Tryd.func37, Tryd.ntmps37
  go_upto_region 1 with (first | ((with_reducible refine gate_dst (N := 2) rfl ?_); (try (refine gate_guard (by rfl) ?_; dsimp only)); refine box_event ?hg (N := 2) ?hd (cs := #[.int .i64 0, .int .i64 0, .int .i64 0, .int .i64 0, .int .i64 0, .int .i64 0, .int .i64 0, .int .i64 0, .int .i64 0, .int .i64 0]) (t := 25) ?hr ?_; (case hd => rfl); (case hg => rfl); (case hr => first | (go_simp; done) | (go_simp; rfl)); intro ob hg w1 hbox hb; have OX := Aside0.mk hbox; have OB := Aside0.mk hb; have OG := Aside0.mk (Nat.le_of_eq hg.symm); clear hbox hb hg))
  go_wp2_with (first | (go_at_call 25; refine (numbers_calls ob _).mono ?_; rintro e w2 ⟨rfl, hb2⟩))
  have HB2 := Aside0.mk (below_step OB.out hb2)
  have OX2 := Aside0.mk ((hb2.block ob (blk_lt OX.out)).trans OX.out)
  have HR2 := Aside0.mk (row_below HR.out HB2.out)
  clear hb2
  go_loopg [6] 10 (fun gg s6 wr => ∃ (kk : Nat) (vs : List Int) (tl : List Tok), kk ≤ 10 ∧ 10 - kk ≤ gg ∧ s6 = .int .i64 kk ∧ Aside0 (RowAt w0 wr g line tl) ∧ Aside0 (KeepBut w wr g none) ∧ Aside0 (vs.length = 10) ∧ Aside0 (wr.heap[ob]? = some (.cells (vs.map (.int .i64)).toArray 25 (0, 0))) ∧ Aside0 (configP ts = cfgF (10 - kk) kk vs tl))
  case atStart => exact ⟨0, [0, 0, 0, 0, 0, 0, 0, 0, 0, 0], ts, by omega, by omega, rfl, HR2, ⟨KeepBut.of_below HB2.out g none⟩, ⟨rfl⟩, OX2, ⟨rfl⟩⟩
  case round =>
    obtain ⟨kk, vs, tl, hkk, hg, rfl, RW, KW, VL, VX, C1⟩ := hrel
    by_cases hlt : kk < 10
    · have hltz : (kk : Int) < 10 := by omega
      have hk0 : (0 : Int) ≤ (kk : Int) := by omega
      have hnm : wr.cell? ⟨0, kk, none⟩ = some (.string (nameT kk)) := (RW.out.below.cell HN.out.1).trans (HN.out.2 kk hlt)
      have hix := places_at ob kk hlt
      have p1 := eq_true hk0
      have q1 := eq_true hltz
      have Hlt := Aside0.mk hlt
      have Hg := Aside0.mk hg
      clear hk0 hltz hlt hg hkk
      go_upto_region 4 with (fail)
      go_region_held2 (fun W => W.cell? ⟨0, kk, none⟩ = some (.string (nameT kk))) (first | assumption | exact hnm)
        (first
          | (go_at_call 35; refine (word_r g line tl w0 _ (row_drew RW.out)).mono ?_; intro e' w' hp; rcases RPost.elim hp with ⟨sv, t1, hw, rfl, hr, hkp⟩ | ⟨e, hw, rfl, hb⟩; rotate_left; (exact ⟨rfl, RPost.bad (cfg_bad1 C1.out hw Hlt.out) hb⟩); have W1 := Aside0.mk hw; have R1 := Aside0.mk hr; have K1 := Aside0.mk hkp; have hnm1 : w'.cell? ⟨0, kk, none⟩ = some (.string (nameT kk)) := (hr.below.cell HN.out.1).trans (HN.out.2 kk Hlt.out); clear hw hr hkp)
          | (go_at_call 36; refine (must_any g _ line 2 w' (RowAt.line R1.out)).mono ?_; intro e' w2' hp; obtain ⟨rfl, hp⟩ := hp; rcases hp with ⟨hb, rfl⟩ | ⟨hb, rfl⟩; rotate_left; (exact ⟨rfl, RPost.bad (cfg_bad2 C1.out W1.out Hlt.out (beq_eq_false_iff_ne.1 hb)) R1.out.below⟩); have E1 := Aside0.mk (beq_iff_eq.1 hb); clear hb))
      have HGB := Aside0.mk (show ob ≠ g by have := RowAt.lt HR.out; have := OG.out; omega)
      have VX1 := Aside0.mk (keep_blk K1.out VX.out HGB.out)
      have KW1 := Aside0.mk (KW.out.trans K1.out (.inl rfl))
      clear hnm1
      go_wp2_with (first | (go_at_call 38; refine (number_r g line t1 w0 _ R1.out).mono ?_; intro e' w3 hp; rcases RPost.elim hp with ⟨nv, t2, hn, rfl, hr, hkp⟩ | ⟨e, hn, rfl, hb⟩; rotate_left; (exact ⟨rfl, RPost.bad (cfg_bad3 C1.out W1.out Hlt.out E1.out hn) hb⟩); have N2 := Aside0.mk hn; have R2 := Aside0.mk hr; have K2 := Aside0.mk hkp; clear hn hr hkp; have VX2 := Aside0.mk (keep_blk K2.out VX1.out HGB.out); have hcz : w3.cell? ⟨ob, kk, none⟩ = some (.int .i64 (vs.getD kk 0)) := ints_cell VX2.out (by rw [VL.out]; exact Hlt.out); have hfz : w3.frozen? ⟨ob, kk, none⟩ = false := blk_frozen VX2.out kk))
      trace_state
      go_roundg (10 - (kk + 1))
      case measure => have := Hlt.out; have := Hg.out; omega
      case rel =>
        have hlt := Hlt.out
        have e : wrap64 ((kk : Int) + 1) = ((kk + 1 : Nat) : Int) := by unfold wrap64; omega
        have hgb := HGB.out
        have hob : w.heap.size ≤ ob := OG.out
        refine ⟨kk + 1, vs.set kk nv, t2, by omega, by omega, by first | (rw [e]) | (simp [e]), ⟨RowAt.far R2.out (Ne.symm hgb) (Nat.le_trans HR.out.below.size hob) _⟩, ⟨keep_far (KW1.out.trans K2.out (.inl rfl)) hob _⟩, ⟨by simp [VL.out]⟩, ⟨ints_put VX2.out nv⟩, ⟨cfg_ok C1.out W1.out hlt E1.out N2.out⟩⟩
    · have hltz : ¬ (kk : Int) < 10 := by omega
      obtain rfl : kk = 10 := by omega
      have hfin : configP ts = .ok vs tl := C1.out
      obtain ⟨a', b', c', d', e', f', g', i', j', k', rfl⟩ := ten VL.out
      have HF := Aside0.mk hfin
      have VY := VX.out
      simp only [List.map_cons, List.map_nil] at VY
      obtain ⟨c0, c1, c2, c3, c4, c5, c6, c7, c8, c9, f0, f1, f2, f3, f4, f5, f6, f7, f8, f9⟩ := cells10 VY
      have VZ := Aside0.mk VY
      have HGB := Aside0.mk (show g ≠ ob by have := RowAt.lt HR.out; have := OG.out; omega)
      have HB0 := Aside0.mk (Nat.le_trans HR.out.below.size OG.out)
      clear hg hkk hltz hlt hfin VY
      go_wp2
      have hq := set10 (.int .i64 a') (.int .i64 b') (.int .i64 c') (.int .i64 d') (.int .i64 e') (.int .i64 f') (.int .i64 g') (.int .i64 i') (.int .i64 j') (.int .i64 k') VZ.out
      obtain ⟨z0, z1, z2, z3, z4, z5, z6, z7, z8, z9, -, -, -, -, -, -, -, -, -, -⟩ := cells10 hq
      refine bodyPost_ret (v := cfgV [a', b', c', d', e', f', g', i', j', k']) ?_ rfl (RPost.ok HF.out (far10 RW.out HGB.out HB0.out _ _ _ _ _ _ _ _ _ _ ) (keep10 KW.out OG.out _ _ _ _ _ _ _ _ _ _ ))
      simp [results, Tryd.results37, go_sem, z0, z1, z2, z3, z4, z5, z6, z7, z8, z9, cfgV]
end Go.Proofs.YtegbfimfpkendaaDoor.PaE
