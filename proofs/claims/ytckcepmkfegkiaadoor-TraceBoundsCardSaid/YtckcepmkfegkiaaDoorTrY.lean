/- The walk of Parse. Condition: the table of words is laid. -/
import Derived.Test.YtckcepmkfegkiaaDoorTrQ
import Derived.Test.YtckcepmkfegkiaaDoorLexK
namespace Go.Proofs.YtckcepmkfegkiaaDoor.TrY
open Go.RowKit Go.Proofs.YtckcepmkfegkiaaDoorW.PrintWords Go.Proofs.YtckcepmkfegkiaaDoorW.PrintLast Go.Proofs.YtckcepmkfegkiaaDoorW.PrintMore LexS LexB LexD LexT TrS TrA TrB TrH TrX TrP TrV TrQ
set_option linter.unusedVariables false
set_option linter.unusedSimpArgs false
theorem infoEv : (Tryd.prog.info? 42).map (fun i => (i.zero, i.size, i.bytes)) = some (some (.agg #[.int .i64 0, .int .i64 0, .int .i64 0, .int .i64 0, .int .i64 0]), 5, 40) := by kernel_rfl
theorem kEv_mkM (w : World) (base : Nat) (ok : Nat → Prop) (x : Ev) : kEv.M w base ok x (evC x) := ⟨[.int .i64 x.kind], _, rfl, rfl, ⟨[.int .i64 x.task], _, rfl, rfl, ⟨[.int .i64 x.slot], _, rfl, rfl, ⟨[.int .i64 x.epoch], _, rfl, rfl, rfl⟩⟩⟩⟩
theorem event_b (t : Tok) (ts row : List Tok) (n : Nat) (A : Option Addr) (cp : Nat) (w : World) (e : Ev) (r : Int) (hrow : row = t :: ts) (hl : ts.length + 1 = n) (hC : Kd.C kTok w A row.length row) (hcp : n ≤ cp) (hW : WordsIs w) (hn : n ≤ 4398046511104) (ht : ∀ x ∈ row, x.text.length ≤ 1000000) (he : eventF row = (e, r)) : Calls Tryd.prog 28 #[.slice A n cp] w fun x w' => x = .returned (.tuple #[.agg #[.int .i64 e.kind, .int .i64 e.task, .int .i64 e.slot, .int .i64 e.epoch, .int .i64 e.tick], .int .i64 r]) ∧ Below w.heap.size w w' := by
  subst hrow
  subst hl
  have h := event_calls t ts A cp w hC hcp hW (by omega) ht
  rw [he] at h
  exact h
theorem endAt_b (ts : List Tok) (A : Option Addr) (cp k : Nat) (w : World) (hk : endAt ts 0 = k) (hC : Kd.C kTok w A ts.length ts) (hn : ts.length ≤ 4398046511104) : Calls Tryd.prog 26 #[.slice A ts.length cp, .func (.func 27) #[] #[]] w fun x w' => x = .returned (.int .i64 (k : Int)) ∧ Below w.heap.size w w' := hk ▸ endAt_calls ts A cp w hC hn
theorem cut2 (rest : List Tok) (k : Nat) (A : Option Addr) (cp : Nat) (hk : k < rest.length) (hcp : rest.length ≤ cp) : (∀ W : World, (Instr.slice 66 (.slice A rest.length cp) none (some (.int .i64 (k : Int))) none).run Tryd.prog W = .ok (.slice A k cp) W) ∧ ∃ A' : Option Addr, (∀ W : World, (Instr.slice 66 (.slice A rest.length cp) (some (.int .i64 ((k : Int) + 1))) none none).run Tryd.prog W = .ok (.slice A' (rest.drop (k + 1)).length (cp - (k + 1))) W) ∧ (∀ w, Kd.C kTok w A rest.length rest → Kd.C kTok w A' (rest.drop (k + 1)).length (rest.drop (k + 1))) := by
  obtain ⟨i0, hi, hz0, hz1, hz2⟩ := info_parts infoTok
  refine ⟨fun W => ?_, ?_⟩
  · have h := cut_to 66 71 .i64 Tryd.underlying66 hi A rest.length cp (k : Int) (by omega) (by omega) hcp W
    rw [Int.toNat_natCast] at h
    exact h
  · have hl : (rest.drop (k + 1)).length = rest.length - (k + 1) := List.length_drop
    refine ⟨_, fun W => ?_, fun w h => Kd.C_drop (m := k + 1) (c := cp) h (by omega) hcp⟩
    have h := cut_from 66 71 .i64 Tryd.underlying66 hi 3 hz1 A rest.length cp ((k : Int) + 1) (by omega) (by omega) W
    have e : ((k : Int) + 1).toNat = k + 1 := by omega
    rw [e] at h
    rw [hl]
    exact h
theorem lex_b (A0 : Option Addr) (c0 : Nat) (bs : List Int) (w : World) (L : List Tok) (ln er : Int) (hl : lexF bs = (L, ln, er)) (hr : (Kd.int .u8).C w A0 bs.length bs) (hc : bs.length ≤ c0) : Calls Tryd.prog 25 #[.slice A0 bs.length c0] w fun e w' => ∃ (A : Option Addr) (c : Nat), e = .returned (.tuple #[.slice A L.length c, .int .i64 ln, .int .i64 er]) ∧ L.length ≤ c ∧ kTok.R 71 w' w.heap.size (fun _ => True) (.slice A L.length c) L ∧ Below w.heap.size w w' := by
  refine (lex_calls A0 c0 bs w hr hc).mono ?_
  rintro e w' ⟨v, rfl, ho, hb⟩
  rw [hl] at ho ⊢
  obtain ⟨A, c, rfl, h1, _⟩ := Kd.R_reads ho
  exact ⟨A, c, rfl, h1, ho, hb⟩
theorem parse_bad (bs : List Int) (L : List Tok) (ln er : Int) (h : lexF bs = (L, ln, er)) (he : er ≠ 0) : parseT bs = ([], er) := by unfold parseT; rw [h]; exact if_neg he
theorem parse_good (bs : List Int) (L : List Tok) (ln : Int) (h : lexF bs = (L, ln, 0)) : parseT bs = rowsF L.length L [] := by unfold parseT; rw [h]; exact if_pos rfl
theorem lex_good (bs : List Int) (L : List Tok) (ln : Int) (h : lexF bs = (L, ln, 0)) : Okk false L ∧ (∀ x ∈ L, x.text.length ≤ 1000000) ∧ L.length ≤ 70000 := by
  have hlen := LexR.lexF_len bs
  rw [h] at hlen
  by_cases hb : 65536 < bs.length
  · unfold lexF at h
    rw [if_pos hb] at h
    simp at h
  · rcases lexF_inv bs (by omega) with ⟨l, _, h2⟩ | ⟨toks, h2, h3, h4⟩
    · rw [h] at h2
      simp at h2
    · rw [h] at h2
      obtain ⟨rfl, rfl⟩ : L = toks ∧ ln = 0 := by simpa using h2
      refine ⟨h3, fun x hx => ?_, hlen⟩
      have := okk_text L false h3 x hx
      omega
set_option maxHeartbeats 16000000 in
set_option maxRecDepth 100000 in
theorem parse_calls (s : ByteArray) (w : World) (hW : WordsIs w) (hs : s.size ≤ 9223372036854775807) : Calls Tryd.prog 18 #[.string s] w fun e w' => ∃ v : Value, e = .returned (.tuple #[v, .int .i64 (parseT (bytesOf s)).2]) ∧ kEv.R 42 w' w.heap.size (fun _ => True) v (parseT (bytesOf s)).1 ∧ Below w.heap.size w w' := by
  obtain ⟨⟨L, ln, er⟩, hlex⟩ : ∃ p_, lexF (bytesOf s) = p_ := ⟨lexF (bytesOf s), Eq.refl _⟩
  have HW := Aside0.mk hW
  have HS := Aside0.mk hs
  have HX := Aside0.mk hlex
  clear hW hs hlex
  go_enter Tryd.func18, Tryd.ntmps18
  go_upto_region 2 with (first | ((with_reducible refine gate_dst (N := 13) rfl ?_); refine LexK.CO_conv _ ?hg (N := 13) ?hd 9 57 5 (.tmp 12) rfl Tryd.underlying9 Tryd.underlying57 Tryd.underlying5 _ rfl (fun _ => True) trivial (Below.refl _ _) (Nat.le_refl _) HS.out ?_; (case hd => rfl); (case hg => rfl); intro v1 w1 hco hb1 hg1 hat1; obtain ⟨b1, c1, rfl, hcl, _, _, hC1⟩ := hco; have HB1 := Aside0.mk hb1; have HC1 := Aside0.mk hC1; have HCL := Aside0.mk hcl; clear hb1 hC1 hcl hg1 hat1) | (go_at_call 25; (with_reducible refine (lex_b _ c1 (bytesOf s) _ L ln er HX.out ?side1 ?side2).mono ?_); (case side1 => first | exact HC1.out | exact Kd.C_drew HC1.out); (case side2 => exact HCL.out); rintro e w2 ⟨A0, c0, rfl, hcp, ho, hb2⟩; have HCP := Aside0.mk hcp; have HB2 := Aside0.mk (below_step HB1.out hb2); have HO := Aside0.mk (Kd.R_lower ho HB1.out.size); clear ho hb2 hcp))

  by_cases ce : er = 0
  · have ceb : (er != 0) = false := bne_eq_false_iff_eq.mpr ce
    have HP := Aside0.mk (parse_good _ L ln (ce ▸ HX.out))
    obtain ⟨hok, htx, hln⟩ := lex_good _ L ln (ce ▸ HX.out)
    have HOK := Aside0.mk hok
    have HTX := Aside0.mk htx
    have HLN := Aside0.mk hln
    obtain ⟨⟨fl, fr⟩, hfin⟩ : ∃ p_, rowsF L.length L [] = p_ := ⟨rowsF L.length L [], Eq.refl _⟩
    have HF := Aside0.mk hfin
    clear ce hok htx hln hfin
    go_wp2_with fail
    go_loopg [4, 7] L.length (fun gg s4 s7 wr => ∃ (A' : Option Addr) (cp' : Nat) (rest : List Tok) (out : List Ev) (vo : Value) (n : Nat), rest.length ≤ gg ∧ s4 = .slice A' rest.length cp' ∧ vo = s7 ∧ Aside0 (rest.length ≤ cp') ∧ Aside0 (∀ W, Kd.C kTok W A0 L.length L → Kd.C kTok W A' rest.length rest) ∧ Aside0 (kTok.R 71 wr w.heap.size (fun _ => True) (.slice A0 L.length c0) L) ∧ Aside0 (kEv.R 42 wr w.heap.size (fun _ => True) vo out) ∧ Aside0 (Below w.heap.size w wr) ∧ Aside0 (Okk false rest) ∧ Aside0 (∀ x ∈ rest, x.text.length ≤ 1000000) ∧ Aside0 (out.length + rest.length ≤ 70000) ∧ Aside0 (rest.length ≤ n ∧ rowsF n rest out = (fl, fr)))
    case atStart => exact ⟨A0, c0, L, [], .slice none 0 0, L.length, Nat.le_refl _, rfl, rfl, HCP, ⟨fun _ h => h⟩, HO, ⟨Kd.R_nil _ _ _ _ _⟩, HB2, HOK, HTX, ⟨by have := HLN.out; simp; omega⟩, ⟨Nat.le_refl _, HF.out⟩⟩
    case round =>
      obtain ⟨A', cp', rest, out, vo, n, hg, rfl, rfl, HCPr, HIM, HOr, HEr, HBr, HOKr, HTXr, HLr, HFr⟩ := hrel
      have HG := Aside0.mk hg
      clear hg
      by_cases hl : rest.length = 0
      · have HQ := Aside0.mk (rowsF_nil n rest out hl)
        have hd : decide ((rest.length : Int) > 0) = false := decide_eq_false (by omega)
        have hd2 : ¬ (0 : Int) < (rest.length : Int) := by omega
        clear hl
        go_wp2
        go_ret2
        obtain ⟨q1_, q2_⟩ := Prod.mk.inj (HQ.out.symm.trans HFr.out.2)
        rw [HP.out, HF.out, ← q1_, ← q2_]
        exact ⟨_, rfl, HEr.out, HBr.out⟩
      · obtain ⟨k, t, ts, rest2, hk, hrow, htl, hrest, hok2, hlen⟩ := okk_row1 rest HOKr.out hl
        obtain ⟨⟨e, r⟩, hev⟩ : ∃ p_, eventF (rest.take k) = p_ := ⟨eventF (rest.take k), Eq.refl _⟩
        obtain ⟨n, rfl⟩ : ∃ m, n = m + 1 := ⟨n - 1, by have := HFr.out.1; omega⟩
        have HQ : Aside0 (∀ (_ : r = 0), rowsF n rest2 (out ++ [e]) = (fl, fr)) := ⟨fun h0 => (rowsF_ok n rest (rest.take k) rest2 out k e hl hk rfl hrest (h0 ▸ hev)).symm.trans HFr.out.2⟩
        have HQ2 : Aside0 (∀ (_ : r ≠ 0), (fl, fr) = ([], r)) := ⟨fun h0 => HFr.out.2.symm.trans (rowsF_bad n rest (rest.take k) out k e r hl hk rfl hev h0)⟩
        have hd : decide ((rest.length : Int) > 0) = true := decide_eq_true (by omega)
        have hd2 : (0 : Int) < (rest.length : Int) := by omega
        obtain ⟨hc1, A2, hc2, hC2⟩ := cut2 rest k A' cp' (by omega) HCPr.out
        have hw1 : wrap64 ((k : Int) + 1) = (k : Int) + 1 := by have := HLr.out; unfold wrap64; omega
        have HK := Aside0.mk hk
        have HROW := Aside0.mk hrow
        have HTL := Aside0.mk htl
        have HREST := Aside0.mk hrest
        have HOK2 := Aside0.mk hok2
        have HLEN := Aside0.mk hlen
        have HEV := Aside0.mk hev
        have HC2 := Aside0.mk hC2
        clear hl hk hrow htl hrest hok2 hlen hev hC2
        go_wp2_with fail
        refine (endAt_b rest A' cp' k _ HK.out (HIM.out _ (Kd.R_reads' HOr.out).2.2) (by have := HLr.out; omega)).mono ?_
        rintro e' w3 ⟨rfl, hb3⟩
        have HO3 := Aside0.mk (Kd.R_below HOr.out hb3)
        have HE3 := Aside0.mk (Kd.R_below HEr.out hb3)
        have HB3 := Aside0.mk (below_step HBr.out hb3)
        clear hb3
        go_wp2_with fail
        refine (event_b t ts (rest.take k) k A' cp' _ e r HROW.out HTL.out (Kd.C_take (HIM.out _ (Kd.R_reads' HO3.out).2.2) (by have := HLEN.out; omega)) (by have := HLEN.out; have := HCPr.out; omega) (HW.out.below HB3.out) (by have := HLEN.out; have := HLr.out; omega) (fun x hx => HTXr.out x (List.mem_of_mem_take hx)) HEV.out).mono ?_
        rintro e' w4 ⟨rfl, hb4⟩
        have HO4 := Aside0.mk (Kd.R_below HO3.out hb4)
        have HE4 := Aside0.mk (Kd.R_below HE3.out hb4)
        have HB4 := Aside0.mk (below_step HB3.out hb4)
        clear hb4
        go_upto_region 8 with (first | ((with_reducible refine gate_dst (N := 9) rfl ?_); (try (refine gate_guard (by rfl) ?_; dsimp only)); refine box_event ?hg (N := 9) ?hd (cs := #[.int .i64 0, .int .i64 0, .int .i64 0, .int .i64 0, .int .i64 0]) (t := 42) ?hr ?_; (case hd => rfl); (case hg => rfl); (case hr => first | (go_simp; done) | (go_simp; rfl)); intro gb hg w5 hbox hb; have hz0 : w5.cell? ⟨gb, 0, none⟩ = some (.int .i64 0) := (blk_cell hbox 0).trans rfl; have hz1 : w5.cell? ⟨gb, 1, none⟩ = some (.int .i64 0) := (blk_cell hbox 1).trans rfl; have hz2 : w5.cell? ⟨gb, 2, none⟩ = some (.int .i64 0) := (blk_cell hbox 2).trans rfl; have hz3 : w5.cell? ⟨gb, 3, none⟩ = some (.int .i64 0) := (blk_cell hbox 3).trans rfl; have hz4 : w5.cell? ⟨gb, 4, none⟩ = some (.int .i64 0) := (blk_cell hbox 4).trans rfl; have hf0 := blk_frozen hbox 0; have hf1 := blk_frozen hbox 1; have hf2 := blk_frozen hbox 2; have hf3 := blk_frozen hbox 3; have hf4 := blk_frozen hbox 4; have HX5 := Aside0.mk hbox; have HW5 := Aside0.mk hb; have GE5 := Aside0.mk (Nat.le_of_eq hg.symm); clear hbox hb hg))
        obtain ⟨w6, hw6, hX6, hW6⟩ := set5 (.int .i64 e.kind) (.int .i64 e.task) (.int .i64 e.slot) (.int .i64 e.epoch) (.int .i64 e.tick) HX5.out HW5.out GE5.out
        rw [← hw6]
        have HO6 := Aside0.mk (Kd.R_below HO4.out hW6)
        have HE6 := Aside0.mk (Kd.R_below HE4.out hW6)
        have HB6 := Aside0.mk (below_step HB4.out hW6)
        have hy0 : w6.cell? ⟨gb, 0, none⟩ = some (.int .i64 e.kind) := (blk_cell hX6 0).trans rfl
        have hy1 : w6.cell? ⟨gb, 1, none⟩ = some (.int .i64 e.task) := (blk_cell hX6 1).trans rfl
        have hy2 : w6.cell? ⟨gb, 2, none⟩ = some (.int .i64 e.slot) := (blk_cell hX6 2).trans rfl
        have hy3 : w6.cell? ⟨gb, 3, none⟩ = some (.int .i64 e.epoch) := (blk_cell hX6 3).trans rfl
        have hy4 : w6.cell? ⟨gb, 4, none⟩ = some (.int .i64 e.tick) := (blk_cell hX6 4).trans rfl
        clear hX6 hW6 hw6 HX5 HW5 GE5 hz0 hz1 hz2 hz3 hz4 hf0 hf1 hf2 hf3 hf4
        by_cases hr : r = 0
        · have hrb : (r != 0) = false := bne_eq_false_iff_eq.mpr hr
          have HQ3 := Aside0.mk (HQ.out hr)
          clear hr
          go_upto_region 11 with (first | ((with_reducible refine gate_builtin (b := .append) (xs := #[.tmp 36, .tmp 38]) rfl ?_); (try (refine gate_guard (by rfl) ?_; dsimp only)); at_builtin; refine Kd.R_append kEv (w0 := w) w.heap.size rfl (.tmp 36) (.tmp 38) 25 42 (.agg #[.int .i64 0, .int .i64 0, .int .i64 0, .int .i64 0, .int .i64 0]) 40 rfl Tryd.underlying25 infoEv rfl (by decide) (by decide) vo out e (evC e) (fun _ => True) (fun _ => False) rfl rfl (kEv_mkM _ _ _ e) (fun _ h => h.elim) (fun _ _ => trivial) HE6.out HB6.out HB6.out.size (by have := HLr.out; omega) ?_; intro v1 w7 hr7 hb7 hg7 hat7; have HO7 := Aside0.mk (Kd.R_over' HO6.out (Kd.R_typed HE6.out) (by decide) hg7); have HE7 := Aside0.mk hr7; have HB7 := Aside0.mk hb7; clear hr7 hb7 hg7 hat7))
          clear hy0 hy1 hy2 hy3 hy4
          go_wp2
          go_roundg rest2.length
          case measure => have := HG.out; have := HLEN.out; omega
          case rel =>
            have hrd := HREST.out
            subst hrd
            exact ⟨A2, cp' - (k + 1), rest.drop (k + 1), out ++ [e], v1, n, Nat.le_refl _, by rw [List.length_drop], rfl, ⟨by have h1 := HCPr.out; have h2 := HLEN.out; rw [List.length_drop] at h2 ⊢; omega⟩, ⟨fun W h => HC2.out W (HIM.out W h)⟩, HO7, HE7, HB7, HOK2, ⟨fun x hx => HTXr.out x (List.mem_of_mem_drop hx)⟩, ⟨by have := HLr.out; have := HLEN.out; rw [List.length_append, List.length_singleton]; omega⟩, ⟨by have := HFr.out.1; have := HLEN.out; omega, HQ3.out⟩⟩
        · have hrb : (r != 0) = true := bne_iff_ne.mpr hr
          obtain ⟨q1_, q2_⟩ := Prod.mk.inj (HQ2.out hr)
          have HQ3 := Aside0.mk q1_
          have HQ4 := Aside0.mk q2_
          clear hr q1_ q2_
          go_wp2
          go_ret2
          rw [HP.out, HF.out, HQ3.out, HQ4.out]
          exact ⟨.slice none 0 0, rfl, Kd.R_nil _ _ _ _ _, HB6.out⟩
  · have ceb : (er != 0) = true := bne_iff_ne.mpr ce
    have HP := Aside0.mk (parse_bad _ L ln er HX.out ce)
    clear ce
    go_wp2
    go_ret2
    rw [HP.out]
    exact ⟨.slice none 0 0, rfl, Kd.R_nil _ _ _ _ _, HB2.out⟩
end Go.Proofs.YtckcepmkfegkiaaDoor.TrY
