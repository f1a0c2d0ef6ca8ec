/- parse's rows: the lines of tokens. No condition. -/
import Derived.Test.YtegbfimfpkendaaDoorPaI
namespace Go.Proofs.YtegbfimfpkendaaDoor.PaJ
open Go.RowKit Go.Proofs.YtegbfimfpkendaaDoorW.PrintWords Go.Proofs.YtegbfimfpkendaaDoorW.PrintLast Go.Proofs.YtegbfimfpkendaaDoorW.PrintMore LexS LexB PaA LexBox PaC PaD PaB PaE PaF PaG PaH
set_option linter.unusedVariables false
set_option linter.unusedSimpArgs false
def rowsG : List Tok → List Tok → List (Int × List Tok)
  | _, [] => []
  | cur, t :: ts => if t.kind = 3 then (t.line, cur) :: rowsG [] ts else rowsG (cur ++ [t]) ts
def rowsF (ts : List Tok) : List (Int × List Tok) := rowsG [] ts
def kP : Kd Nat := Kd.scalar (fun b : Nat => Value.pointer (some ⟨b, 0, none⟩)) (fun _ => rfl)
theorem kP_mkM (w : World) (base : Nat) (ok : Nat → Prop) (b : Nat) : kP.M w base ok b [.pointer (some ⟨b, 0, none⟩)] := rfl
theorem infoP : (Tryd.prog.info? 61).map (fun i => (i.zero, i.size, i.bytes)) = some (some (.pointer none), 1, 8) := by kernel_rfl
def row0 : Int × List Tok := (0, [])
structure RowsSt (w0 wr : World) (bs : List Nat) (acc : List (Int × List Tok)) (v : Value) : Prop where
  below : Below w0.heap.size w0 wr
  len : bs.length = acc.length
  row : ∀ i, i < bs.length → RowAt w0 wr (bs.getD i 0) (acc.getD i row0).1 (acc.getD i row0).2
  nodup : bs.Nodup
  own : kP.R 61 wr w0.heap.size (fun _ => True) v bs
section st
variable {w0 wr w' : World} {bs : List Nat} {acc : List (Int × List Tok)} {v : Value}
theorem RowsSt.step (h : RowsSt w0 wr bs acc v) (hb : Below wr.heap.size wr w') : RowsSt w0 w' bs acc v :=
  ⟨below_step h.below hb, h.len, fun i hi => row_below (h.row i hi) hb, h.nodup, Kd.R_below h.own hb⟩
theorem RowsSt.mem (h : RowsSt w0 wr bs acc v) {b : Nat} (hb : b ∈ bs) : b < wr.heap.size := by
  obtain ⟨i, hi, he⟩ := List.getElem_of_mem hb
  have := RowAt.lt (h.row i hi)
  simp only [List.getD_eq_getElem?_getD, List.getElem?_eq_getElem hi, Option.getD_some, he] at this
  exact this
theorem RowsSt.tok {g : Nat} {cs : Array Value} (h : RowsSt w0 wr bs acc v) (hg : wr.heap[g]? = some (.cells cs 95 (0, 0))) : some g ≠ v.ownBlock := by
  intro e
  obtain ⟨_, cells, hc⟩ := R_ownAt h.own g e.symm
  exact blk_ne hg hc (by decide) rfl
theorem RowsSt.push {w7 : World} {line : Int} {cur : List Tok} {A : Option Addr} {c : Nat} {v1 : Value} (h : RowsSt w0 wr bs acc v) (hcur : TokOk cur ∧ cur.length ≤ c ∧ kTok.C w0 A cur.length cur) (hb : (wr.drew.alloc (Obj.cells #[.int .i64 line, .slice A cur.length c] 97 (0, 0))).heap[wr.heap.size]? = some (Obj.cells #[.int .i64 line, .slice A cur.length c] 97 (0, 0)))
    (hg : (wr.drew.alloc (Obj.cells #[.int .i64 line, .slice A cur.length c] 97 (0, 0))).grownBy w7 v.ownBlock) (ho : kP.R 61 w7 w0.heap.size (fun _ => True) v1 (bs ++ [wr.heap.size])) : RowsSt w0 w7 (bs ++ [wr.heap.size]) (acc ++ [(line, cur)]) v1 := by
  have hB : Below wr.heap.size wr (wr.drew.alloc (Obj.cells #[.int .i64 line, .slice A cur.length c] 97 (0, 0))) := below_alloc (below_drew (Below.refl _ _)) _
  have hown : ∀ k, v.ownBlock = some k → w0.heap.size ≤ k := fun k hk => (R_ownAt h.own k hk).1
  have hB7 : Below w0.heap.size w0 w7 := by
    have h1 := below_step h.below hB
    exact h1.grown hg (Nat.le_trans (by exact h.below.size) hB.size) hown
  have hrow : ∀ (g : Nat) (cs : Array Value), (wr.drew.alloc (Obj.cells #[.int .i64 line, .slice A cur.length c] 97 (0, 0))).heap[g]? = some (Obj.cells cs 97 (0, 0)) → w7.heap[g]? = some (Obj.cells cs 97 (0, 0)) := fun g cs hc => by
    refine blk_grown hc hg (fun e => ?_)
    obtain ⟨_, cells, hc'⟩ := R_ownAt h.own g e.symm
    exact blk_ne hc (blk_below hc' hB) (by decide) rfl
  refine ⟨hB7, by simp [h.len], fun i hi => ?_, ?_, ho⟩
  · by_cases hlt : i < bs.length
    · have h1 := h.row i hlt
      have e1 : (bs ++ [wr.heap.size]).getD i 0 = bs.getD i 0 := by simp [List.getD_eq_getElem?_getD, List.getElem?_append, hlt]
      have e2 : (acc ++ [(line, cur)]).getD i row0 = acc.getD i row0 := by simp [List.getD_eq_getElem?_getD, List.getElem?_append, h.len ▸ hlt]
      rw [e1, e2]
      obtain ⟨a1, a2, a3, A', c', a4, a5, a6⟩ := h1
      exact ⟨a1, hB7, a3, A', c', a4, a5, hrow _ _ (blk_below a6 hB)⟩
    · have hi' : i = bs.length := by simp at hi; omega
      subst hi'
      have e1 : (bs ++ [wr.heap.size]).getD bs.length 0 = wr.heap.size := by simp [List.getD_eq_getElem?_getD]
      have e2 : (acc ++ [(line, cur)]).getD bs.length row0 = (line, cur) := by simp [List.getD_eq_getElem?_getD, h.len]
      rw [e1, e2]
      exact ⟨h.below.size, hB7, hcur.1, A, c, hcur.2.1, hcur.2.2, hrow _ _ hb⟩
  · rw [List.nodup_append]
    refine ⟨h.nodup, by simp, fun a ha b hb => ?_⟩
    simp only [List.mem_cons, List.not_mem_nil, or_false] at hb
    subst hb
    exact Nat.ne_of_lt (h.mem ha)
end st
theorem alloc_size1 (w : World) (o : Obj) : (w.drew.alloc o).heap.size = w.heap.size + 1 := Array.size_push _
theorem take_drop_snoc (ts : List Tok) (f k : Nat) (hk : k < ts.length) (hf : f ≤ k) : (ts.take (k + 1)).drop f = (ts.take k).drop f ++ [getTok ts k] := by
  rw [List.take_add_one, List.drop_append_of_le_length (by simp; omega)]
  simp [getTok, List.getD_eq_getElem?_getD, hk]
theorem rows_end (ts : List Tok) (f k : Nat) (hk : k < ts.length) (hf : f ≤ k) (h3 : (getTok ts k).kind = 3) : rowsG ((ts.take k).drop f) (ts.drop k) = ((getTok ts k).line, (ts.take k).drop f) :: rowsG ((ts.take (k + 1)).drop (k + 1)) (ts.drop (k + 1)) := by
  have hd : ts.drop k = getTok ts k :: ts.drop (k + 1) := by
    rw [List.drop_eq_getElem_cons hk]
    simp [getTok, List.getD_eq_getElem?_getD, hk]
  rw [hd, rowsG, if_pos h3, show (ts.take (k + 1)).drop (k + 1) = [] from by simp]
theorem rows_on (ts : List Tok) (f k : Nat) (hk : k < ts.length) (hf : f ≤ k) (h3 : ¬ (getTok ts k).kind = 3) : rowsG ((ts.take k).drop f) (ts.drop k) = rowsG ((ts.take (k + 1)).drop f) (ts.drop (k + 1)) := by
  have hd : ts.drop k = getTok ts k :: ts.drop (k + 1) := by
    rw [List.drop_eq_getElem_cons hk]
    simp [getTok, List.getD_eq_getElem?_getD, hk]
  rw [hd, rowsG, if_neg h3, take_drop_snoc ts f k hk hf]
theorem cur_C {w : World} {A : Option Addr} {c : Nat} {ts : List Tok} (h : kTok.C w A ts.length ts) (hc : ts.length ≤ c) (f k : Nat) (hk : k ≤ ts.length) (hf : f ≤ k) : kTok.C w (if c = f then A else A.map (·.add (f * 3))) ((ts.take k).drop f).length ((ts.take k).drop f) :=
  Kd.C_drop (c := c) (Kd.C_take h hk) (by simp; omega) (by simp; omega)
theorem cur_len (ts : List Tok) (f k : Nat) (hk : k ≤ ts.length) (hf : f ≤ k) : ((ts.take k).drop f).length = k - f := by simp; omega
theorem cur_ok {ts : List Tok} (h : TokOk ts) (f k : Nat) : TokOk ((ts.take k).drop f) := fun t ht => h t (List.mem_of_mem_take (List.mem_of_mem_drop ht))
def RowsPost (w0 : World) (ts : List Tok) (e : Ending) (w' : World) : Prop := ∃ bs v, e = .returned v ∧ RowsSt w0 w' bs (rowsF ts) v
set_option maxHeartbeats 4000000 in
set_option maxRecDepth 100000 in
theorem rows_calls (ts : List Tok) (A : Option Addr) (c : Nat) (w0 : World) (hC : kTok.C w0 A ts.length ts) (hc : ts.length ≤ c) (hok : TokOk ts) (hn : ts.length ≤ 4398046511104) :
    Calls Tryd.prog 20 #[.slice A ts.length c] w0 (RowsPost w0 ts) := by
  have HC := Aside0.mk hC
  have HCC := Aside0.mk hc
  have HOK := Aside0.mk hok
  have HN := Aside0.mk hn
  obtain ⟨i0, hi, hz0, hz1, hz2⟩ := info_parts infoTok
  have HCUT := Aside0.mk (fun (lo k : Nat) (h1 : lo ≤ k) (h2 : k ≤ ts.length) => cut_mid 53 95 .i64 .i64 Tryd.underlying53 hi 3 hz1 A ts.length c lo k (by omega) (by omega) (by omega) hc)
  clear hC hc hok hn hi hz0 hz1 hz2
  go_enter Tryd.func20, Tryd.ntmps20
  go_wp2
  go_loopg [2, 3, 8] ts.length (fun gg s2 s3 s8 wr => ∃ (kk f : Nat) (bs : List Nat) (acc : List (Int × List Tok)), kk ≤ ts.length ∧ ts.length - kk ≤ gg ∧ s8 = .int .i64 kk ∧ s3 = .int .i64 f ∧ f ≤ kk ∧ Aside0 (RowsSt w0 wr bs acc s2) ∧ Aside0 (acc.length ≤ kk) ∧ Aside0 (rowsF ts = acc ++ rowsG ((ts.take kk).drop f) (ts.drop kk)))
  case atStart => exact ⟨0, 0, [], [], by omega, by omega, rfl, rfl, by omega, ⟨Below.refl _ _, rfl, fun i hi => absurd hi (by simp), by simp, Kd.R_nil _ _ _ _ _⟩, ⟨by simp⟩, ⟨by simp [rowsF]⟩⟩
  case round =>
    obtain ⟨kk, f, bs, acc, hkk, hg, rfl, rfl, hf, RS, HL2, A1⟩ := hrel
    by_cases hlt : kk < ts.length
    · have hltz : (kk : Int) < (ts.length : Int) := by omega
      have hk0 : (0 : Int) ≤ (kk : Int) := by omega
      obtain ⟨ld, el, hx0, hx1, hx2⟩ := at_Tok (Kd.C_below HC.out RS.out.below) (kk : Int) hk0 hltz
      simp only [Int.toNat_natCast] at hx0 hx1 hx2
      subst el
      have p1 := eq_true hk0
      have q1 := eq_true hltz
      have Hlt := Aside0.mk hlt
      have Hg := Aside0.mk hg
      have Hf := Aside0.mk hf
      clear hk0 hlt hltz hg hkk hf
      go_upto_region 5 with (first | ((with_reducible refine gate_dst (N := 5) rfl ?_); (try (refine gate_guard (by rfl) ?_; dsimp only)); refine box_event ?hg (N := 5) ?hd (cs := #[.int .i64 0, .string ⟨#[]⟩, .int .i64 0]) (t := 95) ?hr ?_; (case hd => rfl); (case hg => rfl); (case hr => first | (go_simp; done) | (go_simp; rfl)); intro gt hg wy hbox hb; obtain ⟨z0, z1, z2, y0, y1, y2⟩ := cells3 hbox; have BX := Aside0.mk hbox; have BB := Aside0.mk hb; have BG := Aside0.mk (Nat.le_of_eq hg.symm); clear hbox hb hg))
      obtain ⟨wt, hwt, hX, hW⟩ := set3 (.int .i64 (getTok ts kk).kind) (.string (strOfNums (getTok ts kk).text)) (.int .i64 (getTok ts kk).line) BX.out BB.out BG.out
      rw [← hwt]
      have TX := Aside0.mk hX
      have RS1 := Aside0.mk (RS.out.step hW)
      clear hwt hX hW z0 z1 z2 y0 y1 y2 hx0 hx1 hx2
      obtain ⟨t0, -, t2, -, -, -⟩ := cells3 TX.out
      by_cases h3 : (getTok ts kk).kind = 3
      · have h3b : ((getTok ts kk).kind == 3) = true := beq_iff_eq.2 h3
        have H3 := Aside0.mk h3
        clear h3
        obtain ⟨cur, hcur⟩ : ∃ cur, cur = (ts.take kk).drop f := ⟨_, rfl⟩
        obtain ⟨A', hcut, hcu⟩ : ∃ A', (∀ W : World, (Instr.slice 53 (.slice (some ld) ts.length c) (some (.int .i64 f)) (some (.int .i64 kk)) none).run Tryd.prog W = .ok (.slice A' cur.length (c - f)) W) ∧ TokOk cur ∧ cur.length ≤ c - f ∧ kTok.C w0 A' cur.length cur := by
          have h1 := Hf.out
          have h2 := Hlt.out
          have h3 := HCC.out
          have hl := cur_len ts f kk (by omega) h1
          refine ⟨(if c = f then some ld else (some ld).map (·.add (f * 3))), fun W => ?_, ?_, ?_, ?_⟩
          rotate_left
          · rw [hcur]; exact cur_ok HOK.out f kk
          · rw [hcur, hl]; omega
          · rw [hcur]; exact cur_C HC.out h3 f kk (by omega) h1
          · have := HCUT.out f kk h1 (by omega) W
            simp only [Int.toNat_natCast] at this
            rw [this, hcur, hl]
        have HCU := Aside0.mk hcu
        have HCR := Aside0.mk hcur
        have f0 : (0 : Int) ≤ (f : Int) := by omega
        have f1 : (f : Int) ≤ (kk : Int) := by have := Hf.out; omega
        have p2 := eq_true f0
        have q2 := eq_true f1
        clear hcu hcur f0 f1
        go_upto_region 6 with (fail)
        refine start_ (n := 12) (S := fun w' => w'.cell? ⟨gt, 2, none⟩ = some (.int .i64 (getTok ts kk).line)) (ds := []) #[false, false, false, false, false, false, false, false, false, false, false, false] (by kernel_rfl) rfl rfl (((blk_cell (blk_drew TX.out) 2).trans rfl)) (fun hHeld => ?_)
        refine pure_ (i := 0) (N := some 16) (v := ?_) (a' := ?_) #[true, false, false, false, false, false, false, false, false, false, false, false] rfl rfl (by kernel_rfl) (fun _ _ _ h => h) (Or.inl ⟨by rfl, ?_⟩) ?_ ?_
        rotate_left
        · intro w'
          go_simp
          with_reducible rfl
        rotate_left
        · simp only [Act.put, List.setIfInBounds_toArray, List.set_cons_zero, List.set_cons_succ, i64_w, i32_w]
          rfl
        refine pure_ (i := 1) (N := some 17) (v := ?_) (a' := ?_) #[true, true, false, false, false, false, false, false, false, false, false, false] rfl rfl (by kernel_rfl) (fun _ _ _ h => h) (Or.inl ⟨by rfl, ?_⟩) ?_ ?_
        rotate_left
        · intro w'
          go_simp
          with_reducible rfl
        rotate_left
        · simp only [Act.put, List.setIfInBounds_toArray, List.set_cons_zero, List.set_cons_succ, i64_w, i32_w]
          rfl
        refine pure_ (i := 3) (N := some 19) (v := ?_) (a' := ?_) #[true, true, false, true, false, false, false, false, false, false, false, false] rfl rfl (by kernel_rfl) (fun _ _ _ h => h) (Or.inl ⟨by rfl, ?_⟩) ?_ ?_
        rotate_left
        · intro w'
          go_simp
          with_reducible rfl
        rotate_left
        · simp only [Act.put, List.setIfInBounds_toArray, List.set_cons_zero, List.set_cons_succ, i64_w, i32_w]
          rfl
        refine pure_ (i := 4) (N := some 20) (v := ?_) (a' := ?_) #[true, true, false, true, true, false, false, false, false, false, false, false] rfl rfl (by kernel_rfl) (fun _ _ _ h => h) (Or.inl ⟨by rfl, ?_⟩) ?_ ?_
        rotate_left
        · intro w'
          go_simp
          with_reducible rfl
        rotate_left
        · simp only [Act.put, List.setIfInBounds_toArray, List.set_cons_zero, List.set_cons_succ, i64_w, i32_w]
          rfl
        refine pure_ (i := 5) (N := some 21) (v := ?_) (a' := ?_) #[true, true, false, true, true, true, false, false, false, false, false, false] rfl rfl (by kernel_rfl) (fun _ _ _ h => h) (Or.inl ⟨by rfl, ?_⟩) ?_ ?_
        rotate_left
        · intro w'
          go_simp
          with_reducible rfl
        rotate_left
        · simp only [Act.put, List.setIfInBounds_toArray, List.set_cons_zero, List.set_cons_succ, i64_w, i32_w]
          rfl
        refine pure_ (i := 6) (N := some 22) (v := ?_) (a' := ?_) #[true, true, false, true, true, true, true, false, false, false, false, false] rfl rfl (by kernel_rfl) (fun _ _ _ h => h) (Or.inl ⟨by rfl, ?_⟩) ?_ ?_
        rotate_left
        · intro w'
          go_simp
          with_reducible rfl
        rotate_left
        · simp only [Act.put, List.setIfInBounds_toArray, List.set_cons_zero, List.set_cons_succ, i64_w, i32_w]
          rfl
        refine take_ (i := 2) (N := some 18) (v := ?_) (a' := ?_) #[true, true, true, true, true, true, true, false, false, false, false, false] rfl rfl (by kernel_rfl) (fun _ _ _ h => h) (Or.inl ⟨by rfl, ?_⟩) hHeld ?_ ?_
        rotate_left
        · intro w' s0
          go_simp
          with_reducible rfl
        rotate_left
        · simp only [Act.put, List.setIfInBounds_toArray, List.set_cons_zero, List.set_cons_succ, i64_w, i32_w]
          rfl
        refine pure_ (i := 7) (N := some 23) (v := ?_) (a' := ?_) #[true, true, true, true, true, true, true, true, false, false, false, false] rfl rfl (by kernel_rfl) (fun _ _ _ h => h) (Or.inl ⟨by rfl, ?_⟩) ?_ ?_
        rotate_left
        · intro w'
          go_simp
          with_reducible rfl
        rotate_left
        · simp only [Act.put, List.setIfInBounds_toArray, List.set_cons_zero, List.set_cons_succ, i64_w, i32_w]
          rfl
        refine one_ (i := 8) (N := some 24) #[true, true, true, true, true, true, true, true, true, false, false, false] rfl rfl (by kernel_rfl) (by decide) (fun K hK => ?_)
        refine value_ (w1 := ?_) (v := ?_) (by rfl) rfl ?_ ?_
        rotate_left 2
        · go_simp
          constructor
          · rfl
          · rfl
        refine hK.out _ _ (((blk_cell (blk_alloc (blk_drew TX.out) _) 2).trans rfl)) (fun hHeld => ?_)
        clear hK K
        refine norm_ (a' := ?_) ?_ ?_
        rotate_left
        · show Act.put _ (some 24) _ = _
          simp only [Act.put, List.setIfInBounds_toArray, List.set_cons_zero, List.set_cons_succ, i64_w, i32_w]
          rfl
        refine one_ (i := 9) (N := some 25) #[true, true, true, true, true, true, true, true, true, true, false, false] rfl rfl (by kernel_rfl) (by decide) (fun K hK => ?_)
        refine value_ (w1 := ?_) (v := ?_) (by rfl) rfl ?_ ?_
        rotate_left 2
        · go_simp
          constructor
          · rfl
          · rfl
        refine hK.out _ _ (((blk_cell (blk_alloc (blk_alloc (blk_drew TX.out) _) _) 2).trans rfl)) (fun hHeld => ?_)
        clear hK K
        refine norm_ (a' := ?_) ?_ ?_
        rotate_left
        · show Act.put _ (some 25) _ = _
          simp only [Act.put, List.setIfInBounds_toArray, List.set_cons_zero, List.set_cons_succ, i64_w, i32_w]
          rfl
        refine one_ (i := 10) (N := some 26) #[true, true, true, true, true, true, true, true, true, true, true, false] rfl rfl (by kernel_rfl) (by decide) (fun K hK => ?_)
        refine Kd.R_append_step kP (w0 := wt.drew.alloc (Obj.cells #[.int .i64 (getTok ts kk).line, .slice A' cur.length (c - f)] 97 (0, 0))) w0.heap.size (by rfl) (.tmp 16) (.tmp 25) 59 61 (.pointer none) 8 rfl Tryd.underlying59 infoP rfl (by decide) (by decide) u2 bs wt.heap.size [.pointer (some ⟨wt.heap.size, 0, none⟩)] (fun _ => True) (fun _ => False) rfl (by rw [alloc_size1]; rfl) (kP_mkM _ _ _ _) (fun _ h => h.elim) (fun _ _ => trivial) (Kd.R_alloc (Kd.R_drew RS1.out.own) _) (Below.refl _ _) (by have := RS1.out.below.size; simp; omega) (by have := HN.out; have := RS1.out.len; have := HL2.out; have := Hlt.out; omega) ?_
        intro v1 w7 ho7 hB7 hg7 hat7
        obtain ⟨A7, c7, hv7⟩ := Kd.R_slice ho7
        have RS7 := Aside0.mk (RS1.out.push HCU.out (blk_new wt.drew _) hg7 ho7)
        have TX7 := Aside0.mk (blk_grown (blk_alloc (blk_drew TX.out) _) hg7 (RS1.out.tok TX.out))
        clear ho7 hB7 hg7 hat7
        generalize List.length _ = L at hv7
        subst hv7
        refine hK.out _ _ (((blk_cell TX7.out 2).trans rfl)) (fun hHeld => ?_)
        clear hK K
        refine norm_ (a' := ?_) ?_ ?_
        rotate_left
        · show Act.put _ (some 26) _ = _
          simp only [Act.put, List.setIfInBounds_toArray, List.set_cons_zero, List.set_cons_succ, i64_w, i32_w]
          rfl
        refine pure_ (i := 11) (N := some 2) (v := ?_) (a' := ?_) #[true, true, true, true, true, true, true, true, true, true, true, true] rfl rfl (by kernel_rfl) (fun _ _ _ h => h) (Or.inl ⟨by rfl, ?_⟩) ?_ ?_
        rotate_left
        · intro w'
          go_simp
          with_reducible rfl
        rotate_left
        · simp only [Act.put, List.setIfInBounds_toArray, List.set_cons_zero, List.set_cons_succ, i64_w, i32_w]
          rfl
        refine done_ (by kernel_rfl) ?_

        clear hcut t0 t2
        go_wp2
        go_roundg (ts.length - (kk + 1))
        case measure => have := Hlt.out; have := Hg.out; omega
        case rel =>
          have hlt := Hlt.out
          have e : wrap64 ((kk : Int) + 1) = ((kk + 1 : Nat) : Int) := by have := HN.out; unfold wrap64; omega
          exact ⟨kk + 1, kk + 1, _, _, by omega, by omega, by first | (rw [e]) | (simp [e]), by first | (rw [e]) | (simp [e]), by omega, RS7, ⟨by have := HL2.out; simp; omega⟩, ⟨by rw [A1.out, rows_end ts f kk hlt Hf.out H3.out, HCR.out]; simp⟩⟩
      · have h3b : ((getTok ts kk).kind == 3) = false := beq_eq_false_iff_ne.2 h3
        have H3 := Aside0.mk h3
        clear h3
        go_wp2
        go_roundg (ts.length - (kk + 1))
        case measure => have := Hlt.out; have := Hg.out; omega
        case rel =>
          have hlt := Hlt.out
          have e : wrap64 ((kk : Int) + 1) = ((kk + 1 : Nat) : Int) := by have := HN.out; unfold wrap64; omega
          exact ⟨kk + 1, f, bs, acc, by omega, by omega, by first | (rw [e]) | (simp [e]), rfl, by have := Hf.out; omega, RS1, ⟨by have := HL2.out; omega⟩, ⟨by rw [A1.out, rows_on ts f kk hlt Hf.out H3.out]⟩⟩
    · have hltz : ¬ (kk : Int) < (ts.length : Int) := by omega
      obtain rfl : kk = ts.length := by omega
      have hfin : rowsF ts = acc := by rw [A1.out]; simp [rowsG]
      clear hg hkk hlt
      have HF := Aside0.mk hfin
      clear hfin hf
      go_wp2
      go_ret
      exact ⟨bs, _, rfl, by rw [HF.out]; exact RS.out⟩
end Go.Proofs.YtegbfimfpkendaaDoor.PaJ
