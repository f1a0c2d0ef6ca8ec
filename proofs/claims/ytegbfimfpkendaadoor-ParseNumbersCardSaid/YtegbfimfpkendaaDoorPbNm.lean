/- The walk of ParseNumbers: it returns true. Conditions: the tables are laid. -/
import Derived.Test.YtegbfimfpkendaaDoorPbG
import Derived.Test.YtegbfimfpkendaaDoorPbH
import Derived.Test.YtegbfimfpkendaaDoorPbS
namespace Go.Proofs.YtegbfimfpkendaaDoor.PbNm
open Go.RowKit Go.Proofs.YtegbfimfpkendaaDoorW.PrintWords Go.Proofs.YtegbfimfpkendaaDoorW.PrintLast Go.Proofs.YtegbfimfpkendaaDoorW.PrintMore LexS LexB PaA LexBox PaC PaD PaB PaE PaF PaG PaH PaL PaM PaN PaQ PaS PaT PaU PaV PaW PaX PaY PaZ PbA PbB PbC PbS PbG PbH
set_option linter.unusedVariables false
set_option linter.unusedSimpArgs false
theorem headB_len : headB.length = 98 := by decide
theorem CO_conv_step {P : Program} {ops : Array Oper} {a : Act} {o : Oper} {Kc : Act → World → Prop} {Q : Exit → Act → World → Prop} {w0 W : World} (base : Nat) (hw : Region.wanted o (yielded ops a.tmps) = true) {N : Tmp} (_hd : o.dst = some N) (src dst e : TypeId) {us : TypeDesc} (x : Operand) (ho : o.op = .convert src dst x)
    (hs : P.underlying src = some us) (hd : P.underlying dst = some (.slice e)) (he : P.underlying e = some (.int .u8)) (s : ByteArray) (hx : a.eval x = .string s)
    (ok : Nat → Prop) (hfresh : ok W.heap.size) (HB : Below base w0 W) (hbase : base ≤ W.heap.size) (hm : s.size ≤ 9223372036854775807)
    (h : ∀ v1 w1, LexK.CO w1 base ok v1 (bytesOf s) → Below base w0 w1 → Below W.heap.size W w1 → W.grownBy w1 none → (∃ b, v1.ownBlock = some b ∧ W.heap.size ≤ b) → Kc (a.put o.dst v1) w1) : if Region.wanted o (yielded ops a.tmps) = true then Oper.wp P o a W Kc Q else Kc (a.put o.dst undef) W := by
  have hr := print_bytes (P := P) src dst e hs hd he s W
  have hrun : (execOp a.eval o).run P W = .ok (.value (.slice (some ⟨W.heap.size, 0, none⟩) s.size (grownCap W s.size 0 e))) (Lib.bytesWorld W e s) := by
    unfold execOp
    simp only [ho, hx, Sem.run_bind, hr, Result.andThen_ok, Sem.run_pure]
  have hl : (bytesOf s).length = s.size := bytesOf_length s
  have hb0 : Below W.heap.size W (Lib.bytesWorld W e s) := bytes_below (Below.refl _ _) (Nat.le_refl _) e s
  refine event_step hw hrun (h _ _ ⟨W.heap.size, _, by rw [hl], ?_, hfresh, hbase, ?_⟩ (HB.trans ⟨hb0.os, hb0.tape, hb0.output, hb0.size, fun i hi => hb0.block i (Nat.lt_of_lt_of_le hi hbase)⟩) hb0 ⟨hb0.os, hb0.tape, hb0.output, hb0.size, fun k hk _ => hb0.block k hk⟩ ⟨W.heap.size, by simp [Value.ownBlock], Nat.le_refl _⟩)
  · rw [hl]
    have := grownCap_ge W s.size 0 e
    exact this
  · rw [hl]
    exact Kd.C_of_reads (d := (0 : Int)) (h1 := fun _ => rfl) (bytes_reads W e s hm)
theorem R_put12 {α : Type} {d : Kd α} {e base : Nat} {ok : Nat → Prop} {w : World} {v : Value} {xs : List α} {g : Nat} {t : TypeId} {cs : Array Value} (h : d.R e w base ok v xs) (hE : d.E = []) (hb : w.heap[g]? = some (.cells cs t (0, 0))) (hne : e ≠ t) (u0 u1 u2 u3 u4 u5 u6 u7 u8 u9 u10 u11 : Value) :
    d.R e ((((((((((((w.setCell ⟨g, 0, none⟩ u0).setCell ⟨g, 1, none⟩ u1).setCell ⟨g, 2, none⟩ u2).setCell ⟨g, 3, none⟩ u3).setCell ⟨g, 4, none⟩ u4).setCell ⟨g, 5, none⟩ u5).setCell ⟨g, 6, none⟩ u6).setCell ⟨g, 7, none⟩ u7).setCell ⟨g, 8, none⟩ u8).setCell ⟨g, 9, none⟩ u9).setCell ⟨g, 10, none⟩ u10).setCell ⟨g, 11, none⟩ u11) base ok v xs :=
  Kd.R_mono (Kd.R_far (p := ⟨g, 11, none⟩) (Kd.R_far (p := ⟨g, 10, none⟩) (Kd.R_far (p := ⟨g, 9, none⟩) (Kd.R_far (p := ⟨g, 8, none⟩) (Kd.R_far (p := ⟨g, 7, none⟩) (Kd.R_far (p := ⟨g, 6, none⟩) (Kd.R_far (p := ⟨g, 5, none⟩) (Kd.R_far (p := ⟨g, 4, none⟩) (Kd.R_far (p := ⟨g, 3, none⟩) (Kd.R_far (p := ⟨g, 2, none⟩) (Kd.R_far (p := ⟨g, 1, none⟩) (Kd.R_far (p := ⟨g, 0, none⟩) (Kd.R_far1 h hE (fun he => by obtain ⟨_, c, hc⟩ := R_ownAt h g he.symm; exact blk_ne hc hb hne rfl)) (fun k hk => hk.2) u0) (fun k hk => hk.2) u1) (fun k hk => hk.2) u2) (fun k hk => hk.2) u3) (fun k hk => hk.2) u4) (fun k hk => hk.2) u5) (fun k hk => hk.2) u6) (fun k hk => hk.2) u7) (fun k hk => hk.2) u8) (fun k hk => hk.2) u9) (fun k hk => hk.2) u10) (fun k hk => hk.2) u11) (fun k hk => hk.1)
/-- The two texts of a line, read where they lie. -/
structure Two (w : World) (adL adB : Addr) (j : Int) (la lb : List UInt8) : Prop where
  lt : (adL.add j.toNat).block < w.heap.size ∧ (adB.add j.toNat).block < w.heap.size
  one : w.cell? (adL.add j.toNat) = some (.string (⟨la.toArray⟩ : ByteArray))
  two : w.cell? (adB.add j.toNat) = some (.string (⟨lb.toArray⟩ : ByteArray))
theorem Two.of_below {w W : World} {adL adB : Addr} {j : Int} {la lb : List UInt8} (h : Two w adL adB j la lb) (hb : Below w.heap.size w W) : W.cell? (adL.add j.toNat) = some (.string (⟨la.toArray⟩ : ByteArray)) ∧ W.cell? (adB.add j.toNat) = some (.string (⟨lb.toArray⟩ : ByteArray)) :=
  ⟨(hb.cell (show (adL.add j.toNat).block < w.heap.size from h.lt.1)).trans h.one, (hb.cell (show (adB.add j.toNat).block < w.heap.size from h.lt.2)).trans h.two⟩
theorem Two.below {w W : World} {adL adB : Addr} {j : Int} {la lb : List UInt8} (h : Two w adL adB j la lb) (hb : Below w.heap.size w W) : Two W adL adB j la lb :=
  ⟨⟨Nat.lt_of_lt_of_le h.lt.1 hb.size, Nat.lt_of_lt_of_le h.lt.2 hb.size⟩, (h.of_below hb).1, (h.of_below hb).2⟩
def linesL : List ByteArray := [(⟨#[116, 97, 115, 107, 32]⟩ : ByteArray), (⟨#[116, 97, 115, 107, 32, 53, 32]⟩ : ByteArray), (⟨#[115, 117, 98, 109, 105, 116, 32]⟩ : ByteArray), (⟨#[115, 117, 98, 109, 105, 116, 32, 49, 32]⟩ : ByteArray), (⟨#[115, 117, 98, 109, 105, 116, 32, 49, 32, 50, 32]⟩ : ByteArray), (⟨#[99, 97, 110, 99, 101, 108, 32]⟩ : ByteArray), (⟨#[113, 117, 101, 114, 121, 32]⟩ : ByteArray), (⟨#[97, 110, 115, 119, 101, 114, 32, 48, 32, 49, 32, 110, 101, 101, 100, 32]⟩ : ByteArray)]
def behindL : List ByteArray := [(⟨#[32, 53]⟩ : ByteArray), (⟨#[]⟩ : ByteArray), (⟨#[32, 50, 32, 51]⟩ : ByteArray), (⟨#[32, 51]⟩ : ByteArray), (⟨#[]⟩ : ByteArray), (⟨#[]⟩ : ByteArray), (⟨#[]⟩ : ByteArray), (⟨#[]⟩ : ByteArray)]
theorem lines_eq (j : Nat) (hj : j < 8) : linesL.getD j ⟨#[]⟩ = ⟨(PbG.ahead j).toArray⟩ ∧ behindL.getD j ⟨#[]⟩ = ⟨(PbG.behind j).toArray⟩ := by
  have : j = 0 ∨ j = 1 ∨ j = 2 ∨ j = 3 ∨ j = 4 ∨ j = 5 ∨ j = 6 ∨ j = 7 := by omega
  rcases this with rfl | rfl | rfl | rfl | rfl | rfl | rfl | rfl <;> exact ⟨by kernel_rfl, by kernel_rfl⟩
theorem str_get {w : World} {A : Option Addr} {n : Nat} {xs : List ByteArray} {b c : Nat} {ok : Nat → Prop} (h : Kd.string.R 9 w b ok (.slice A n c) xs) (j : Nat) (hj : j < xs.length) : ∃ ad : Addr, A = some ad ∧ (ad.add j).block < w.heap.size ∧ w.cell? (ad.add j) = some (.string (xs.getD j ⟨#[]⟩)) := by
  obtain ⟨hn, hc, hC⟩ := Kd.R_reads' h
  obtain ⟨ad, cs, e, hl, hK, hcc⟩ := Kd.C_get hC ⟨#[]⟩ (j : Int) (by omega) (by omega)
  have hk : cs = [.string (xs.getD j ⟨#[]⟩)] := hK
  subst hk
  have h0 := hcc 0 _ rfl
  rw [Int.toNat_natCast] at h0
  have h1 : w.cell? (ad.add j) = some (.string (xs.getD j ⟨#[]⟩)) := by rw [show Kd.string.sz = 1 from rfl, Nat.mul_one, Nat.add_zero] at h0; exact h0
  refine ⟨ad, e, ?_, h1⟩
  unfold World.cell? at h1
  cases hh : w.heap[(ad.add j).block]? with
  | none => rw [hh] at h1; simp at h1
  | some ob => exact blk_lt hh
theorem text_e (u : Nat) (l : List UInt8) (hl : Lib.decDigits u = l) (hu : u ≤ 9223372036854775807) (w : World) : Calls Tryd.prog 17 #[.int .i64 (u : Int)] w fun e w' => e = .returned (.string ⟨l.toArray⟩) ∧ Below w.heap.size w w' := hl ▸ text_ref u hu w
attribute [local go_sem] max2_int min2_int max_two min_two
set_option maxHeartbeats 2000000 in
set_option maxRecDepth 100000 in
theorem numbers_calls (which n : Int) (w : World) (h : Laid w) :
    Calls Tryd.prog 8 #[.int .i64 which, .int .i64 n] w fun e w' => e = .returned (.bool true) ∧ Below w.heap.size w w' := by
  have HL := Aside0.mk h
  clear h
  have m1 := Bits.and65535 which
  have m2 : bits .and .i64 n 2147483647 = n % 2147483648 := Bits.i64_mask 31 (by decide) n
  obtain ⟨u, hu⟩ : ∃ u : Nat, n % 2147483648 = (u : Int) := ⟨(n % 2147483648).toNat, by omega⟩
  obtain ⟨jn, hj⟩ : ∃ j : Nat, Int.tmod (which % 65536) 8 = (j : Int) := ⟨(Int.tmod (which % 65536) 8).toNat, by rw [Int.tmod_eq_emod_of_nonneg (by omega)]; omega⟩
  have HJ := Aside0.mk (show jn < 8 by rw [Int.tmod_eq_emod_of_nonneg (by omega)] at hj; omega)
  have HU := Aside0.mk (show u < 2147483648 by omega)
  go_enter Tryd.func8, Tryd.ntmps8
  go_upto_region 4 with (first
    | (go_at_call 9; refine (shown_calls _ HL.out).mono ?_; rintro e' w1 ⟨rfl, hb⟩; have B1 := Aside0.mk hb; clear hb))

  clear m1 m2 hu
  obtain ⟨j, hjj⟩ : ∃ j : Int, j = (jn : Int) := ⟨_, rfl⟩
  rw [← hjj]
  have jn_ := Aside0.mk (show j.toNat = jn by omega)
  have HJJ := Aside0.mk hjj
  clear hjj hj
  obtain ⟨dl, hdl⟩ : ∃ l, Lib.decDigits u = l := ⟨_, rfl⟩
  obtain ⟨la, hla⟩ : ∃ l, PbG.ahead jn = l := ⟨_, rfl⟩
  obtain ⟨lb, hlb⟩ : ∃ l, PbG.behind jn = l := ⟨_, rfl⟩
  have DL := Aside0.mk hdl
  have LL := Aside0.mk (show la.length ≤ 30 ∧ lb.length ≤ 30 ∧ dl.length ≤ 21 by
    refine ⟨?_, ?_, ?_⟩
    · rw [← hla]; unfold PbG.ahead; split <;> decide
    · rw [← hlb]; unfold PbG.behind; split <;> decide
    · rw [← hdl]; exact dec_len u HU.out)
  have KL := Aside0.mk (lines_eq jn HJ.out)
  rw [hla, hlb] at KL
  have P1 := read_num jn u HU.out
  have P2 := read_nought jn u HU.out
  rw [hdl, hla, hlb] at P1 P2
  obtain ⟨Y1, hY1⟩ : ∃ X, X = headB ++ la := ⟨_, rfl⟩
  obtain ⟨Y2, hY2⟩ : ∃ X, X = Y1 ++ dl := ⟨_, rfl⟩
  obtain ⟨Y3, hY3⟩ : ∃ X, X = Y2 ++ lb := ⟨_, rfl⟩
  obtain ⟨Z2, hZ2⟩ : ∃ X, X = Y1 ++ [48] := ⟨_, rfl⟩
  obtain ⟨Z3, hZ3⟩ : ∃ X, X = Z2 ++ dl := ⟨_, rfl⟩
  obtain ⟨Z4, hZ4⟩ : ∃ X, X = Z3 ++ lb := ⟨_, rfl⟩
  have eY : headB ++ (la ++ dl ++ lb) = Y3 := by rw [hY3, hY2, hY1]; simp
  have eZ : headB ++ (la ++ (48 :: dl) ++ lb) = Z4 := by rw [hZ4, hZ3, hZ2, hY1]; simp
  rw [eY] at P1
  rw [eZ] at P2
  have sY1 : Y1.length ≤ 200 := by have := LL.out; rw [hY1, List.length_append, headB_len]; omega
  have sY2 : Y2.length ≤ 300 := by have := LL.out; rw [hY2, List.length_append]; omega
  have sY3 : Y3.length ≤ 400 := by have := LL.out; rw [hY3, List.length_append]; omega
  have sZ2 : Z2.length ≤ 300 := by have := LL.out; rw [hZ2, List.length_append]; simp only [List.length_cons, List.length_nil]; omega
  have sZ3 : Z3.length ≤ 400 := by have := LL.out; rw [hZ3, List.length_append]; omega
  have sZ4 : Z4.length ≤ 500 := by have := LL.out; rw [hZ4, List.length_append]; omega
  have SZ := Aside0.mk (show Y3.length ≤ 400 ∧ Z4.length ≤ 500 from ⟨sY3, sZ4⟩)
  have a1 : ∀ W : World, (Op.stringOp .add headS ⟨la.toArray⟩).run Tryd.prog W = .ok (.string ⟨Y1.toArray⟩) W := by rw [hY1]; exact add_lit headB la (by rw [headB_len]; have := LL.out; omega)
  have a2 : ∀ W : World, (Op.stringOp .add (⟨Y1.toArray⟩ : ByteArray) ⟨dl.toArray⟩).run Tryd.prog W = .ok (.string ⟨Y2.toArray⟩) W := by rw [hY2]; exact add_lit Y1 dl (by have := LL.out; omega)
  have a3 : ∀ W : World, (Op.stringOp .add (⟨Y2.toArray⟩ : ByteArray) ⟨lb.toArray⟩).run Tryd.prog W = .ok (.string ⟨Y3.toArray⟩) W := by rw [hY3]; exact add_lit Y2 lb (by have := LL.out; omega)
  have a4 : ∀ W : World, (Op.stringOp .add (⟨Y1.toArray⟩ : ByteArray) ⟨([48] : List UInt8).toArray⟩).run Tryd.prog W = .ok (.string ⟨Z2.toArray⟩) W := by rw [hZ2]; exact add_lit Y1 [48] (by simp; omega)
  have a5 : ∀ W : World, (Op.stringOp .add (⟨Z2.toArray⟩ : ByteArray) ⟨dl.toArray⟩).run Tryd.prog W = .ok (.string ⟨Z3.toArray⟩) W := by rw [hZ3]; exact add_lit Z2 dl (by have := LL.out; omega)
  have a6 : ∀ W : World, (Op.stringOp .add (⟨Z3.toArray⟩ : ByteArray) ⟨lb.toArray⟩).run Tryd.prog W = .ok (.string ⟨Z4.toArray⟩) W := by rw [hZ4]; exact add_lit Z3 lb (by have := LL.out; omega)
  clear hdl hla hlb hY1 hY2 hY3 hZ2 hZ3 hZ4 eY eZ sY1 sY2 sY3 sZ2 sZ3 sZ4
  go_upto_region 5 with (first
    | (go_at_call 17; refine (text_e u dl DL.out (by have := HU.out; omega) _).mono ?_; rintro e' w4 ⟨rfl, hb⟩; have B4 := Aside0.mk (below_step B1.out hb); clear hb))
  go_upto_region 6 with (first
    | ((with_reducible refine gate_dst (N := 24) rfl ?_); refine Kd.R_lit Kd.string _ 9 ?hg (N := 24) ?hd (xs := ([(⟨#[116, 97, 115, 107, 32]⟩ : ByteArray), (⟨#[116, 97, 115, 107, 32, 53, 32]⟩ : ByteArray), (⟨#[115, 117, 98, 109, 105, 116, 32]⟩ : ByteArray), (⟨#[115, 117, 98, 109, 105, 116, 32, 49, 32]⟩ : ByteArray), (⟨#[115, 117, 98, 109, 105, 116, 32, 49, 32, 50, 32]⟩ : ByteArray), (⟨#[99, 97, 110, 99, 101, 108, 32]⟩ : ByteArray), (⟨#[113, 117, 101, 114, 121, 32]⟩ : ByteArray), (⟨#[97, 110, 115, 119, 101, 114, 32, 48, 32, 49, 32, 110, 101, 101, 100, 32]⟩ : ByteArray)] : List ByteArray)) (inner := [.string (⟨#[116, 97, 115, 107, 32]⟩ : ByteArray), .string (⟨#[116, 97, 115, 107, 32, 53, 32]⟩ : ByteArray), .string (⟨#[115, 117, 98, 109, 105, 116, 32]⟩ : ByteArray), .string (⟨#[115, 117, 98, 109, 105, 116, 32, 49, 32]⟩ : ByteArray), .string (⟨#[115, 117, 98, 109, 105, 116, 32, 49, 32, 50, 32]⟩ : ByteArray), .string (⟨#[99, 97, 110, 99, 101, 108, 32]⟩ : ByteArray), .string (⟨#[113, 117, 101, 114, 121, 32]⟩ : ByteArray), .string (⟨#[97, 110, 115, 119, 101, 114, 32, 48, 32, 49, 32, 110, 101, 101, 100, 32]⟩ : ByteArray)]) (ok := fun _ => True) (okp := fun _ => True) ?hr ?hp (fun _ hk => hk) trivial (Below.refl _ _) (Nat.le_refl _) (by simp) ?_; (case hd => rfl); (case hg => rfl); (case hr => first | (go_simp; done) | (go_simp; rfl)); (case hp => exact (Reps.one (show Kd.M Kd.string _ _ _ (⟨#[116, 97, 115, 107, 32]⟩ : ByteArray) [.string (⟨#[116, 97, 115, 107, 32]⟩ : ByteArray)] from rfl) (Reps.one (show Kd.M Kd.string _ _ _ (⟨#[116, 97, 115, 107, 32, 53, 32]⟩ : ByteArray) [.string (⟨#[116, 97, 115, 107, 32, 53, 32]⟩ : ByteArray)] from rfl) (Reps.one (show Kd.M Kd.string _ _ _ (⟨#[115, 117, 98, 109, 105, 116, 32]⟩ : ByteArray) [.string (⟨#[115, 117, 98, 109, 105, 116, 32]⟩ : ByteArray)] from rfl) (Reps.one (show Kd.M Kd.string _ _ _ (⟨#[115, 117, 98, 109, 105, 116, 32, 49, 32]⟩ : ByteArray) [.string (⟨#[115, 117, 98, 109, 105, 116, 32, 49, 32]⟩ : ByteArray)] from rfl) (Reps.one (show Kd.M Kd.string _ _ _ (⟨#[115, 117, 98, 109, 105, 116, 32, 49, 32, 50, 32]⟩ : ByteArray) [.string (⟨#[115, 117, 98, 109, 105, 116, 32, 49, 32, 50, 32]⟩ : ByteArray)] from rfl) (Reps.one (show Kd.M Kd.string _ _ _ (⟨#[99, 97, 110, 99, 101, 108, 32]⟩ : ByteArray) [.string (⟨#[99, 97, 110, 99, 101, 108, 32]⟩ : ByteArray)] from rfl) (Reps.one (show Kd.M Kd.string _ _ _ (⟨#[113, 117, 101, 114, 121, 32]⟩ : ByteArray) [.string (⟨#[113, 117, 101, 114, 121, 32]⟩ : ByteArray)] from rfl) (Reps.one (show Kd.M Kd.string _ _ _ (⟨#[97, 110, 115, 119, 101, 114, 32, 48, 32, 49, 32, 110, 101, 101, 100, 32]⟩ : ByteArray) [.string (⟨#[97, 110, 115, 119, 101, 114, 32, 48, 32, 49, 32, 110, 101, 101, 100, 32]⟩ : ByteArray)] from rfl) (Reps.none _ _)))))))))); intro v24 w5 ho hb hg_ hnew_; clear hg_ hnew_; have LR1 := Aside0.mk ho; have LB1 := Aside0.mk hb; clear ho hb))
  obtain ⟨AL, cL, rfl⟩ := Kd.R_slice LR1.out
  go_upto_region 7 with (first
    | ((with_reducible refine gate_dst (N := 25) rfl ?_); refine Kd.R_lit Kd.string _ 9 ?hg (N := 25) ?hd (xs := ([(⟨#[32, 53]⟩ : ByteArray), (⟨#[]⟩ : ByteArray), (⟨#[32, 50, 32, 51]⟩ : ByteArray), (⟨#[32, 51]⟩ : ByteArray), (⟨#[]⟩ : ByteArray), (⟨#[]⟩ : ByteArray), (⟨#[]⟩ : ByteArray), (⟨#[]⟩ : ByteArray)] : List ByteArray)) (inner := [.string (⟨#[32, 53]⟩ : ByteArray), .string (⟨#[]⟩ : ByteArray), .string (⟨#[32, 50, 32, 51]⟩ : ByteArray), .string (⟨#[32, 51]⟩ : ByteArray), .string (⟨#[]⟩ : ByteArray), .string (⟨#[]⟩ : ByteArray), .string (⟨#[]⟩ : ByteArray), .string (⟨#[]⟩ : ByteArray)]) (ok := fun _ => True) (okp := fun _ => True) ?hr ?hp (fun _ hk => hk) trivial (Below.refl _ _) (Nat.le_refl _) (by simp) ?_; (case hd => rfl); (case hg => rfl); (case hr => first | (go_simp; done) | (go_simp; rfl)); (case hp => exact (Reps.one (show Kd.M Kd.string _ _ _ (⟨#[32, 53]⟩ : ByteArray) [.string (⟨#[32, 53]⟩ : ByteArray)] from rfl) (Reps.one (show Kd.M Kd.string _ _ _ (⟨#[]⟩ : ByteArray) [.string (⟨#[]⟩ : ByteArray)] from rfl) (Reps.one (show Kd.M Kd.string _ _ _ (⟨#[32, 50, 32, 51]⟩ : ByteArray) [.string (⟨#[32, 50, 32, 51]⟩ : ByteArray)] from rfl) (Reps.one (show Kd.M Kd.string _ _ _ (⟨#[32, 51]⟩ : ByteArray) [.string (⟨#[32, 51]⟩ : ByteArray)] from rfl) (Reps.one (show Kd.M Kd.string _ _ _ (⟨#[]⟩ : ByteArray) [.string (⟨#[]⟩ : ByteArray)] from rfl) (Reps.one (show Kd.M Kd.string _ _ _ (⟨#[]⟩ : ByteArray) [.string (⟨#[]⟩ : ByteArray)] from rfl) (Reps.one (show Kd.M Kd.string _ _ _ (⟨#[]⟩ : ByteArray) [.string (⟨#[]⟩ : ByteArray)] from rfl) (Reps.one (show Kd.M Kd.string _ _ _ (⟨#[]⟩ : ByteArray) [.string (⟨#[]⟩ : ByteArray)] from rfl) (Reps.none _ _)))))))))); intro v25 w6 ho hb hg_ hnew_; clear hg_ hnew_; have LR2 := Aside0.mk ho; have LB2 := Aside0.mk hb; clear ho hb))
  obtain ⟨AB, cB, rfl⟩ := Kd.R_slice LR2.out
  have B6 := Aside0.mk (below_step (below_step B4.out LB1.out) LB2.out)
  obtain ⟨adL, eL, ltL, cLL⟩ := str_get (Kd.R_below LR1.out LB2.out) jn (show jn < 8 from HJ.out)
  obtain ⟨adB, eB, ltB, cBB⟩ := str_get LR2.out jn (show jn < 8 from HJ.out)
  subst eL eB
  have e1 : linesL.getD jn ⟨#[]⟩ = ⟨la.toArray⟩ := KL.out.1
  have e2 : behindL.getD jn ⟨#[]⟩ = ⟨lb.toArray⟩ := KL.out.2
  have LC := Aside0.mk (show Two w6 adL adB j la lb from ⟨by rw [jn_.out]; exact ⟨ltL, ltB⟩, by rw [jn_.out, ← e1]; exact cLL, by rw [jn_.out, ← e2]; exact cBB⟩)
  have i1 := eq_true (show (0 : Int) ≤ j by have := HJJ.out; omega)
  have i2 := eq_true (show j < 8 by have := HJ.out; have := HJJ.out; omega)
  clear ltL cLL ltB cBB e1 e2 LR1 LR2 LB1 LB2 KL
  obtain ⟨⟨cf, tk, ok⟩, l, e, hp⟩ : ∃ f l e, parseP (bytesOf ⟨Y3.toArray⟩) = (f, l, e) := ⟨_, _, _, rfl⟩
  have RES := Aside0.mk (P1.symm.trans hp)
  have hcf : cf.length = 10 := by
    have h := RES.out
    split at h
    · cases h; rfl
    · have h2 := congrArg (fun x : FileS × Int × Int => x.1.cfg) h
      simp only at h2
      rw [← h2]
      unfold fileJ
      split <;> rfl
  obtain ⟨c0, c1, c2, c3, c4, c5, c6, c7, c8, c9, rfl⟩ := PaE.ten hcf
  have PA := Aside0.mk hp
  obtain ⟨⟨cg, tl, ol⟩, m, f, hp2⟩ : ∃ f l e, parseP (bytesOf ⟨Z4.toArray⟩) = (f, l, e) := ⟨_, _, _, rfl⟩
  have RES2 := Aside0.mk (P2.symm.trans hp2)
  have hcg : cg.length = 10 := by have h := RES2.out; cases h; rfl
  obtain ⟨d0, d1, d2, d3, d4, d5, d6, d7, d8, d9, rfl⟩ := PaE.ten hcg
  have PB := Aside0.mk hp2
  clear hp hcf P1 P2 hp2 hcg
  refine start_ (n := 23) (S := fun w' => w'.cell? (adL.add j.toNat) = some (.string (⟨la.toArray⟩ : ByteArray)) ∧ w'.cell? (adB.add j.toNat) = some (.string (⟨lb.toArray⟩ : ByteArray))) (ds := [20]) #[false, false, false, false, false, false, false, false, false, false, false, false, false, false, false, false, false, false, false, false, false, false, false] (by kernel_rfl) rfl rfl ⟨(LC.out.of_below (below_drew (Below.refl _ _))).1, (LC.out.of_below (below_drew (Below.refl _ _))).2⟩ (fun hHeld => ?_)
  refine pure_ (i := 1) (N := some 28) (v := ?_) (a' := ?_) #[false, true, false, false, false, false, false, false, false, false, false, false, false, false, false, false, false, false, false, false, false, false, false] rfl rfl (by kernel_rfl) (fun _ _ _ h => h) (Or.inl ⟨by rfl, ?_⟩) ?_ ?_
  rotate_left
  · intro w'
    go_simp
    with_reducible rfl
  rotate_left
  · simp only [Act.put, List.setIfInBounds_toArray, List.set_cons_zero, List.set_cons_succ, i64_w, i32_w]
    rfl
  refine pure_ (i := 2) (N := some 29) (v := ?_) (a' := ?_) #[false, true, true, false, false, false, false, false, false, false, false, false, false, false, false, false, false, false, false, false, false, false, false] rfl rfl (by kernel_rfl) (fun _ _ _ h => h) (Or.inl ⟨by rfl, ?_⟩) ?_ ?_
  rotate_left
  · intro w'
    go_simp
    with_reducible rfl
  rotate_left
  · simp only [Act.put, List.setIfInBounds_toArray, List.set_cons_zero, List.set_cons_succ, i64_w, i32_w]
    rfl
  refine pure_ (i := 3) (N := some 30) (v := ?_) (a' := ?_) #[false, true, true, true, false, false, false, false, false, false, false, false, false, false, false, false, false, false, false, false, false, false, false] rfl rfl (by kernel_rfl) (fun _ _ _ h => h) (Or.inl ⟨by rfl, ?_⟩) ?_ ?_
  rotate_left
  · intro w'
    go_simp
    with_reducible rfl
  rotate_left
  · simp only [Act.put, List.setIfInBounds_toArray, List.set_cons_zero, List.set_cons_succ, i64_w, i32_w]
    rfl
  refine pure_ (i := 6) (N := some 33) (v := ?_) (a' := ?_) #[false, true, true, true, false, false, true, false, false, false, false, false, false, false, false, false, false, false, false, false, false, false, false] rfl rfl (by kernel_rfl) (fun _ _ _ h => h) (Or.inl ⟨by rfl, ?_⟩) ?_ ?_
  rotate_left
  · intro w'
    go_simp
    with_reducible rfl
  rotate_left
  · simp only [Act.put, List.setIfInBounds_toArray, List.set_cons_zero, List.set_cons_succ, i64_w, i32_w]
    rfl
  refine pure_ (i := 8) (N := some 35) (v := ?_) (a' := ?_) #[false, true, true, true, false, false, true, false, true, false, false, false, false, false, false, false, false, false, false, false, false, false, false] rfl rfl (by kernel_rfl) (fun _ _ _ h => h) (Or.inl ⟨by rfl, ?_⟩) ?_ ?_
  rotate_left
  · intro w'
    go_simp
    with_reducible rfl
  rotate_left
  · simp only [Act.put, List.setIfInBounds_toArray, List.set_cons_zero, List.set_cons_succ, i64_w, i32_w]
    rfl
  refine pure_ (i := 9) (N := some 36) (v := ?_) (a' := ?_) #[false, true, true, true, false, false, true, false, true, true, false, false, false, false, false, false, false, false, false, false, false, false, false] rfl rfl (by kernel_rfl) (fun _ _ _ h => h) (Or.inl ⟨by rfl, ?_⟩) ?_ ?_
  rotate_left
  · intro w'
    go_simp
    with_reducible rfl
  rotate_left
  · simp only [Act.put, List.setIfInBounds_toArray, List.set_cons_zero, List.set_cons_succ, i64_w, i32_w]
    rfl
  refine pure_ (i := 10) (N := some 37) (v := ?_) (a' := ?_) #[false, true, true, true, false, false, true, false, true, true, true, false, false, false, false, false, false, false, false, false, false, false, false] rfl rfl (by kernel_rfl) (fun _ _ _ h => h) (Or.inl ⟨by rfl, ?_⟩) ?_ ?_
  rotate_left
  · intro w'
    go_simp
    with_reducible rfl
  rotate_left
  · simp only [Act.put, List.setIfInBounds_toArray, List.set_cons_zero, List.set_cons_succ, i64_w, i32_w]
    rfl
  refine take_ (i := 4) (N := some 31) (v := ?_) (a' := ?_) #[false, true, true, true, true, false, true, false, true, true, true, false, false, false, false, false, false, false, false, false, false, false, false] rfl rfl (by kernel_rfl) (fun _ _ _ h => h) (Or.inl ⟨by rfl, ?_⟩) hHeld ?_ ?_
  rotate_left
  · rintro w' ⟨s0, s1⟩
    go_simp
    with_reducible rfl
  rotate_left
  · simp only [Act.put, List.setIfInBounds_toArray, List.set_cons_zero, List.set_cons_succ, i64_w, i32_w]
    rfl
  refine take_ (i := 11) (N := some 38) (v := ?_) (a' := ?_) #[false, true, true, true, true, false, true, false, true, true, true, true, false, false, false, false, false, false, false, false, false, false, false] rfl rfl (by kernel_rfl) (fun _ _ _ h => h) (Or.inl ⟨by rfl, ?_⟩) hHeld ?_ ?_
  rotate_left
  · rintro w' ⟨s0, s1⟩
    go_simp
    with_reducible rfl
  rotate_left
  · simp only [Act.put, List.setIfInBounds_toArray, List.set_cons_zero, List.set_cons_succ, i64_w, i32_w]
    rfl
  refine join_ (σ := Option Addr × Nat × Option Addr × Nat × Nat × Value) 3 #[true, true, true, true, true, true, true, true, true, true, true, true, true, true, true, true, true, true, true, true, false, false, false] (fun s => [(27, .string headS), (32, .string (⟨Y1.toArray⟩)), (34, .string (⟨Y2.toArray⟩)), (39, .string (⟨Y3.toArray⟩)), (40, s.2.2.2.2.2), (41, .tuple #[.agg #[.int .i64 c0, .int .i64 c1, .int .i64 c2, .int .i64 c3, .int .i64 c4, .int .i64 c5, .int .i64 c6, .int .i64 c7, .int .i64 c8, .int .i64 c9, .slice s.1 tk.length s.2.1, .slice s.2.2.1 ok.length s.2.2.2.1], .int .i64 l, .int .i64 e]), (26, .tuple #[.agg #[.int .i64 c0, .int .i64 c1, .int .i64 c2, .int .i64 c3, .int .i64 c4, .int .i64 c5, .int .i64 c6, .int .i64 c7, .int .i64 c8, .int .i64 c9, .slice s.1 tk.length s.2.1, .slice s.2.2.1 ok.length s.2.2.2.1], .int .i64 l, .int .i64 e]), (42, .agg #[.int .i64 c0, .int .i64 c1, .int .i64 c2, .int .i64 c3, .int .i64 c4, .int .i64 c5, .int .i64 c6, .int .i64 c7, .int .i64 c8, .int .i64 c9, .slice s.1 tk.length s.2.1, .slice s.2.2.1 ok.length s.2.2.2.1]), (43, .int .i64 l), (44, .int .i64 e), (9, .pointer (some ⟨s.2.2.2.2.1, 0, none⟩))]) (fun s w' => Aside0 (Below w6.heap.size w6 w') ∧ Aside0 (kTk.R 51 w' w6.heap.size (fun _ => True) (.slice s.1 tk.length s.2.1) tk) ∧ Aside0 (kOp.R 46 w' w6.heap.size (fun _ => True) (.slice s.2.2.1 ok.length s.2.2.2.1) ok) ∧ Aside0 (w'.heap[s.2.2.2.2.1]? = some (.cells #[.int .i64 0, .int .i64 0, .int .i64 0, .int .i64 0, .int .i64 0, .int .i64 0, .int .i64 0, .int .i64 0, .int .i64 0, .int .i64 0, .slice none 0 0, .slice none 0 0] 29 (0, 0))) ∧ Aside0 (w6.heap.size ≤ s.2.2.2.2.1)) ?_ ?_
  rotate_left
  · intro hCont
    refine two_ (i := 0) (j := 19) (Ni := some 27) (Nj := some 9) #[true, true, true, true, true, false, true, false, true, true, true, true, false, false, false, false, false, false, false, false, false, false, false] #[false, true, true, true, true, false, true, false, true, true, true, true, false, false, false, false, false, false, false, true, false, false, false] rfl rfl rfl rfl (by kernel_rfl) (by decide) (by decide) (fun K hK => ?_) (fun K hK => ?_)
    · skip
      refine goes_ Tryd.func16 (by kernel_rfl) rfl #[] (by rfl) rfl rfl (by simp only [List.map_toArray, List.map_cons, List.map_nil]) ?_
      with_reducible refine (head_calls _).mono ?_
      rintro e' w' ⟨rfl, rfl⟩
      refine ⟨_, rfl, ?_⟩
      refine hK.out _ _ ⟨(LC.out.of_below (below_drew (Below.refl w6.heap.size w6))).1, (LC.out.of_below (below_drew (Below.refl w6.heap.size w6))).2⟩ (fun hHeld => ?_)
      clear hK K
      refine norm_ (a' := ?_) ?_ ?_
      rotate_left
      · show Act.put _ (some 27) _ = _
        simp only [Act.put, List.setIfInBounds_toArray, List.set_cons_zero, List.set_cons_succ, i64_w, i32_w]
        rfl
      refine pure_ (i := 5) (N := some 32) (v := ?_) (a' := ?_) #[true, true, true, true, true, true, true, false, true, true, true, true, false, false, false, false, false, false, false, false, false, false, false] rfl rfl (by kernel_rfl) (fun _ _ _ h => h) (Or.inl ⟨by rfl, ?_⟩) ?_ ?_
      rotate_left
      · intro w'
        go_simp
        with_reducible rfl
      rotate_left
      · simp only [Act.put, List.setIfInBounds_toArray, List.set_cons_zero, List.set_cons_succ, i64_w, i32_w]
        rfl
      refine pure_ (i := 7) (N := some 34) (v := ?_) (a' := ?_) #[true, true, true, true, true, true, true, true, true, true, true, true, false, false, false, false, false, false, false, false, false, false, false] rfl rfl (by kernel_rfl) (fun _ _ _ h => h) (Or.inl ⟨by rfl, ?_⟩) ?_ ?_
      rotate_left
      · intro w'
        go_simp
        with_reducible rfl
      rotate_left
      · simp only [Act.put, List.setIfInBounds_toArray, List.set_cons_zero, List.set_cons_succ, i64_w, i32_w]
        rfl
      refine pure_ (i := 12) (N := some 39) (v := ?_) (a' := ?_) #[true, true, true, true, true, true, true, true, true, true, true, true, true, false, false, false, false, false, false, false, false, false, false] rfl rfl (by kernel_rfl) (fun _ _ _ h => h) (Or.inl ⟨by rfl, ?_⟩) ?_ ?_
      rotate_left
      · intro w'
        go_simp
        with_reducible rfl
      rotate_left
      · simp only [Act.put, List.setIfInBounds_toArray, List.set_cons_zero, List.set_cons_succ, i64_w, i32_w]
        rfl
      refine two_ (i := 13) (j := 19) (Ni := some 40) (Nj := some 9) #[true, true, true, true, true, true, true, true, true, true, true, true, true, true, false, false, false, false, false, false, false, false, false] #[true, true, true, true, true, true, true, true, true, true, true, true, true, false, false, false, false, false, false, true, false, false, false] rfl rfl rfl rfl (by kernel_rfl) (by decide) (by decide) (fun K hK => ?_) (fun K hK => ?_)
      · skip
        refine CO_conv_step (w0 := w6) w6.heap.size (by rfl) (N := 40) rfl 9 22 5 (.tmp 39) rfl Tryd.underlying9 Tryd.underlying22 Tryd.underlying5 (⟨Y3.toArray⟩) rfl (fun _ => True) trivial (below_drew (Below.refl w6.heap.size w6)) (below_size (below_drew (Below.refl w6.heap.size w6))) (by have := SZ.out; simp only [ByteArray.size, List.size_toArray]; omega) ?_
        intro vc x13 hco hb0 hb _ _
        obtain ⟨bb, bc, rfl, hbc, -, -, hbC⟩ := hco
        have CC := Aside0.mk hbC
        have CL := Aside0.mk hbc
        have E_13 := Aside0.mk hb0
        clear hbC hbc hb0 hb
        refine hK.out _ _ ⟨(LC.out.of_below E_13.out).1, (LC.out.of_below E_13.out).2⟩ (fun hHeld => ?_)
        clear hK K
        refine norm_ (a' := ?_) ?_ ?_
        rotate_left
        · show Act.put _ (some 40) _ = _
          simp only [Act.put, List.setIfInBounds_toArray, List.set_cons_zero, List.set_cons_succ, i64_w, i32_w]
          rfl
        refine two_ (i := 14) (j := 19) (Ni := some 41) (Nj := some 9) #[true, true, true, true, true, true, true, true, true, true, true, true, true, true, true, false, false, false, false, false, false, false, false] #[true, true, true, true, true, true, true, true, true, true, true, true, true, true, false, false, false, false, false, true, false, false, false] rfl rfl rfl rfl (by kernel_rfl) (by decide) (by decide) (fun K hK => ?_) (fun K hK => ?_)
        · skip
          refine goes_ Tryd.func10 (by kernel_rfl) rfl #[.slice (some ⟨bb, 0, none⟩) (bytesOf (⟨Y3.toArray⟩)).length bc] (by rfl) rfl rfl (by simp only [List.map_toArray, List.map_cons, List.map_nil]; rfl) ?_
          refine (parse_l _ _ _ (bytesOf (⟨Y3.toArray⟩)) _ c0 c1 c2 c3 c4 c5 c6 c7 c8 c9 l e tk ok PA.out rfl CC.out CL.out (HL.out.below (below_step B6.out E_13.out))).mono ?_
          rintro e' x14 ⟨vT, vO, rfl, hT, hO, hb⟩
          refine ⟨_, rfl, ?_⟩
          obtain ⟨AT, cT, rfl⟩ := Kd.R_slice hT
          obtain ⟨AO, cO, rfl⟩ := Kd.R_slice hO
          have RT := Aside0.mk (Kd.R_lower hT (below_size E_13.out))
          have RO := Aside0.mk (Kd.R_lower hO (below_size E_13.out))
          have E_14 := Aside0.mk (below_step E_13.out hb)
          clear hT hO hb
          refine hK.out _ _ ⟨(LC.out.of_below E_14.out).1, (LC.out.of_below E_14.out).2⟩ (fun hHeld => ?_)
          clear hK K
          refine norm_ (a' := ?_) ?_ ?_
          rotate_left
          · show Act.put _ (some 41) _ = _
            simp only [Act.put, List.setIfInBounds_toArray, List.set_cons_zero, List.set_cons_succ, i64_w, i32_w]
            rfl
          refine pure_ (i := 15) (N := some 26) (v := ?_) (a' := ?_) #[true, true, true, true, true, true, true, true, true, true, true, true, true, true, true, true, false, false, false, false, false, false, false] rfl rfl (by kernel_rfl) (fun _ _ _ h => h) (Or.inl ⟨by rfl, ?_⟩) ?_ ?_
          rotate_left
          · intro w'
            go_simp
            with_reducible rfl
          rotate_left
          · simp only [Act.put, List.setIfInBounds_toArray, List.set_cons_zero, List.set_cons_succ, i64_w, i32_w]
            rfl
          refine pure_ (i := 16) (N := some 42) (v := ?_) (a' := ?_) #[true, true, true, true, true, true, true, true, true, true, true, true, true, true, true, true, true, false, false, false, false, false, false] rfl rfl (by kernel_rfl) (fun _ _ _ h => h) (Or.inl ⟨by rfl, ?_⟩) ?_ ?_
          rotate_left
          · intro w'
            go_simp
            with_reducible rfl
          rotate_left
          · simp only [Act.put, List.setIfInBounds_toArray, List.set_cons_zero, List.set_cons_succ, i64_w, i32_w]
            rfl
          refine pure_ (i := 17) (N := some 43) (v := ?_) (a' := ?_) #[true, true, true, true, true, true, true, true, true, true, true, true, true, true, true, true, true, true, false, false, false, false, false] rfl rfl (by kernel_rfl) (fun _ _ _ h => h) (Or.inl ⟨by rfl, ?_⟩) ?_ ?_
          rotate_left
          · intro w'
            go_simp
            with_reducible rfl
          rotate_left
          · simp only [Act.put, List.setIfInBounds_toArray, List.set_cons_zero, List.set_cons_succ, i64_w, i32_w]
            rfl
          refine pure_ (i := 18) (N := some 44) (v := ?_) (a' := ?_) #[true, true, true, true, true, true, true, true, true, true, true, true, true, true, true, true, true, true, true, false, false, false, false] rfl rfl (by kernel_rfl) (fun _ _ _ h => h) (Or.inl ⟨by rfl, ?_⟩) ?_ ?_
          rotate_left
          · intro w'
            go_simp
            with_reducible rfl
          rotate_left
          · simp only [Act.put, List.setIfInBounds_toArray, List.set_cons_zero, List.set_cons_succ, i64_w, i32_w]
            rfl
          refine one_ (i := 19) (N := some 9) #[true, true, true, true, true, true, true, true, true, true, true, true, true, true, true, true, true, true, true, true, false, false, false] rfl rfl (by kernel_rfl) (by decide) (fun K hK => ?_)
          refine box_step (by rfl) (N := 9) rfl (cs := #[.int .i64 0, .int .i64 0, .int .i64 0, .int .i64 0, .int .i64 0, .int .i64 0, .int .i64 0, .int .i64 0, .int .i64 0, .int .i64 0, .slice none 0 0, .slice none 0 0]) (t := 29) ?hr71 ?_
          (case hr71 => first | (go_simp; done) | (go_simp; rfl))
          intro o hg x19 hbox hb
          have ZX := Aside0.mk hbox
          have ZG := Aside0.mk (show w6.heap.size ≤ o by have := below_size E_14.out; omega)
          have E_19 := Aside0.mk (below_step E_14.out hb)
          have RT := Aside0.mk (Kd.R_below RT.out hb)
          have RO := Aside0.mk (Kd.R_below RO.out hb)
          clear hbox hb hg
          refine hK.out _ _ ⟨(LC.out.of_below E_19.out).1, (LC.out.of_below E_19.out).2⟩ (fun hHeld => ?_)
          clear hK K
          refine norm_ (a' := ?_) ?_ ?_
          rotate_left
          · show Act.put _ (some 9) _ = _
            simp only [Act.put, List.setIfInBounds_toArray, List.set_cons_zero, List.set_cons_succ, i64_w, i32_w]
            rfl
          exact norm_ (by simp only [putAll, Act.put, List.setIfInBounds_toArray, List.set_cons_zero, List.set_cons_succ]) (hCont (AT, cT, AO, cO, o, .slice (some ⟨bb, 0, none⟩) (bytesOf (⟨Y3.toArray⟩)).length bc) _ ⟨E_19, RT, RO, ZX, ZG⟩)
        · skip
          refine box_step (by rfl) (N := 9) rfl (cs := #[.int .i64 0, .int .i64 0, .int .i64 0, .int .i64 0, .int .i64 0, .int .i64 0, .int .i64 0, .int .i64 0, .int .i64 0, .int .i64 0, .slice none 0 0, .slice none 0 0]) (t := 29) ?hr72 ?_
          (case hr72 => first | (go_simp; done) | (go_simp; rfl))
          intro o hg x19 hbox hb
          have ZX := Aside0.mk hbox
          have ZG := Aside0.mk (show w6.heap.size ≤ o by have := below_size E_13.out; omega)
          have E_19 := Aside0.mk (below_step E_13.out hb)
          have CC := Aside0.mk (Kd.C_below CC.out hb)
          clear hbox hb hg
          refine hK.out _ _ ⟨(LC.out.of_below E_19.out).1, (LC.out.of_below E_19.out).2⟩ (fun hHeld => ?_)
          clear hK K
          refine norm_ (a' := ?_) ?_ ?_
          rotate_left
          · show Act.put _ (some 9) _ = _
            simp only [Act.put, List.setIfInBounds_toArray, List.set_cons_zero, List.set_cons_succ, i64_w, i32_w]
            rfl
          refine one_ (i := 14) (N := some 41) #[true, true, true, true, true, true, true, true, true, true, true, true, true, true, true, false, false, false, false, true, false, false, false] rfl rfl (by kernel_rfl) (by decide) (fun K hK => ?_)
          refine goes_ Tryd.func10 (by kernel_rfl) rfl #[.slice (some ⟨bb, 0, none⟩) (bytesOf (⟨Y3.toArray⟩)).length bc] (by rfl) rfl rfl (by simp only [List.map_toArray, List.map_cons, List.map_nil]; rfl) ?_
          refine (parse_l _ _ _ (bytesOf (⟨Y3.toArray⟩)) _ c0 c1 c2 c3 c4 c5 c6 c7 c8 c9 l e tk ok PA.out rfl CC.out CL.out (HL.out.below (below_step B6.out E_19.out))).mono ?_
          rintro e' x14 ⟨vT, vO, rfl, hT, hO, hb⟩
          refine ⟨_, rfl, ?_⟩
          obtain ⟨AT, cT, rfl⟩ := Kd.R_slice hT
          obtain ⟨AO, cO, rfl⟩ := Kd.R_slice hO
          have RT := Aside0.mk (Kd.R_lower hT (below_size E_19.out))
          have RO := Aside0.mk (Kd.R_lower hO (below_size E_19.out))
          have E_14 := Aside0.mk (below_step E_19.out hb)
          have ZX := Aside0.mk (blk_below ZX.out hb)
          clear hT hO hb
          refine hK.out _ _ ⟨(LC.out.of_below E_14.out).1, (LC.out.of_below E_14.out).2⟩ (fun hHeld => ?_)
          clear hK K
          refine norm_ (a' := ?_) ?_ ?_
          rotate_left
          · show Act.put _ (some 41) _ = _
            simp only [Act.put, List.setIfInBounds_toArray, List.set_cons_zero, List.set_cons_succ, i64_w, i32_w]
            rfl
          refine pure_ (i := 15) (N := some 26) (v := ?_) (a' := ?_) #[true, true, true, true, true, true, true, true, true, true, true, true, true, true, true, true, false, false, false, true, false, false, false] rfl rfl (by kernel_rfl) (fun _ _ _ h => h) (Or.inl ⟨by rfl, ?_⟩) ?_ ?_
          rotate_left
          · intro w'
            go_simp
            with_reducible rfl
          rotate_left
          · simp only [Act.put, List.setIfInBounds_toArray, List.set_cons_zero, List.set_cons_succ, i64_w, i32_w]
            rfl
          refine pure_ (i := 16) (N := some 42) (v := ?_) (a' := ?_) #[true, true, true, true, true, true, true, true, true, true, true, true, true, true, true, true, true, false, false, true, false, false, false] rfl rfl (by kernel_rfl) (fun _ _ _ h => h) (Or.inl ⟨by rfl, ?_⟩) ?_ ?_
          rotate_left
          · intro w'
            go_simp
            with_reducible rfl
          rotate_left
          · simp only [Act.put, List.setIfInBounds_toArray, List.set_cons_zero, List.set_cons_succ, i64_w, i32_w]
            rfl
          refine pure_ (i := 17) (N := some 43) (v := ?_) (a' := ?_) #[true, true, true, true, true, true, true, true, true, true, true, true, true, true, true, true, true, true, false, true, false, false, false] rfl rfl (by kernel_rfl) (fun _ _ _ h => h) (Or.inl ⟨by rfl, ?_⟩) ?_ ?_
          rotate_left
          · intro w'
            go_simp
            with_reducible rfl
          rotate_left
          · simp only [Act.put, List.setIfInBounds_toArray, List.set_cons_zero, List.set_cons_succ, i64_w, i32_w]
            rfl
          refine pure_ (i := 18) (N := some 44) (v := ?_) (a' := ?_) #[true, true, true, true, true, true, true, true, true, true, true, true, true, true, true, true, true, true, true, true, false, false, false] rfl rfl (by kernel_rfl) (fun _ _ _ h => h) (Or.inl ⟨by rfl, ?_⟩) ?_ ?_
          rotate_left
          · intro w'
            go_simp
            with_reducible rfl
          rotate_left
          · simp only [Act.put, List.setIfInBounds_toArray, List.set_cons_zero, List.set_cons_succ, i64_w, i32_w]
            rfl
          exact norm_ (by simp only [putAll, Act.put, List.setIfInBounds_toArray, List.set_cons_zero, List.set_cons_succ]) (hCont (AT, cT, AO, cO, o, .slice (some ⟨bb, 0, none⟩) (bytesOf (⟨Y3.toArray⟩)).length bc) _ ⟨E_14, RT, RO, ZX, ZG⟩)
      · skip
        refine box_step (by rfl) (N := 9) rfl (cs := #[.int .i64 0, .int .i64 0, .int .i64 0, .int .i64 0, .int .i64 0, .int .i64 0, .int .i64 0, .int .i64 0, .int .i64 0, .int .i64 0, .slice none 0 0, .slice none 0 0]) (t := 29) ?hr73 ?_
        (case hr73 => first | (go_simp; done) | (go_simp; rfl))
        intro o hg x19 hbox hb
        have ZX := Aside0.mk hbox
        have ZG := Aside0.mk (show w6.heap.size ≤ o by have := below_size (below_drew (Below.refl w6.heap.size w6)); omega)
        have E_19 := Aside0.mk (below_step (below_drew (Below.refl w6.heap.size w6)) hb)
        clear hbox hb hg
        refine hK.out _ _ ⟨(LC.out.of_below E_19.out).1, (LC.out.of_below E_19.out).2⟩ (fun hHeld => ?_)
        clear hK K
        refine norm_ (a' := ?_) ?_ ?_
        rotate_left
        · show Act.put _ (some 9) _ = _
          simp only [Act.put, List.setIfInBounds_toArray, List.set_cons_zero, List.set_cons_succ, i64_w, i32_w]
          rfl
        refine one_ (i := 13) (N := some 40) #[true, true, true, true, true, true, true, true, true, true, true, true, true, true, false, false, false, false, false, true, false, false, false] rfl rfl (by kernel_rfl) (by decide) (fun K hK => ?_)
        refine CO_conv_step (w0 := w6) w6.heap.size (by rfl) (N := 40) rfl 9 22 5 (.tmp 39) rfl Tryd.underlying9 Tryd.underlying22 Tryd.underlying5 (⟨Y3.toArray⟩) rfl (fun _ => True) trivial E_19.out (below_size E_19.out) (by have := SZ.out; simp only [ByteArray.size, List.size_toArray]; omega) ?_
        intro vc x13 hco hb0 hb _ _
        obtain ⟨bb, bc, rfl, hbc, -, -, hbC⟩ := hco
        have CC := Aside0.mk hbC
        have CL := Aside0.mk hbc
        have E_13 := Aside0.mk hb0
        have ZX := Aside0.mk (blk_below ZX.out hb)
        clear hbC hbc hb0 hb
        refine hK.out _ _ ⟨(LC.out.of_below E_13.out).1, (LC.out.of_below E_13.out).2⟩ (fun hHeld => ?_)
        clear hK K
        refine norm_ (a' := ?_) ?_ ?_
        rotate_left
        · show Act.put _ (some 40) _ = _
          simp only [Act.put, List.setIfInBounds_toArray, List.set_cons_zero, List.set_cons_succ, i64_w, i32_w]
          rfl
        refine one_ (i := 14) (N := some 41) #[true, true, true, true, true, true, true, true, true, true, true, true, true, true, true, false, false, false, false, true, false, false, false] rfl rfl (by kernel_rfl) (by decide) (fun K hK => ?_)
        refine goes_ Tryd.func10 (by kernel_rfl) rfl #[.slice (some ⟨bb, 0, none⟩) (bytesOf (⟨Y3.toArray⟩)).length bc] (by rfl) rfl rfl (by simp only [List.map_toArray, List.map_cons, List.map_nil]; rfl) ?_
        refine (parse_l _ _ _ (bytesOf (⟨Y3.toArray⟩)) _ c0 c1 c2 c3 c4 c5 c6 c7 c8 c9 l e tk ok PA.out rfl CC.out CL.out (HL.out.below (below_step B6.out E_13.out))).mono ?_
        rintro e' x14 ⟨vT, vO, rfl, hT, hO, hb⟩
        refine ⟨_, rfl, ?_⟩
        obtain ⟨AT, cT, rfl⟩ := Kd.R_slice hT
        obtain ⟨AO, cO, rfl⟩ := Kd.R_slice hO
        have RT := Aside0.mk (Kd.R_lower hT (below_size E_13.out))
        have RO := Aside0.mk (Kd.R_lower hO (below_size E_13.out))
        have E_14 := Aside0.mk (below_step E_13.out hb)
        have ZX := Aside0.mk (blk_below ZX.out hb)
        clear hT hO hb
        refine hK.out _ _ ⟨(LC.out.of_below E_14.out).1, (LC.out.of_below E_14.out).2⟩ (fun hHeld => ?_)
        clear hK K
        refine norm_ (a' := ?_) ?_ ?_
        rotate_left
        · show Act.put _ (some 41) _ = _
          simp only [Act.put, List.setIfInBounds_toArray, List.set_cons_zero, List.set_cons_succ, i64_w, i32_w]
          rfl
        refine pure_ (i := 15) (N := some 26) (v := ?_) (a' := ?_) #[true, true, true, true, true, true, true, true, true, true, true, true, true, true, true, true, false, false, false, true, false, false, false] rfl rfl (by kernel_rfl) (fun _ _ _ h => h) (Or.inl ⟨by rfl, ?_⟩) ?_ ?_
        rotate_left
        · intro w'
          go_simp
          with_reducible rfl
        rotate_left
        · simp only [Act.put, List.setIfInBounds_toArray, List.set_cons_zero, List.set_cons_succ, i64_w, i32_w]
          rfl
        refine pure_ (i := 16) (N := some 42) (v := ?_) (a' := ?_) #[true, true, true, true, true, true, true, true, true, true, true, true, true, true, true, true, true, false, false, true, false, false, false] rfl rfl (by kernel_rfl) (fun _ _ _ h => h) (Or.inl ⟨by rfl, ?_⟩) ?_ ?_
        rotate_left
        · intro w'
          go_simp
          with_reducible rfl
        rotate_left
        · simp only [Act.put, List.setIfInBounds_toArray, List.set_cons_zero, List.set_cons_succ, i64_w, i32_w]
          rfl
        refine pure_ (i := 17) (N := some 43) (v := ?_) (a' := ?_) #[true, true, true, true, true, true, true, true, true, true, true, true, true, true, true, true, true, true, false, true, false, false, false] rfl rfl (by kernel_rfl) (fun _ _ _ h => h) (Or.inl ⟨by rfl, ?_⟩) ?_ ?_
        rotate_left
        · intro w'
          go_simp
          with_reducible rfl
        rotate_left
        · simp only [Act.put, List.setIfInBounds_toArray, List.set_cons_zero, List.set_cons_succ, i64_w, i32_w]
          rfl
        refine pure_ (i := 18) (N := some 44) (v := ?_) (a' := ?_) #[true, true, true, true, true, true, true, true, true, true, true, true, true, true, true, true, true, true, true, true, false, false, false] rfl rfl (by kernel_rfl) (fun _ _ _ h => h) (Or.inl ⟨by rfl, ?_⟩) ?_ ?_
        rotate_left
        · intro w'
          go_simp
          with_reducible rfl
        rotate_left
        · simp only [Act.put, List.setIfInBounds_toArray, List.set_cons_zero, List.set_cons_succ, i64_w, i32_w]
          rfl
        exact norm_ (by simp only [putAll, Act.put, List.setIfInBounds_toArray, List.set_cons_zero, List.set_cons_succ]) (hCont (AT, cT, AO, cO, o, .slice (some ⟨bb, 0, none⟩) (bytesOf (⟨Y3.toArray⟩)).length bc) _ ⟨E_14, RT, RO, ZX, ZG⟩)
    · skip
      refine box_step (by rfl) (N := 9) rfl (cs := #[.int .i64 0, .int .i64 0, .int .i64 0, .int .i64 0, .int .i64 0, .int .i64 0, .int .i64 0, .int .i64 0, .int .i64 0, .int .i64 0, .slice none 0 0, .slice none 0 0]) (t := 29) ?hr74 ?_
      (case hr74 => first | (go_simp; done) | (go_simp; rfl))
      intro o hg x19 hbox hb
      have ZX := Aside0.mk hbox
      have ZG := Aside0.mk (show w6.heap.size ≤ o by have := below_size (below_drew (Below.refl w6.heap.size w6)); omega)
      have E_19 := Aside0.mk (below_step (below_drew (Below.refl w6.heap.size w6)) hb)
      clear hbox hb hg
      refine hK.out _ _ ⟨(LC.out.of_below E_19.out).1, (LC.out.of_below E_19.out).2⟩ (fun hHeld => ?_)
      clear hK K
      refine norm_ (a' := ?_) ?_ ?_
      rotate_left
      · show Act.put _ (some 9) _ = _
        simp only [Act.put, List.setIfInBounds_toArray, List.set_cons_zero, List.set_cons_succ, i64_w, i32_w]
        rfl
      refine one_ (i := 0) (N := some 27) #[true, true, true, true, true, false, true, false, true, true, true, true, false, false, false, false, false, false, false, true, false, false, false] rfl rfl (by kernel_rfl) (by decide) (fun K hK => ?_)
      refine goes_ Tryd.func16 (by kernel_rfl) rfl #[] (by rfl) rfl rfl (by simp only [List.map_toArray, List.map_cons, List.map_nil]) ?_
      with_reducible refine (head_calls _).mono ?_
      rintro e' w' ⟨rfl, rfl⟩
      refine ⟨_, rfl, ?_⟩
      refine hK.out _ _ ⟨(LC.out.of_below E_19.out).1, (LC.out.of_below E_19.out).2⟩ (fun hHeld => ?_)
      clear hK K
      refine norm_ (a' := ?_) ?_ ?_
      rotate_left
      · show Act.put _ (some 27) _ = _
        simp only [Act.put, List.setIfInBounds_toArray, List.set_cons_zero, List.set_cons_succ, i64_w, i32_w]
        rfl
      refine pure_ (i := 5) (N := some 32) (v := ?_) (a' := ?_) #[true, true, true, true, true, true, true, false, true, true, true, true, false, false, false, false, false, false, false, true, false, false, false] rfl rfl (by kernel_rfl) (fun _ _ _ h => h) (Or.inl ⟨by rfl, ?_⟩) ?_ ?_
      rotate_left
      · intro w'
        go_simp
        with_reducible rfl
      rotate_left
      · simp only [Act.put, List.setIfInBounds_toArray, List.set_cons_zero, List.set_cons_succ, i64_w, i32_w]
        rfl
      refine pure_ (i := 7) (N := some 34) (v := ?_) (a' := ?_) #[true, true, true, true, true, true, true, true, true, true, true, true, false, false, false, false, false, false, false, true, false, false, false] rfl rfl (by kernel_rfl) (fun _ _ _ h => h) (Or.inl ⟨by rfl, ?_⟩) ?_ ?_
      rotate_left
      · intro w'
        go_simp
        with_reducible rfl
      rotate_left
      · simp only [Act.put, List.setIfInBounds_toArray, List.set_cons_zero, List.set_cons_succ, i64_w, i32_w]
        rfl
      refine pure_ (i := 12) (N := some 39) (v := ?_) (a' := ?_) #[true, true, true, true, true, true, true, true, true, true, true, true, true, false, false, false, false, false, false, true, false, false, false] rfl rfl (by kernel_rfl) (fun _ _ _ h => h) (Or.inl ⟨by rfl, ?_⟩) ?_ ?_
      rotate_left
      · intro w'
        go_simp
        with_reducible rfl
      rotate_left
      · simp only [Act.put, List.setIfInBounds_toArray, List.set_cons_zero, List.set_cons_succ, i64_w, i32_w]
        rfl
      refine one_ (i := 13) (N := some 40) #[true, true, true, true, true, true, true, true, true, true, true, true, true, true, false, false, false, false, false, true, false, false, false] rfl rfl (by kernel_rfl) (by decide) (fun K hK => ?_)
      refine CO_conv_step (w0 := w6) w6.heap.size (by rfl) (N := 40) rfl 9 22 5 (.tmp 39) rfl Tryd.underlying9 Tryd.underlying22 Tryd.underlying5 (⟨Y3.toArray⟩) rfl (fun _ => True) trivial E_19.out (below_size E_19.out) (by have := SZ.out; simp only [ByteArray.size, List.size_toArray]; omega) ?_
      intro vc x13 hco hb0 hb _ _
      obtain ⟨bb, bc, rfl, hbc, -, -, hbC⟩ := hco
      have CC := Aside0.mk hbC
      have CL := Aside0.mk hbc
      have E_13 := Aside0.mk hb0
      have ZX := Aside0.mk (blk_below ZX.out hb)
      clear hbC hbc hb0 hb
      refine hK.out _ _ ⟨(LC.out.of_below E_13.out).1, (LC.out.of_below E_13.out).2⟩ (fun hHeld => ?_)
      clear hK K
      refine norm_ (a' := ?_) ?_ ?_
      rotate_left
      · show Act.put _ (some 40) _ = _
        simp only [Act.put, List.setIfInBounds_toArray, List.set_cons_zero, List.set_cons_succ, i64_w, i32_w]
        rfl
      refine one_ (i := 14) (N := some 41) #[true, true, true, true, true, true, true, true, true, true, true, true, true, true, true, false, false, false, false, true, false, false, false] rfl rfl (by kernel_rfl) (by decide) (fun K hK => ?_)
      refine goes_ Tryd.func10 (by kernel_rfl) rfl #[.slice (some ⟨bb, 0, none⟩) (bytesOf (⟨Y3.toArray⟩)).length bc] (by rfl) rfl rfl (by simp only [List.map_toArray, List.map_cons, List.map_nil]; rfl) ?_
      refine (parse_l _ _ _ (bytesOf (⟨Y3.toArray⟩)) _ c0 c1 c2 c3 c4 c5 c6 c7 c8 c9 l e tk ok PA.out rfl CC.out CL.out (HL.out.below (below_step B6.out E_13.out))).mono ?_
      rintro e' x14 ⟨vT, vO, rfl, hT, hO, hb⟩
      refine ⟨_, rfl, ?_⟩
      obtain ⟨AT, cT, rfl⟩ := Kd.R_slice hT
      obtain ⟨AO, cO, rfl⟩ := Kd.R_slice hO
      have RT := Aside0.mk (Kd.R_lower hT (below_size E_13.out))
      have RO := Aside0.mk (Kd.R_lower hO (below_size E_13.out))
      have E_14 := Aside0.mk (below_step E_13.out hb)
      have ZX := Aside0.mk (blk_below ZX.out hb)
      clear hT hO hb
      refine hK.out _ _ ⟨(LC.out.of_below E_14.out).1, (LC.out.of_below E_14.out).2⟩ (fun hHeld => ?_)
      clear hK K
      refine norm_ (a' := ?_) ?_ ?_
      rotate_left
      · show Act.put _ (some 41) _ = _
        simp only [Act.put, List.setIfInBounds_toArray, List.set_cons_zero, List.set_cons_succ, i64_w, i32_w]
        rfl
      refine pure_ (i := 15) (N := some 26) (v := ?_) (a' := ?_) #[true, true, true, true, true, true, true, true, true, true, true, true, true, true, true, true, false, false, false, true, false, false, false] rfl rfl (by kernel_rfl) (fun _ _ _ h => h) (Or.inl ⟨by rfl, ?_⟩) ?_ ?_
      rotate_left
      · intro w'
        go_simp
        with_reducible rfl
      rotate_left
      · simp only [Act.put, List.setIfInBounds_toArray, List.set_cons_zero, List.set_cons_succ, i64_w, i32_w]
        rfl
      refine pure_ (i := 16) (N := some 42) (v := ?_) (a' := ?_) #[true, true, true, true, true, true, true, true, true, true, true, true, true, true, true, true, true, false, false, true, false, false, false] rfl rfl (by kernel_rfl) (fun _ _ _ h => h) (Or.inl ⟨by rfl, ?_⟩) ?_ ?_
      rotate_left
      · intro w'
        go_simp
        with_reducible rfl
      rotate_left
      · simp only [Act.put, List.setIfInBounds_toArray, List.set_cons_zero, List.set_cons_succ, i64_w, i32_w]
        rfl
      refine pure_ (i := 17) (N := some 43) (v := ?_) (a' := ?_) #[true, true, true, true, true, true, true, true, true, true, true, true, true, true, true, true, true, true, false, true, false, false, false] rfl rfl (by kernel_rfl) (fun _ _ _ h => h) (Or.inl ⟨by rfl, ?_⟩) ?_ ?_
      rotate_left
      · intro w'
        go_simp
        with_reducible rfl
      rotate_left
      · simp only [Act.put, List.setIfInBounds_toArray, List.set_cons_zero, List.set_cons_succ, i64_w, i32_w]
        rfl
      refine pure_ (i := 18) (N := some 44) (v := ?_) (a' := ?_) #[true, true, true, true, true, true, true, true, true, true, true, true, true, true, true, true, true, true, true, true, false, false, false] rfl rfl (by kernel_rfl) (fun _ _ _ h => h) (Or.inl ⟨by rfl, ?_⟩) ?_ ?_
      rotate_left
      · intro w'
        go_simp
        with_reducible rfl
      rotate_left
      · simp only [Act.put, List.setIfInBounds_toArray, List.set_cons_zero, List.set_cons_succ, i64_w, i32_w]
        rfl
      exact norm_ (by simp only [putAll, Act.put, List.setIfInBounds_toArray, List.set_cons_zero, List.set_cons_succ]) (hCont (AT, cT, AO, cO, o, .slice (some ⟨bb, 0, none⟩) (bytesOf (⟨Y3.toArray⟩)).length bc) _ ⟨E_14, RT, RO, ZX, ZG⟩)
  rintro ⟨AT7, cT7, AO7, cO7, o7, vc⟩ x7 ⟨EB, RT, RO, ZX, ZG⟩
  obtain ⟨z0, z1, z2, z3, z4, z5, z6, z7, z8, z9, z10, z11, g0, g1, g2, g3, g4, g5, g6, g7, g8, g9, g10, g11⟩ := cells12 ZX.out
  have hHeld : x7.cell? (adL.add j.toNat) = some (.string (⟨la.toArray⟩ : ByteArray)) ∧ x7.cell? (adB.add j.toNat) = some (.string (⟨lb.toArray⟩ : ByteArray)) := ⟨(LC.out.of_below EB.out).1, (LC.out.of_below EB.out).2⟩
  refine norm_ (a' := ?_) ?_ ?_
  rotate_left
  · simp only [putAll, Act.put, List.setIfInBounds_toArray, List.set_cons_zero, List.set_cons_succ]
    rfl
  refine last_ (i := 20) (N := none) #[true, true, true, true, true, true, true, true, true, true, true, true, true, true, true, true, true, true, true, true, true, false, false] rfl rfl (by kernel_rfl) (by decide) (fun K hK => ?_)
  refine skip_ (w1 := ?_) (by rfl) rfl ?_ ?_
  rotate_left
  · go_simp
    rfl
  refine hK.out _ _ ?_
  clear hK K
  refine pure_ (i := 21) (N := some 10) (v := ?_) (a' := ?_) #[true, true, true, true, true, true, true, true, true, true, true, true, true, true, true, true, true, true, true, true, true, true, false] rfl rfl (by kernel_rfl) (fun _ _ _ h => h) (Or.inl ⟨by rfl, ?_⟩) ?_ ?_
  rotate_left
  · intro w'
    go_simp
    with_reducible rfl
  rotate_left
  · simp only [Act.put, List.setIfInBounds_toArray, List.set_cons_zero, List.set_cons_succ, i64_w, i32_w]
    rfl
  refine pure_ (i := 22) (N := some 11) (v := ?_) (a' := ?_) #[true, true, true, true, true, true, true, true, true, true, true, true, true, true, true, true, true, true, true, true, true, true, true] rfl rfl (by kernel_rfl) (fun _ _ _ h => h) (Or.inl ⟨by rfl, ?_⟩) ?_ ?_
  rotate_left
  · intro w'
    go_simp
    with_reducible rfl
  rotate_left
  · simp only [Act.put, List.setIfInBounds_toArray, List.set_cons_zero, List.set_cons_succ, i64_w, i32_w]
    rfl
  refine done_ (by kernel_rfl) ?_
  obtain ⟨w7, hw, hX, hBx⟩ := put12 (.int .i64 c0) (.int .i64 c1) (.int .i64 c2) (.int .i64 c3) (.int .i64 c4) (.int .i64 c5) (.int .i64 c6) (.int .i64 c7) (.int .i64 c8) (.int .i64 c9) (.slice AT7 tk.length cT7) (.slice AO7 ok.length cO7) ZX.out EB.out ZG.out
  have RT7 := Aside0.mk (show kTk.R 51 w7 w6.heap.size (fun _ => True) (.slice AT7 tk.length cT7) tk by rw [hw]; exact R_put12 RT.out rfl ZX.out (by decide) _ _ _ _ _ _ _ _ _ _ _ _)
  have RO7 := Aside0.mk (show kOp.R 46 w7 w6.heap.size (fun _ => True) (.slice AO7 ok.length cO7) ok by rw [hw]; exact R_put12 RO.out rfl ZX.out (by decide) _ _ _ _ _ _ _ _ _ _ _ _)
  rw [← hw]
  have F7 := Aside0.mk hX
  have B7 := Aside0.mk (below_step B6.out hBx)
  have LC := Aside0.mk (LC.out.below hBx)
  clear hw hX hBx ZX EB ZG RT RO z0 z1 z2 z3 z4 z5 z6 z7 z8 z9 z10 z11 g0 g1 g2 g3 g4 g5 g6 g7 g8 g9 g10 g11 hHeld
  go_upto_region 8 with (fail)
  refine start_ (n := 24) (S := fun w' => w'.cell? (adL.add j.toNat) = some (.string (⟨la.toArray⟩ : ByteArray)) ∧ w'.cell? (adB.add j.toNat) = some (.string (⟨lb.toArray⟩ : ByteArray))) (ds := [21]) #[false, false, false, false, false, false, false, false, false, false, false, false, false, false, false, false, false, false, false, false, false, false, false, false] (by kernel_rfl) rfl rfl ⟨(LC.out.of_below (below_drew (Below.refl _ _))).1, (LC.out.of_below (below_drew (Below.refl _ _))).2⟩ (fun hHeld => ?_)
  refine pure_ (i := 1) (N := some 47) (v := ?_) (a' := ?_) #[false, true, false, false, false, false, false, false, false, false, false, false, false, false, false, false, false, false, false, false, false, false, false, false] rfl rfl (by kernel_rfl) (fun _ _ _ h => h) (Or.inl ⟨by rfl, ?_⟩) ?_ ?_
  rotate_left
  · intro w'
    go_simp
    with_reducible rfl
  rotate_left
  · simp only [Act.put, List.setIfInBounds_toArray, List.set_cons_zero, List.set_cons_succ, i64_w, i32_w]
    rfl
  refine pure_ (i := 2) (N := some 48) (v := ?_) (a' := ?_) #[false, true, true, false, false, false, false, false, false, false, false, false, false, false, false, false, false, false, false, false, false, false, false, false] rfl rfl (by kernel_rfl) (fun _ _ _ h => h) (Or.inl ⟨by rfl, ?_⟩) ?_ ?_
  rotate_left
  · intro w'
    go_simp
    with_reducible rfl
  rotate_left
  · simp only [Act.put, List.setIfInBounds_toArray, List.set_cons_zero, List.set_cons_succ, i64_w, i32_w]
    rfl
  refine pure_ (i := 3) (N := some 49) (v := ?_) (a' := ?_) #[false, true, true, true, false, false, false, false, false, false, false, false, false, false, false, false, false, false, false, false, false, false, false, false] rfl rfl (by kernel_rfl) (fun _ _ _ h => h) (Or.inl ⟨by rfl, ?_⟩) ?_ ?_
  rotate_left
  · intro w'
    go_simp
    with_reducible rfl
  rotate_left
  · simp only [Act.put, List.setIfInBounds_toArray, List.set_cons_zero, List.set_cons_succ, i64_w, i32_w]
    rfl
  refine pure_ (i := 7) (N := some 53) (v := ?_) (a' := ?_) #[false, true, true, true, false, false, false, true, false, false, false, false, false, false, false, false, false, false, false, false, false, false, false, false] rfl rfl (by kernel_rfl) (fun _ _ _ h => h) (Or.inl ⟨by rfl, ?_⟩) ?_ ?_
  rotate_left
  · intro w'
    go_simp
    with_reducible rfl
  rotate_left
  · simp only [Act.put, List.setIfInBounds_toArray, List.set_cons_zero, List.set_cons_succ, i64_w, i32_w]
    rfl
  refine pure_ (i := 9) (N := some 55) (v := ?_) (a' := ?_) #[false, true, true, true, false, false, false, true, false, true, false, false, false, false, false, false, false, false, false, false, false, false, false, false] rfl rfl (by kernel_rfl) (fun _ _ _ h => h) (Or.inl ⟨by rfl, ?_⟩) ?_ ?_
  rotate_left
  · intro w'
    go_simp
    with_reducible rfl
  rotate_left
  · simp only [Act.put, List.setIfInBounds_toArray, List.set_cons_zero, List.set_cons_succ, i64_w, i32_w]
    rfl
  refine pure_ (i := 10) (N := some 56) (v := ?_) (a' := ?_) #[false, true, true, true, false, false, false, true, false, true, true, false, false, false, false, false, false, false, false, false, false, false, false, false] rfl rfl (by kernel_rfl) (fun _ _ _ h => h) (Or.inl ⟨by rfl, ?_⟩) ?_ ?_
  rotate_left
  · intro w'
    go_simp
    with_reducible rfl
  rotate_left
  · simp only [Act.put, List.setIfInBounds_toArray, List.set_cons_zero, List.set_cons_succ, i64_w, i32_w]
    rfl
  refine pure_ (i := 11) (N := some 57) (v := ?_) (a' := ?_) #[false, true, true, true, false, false, false, true, false, true, true, true, false, false, false, false, false, false, false, false, false, false, false, false] rfl rfl (by kernel_rfl) (fun _ _ _ h => h) (Or.inl ⟨by rfl, ?_⟩) ?_ ?_
  rotate_left
  · intro w'
    go_simp
    with_reducible rfl
  rotate_left
  · simp only [Act.put, List.setIfInBounds_toArray, List.set_cons_zero, List.set_cons_succ, i64_w, i32_w]
    rfl
  refine take_ (i := 4) (N := some 50) (v := ?_) (a' := ?_) #[false, true, true, true, true, false, false, true, false, true, true, true, false, false, false, false, false, false, false, false, false, false, false, false] rfl rfl (by kernel_rfl) (fun _ _ _ h => h) (Or.inl ⟨by rfl, ?_⟩) hHeld ?_ ?_
  rotate_left
  · rintro w' ⟨s0, s1⟩
    go_simp
    with_reducible rfl
  rotate_left
  · simp only [Act.put, List.setIfInBounds_toArray, List.set_cons_zero, List.set_cons_succ, i64_w, i32_w]
    rfl
  refine take_ (i := 12) (N := some 58) (v := ?_) (a' := ?_) #[false, true, true, true, true, false, false, true, false, true, true, true, true, false, false, false, false, false, false, false, false, false, false, false] rfl rfl (by kernel_rfl) (fun _ _ _ h => h) (Or.inl ⟨by rfl, ?_⟩) hHeld ?_ ?_
  rotate_left
  · rintro w' ⟨s0, s1⟩
    go_simp
    with_reducible rfl
  rotate_left
  · simp only [Act.put, List.setIfInBounds_toArray, List.set_cons_zero, List.set_cons_succ, i64_w, i32_w]
    rfl
  refine join_ (σ := Option Addr × Nat × Option Addr × Nat × Nat × Value) 3 #[true, true, true, true, true, true, true, true, true, true, true, true, true, true, true, true, true, true, true, true, true, false, false, false] (fun s => [(46, .string headS), (51, .string (⟨Y1.toArray⟩)), (52, .string (⟨Z2.toArray⟩)), (54, .string (⟨Z3.toArray⟩)), (59, .string (⟨Z4.toArray⟩)), (60, s.2.2.2.2.2), (61, .tuple #[.agg #[.int .i64 d0, .int .i64 d1, .int .i64 d2, .int .i64 d3, .int .i64 d4, .int .i64 d5, .int .i64 d6, .int .i64 d7, .int .i64 d8, .int .i64 d9, .slice s.1 tl.length s.2.1, .slice s.2.2.1 ol.length s.2.2.2.1], .int .i64 m, .int .i64 f]), (45, .tuple #[.agg #[.int .i64 d0, .int .i64 d1, .int .i64 d2, .int .i64 d3, .int .i64 d4, .int .i64 d5, .int .i64 d6, .int .i64 d7, .int .i64 d8, .int .i64 d9, .slice s.1 tl.length s.2.1, .slice s.2.2.1 ol.length s.2.2.2.1], .int .i64 m, .int .i64 f]), (62, .agg #[.int .i64 d0, .int .i64 d1, .int .i64 d2, .int .i64 d3, .int .i64 d4, .int .i64 d5, .int .i64 d6, .int .i64 d7, .int .i64 d8, .int .i64 d9, .slice s.1 tl.length s.2.1, .slice s.2.2.1 ol.length s.2.2.2.1]), (63, .int .i64 m), (64, .int .i64 f), (12, .pointer (some ⟨s.2.2.2.2.1, 0, none⟩))]) (fun s w' => Aside0 (Below w7.heap.size w7 w') ∧ Aside0 (kTk.R 51 w' w7.heap.size (fun _ => True) (.slice s.1 tl.length s.2.1) tl) ∧ Aside0 (kOp.R 46 w' w7.heap.size (fun _ => True) (.slice s.2.2.1 ol.length s.2.2.2.1) ol) ∧ Aside0 (w'.heap[s.2.2.2.2.1]? = some (.cells #[.int .i64 0, .int .i64 0, .int .i64 0, .int .i64 0, .int .i64 0, .int .i64 0, .int .i64 0, .int .i64 0, .int .i64 0, .int .i64 0, .slice none 0 0, .slice none 0 0] 29 (0, 0))) ∧ Aside0 (w7.heap.size ≤ s.2.2.2.2.1)) ?_ ?_
  rotate_left
  · intro hCont
    refine two_ (i := 0) (j := 20) (Ni := some 46) (Nj := some 12) #[true, true, true, true, true, false, false, true, false, true, true, true, true, false, false, false, false, false, false, false, false, false, false, false] #[false, true, true, true, true, false, false, true, false, true, true, true, true, false, false, false, false, false, false, false, true, false, false, false] rfl rfl rfl rfl (by kernel_rfl) (by decide) (by decide) (fun K hK => ?_) (fun K hK => ?_)
    · skip
      refine goes_ Tryd.func16 (by kernel_rfl) rfl #[] (by rfl) rfl rfl (by simp only [List.map_toArray, List.map_cons, List.map_nil]) ?_
      with_reducible refine (head_calls _).mono ?_
      rintro e' w' ⟨rfl, rfl⟩
      refine ⟨_, rfl, ?_⟩
      refine hK.out _ _ ⟨(LC.out.of_below (below_drew (Below.refl w7.heap.size w7))).1, (LC.out.of_below (below_drew (Below.refl w7.heap.size w7))).2⟩ (fun hHeld => ?_)
      clear hK K
      refine norm_ (a' := ?_) ?_ ?_
      rotate_left
      · show Act.put _ (some 46) _ = _
        simp only [Act.put, List.setIfInBounds_toArray, List.set_cons_zero, List.set_cons_succ, i64_w, i32_w]
        rfl
      refine pure_ (i := 5) (N := some 51) (v := ?_) (a' := ?_) #[true, true, true, true, true, true, false, true, false, true, true, true, true, false, false, false, false, false, false, false, false, false, false, false] rfl rfl (by kernel_rfl) (fun _ _ _ h => h) (Or.inl ⟨by rfl, ?_⟩) ?_ ?_
      rotate_left
      · intro w'
        go_simp
        with_reducible rfl
      rotate_left
      · simp only [Act.put, List.setIfInBounds_toArray, List.set_cons_zero, List.set_cons_succ, i64_w, i32_w]
        rfl
      refine pure_ (i := 6) (N := some 52) (v := ?_) (a' := ?_) #[true, true, true, true, true, true, true, true, false, true, true, true, true, false, false, false, false, false, false, false, false, false, false, false] rfl rfl (by kernel_rfl) (fun _ _ _ h => h) (Or.inl ⟨by rfl, ?_⟩) ?_ ?_
      rotate_left
      · intro w'
        go_simp
        with_reducible rfl
      rotate_left
      · simp only [Act.put, List.setIfInBounds_toArray, List.set_cons_zero, List.set_cons_succ, i64_w, i32_w]
        rfl
      refine pure_ (i := 8) (N := some 54) (v := ?_) (a' := ?_) #[true, true, true, true, true, true, true, true, true, true, true, true, true, false, false, false, false, false, false, false, false, false, false, false] rfl rfl (by kernel_rfl) (fun _ _ _ h => h) (Or.inl ⟨by rfl, ?_⟩) ?_ ?_
      rotate_left
      · intro w'
        go_simp
        with_reducible rfl
      rotate_left
      · simp only [Act.put, List.setIfInBounds_toArray, List.set_cons_zero, List.set_cons_succ, i64_w, i32_w]
        rfl
      refine pure_ (i := 13) (N := some 59) (v := ?_) (a' := ?_) #[true, true, true, true, true, true, true, true, true, true, true, true, true, true, false, false, false, false, false, false, false, false, false, false] rfl rfl (by kernel_rfl) (fun _ _ _ h => h) (Or.inl ⟨by rfl, ?_⟩) ?_ ?_
      rotate_left
      · intro w'
        go_simp
        with_reducible rfl
      rotate_left
      · simp only [Act.put, List.setIfInBounds_toArray, List.set_cons_zero, List.set_cons_succ, i64_w, i32_w]
        rfl
      refine two_ (i := 14) (j := 20) (Ni := some 60) (Nj := some 12) #[true, true, true, true, true, true, true, true, true, true, true, true, true, true, true, false, false, false, false, false, false, false, false, false] #[true, true, true, true, true, true, true, true, true, true, true, true, true, true, false, false, false, false, false, false, true, false, false, false] rfl rfl rfl rfl (by kernel_rfl) (by decide) (by decide) (fun K hK => ?_) (fun K hK => ?_)
      · skip
        refine CO_conv_step (w0 := w7) w7.heap.size (by rfl) (N := 60) rfl 9 22 5 (.tmp 59) rfl Tryd.underlying9 Tryd.underlying22 Tryd.underlying5 (⟨Z4.toArray⟩) rfl (fun _ => True) trivial (below_drew (Below.refl w7.heap.size w7)) (below_size (below_drew (Below.refl w7.heap.size w7))) (by have := SZ.out; simp only [ByteArray.size, List.size_toArray]; omega) ?_
        intro vc x14 hco hb0 hb _ _
        obtain ⟨bb, bc, rfl, hbc, -, -, hbC⟩ := hco
        have CC := Aside0.mk hbC
        have CL := Aside0.mk hbc
        have E_14 := Aside0.mk hb0
        clear hbC hbc hb0 hb
        refine hK.out _ _ ⟨(LC.out.of_below E_14.out).1, (LC.out.of_below E_14.out).2⟩ (fun hHeld => ?_)
        clear hK K
        refine norm_ (a' := ?_) ?_ ?_
        rotate_left
        · show Act.put _ (some 60) _ = _
          simp only [Act.put, List.setIfInBounds_toArray, List.set_cons_zero, List.set_cons_succ, i64_w, i32_w]
          rfl
        refine two_ (i := 15) (j := 20) (Ni := some 61) (Nj := some 12) #[true, true, true, true, true, true, true, true, true, true, true, true, true, true, true, true, false, false, false, false, false, false, false, false] #[true, true, true, true, true, true, true, true, true, true, true, true, true, true, true, false, false, false, false, false, true, false, false, false] rfl rfl rfl rfl (by kernel_rfl) (by decide) (by decide) (fun K hK => ?_) (fun K hK => ?_)
        · skip
          refine goes_ Tryd.func10 (by kernel_rfl) rfl #[.slice (some ⟨bb, 0, none⟩) (bytesOf (⟨Z4.toArray⟩)).length bc] (by rfl) rfl rfl (by simp only [List.map_toArray, List.map_cons, List.map_nil]; rfl) ?_
          refine (parse_l _ _ _ (bytesOf (⟨Z4.toArray⟩)) _ d0 d1 d2 d3 d4 d5 d6 d7 d8 d9 m f tl ol PB.out rfl CC.out CL.out (HL.out.below (below_step B7.out E_14.out))).mono ?_
          rintro e' x15 ⟨vT, vO, rfl, hT, hO, hb⟩
          refine ⟨_, rfl, ?_⟩
          obtain ⟨AT, cT, rfl⟩ := Kd.R_slice hT
          obtain ⟨AO, cO, rfl⟩ := Kd.R_slice hO
          have RT := Aside0.mk (Kd.R_lower hT (below_size E_14.out))
          have RO := Aside0.mk (Kd.R_lower hO (below_size E_14.out))
          have E_15 := Aside0.mk (below_step E_14.out hb)
          clear hT hO hb
          refine hK.out _ _ ⟨(LC.out.of_below E_15.out).1, (LC.out.of_below E_15.out).2⟩ (fun hHeld => ?_)
          clear hK K
          refine norm_ (a' := ?_) ?_ ?_
          rotate_left
          · show Act.put _ (some 61) _ = _
            simp only [Act.put, List.setIfInBounds_toArray, List.set_cons_zero, List.set_cons_succ, i64_w, i32_w]
            rfl
          refine pure_ (i := 16) (N := some 45) (v := ?_) (a' := ?_) #[true, true, true, true, true, true, true, true, true, true, true, true, true, true, true, true, true, false, false, false, false, false, false, false] rfl rfl (by kernel_rfl) (fun _ _ _ h => h) (Or.inl ⟨by rfl, ?_⟩) ?_ ?_
          rotate_left
          · intro w'
            go_simp
            with_reducible rfl
          rotate_left
          · simp only [Act.put, List.setIfInBounds_toArray, List.set_cons_zero, List.set_cons_succ, i64_w, i32_w]
            rfl
          refine pure_ (i := 17) (N := some 62) (v := ?_) (a' := ?_) #[true, true, true, true, true, true, true, true, true, true, true, true, true, true, true, true, true, true, false, false, false, false, false, false] rfl rfl (by kernel_rfl) (fun _ _ _ h => h) (Or.inl ⟨by rfl, ?_⟩) ?_ ?_
          rotate_left
          · intro w'
            go_simp
            with_reducible rfl
          rotate_left
          · simp only [Act.put, List.setIfInBounds_toArray, List.set_cons_zero, List.set_cons_succ, i64_w, i32_w]
            rfl
          refine pure_ (i := 18) (N := some 63) (v := ?_) (a' := ?_) #[true, true, true, true, true, true, true, true, true, true, true, true, true, true, true, true, true, true, true, false, false, false, false, false] rfl rfl (by kernel_rfl) (fun _ _ _ h => h) (Or.inl ⟨by rfl, ?_⟩) ?_ ?_
          rotate_left
          · intro w'
            go_simp
            with_reducible rfl
          rotate_left
          · simp only [Act.put, List.setIfInBounds_toArray, List.set_cons_zero, List.set_cons_succ, i64_w, i32_w]
            rfl
          refine pure_ (i := 19) (N := some 64) (v := ?_) (a' := ?_) #[true, true, true, true, true, true, true, true, true, true, true, true, true, true, true, true, true, true, true, true, false, false, false, false] rfl rfl (by kernel_rfl) (fun _ _ _ h => h) (Or.inl ⟨by rfl, ?_⟩) ?_ ?_
          rotate_left
          · intro w'
            go_simp
            with_reducible rfl
          rotate_left
          · simp only [Act.put, List.setIfInBounds_toArray, List.set_cons_zero, List.set_cons_succ, i64_w, i32_w]
            rfl
          refine one_ (i := 20) (N := some 12) #[true, true, true, true, true, true, true, true, true, true, true, true, true, true, true, true, true, true, true, true, true, false, false, false] rfl rfl (by kernel_rfl) (by decide) (fun K hK => ?_)
          refine box_step (by rfl) (N := 12) rfl (cs := #[.int .i64 0, .int .i64 0, .int .i64 0, .int .i64 0, .int .i64 0, .int .i64 0, .int .i64 0, .int .i64 0, .int .i64 0, .int .i64 0, .slice none 0 0, .slice none 0 0]) (t := 29) ?hr81 ?_
          (case hr81 => first | (go_simp; done) | (go_simp; rfl))
          intro o hg x20 hbox hb
          have ZX := Aside0.mk hbox
          have ZG := Aside0.mk (show w7.heap.size ≤ o by have := below_size E_15.out; omega)
          have E_20 := Aside0.mk (below_step E_15.out hb)
          have RT := Aside0.mk (Kd.R_below RT.out hb)
          have RO := Aside0.mk (Kd.R_below RO.out hb)
          clear hbox hb hg
          refine hK.out _ _ ⟨(LC.out.of_below E_20.out).1, (LC.out.of_below E_20.out).2⟩ (fun hHeld => ?_)
          clear hK K
          refine norm_ (a' := ?_) ?_ ?_
          rotate_left
          · show Act.put _ (some 12) _ = _
            simp only [Act.put, List.setIfInBounds_toArray, List.set_cons_zero, List.set_cons_succ, i64_w, i32_w]
            rfl
          exact norm_ (by simp only [putAll, Act.put, List.setIfInBounds_toArray, List.set_cons_zero, List.set_cons_succ]) (hCont (AT, cT, AO, cO, o, .slice (some ⟨bb, 0, none⟩) (bytesOf (⟨Z4.toArray⟩)).length bc) _ ⟨E_20, RT, RO, ZX, ZG⟩)
        · skip
          refine box_step (by rfl) (N := 12) rfl (cs := #[.int .i64 0, .int .i64 0, .int .i64 0, .int .i64 0, .int .i64 0, .int .i64 0, .int .i64 0, .int .i64 0, .int .i64 0, .int .i64 0, .slice none 0 0, .slice none 0 0]) (t := 29) ?hr82 ?_
          (case hr82 => first | (go_simp; done) | (go_simp; rfl))
          intro o hg x20 hbox hb
          have ZX := Aside0.mk hbox
          have ZG := Aside0.mk (show w7.heap.size ≤ o by have := below_size E_14.out; omega)
          have E_20 := Aside0.mk (below_step E_14.out hb)
          have CC := Aside0.mk (Kd.C_below CC.out hb)
          clear hbox hb hg
          refine hK.out _ _ ⟨(LC.out.of_below E_20.out).1, (LC.out.of_below E_20.out).2⟩ (fun hHeld => ?_)
          clear hK K
          refine norm_ (a' := ?_) ?_ ?_
          rotate_left
          · show Act.put _ (some 12) _ = _
            simp only [Act.put, List.setIfInBounds_toArray, List.set_cons_zero, List.set_cons_succ, i64_w, i32_w]
            rfl
          refine one_ (i := 15) (N := some 61) #[true, true, true, true, true, true, true, true, true, true, true, true, true, true, true, true, false, false, false, false, true, false, false, false] rfl rfl (by kernel_rfl) (by decide) (fun K hK => ?_)
          refine goes_ Tryd.func10 (by kernel_rfl) rfl #[.slice (some ⟨bb, 0, none⟩) (bytesOf (⟨Z4.toArray⟩)).length bc] (by rfl) rfl rfl (by simp only [List.map_toArray, List.map_cons, List.map_nil]; rfl) ?_
          refine (parse_l _ _ _ (bytesOf (⟨Z4.toArray⟩)) _ d0 d1 d2 d3 d4 d5 d6 d7 d8 d9 m f tl ol PB.out rfl CC.out CL.out (HL.out.below (below_step B7.out E_20.out))).mono ?_
          rintro e' x15 ⟨vT, vO, rfl, hT, hO, hb⟩
          refine ⟨_, rfl, ?_⟩
          obtain ⟨AT, cT, rfl⟩ := Kd.R_slice hT
          obtain ⟨AO, cO, rfl⟩ := Kd.R_slice hO
          have RT := Aside0.mk (Kd.R_lower hT (below_size E_20.out))
          have RO := Aside0.mk (Kd.R_lower hO (below_size E_20.out))
          have E_15 := Aside0.mk (below_step E_20.out hb)
          have ZX := Aside0.mk (blk_below ZX.out hb)
          clear hT hO hb
          refine hK.out _ _ ⟨(LC.out.of_below E_15.out).1, (LC.out.of_below E_15.out).2⟩ (fun hHeld => ?_)
          clear hK K
          refine norm_ (a' := ?_) ?_ ?_
          rotate_left
          · show Act.put _ (some 61) _ = _
            simp only [Act.put, List.setIfInBounds_toArray, List.set_cons_zero, List.set_cons_succ, i64_w, i32_w]
            rfl
          refine pure_ (i := 16) (N := some 45) (v := ?_) (a' := ?_) #[true, true, true, true, true, true, true, true, true, true, true, true, true, true, true, true, true, false, false, false, true, false, false, false] rfl rfl (by kernel_rfl) (fun _ _ _ h => h) (Or.inl ⟨by rfl, ?_⟩) ?_ ?_
          rotate_left
          · intro w'
            go_simp
            with_reducible rfl
          rotate_left
          · simp only [Act.put, List.setIfInBounds_toArray, List.set_cons_zero, List.set_cons_succ, i64_w, i32_w]
            rfl
          refine pure_ (i := 17) (N := some 62) (v := ?_) (a' := ?_) #[true, true, true, true, true, true, true, true, true, true, true, true, true, true, true, true, true, true, false, false, true, false, false, false] rfl rfl (by kernel_rfl) (fun _ _ _ h => h) (Or.inl ⟨by rfl, ?_⟩) ?_ ?_
          rotate_left
          · intro w'
            go_simp
            with_reducible rfl
          rotate_left
          · simp only [Act.put, List.setIfInBounds_toArray, List.set_cons_zero, List.set_cons_succ, i64_w, i32_w]
            rfl
          refine pure_ (i := 18) (N := some 63) (v := ?_) (a' := ?_) #[true, true, true, true, true, true, true, true, true, true, true, true, true, true, true, true, true, true, true, false, true, false, false, false] rfl rfl (by kernel_rfl) (fun _ _ _ h => h) (Or.inl ⟨by rfl, ?_⟩) ?_ ?_
          rotate_left
          · intro w'
            go_simp
            with_reducible rfl
          rotate_left
          · simp only [Act.put, List.setIfInBounds_toArray, List.set_cons_zero, List.set_cons_succ, i64_w, i32_w]
            rfl
          refine pure_ (i := 19) (N := some 64) (v := ?_) (a' := ?_) #[true, true, true, true, true, true, true, true, true, true, true, true, true, true, true, true, true, true, true, true, true, false, false, false] rfl rfl (by kernel_rfl) (fun _ _ _ h => h) (Or.inl ⟨by rfl, ?_⟩) ?_ ?_
          rotate_left
          · intro w'
            go_simp
            with_reducible rfl
          rotate_left
          · simp only [Act.put, List.setIfInBounds_toArray, List.set_cons_zero, List.set_cons_succ, i64_w, i32_w]
            rfl
          exact norm_ (by simp only [putAll, Act.put, List.setIfInBounds_toArray, List.set_cons_zero, List.set_cons_succ]) (hCont (AT, cT, AO, cO, o, .slice (some ⟨bb, 0, none⟩) (bytesOf (⟨Z4.toArray⟩)).length bc) _ ⟨E_15, RT, RO, ZX, ZG⟩)
      · skip
        refine box_step (by rfl) (N := 12) rfl (cs := #[.int .i64 0, .int .i64 0, .int .i64 0, .int .i64 0, .int .i64 0, .int .i64 0, .int .i64 0, .int .i64 0, .int .i64 0, .int .i64 0, .slice none 0 0, .slice none 0 0]) (t := 29) ?hr83 ?_
        (case hr83 => first | (go_simp; done) | (go_simp; rfl))
        intro o hg x20 hbox hb
        have ZX := Aside0.mk hbox
        have ZG := Aside0.mk (show w7.heap.size ≤ o by have := below_size (below_drew (Below.refl w7.heap.size w7)); omega)
        have E_20 := Aside0.mk (below_step (below_drew (Below.refl w7.heap.size w7)) hb)
        clear hbox hb hg
        refine hK.out _ _ ⟨(LC.out.of_below E_20.out).1, (LC.out.of_below E_20.out).2⟩ (fun hHeld => ?_)
        clear hK K
        refine norm_ (a' := ?_) ?_ ?_
        rotate_left
        · show Act.put _ (some 12) _ = _
          simp only [Act.put, List.setIfInBounds_toArray, List.set_cons_zero, List.set_cons_succ, i64_w, i32_w]
          rfl
        refine one_ (i := 14) (N := some 60) #[true, true, true, true, true, true, true, true, true, true, true, true, true, true, true, false, false, false, false, false, true, false, false, false] rfl rfl (by kernel_rfl) (by decide) (fun K hK => ?_)
        refine CO_conv_step (w0 := w7) w7.heap.size (by rfl) (N := 60) rfl 9 22 5 (.tmp 59) rfl Tryd.underlying9 Tryd.underlying22 Tryd.underlying5 (⟨Z4.toArray⟩) rfl (fun _ => True) trivial E_20.out (below_size E_20.out) (by have := SZ.out; simp only [ByteArray.size, List.size_toArray]; omega) ?_
        intro vc x14 hco hb0 hb _ _
        obtain ⟨bb, bc, rfl, hbc, -, -, hbC⟩ := hco
        have CC := Aside0.mk hbC
        have CL := Aside0.mk hbc
        have E_14 := Aside0.mk hb0
        have ZX := Aside0.mk (blk_below ZX.out hb)
        clear hbC hbc hb0 hb
        refine hK.out _ _ ⟨(LC.out.of_below E_14.out).1, (LC.out.of_below E_14.out).2⟩ (fun hHeld => ?_)
        clear hK K
        refine norm_ (a' := ?_) ?_ ?_
        rotate_left
        · show Act.put _ (some 60) _ = _
          simp only [Act.put, List.setIfInBounds_toArray, List.set_cons_zero, List.set_cons_succ, i64_w, i32_w]
          rfl
        refine one_ (i := 15) (N := some 61) #[true, true, true, true, true, true, true, true, true, true, true, true, true, true, true, true, false, false, false, false, true, false, false, false] rfl rfl (by kernel_rfl) (by decide) (fun K hK => ?_)
        refine goes_ Tryd.func10 (by kernel_rfl) rfl #[.slice (some ⟨bb, 0, none⟩) (bytesOf (⟨Z4.toArray⟩)).length bc] (by rfl) rfl rfl (by simp only [List.map_toArray, List.map_cons, List.map_nil]; rfl) ?_
        refine (parse_l _ _ _ (bytesOf (⟨Z4.toArray⟩)) _ d0 d1 d2 d3 d4 d5 d6 d7 d8 d9 m f tl ol PB.out rfl CC.out CL.out (HL.out.below (below_step B7.out E_14.out))).mono ?_
        rintro e' x15 ⟨vT, vO, rfl, hT, hO, hb⟩
        refine ⟨_, rfl, ?_⟩
        obtain ⟨AT, cT, rfl⟩ := Kd.R_slice hT
        obtain ⟨AO, cO, rfl⟩ := Kd.R_slice hO
        have RT := Aside0.mk (Kd.R_lower hT (below_size E_14.out))
        have RO := Aside0.mk (Kd.R_lower hO (below_size E_14.out))
        have E_15 := Aside0.mk (below_step E_14.out hb)
        have ZX := Aside0.mk (blk_below ZX.out hb)
        clear hT hO hb
        refine hK.out _ _ ⟨(LC.out.of_below E_15.out).1, (LC.out.of_below E_15.out).2⟩ (fun hHeld => ?_)
        clear hK K
        refine norm_ (a' := ?_) ?_ ?_
        rotate_left
        · show Act.put _ (some 61) _ = _
          simp only [Act.put, List.setIfInBounds_toArray, List.set_cons_zero, List.set_cons_succ, i64_w, i32_w]
          rfl
        refine pure_ (i := 16) (N := some 45) (v := ?_) (a' := ?_) #[true, true, true, true, true, true, true, true, true, true, true, true, true, true, true, true, true, false, false, false, true, false, false, false] rfl rfl (by kernel_rfl) (fun _ _ _ h => h) (Or.inl ⟨by rfl, ?_⟩) ?_ ?_
        rotate_left
        · intro w'
          go_simp
          with_reducible rfl
        rotate_left
        · simp only [Act.put, List.setIfInBounds_toArray, List.set_cons_zero, List.set_cons_succ, i64_w, i32_w]
          rfl
        refine pure_ (i := 17) (N := some 62) (v := ?_) (a' := ?_) #[true, true, true, true, true, true, true, true, true, true, true, true, true, true, true, true, true, true, false, false, true, false, false, false] rfl rfl (by kernel_rfl) (fun _ _ _ h => h) (Or.inl ⟨by rfl, ?_⟩) ?_ ?_
        rotate_left
        · intro w'
          go_simp
          with_reducible rfl
        rotate_left
        · simp only [Act.put, List.setIfInBounds_toArray, List.set_cons_zero, List.set_cons_succ, i64_w, i32_w]
          rfl
        refine pure_ (i := 18) (N := some 63) (v := ?_) (a' := ?_) #[true, true, true, true, true, true, true, true, true, true, true, true, true, true, true, true, true, true, true, false, true, false, false, false] rfl rfl (by kernel_rfl) (fun _ _ _ h => h) (Or.inl ⟨by rfl, ?_⟩) ?_ ?_
        rotate_left
        · intro w'
          go_simp
          with_reducible rfl
        rotate_left
        · simp only [Act.put, List.setIfInBounds_toArray, List.set_cons_zero, List.set_cons_succ, i64_w, i32_w]
          rfl
        refine pure_ (i := 19) (N := some 64) (v := ?_) (a' := ?_) #[true, true, true, true, true, true, true, true, true, true, true, true, true, true, true, true, true, true, true, true, true, false, false, false] rfl rfl (by kernel_rfl) (fun _ _ _ h => h) (Or.inl ⟨by rfl, ?_⟩) ?_ ?_
        rotate_left
        · intro w'
          go_simp
          with_reducible rfl
        rotate_left
        · simp only [Act.put, List.setIfInBounds_toArray, List.set_cons_zero, List.set_cons_succ, i64_w, i32_w]
          rfl
        exact norm_ (by simp only [putAll, Act.put, List.setIfInBounds_toArray, List.set_cons_zero, List.set_cons_succ]) (hCont (AT, cT, AO, cO, o, .slice (some ⟨bb, 0, none⟩) (bytesOf (⟨Z4.toArray⟩)).length bc) _ ⟨E_15, RT, RO, ZX, ZG⟩)
    · skip
      refine box_step (by rfl) (N := 12) rfl (cs := #[.int .i64 0, .int .i64 0, .int .i64 0, .int .i64 0, .int .i64 0, .int .i64 0, .int .i64 0, .int .i64 0, .int .i64 0, .int .i64 0, .slice none 0 0, .slice none 0 0]) (t := 29) ?hr84 ?_
      (case hr84 => first | (go_simp; done) | (go_simp; rfl))
      intro o hg x20 hbox hb
      have ZX := Aside0.mk hbox
      have ZG := Aside0.mk (show w7.heap.size ≤ o by have := below_size (below_drew (Below.refl w7.heap.size w7)); omega)
      have E_20 := Aside0.mk (below_step (below_drew (Below.refl w7.heap.size w7)) hb)
      clear hbox hb hg
      refine hK.out _ _ ⟨(LC.out.of_below E_20.out).1, (LC.out.of_below E_20.out).2⟩ (fun hHeld => ?_)
      clear hK K
      refine norm_ (a' := ?_) ?_ ?_
      rotate_left
      · show Act.put _ (some 12) _ = _
        simp only [Act.put, List.setIfInBounds_toArray, List.set_cons_zero, List.set_cons_succ, i64_w, i32_w]
        rfl
      refine one_ (i := 0) (N := some 46) #[true, true, true, true, true, false, false, true, false, true, true, true, true, false, false, false, false, false, false, false, true, false, false, false] rfl rfl (by kernel_rfl) (by decide) (fun K hK => ?_)
      refine goes_ Tryd.func16 (by kernel_rfl) rfl #[] (by rfl) rfl rfl (by simp only [List.map_toArray, List.map_cons, List.map_nil]) ?_
      with_reducible refine (head_calls _).mono ?_
      rintro e' w' ⟨rfl, rfl⟩
      refine ⟨_, rfl, ?_⟩
      refine hK.out _ _ ⟨(LC.out.of_below E_20.out).1, (LC.out.of_below E_20.out).2⟩ (fun hHeld => ?_)
      clear hK K
      refine norm_ (a' := ?_) ?_ ?_
      rotate_left
      · show Act.put _ (some 46) _ = _
        simp only [Act.put, List.setIfInBounds_toArray, List.set_cons_zero, List.set_cons_succ, i64_w, i32_w]
        rfl
      refine pure_ (i := 5) (N := some 51) (v := ?_) (a' := ?_) #[true, true, true, true, true, true, false, true, false, true, true, true, true, false, false, false, false, false, false, false, true, false, false, false] rfl rfl (by kernel_rfl) (fun _ _ _ h => h) (Or.inl ⟨by rfl, ?_⟩) ?_ ?_
      rotate_left
      · intro w'
        go_simp
        with_reducible rfl
      rotate_left
      · simp only [Act.put, List.setIfInBounds_toArray, List.set_cons_zero, List.set_cons_succ, i64_w, i32_w]
        rfl
      refine pure_ (i := 6) (N := some 52) (v := ?_) (a' := ?_) #[true, true, true, true, true, true, true, true, false, true, true, true, true, false, false, false, false, false, false, false, true, false, false, false] rfl rfl (by kernel_rfl) (fun _ _ _ h => h) (Or.inl ⟨by rfl, ?_⟩) ?_ ?_
      rotate_left
      · intro w'
        go_simp
        with_reducible rfl
      rotate_left
      · simp only [Act.put, List.setIfInBounds_toArray, List.set_cons_zero, List.set_cons_succ, i64_w, i32_w]
        rfl
      refine pure_ (i := 8) (N := some 54) (v := ?_) (a' := ?_) #[true, true, true, true, true, true, true, true, true, true, true, true, true, false, false, false, false, false, false, false, true, false, false, false] rfl rfl (by kernel_rfl) (fun _ _ _ h => h) (Or.inl ⟨by rfl, ?_⟩) ?_ ?_
      rotate_left
      · intro w'
        go_simp
        with_reducible rfl
      rotate_left
      · simp only [Act.put, List.setIfInBounds_toArray, List.set_cons_zero, List.set_cons_succ, i64_w, i32_w]
        rfl
      refine pure_ (i := 13) (N := some 59) (v := ?_) (a' := ?_) #[true, true, true, true, true, true, true, true, true, true, true, true, true, true, false, false, false, false, false, false, true, false, false, false] rfl rfl (by kernel_rfl) (fun _ _ _ h => h) (Or.inl ⟨by rfl, ?_⟩) ?_ ?_
      rotate_left
      · intro w'
        go_simp
        with_reducible rfl
      rotate_left
      · simp only [Act.put, List.setIfInBounds_toArray, List.set_cons_zero, List.set_cons_succ, i64_w, i32_w]
        rfl
      refine one_ (i := 14) (N := some 60) #[true, true, true, true, true, true, true, true, true, true, true, true, true, true, true, false, false, false, false, false, true, false, false, false] rfl rfl (by kernel_rfl) (by decide) (fun K hK => ?_)
      refine CO_conv_step (w0 := w7) w7.heap.size (by rfl) (N := 60) rfl 9 22 5 (.tmp 59) rfl Tryd.underlying9 Tryd.underlying22 Tryd.underlying5 (⟨Z4.toArray⟩) rfl (fun _ => True) trivial E_20.out (below_size E_20.out) (by have := SZ.out; simp only [ByteArray.size, List.size_toArray]; omega) ?_
      intro vc x14 hco hb0 hb _ _
      obtain ⟨bb, bc, rfl, hbc, -, -, hbC⟩ := hco
      have CC := Aside0.mk hbC
      have CL := Aside0.mk hbc
      have E_14 := Aside0.mk hb0
      have ZX := Aside0.mk (blk_below ZX.out hb)
      clear hbC hbc hb0 hb
      refine hK.out _ _ ⟨(LC.out.of_below E_14.out).1, (LC.out.of_below E_14.out).2⟩ (fun hHeld => ?_)
      clear hK K
      refine norm_ (a' := ?_) ?_ ?_
      rotate_left
      · show Act.put _ (some 60) _ = _
        simp only [Act.put, List.setIfInBounds_toArray, List.set_cons_zero, List.set_cons_succ, i64_w, i32_w]
        rfl
      refine one_ (i := 15) (N := some 61) #[true, true, true, true, true, true, true, true, true, true, true, true, true, true, true, true, false, false, false, false, true, false, false, false] rfl rfl (by kernel_rfl) (by decide) (fun K hK => ?_)
      refine goes_ Tryd.func10 (by kernel_rfl) rfl #[.slice (some ⟨bb, 0, none⟩) (bytesOf (⟨Z4.toArray⟩)).length bc] (by rfl) rfl rfl (by simp only [List.map_toArray, List.map_cons, List.map_nil]; rfl) ?_
      refine (parse_l _ _ _ (bytesOf (⟨Z4.toArray⟩)) _ d0 d1 d2 d3 d4 d5 d6 d7 d8 d9 m f tl ol PB.out rfl CC.out CL.out (HL.out.below (below_step B7.out E_14.out))).mono ?_
      rintro e' x15 ⟨vT, vO, rfl, hT, hO, hb⟩
      refine ⟨_, rfl, ?_⟩
      obtain ⟨AT, cT, rfl⟩ := Kd.R_slice hT
      obtain ⟨AO, cO, rfl⟩ := Kd.R_slice hO
      have RT := Aside0.mk (Kd.R_lower hT (below_size E_14.out))
      have RO := Aside0.mk (Kd.R_lower hO (below_size E_14.out))
      have E_15 := Aside0.mk (below_step E_14.out hb)
      have ZX := Aside0.mk (blk_below ZX.out hb)
      clear hT hO hb
      refine hK.out _ _ ⟨(LC.out.of_below E_15.out).1, (LC.out.of_below E_15.out).2⟩ (fun hHeld => ?_)
      clear hK K
      refine norm_ (a' := ?_) ?_ ?_
      rotate_left
      · show Act.put _ (some 61) _ = _
        simp only [Act.put, List.setIfInBounds_toArray, List.set_cons_zero, List.set_cons_succ, i64_w, i32_w]
        rfl
      refine pure_ (i := 16) (N := some 45) (v := ?_) (a' := ?_) #[true, true, true, true, true, true, true, true, true, true, true, true, true, true, true, true, true, false, false, false, true, false, false, false] rfl rfl (by kernel_rfl) (fun _ _ _ h => h) (Or.inl ⟨by rfl, ?_⟩) ?_ ?_
      rotate_left
      · intro w'
        go_simp
        with_reducible rfl
      rotate_left
      · simp only [Act.put, List.setIfInBounds_toArray, List.set_cons_zero, List.set_cons_succ, i64_w, i32_w]
        rfl
      refine pure_ (i := 17) (N := some 62) (v := ?_) (a' := ?_) #[true, true, true, true, true, true, true, true, true, true, true, true, true, true, true, true, true, true, false, false, true, false, false, false] rfl rfl (by kernel_rfl) (fun _ _ _ h => h) (Or.inl ⟨by rfl, ?_⟩) ?_ ?_
      rotate_left
      · intro w'
        go_simp
        with_reducible rfl
      rotate_left
      · simp only [Act.put, List.setIfInBounds_toArray, List.set_cons_zero, List.set_cons_succ, i64_w, i32_w]
        rfl
      refine pure_ (i := 18) (N := some 63) (v := ?_) (a' := ?_) #[true, true, true, true, true, true, true, true, true, true, true, true, true, true, true, true, true, true, true, false, true, false, false, false] rfl rfl (by kernel_rfl) (fun _ _ _ h => h) (Or.inl ⟨by rfl, ?_⟩) ?_ ?_
      rotate_left
      · intro w'
        go_simp
        with_reducible rfl
      rotate_left
      · simp only [Act.put, List.setIfInBounds_toArray, List.set_cons_zero, List.set_cons_succ, i64_w, i32_w]
        rfl
      refine pure_ (i := 19) (N := some 64) (v := ?_) (a' := ?_) #[true, true, true, true, true, true, true, true, true, true, true, true, true, true, true, true, true, true, true, true, true, false, false, false] rfl rfl (by kernel_rfl) (fun _ _ _ h => h) (Or.inl ⟨by rfl, ?_⟩) ?_ ?_
      rotate_left
      · intro w'
        go_simp
        with_reducible rfl
      rotate_left
      · simp only [Act.put, List.setIfInBounds_toArray, List.set_cons_zero, List.set_cons_succ, i64_w, i32_w]
        rfl
      exact norm_ (by simp only [putAll, Act.put, List.setIfInBounds_toArray, List.set_cons_zero, List.set_cons_succ]) (hCont (AT, cT, AO, cO, o, .slice (some ⟨bb, 0, none⟩) (bytesOf (⟨Z4.toArray⟩)).length bc) _ ⟨E_15, RT, RO, ZX, ZG⟩)
  rintro ⟨AT8, cT8, AO8, cO8, o8, vc⟩ x8 ⟨EB, RT, RO, ZX, ZG⟩
  obtain ⟨z0, z1, z2, z3, z4, z5, z6, z7, z8, z9, z10, z11, g0, g1, g2, g3, g4, g5, g6, g7, g8, g9, g10, g11⟩ := cells12 ZX.out
  have hHeld : x8.cell? (adL.add j.toNat) = some (.string (⟨la.toArray⟩ : ByteArray)) ∧ x8.cell? (adB.add j.toNat) = some (.string (⟨lb.toArray⟩ : ByteArray)) := ⟨(LC.out.of_below EB.out).1, (LC.out.of_below EB.out).2⟩
  refine norm_ (a' := ?_) ?_ ?_
  rotate_left
  · simp only [putAll, Act.put, List.setIfInBounds_toArray, List.set_cons_zero, List.set_cons_succ]
    rfl
  refine last_ (i := 21) (N := none) #[true, true, true, true, true, true, true, true, true, true, true, true, true, true, true, true, true, true, true, true, true, true, false, false] rfl rfl (by kernel_rfl) (by decide) (fun K hK => ?_)
  refine skip_ (w1 := ?_) (by rfl) rfl ?_ ?_
  rotate_left
  · go_simp
    rfl
  refine hK.out _ _ ?_
  clear hK K
  refine pure_ (i := 22) (N := some 13) (v := ?_) (a' := ?_) #[true, true, true, true, true, true, true, true, true, true, true, true, true, true, true, true, true, true, true, true, true, true, true, false] rfl rfl (by kernel_rfl) (fun _ _ _ h => h) (Or.inl ⟨by rfl, ?_⟩) ?_ ?_
  rotate_left
  · intro w'
    go_simp
    with_reducible rfl
  rotate_left
  · simp only [Act.put, List.setIfInBounds_toArray, List.set_cons_zero, List.set_cons_succ, i64_w, i32_w]
    rfl
  refine pure_ (i := 23) (N := some 14) (v := ?_) (a' := ?_) #[true, true, true, true, true, true, true, true, true, true, true, true, true, true, true, true, true, true, true, true, true, true, true, true] rfl rfl (by kernel_rfl) (fun _ _ _ h => h) (Or.inl ⟨by rfl, ?_⟩) ?_ ?_
  rotate_left
  · intro w'
    go_simp
    with_reducible rfl
  rotate_left
  · simp only [Act.put, List.setIfInBounds_toArray, List.set_cons_zero, List.set_cons_succ, i64_w, i32_w]
    rfl
  refine done_ (by kernel_rfl) ?_
  obtain ⟨w8, hw, hX, hBx⟩ := put12 (.int .i64 d0) (.int .i64 d1) (.int .i64 d2) (.int .i64 d3) (.int .i64 d4) (.int .i64 d5) (.int .i64 d6) (.int .i64 d7) (.int .i64 d8) (.int .i64 d9) (.slice AT8 tl.length cT8) (.slice AO8 ol.length cO8) ZX.out EB.out ZG.out
  rw [← hw]
  have F8 := Aside0.mk (blk_below F7.out hBx)
  have RT8 := Aside0.mk (Kd.R_below RT7.out hBx)
  have RO8 := Aside0.mk (Kd.R_below RO7.out hBx)
  have B8 := Aside0.mk (below_step B7.out hBx)
  clear hw hX hBx ZX EB ZG RT RO z0 z1 z2 z3 z4 z5 z6 z7 z8 z9 z10 z11 g0 g1 g2 g3 g4 g5 g6 g7 g8 g9 g10 g11 hHeld F7 RT7 RO7 B7 LC a1 a2 a3 a4 a5 a6 i1 i2
  have h2 := RES2.out
  simp only [zeroF, Prod.mk.injEq] at h2
  obtain ⟨-, rfl, rfl⟩ := h2
  obtain ⟨un, hun⟩ : ∃ n : Int, n = (u : Int) := ⟨_, rfl⟩
  rw [← hun]
  have h1 := RES.out
  rw [← hun] at h1
  have HUN := Aside0.mk hun
  clear hun
  by_cases hb : un > 1048576
  · rw [if_pos hb] at h1
    have kb : decide (1048576 < un) = true := decide_eq_true hb
    clear hb
    simp only [zeroF, Prod.mk.injEq] at h1
    obtain ⟨-, rfl, rfl⟩ := h1
    go_wp2
    first | go_ret | go_ret2
    exact ⟨by first | rfl | simp, B8.out⟩
  rw [if_neg hb] at h1
  have kb : decide (1048576 < un) = false := decide_eq_false hb
  clear hb
  simp only [Prod.mk.injEq] at h1
  obtain ⟨hf, rfl, rfl⟩ := h1
  have HF := Aside0.mk hf
  have hl1 : tk.length + ok.length = 1 := by
    have ht : tk = (fileJ jn un).tasks := by rw [hf]
    have ho : ok = (fileJ jn un).ops := by rw [hf]
    rw [ht, ho]
    unfold fileJ
    split <;> rfl
  have hlen : wrap64 ((tk.length : Int) + (ok.length : Int)) = 1 := by unfold wrap64; omega
  clear hf hl1
  obtain ⟨-, -, -, -, -, -, -, -, -, -, q10, q11, -, -, -, -, -, -, -, -, -, -, -, -⟩ := cells12 F8.out
  go_upto_region 16 with (fail)
  clear hlen kb q10 q11
  have hj := HJ.out
  have hjj := HJJ.out
  have hf := HF.out
  clear HF HJ HJJ
  have hcase : jn = 0 ∨ jn = 1 ∨ jn = 2 ∨ jn = 3 ∨ jn = 4 ∨ jn = 5 ∨ jn = 6 ∨ jn = 7 := by omega
  rcases hcase with rfl | rfl | rfl | rfl | rfl | rfl | rfl | rfl
  · obtain rfl : j = 0 := by omega
    have h3 := congrArg FileS.tasks hf
    simp only [fileJ, hf] at h3
    subst h3
    obtain ⟨ad, ead, u0, u1⟩ := tk_get (Kd.R_reads' RT8.out).2.2 0 (by simp)
    subst ead
    clear hf hj hjj
    obtain ⟨-, -, -, -, -, -, -, -, -, -, q10, q11, -, -, -, -, -, -, -, -, -, -, -, -⟩ := cells12 F8.out
    simp only [Nat.zero_mul, List.getD_cons_zero, Addr.add_zero'] at u0 u1
    go_wp2
    first | go_ret | go_ret2
    exact ⟨by first | rfl | simp, B8.out⟩
  · obtain rfl : j = 1 := by omega
    have h3 := congrArg FileS.tasks hf
    simp only [fileJ, hf] at h3
    subst h3
    obtain ⟨ad, ead, u0, u1⟩ := tk_get (Kd.R_reads' RT8.out).2.2 0 (by simp)
    subst ead
    clear hf hj hjj
    obtain ⟨-, -, -, -, -, -, -, -, -, -, q10, q11, -, -, -, -, -, -, -, -, -, -, -, -⟩ := cells12 F8.out
    simp only [Nat.zero_mul, List.getD_cons_zero, Addr.add_zero'] at u0 u1
    go_wp2
    first | go_ret | go_ret2
    exact ⟨by first | rfl | simp, B8.out⟩
  · obtain rfl : j = 2 := by omega
    have h3 := congrArg FileS.ops hf
    simp only [fileJ, hf] at h3
    subst h3
    obtain ⟨ad, ead, u0, u1, u2, u3, u4⟩ := op_get (Kd.R_reads' RO8.out).2.2 0 (by simp)
    subst ead
    clear hf hj hjj
    obtain ⟨-, -, -, -, -, -, -, -, -, -, q10, q11, -, -, -, -, -, -, -, -, -, -, -, -⟩ := cells12 F8.out
    simp only [Nat.zero_mul, List.getD_cons_zero, Addr.add_zero'] at u0 u1 u2 u3 u4
    go_wp2
    first | go_ret | go_ret2
    exact ⟨by first | rfl | simp, B8.out⟩
  · obtain rfl : j = 3 := by omega
    have h3 := congrArg FileS.ops hf
    simp only [fileJ, hf] at h3
    subst h3
    obtain ⟨ad, ead, u0, u1, u2, u3, u4⟩ := op_get (Kd.R_reads' RO8.out).2.2 0 (by simp)
    subst ead
    clear hf hj hjj
    obtain ⟨-, -, -, -, -, -, -, -, -, -, q10, q11, -, -, -, -, -, -, -, -, -, -, -, -⟩ := cells12 F8.out
    simp only [Nat.zero_mul, List.getD_cons_zero, Addr.add_zero'] at u0 u1 u2 u3 u4
    go_wp2
    first | go_ret | go_ret2
    exact ⟨by first | rfl | simp, B8.out⟩
  · obtain rfl : j = 4 := by omega
    have h3 := congrArg FileS.ops hf
    simp only [fileJ, hf] at h3
    subst h3
    obtain ⟨ad, ead, u0, u1, u2, u3, u4⟩ := op_get (Kd.R_reads' RO8.out).2.2 0 (by simp)
    subst ead
    clear hf hj hjj
    obtain ⟨-, -, -, -, -, -, -, -, -, -, q10, q11, -, -, -, -, -, -, -, -, -, -, -, -⟩ := cells12 F8.out
    simp only [Nat.zero_mul, List.getD_cons_zero, Addr.add_zero'] at u0 u1 u2 u3 u4
    go_wp2
    first | go_ret | go_ret2
    exact ⟨by first | rfl | simp, B8.out⟩
  · obtain rfl : j = 5 := by omega
    have h3 := congrArg FileS.ops hf
    simp only [fileJ, hf] at h3
    subst h3
    obtain ⟨ad, ead, u0, u1, u2, u3, u4⟩ := op_get (Kd.R_reads' RO8.out).2.2 0 (by simp)
    subst ead
    clear hf hj hjj
    obtain ⟨-, -, -, -, -, -, -, -, -, -, q10, q11, -, -, -, -, -, -, -, -, -, -, -, -⟩ := cells12 F8.out
    simp only [Nat.zero_mul, List.getD_cons_zero, Addr.add_zero'] at u0 u1 u2 u3 u4
    go_wp2
    first | go_ret | go_ret2
    exact ⟨by first | rfl | simp, B8.out⟩
  · obtain rfl : j = 6 := by omega
    have h3 := congrArg FileS.ops hf
    simp only [fileJ, hf] at h3
    subst h3
    obtain ⟨ad, ead, u0, u1, u2, u3, u4⟩ := op_get (Kd.R_reads' RO8.out).2.2 0 (by simp)
    subst ead
    clear hf hj hjj
    obtain ⟨-, -, -, -, -, -, -, -, -, -, q10, q11, -, -, -, -, -, -, -, -, -, -, -, -⟩ := cells12 F8.out
    simp only [Nat.zero_mul, List.getD_cons_zero, Addr.add_zero'] at u0 u1 u2 u3 u4
    go_wp2
    first | go_ret | go_ret2
    exact ⟨by first | rfl | simp, B8.out⟩
  · obtain rfl : j = 7 := by omega
    have h3 := congrArg FileS.ops hf
    simp only [fileJ, hf] at h3
    subst h3
    obtain ⟨ad, ead, u0, u1, u2, u3, u4⟩ := op_get (Kd.R_reads' RO8.out).2.2 0 (by simp)
    subst ead
    clear hf hj hjj
    obtain ⟨-, -, -, -, -, -, -, -, -, -, q10, q11, -, -, -, -, -, -, -, -, -, -, -, -⟩ := cells12 F8.out
    simp only [Nat.zero_mul, List.getD_cons_zero, Addr.add_zero'] at u0 u1 u2 u3 u4
    go_wp2
    first | go_ret | go_ret2
    exact ⟨by first | rfl | simp, B8.out⟩
end Go.Proofs.YtegbfimfpkendaaDoor.PbNm
