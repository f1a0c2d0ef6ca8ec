/- The walks of what a text that is written does: WriteString, number. Condition for number: the table uint64pow10 is laid. -/
import Derived.Test.YtegbfimfpkendaaDoorPaN
import Derived.Lib.Builder
import Derived.Lib.AppendStr
import Derived.Lib.UnsafeStr
import Derived.Laws.Externs
namespace Go.Proofs.YtegbfimfpkendaaDoor.PaO
open Go.RowKit Go.Proofs.YtegbfimfpkendaaDoorW.PrintWords Go.Proofs.YtegbfimfpkendaaDoorW.PrintLast Go.Proofs.YtegbfimfpkendaaDoorW.PrintMore LexS LexB PaA LexBox PaC PaD PaB PaE PaF PaG PaH
set_option linter.unusedVariables false
set_option linter.unusedSimpArgs false
theorem infoB : (Tryd.prog.info? 72).map (fun i => i.size) = some 2 := by kernel_rfl
theorem infoU8 : (Tryd.prog.info? 5).map (fun i => (i.zero, i.size, i.bytes)) = some (some (.int .u8 0), 1, 1) := by kernel_rfl
theorem liesT : liesAt Tryd.prog Tryd.prog.depth 74 (3 / Tryd.prog.cellsOf 74) 0 72 1 = true := by kernel_rfl
structure TextV (B b : Nat) (p v : Value) (out : List UInt8) (bad : Bool) (w : World) : Prop where
  ge : B ≤ b
  box : w.heap[b]? = some (.cells #[p, v, .bool bad] 74 (0, 0))
  own : w.ownsRow B 5 1 v (Lib.byteCells out).length (Lib.byteCells out)
def TextAt (B b : Nat) (out : List UInt8) (bad : Bool) (w : World) : Prop := ∃ p v, (p = .pointer none ∨ p = .pointer (some ⟨b, 0, none⟩)) ∧ TextV B b p v out bad w
structure KeepU (w w' : World) (b : Nat) : Prop where
  size : w.heap.size ≤ w'.heap.size
  block : ∀ k cs t, k ≠ b → t ≠ 5 → w.heap[k]? = some (.cells cs t (0, 0)) → w'.heap[k]? = some (.cells cs t (0, 0))
theorem KeepU.refl (w : World) (b : Nat) : KeepU w w b := ⟨Nat.le_refl _, fun _ _ _ _ _ h => h⟩
theorem KeepU.trans {w w1 w2 : World} {b : Nat} (h : KeepU w w1 b) (k : KeepU w1 w2 b) : KeepU w w2 b := ⟨Nat.le_trans h.size k.size, fun i cs t h1 h2 hb => k.block i cs t h1 h2 (h.block i cs t h1 h2 hb)⟩
theorem KeepU.of_below {w w' : World} (h : Below w.heap.size w w') (b : Nat) : KeepU w w' b := ⟨h.size, fun _ _ _ _ _ hb => blk_below hb h⟩
theorem KeepU.set {w w' : World} {b : Nat} (h : KeepU w w' b) (j : Nat) (v : Value) : KeepU w (w'.setCell ⟨b, j, none⟩ v) b := ⟨by simpa [World.setCell] using h.size, fun k cs t h1 h2 hb => blk_far (h.block k cs t h1 h2 hb) h1 v⟩
section text
variable {B b : Nat} {p v : Value} {out : List UInt8} {bad : Bool} {w w' : World}
theorem TextV.apart (h : TextV B b p v out bad w) : some b ≠ v.ownBlock := fun e => by
  obtain ⟨cells, hc⟩ := own_typed h.own b e.symm
  exact blk_ne h.box hc (by decide) rfl
theorem own_far {x : Value} {j : Nat} {n : Nat} {cs : List Value} (h : w.ownsRow B 5 1 v n cs) (hne : some b ≠ v.ownBlock) : (w.setCell ⟨b, j, none⟩ x).ownsRow B 5 1 v n cs :=
  own_move h (fun k hk => Below.heap_setCell w ⟨b, j, none⟩ x k (by rintro rfl; exact hne hk.symm))
theorem TextV.used (h : TextV B b p v out bad w) (q : Value) : TextV B b q v out bad (w.setCell ⟨b, 0, none⟩ q) :=
  ⟨h.ge, blk_put h.box 0 q rfl, own_far h.own h.apart⟩
theorem TextV.setBad (h : TextV B b p v out bad w) (x : Bool) : TextV B b p v out x (w.setCell ⟨b, 2, none⟩ (.bool x)) :=
  ⟨h.ge, blk_put h.box 2 _ rfl, own_far h.own h.apart⟩
theorem TextV.below (h : TextV B b p v out bad w) (hb : Below w.heap.size w w') : TextV B b p v out bad w' :=
  ⟨h.ge, blk_below h.box hb, own_move h.own (fun k hk => by obtain ⟨cells, hc⟩ := own_typed h.own k hk; exact hb.block k (blk_lt hc))⟩
theorem TextAt.below (h : TextAt B b out bad w) (hb : Below w.heap.size w w') : TextAt B b out bad w' := by
  obtain ⟨p, v, hp, hv⟩ := h
  exact ⟨p, v, hp, hv.below hb⟩
theorem TextAt.lt (h : TextAt B b out bad w) : b < w.heap.size := by
  obtain ⟨p, v, hp, hv⟩ := h
  exact blk_lt hv.box
theorem TextAt.bads (h : TextAt B b out bad w) : w.cell? ⟨b, 2, none⟩ = some (.bool bad) ∧ w.frozen? ⟨b, 2, none⟩ = false := by
  obtain ⟨p, v, hp, hv⟩ := h
  exact ⟨(blk_cell hv.box 2).trans rfl, blk_frozen hv.box 2⟩
theorem TextAt.setBad (h : TextAt B b out bad w) (x : Bool) : TextAt B b out x (w.setCell ⟨b, 2, none⟩ (.bool x)) := by
  obtain ⟨p, v, hp, hv⟩ := h
  exact ⟨p, v, hp, hv.setBad x⟩
theorem TextAt.far (h : TextAt B b out bad w) {g j : Nat} (hg : g ≠ b) (ht : ∃ cs t, w.heap[g]? = some (.cells cs t (0, 0)) ∧ t ≠ 5) (x : Value) : TextAt B b out bad (w.setCell ⟨g, j, none⟩ x) := by
  obtain ⟨p, v, hp, hv⟩ := h
  obtain ⟨cs, t, hc, hne⟩ := ht
  refine ⟨p, v, hp, hv.ge, blk_far hv.box (Ne.symm hg) x, own_far hv.own (fun e => ?_)⟩
  obtain ⟨cells, hc'⟩ := own_typed hv.own g e.symm
  exact blk_ne hc hc' hne rfl
end text
set_option maxHeartbeats 1000000 in
set_option maxRecDepth 100000 in
theorem check_used (b : Nat) (w : World) (h0 : w.cell? ⟨b, 0, none⟩ = some (.pointer (some ⟨b, 0, none⟩))) :
    Calls Tryd.prog 46 #[.pointer (some ⟨b, 0, none⟩)] w fun e w' => e = .returned (.tuple #[]) ∧ w' = w := by
  obtain ⟨j, hj, _⟩ := Option.map_eq_some_iff.1 infoB
  go_enter Tryd.func46, Tryd.ntmps46
  go_wp2
  rw [Lib.run_neq_ptr_same w _ Tryd.underlying70 hj]
  go_wp2
  go_end0
  exact ⟨rfl, rfl⟩
set_option maxHeartbeats 1000000 in
set_option maxRecDepth 100000 in
theorem check_fresh (b : Nat) (w : World) (h0 : w.cell? ⟨b, 0, none⟩ = some (.pointer none)) (hsh : w.shape? b = some (74, 3)) (hfz : w.frozen? ⟨b, 0, none⟩ = false) :
    Calls Tryd.prog 46 #[.pointer (some ⟨b, 0, none⟩)] w fun e w' => e = .returned (.tuple #[]) ∧ w' = w.setCell ⟨b, 0, none⟩ (.pointer (some ⟨b, 0, none⟩)) := by
  obtain ⟨j, hj, hjs⟩ := Option.map_eq_some_iff.1 infoB
  go_enter Tryd.func46, Tryd.ntmps46
  go_wp2
  rw [Lib.run_to_unsafe w ⟨b, 0, none⟩ Tryd.underlying70 Tryd.underlying121 hj (by rw [hjs]; decide) hsh (Nat.zero_lt_succ 2)]
  simp only [Result.andThen]
  rw [Oper.upon_value]
  go_wp2
  rw [run_callFunc_extern Tryd.func52 (by kernel_rfl) (by kernel_rfl) (by kernel_rfl) (e := Extern.AbiNoEscape.same) (by kernel_rfl)]
  rw [Lib.run_noEscape]
  simp only [Result.andThen]
  rw [Oper.upon_value]
  go_wp2
  rw [Lib.run_from_unsafe w ⟨b, 0, none⟩ Tryd.underlying121 Tryd.underlying70 hj hsh liesT]
  simp only [Result.andThen]
  rw [Oper.upon_value]
  go_wp2
  go_end0
  exact ⟨rfl, rfl⟩
def CheckPost (B b : Nat) (v : Value) (out : List UInt8) (bad : Bool) (w : World) (e : Ending) (w' : World) : Prop :=
  e = .returned (.tuple #[]) ∧ TextV B b (.pointer (some ⟨b, 0, none⟩)) v out bad w' ∧ Below B w w' ∧ (∀ k, k ≠ b → w'.heap[k]? = w.heap[k]?) ∧ w'.heap.size = w.heap.size
theorem check_calls (B b : Nat) (p v : Value) (out : List UInt8) (bad : Bool) (w : World) (hp : p = .pointer none ∨ p = .pointer (some ⟨b, 0, none⟩)) (h : TextV B b p v out bad w) :
    Calls Tryd.prog 46 #[.pointer (some ⟨b, 0, none⟩)] w (CheckPost B b v out bad w) := by
  have h0 : w.cell? ⟨b, 0, none⟩ = some p := (blk_cell h.box 0).trans rfl
  rcases hp with rfl | rfl
  · refine (check_fresh b w h0 (by simp [World.shape?, h.box]) (blk_frozen h.box 0)).mono ?_
    rintro e w' ⟨rfl, rfl⟩
    exact ⟨rfl, h.used _, (Below.refl B w).setCell (p := ⟨b, 0, none⟩) h.ge _, fun k hk => Below.heap_setCell w ⟨b, 0, none⟩ _ k hk, by simp [World.setCell]⟩
  · refine (check_used b w h0).mono ?_
    rintro e w' ⟨rfl, rfl⟩
    exact ⟨rfl, h, Below.refl B _, fun _ _ => rfl, rfl⟩
def WritePost (B b : Nat) (out : List UInt8) (bad : Bool) (w : World) (n : Int) (e : Ending) (w' : World) : Prop :=
  e = .returned (.tuple #[.int .i64 n, .nilIface]) ∧ TextAt B b out bad w' ∧ Below B w w' ∧ KeepU w w' b
set_option maxHeartbeats 2000000 in
set_option maxRecDepth 100000 in
theorem write_calls (B b : Nat) (out : List UInt8) (bad : Bool) (s : ByteArray) (w : World) (h : TextAt B b out bad w) (hlen : out.length + s.size ≤ 140737488355328) (hBw : B ≤ w.heap.size) :
    Calls Tryd.prog 24 #[.pointer (some ⟨b, 0, none⟩), .string s] w (WritePost B b (out ++ s.data.toList) bad w s.size) := by
  obtain ⟨i0, hi, hz0, hz1, hz2⟩ := info_parts infoU8
  obtain ⟨p, v, hp, hv⟩ := h
  have HV := Aside0.mk hv
  clear hv
  go_enter Tryd.func24, Tryd.ntmps24
  go_wp2_with fail
  refine (check_calls B b p v out bad _ hp HV.out).mono ?_
  rintro e w1 ⟨rfl, h1, hb1, hkeep, hsz⟩
  have H1 := Aside0.mk h1
  have HB1 := Aside0.mk hb1
  have HK := Aside0.mk hkeep
  have HSZ := Aside0.mk hsz
  clear h1 hb1 hkeep hsz
  have c0 : w1.cell? ⟨b, 0, none⟩ = some (.pointer (some ⟨b, 0, none⟩)) := (blk_cell H1.out.box 0).trans rfl
  have c1 : w1.cell? ⟨b, 1, none⟩ = some v := (blk_cell H1.out.box 1).trans rfl
  go_wp2_with (at_builtin; refine Lib.wpList_append_own_string _ rfl _ _ 22 9 rfl B 5 i0 Tryd.underlying22 Tryd.underlying9 hi hz0 hz1 hz2 _ _ _ rfl H1.out.own s rfl ?c3 ?c4 ?c5 ?_)
  case c3 => rw [Lib.byteCells_length]; unfold maxLen; omega
  case c4 => rw [Lib.byteCells_length]; omega
  case c5 => have := HB1.out.size; omega
  intro v' w2 hown' hgrow _
  have hb2 := blk_grown H1.out.box hgrow H1.out.apart
  have d0 : w2.cell? ⟨b, 0, none⟩ = some (.pointer (some ⟨b, 0, none⟩)) := (blk_cell hb2 0).trans rfl
  have d1 : w2.cell? ⟨b, 1, none⟩ = some v := (blk_cell hb2 1).trans rfl
  have f1 : w2.frozen? ⟨b, 1, none⟩ = false := blk_frozen hb2 1
  obtain ⟨ao, n', cap, rfl⟩ : ∃ ao n' cap, v' = .slice ao n' cap := by
    rcases hown'.2 with ⟨hv, _⟩ | ⟨g, cap, cur, hv, _⟩
    · exact ⟨_, _, _, hv⟩
    · exact ⟨_, _, _, hv⟩
  have HOWN := Aside0.mk hown'
  have HG := Aside0.mk hgrow
  have HB2 := Aside0.mk hb2
  clear hown' hgrow hb2
  go_wp2
  go_ret2
  have hown2 : w2.ownsRow B 5 1 (.slice ao n' cap) (Lib.byteCells (out ++ s.data.toList)).length (Lib.byteCells (out ++ s.data.toList)) := by
    have := HOWN.out
    rw [Lib.byteCells_append, ← Lib.strCells_eq, List.length_append, Lib.strCells_length]
    exact this
  have hap : some b ≠ (Value.slice ao n' cap).ownBlock := fun e => by
    obtain ⟨cells, hc⟩ := own_typed hown2 b e.symm
    exact blk_ne HB2.out hc (by decide) rfl
  refine ⟨rfl, ⟨_, _, .inr rfl, H1.out.ge, blk_put HB2.out 1 _ rfl, own_far hown2 hap⟩, ?_, ?_, ?_⟩
  · exact (HB1.out.grown HG.out (by have := HB1.out.size; omega) (fun k hk => (H1.out.own.lt k hk).1)).setCell (p := ⟨b, 1, none⟩) H1.out.ge _
  · have := HG.out.size; have := HSZ.out; simp [World.setCell]; omega
  · intro k cs t hkb ht hk
    have h1 : w1.heap[k]? = some (.cells cs t (0, 0)) := (HK.out k hkb).trans hk
    have h2 : w2.heap[k]? = w1.heap[k]? := HG.out.block k (blk_lt h1) (fun he => by
      obtain ⟨cells, hc⟩ := own_typed H1.out.own k he.symm
      exact blk_ne h1 hc ht rfl)
    exact (Below.heap_setCell w2 ⟨b, 1, none⟩ _ k hkb).trans (h2.trans h1)
end Go.Proofs.YtegbfimfpkendaaDoor.PaO
