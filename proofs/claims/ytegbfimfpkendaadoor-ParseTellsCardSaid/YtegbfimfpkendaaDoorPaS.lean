/- The walks of String over a text, and of parse's Text. Conditions: the tables names, forms, answers and uint64pow10 are laid. -/
import Derived.Test.YtegbfimfpkendaaDoorPaR
namespace Go.Proofs.YtegbfimfpkendaaDoor.PaS
open Go.RowKit Go.Proofs.YtegbfimfpkendaaDoorW.PrintWords Go.Proofs.YtegbfimfpkendaaDoorW.PrintLast Go.Proofs.YtegbfimfpkendaaDoorW.PrintMore LexS LexB PaA LexBox PaC PaD PaB PaE PaF PaG PaH PaO PaP PaQ PaR
set_option linter.unusedVariables false
set_option linter.unusedSimpArgs false
theorem cellsByte : Tryd.prog.cellsOf 5 = 1 := by kernel_rfl
set_option maxHeartbeats 2000000 in
set_option maxRecDepth 100000 in
theorem string_t (B b : Nat) (l : List UInt8) (bad : Bool) (w : World) (h : TextAt B b l bad w) (h0 : l ≠ []) :
    Calls Tryd.prog 28 #[.pointer (some ⟨b, 0, none⟩)] w fun e w' => e = .returned (.string ⟨l.toArray⟩) ∧ Below B w w' := by
  obtain ⟨p, v, hp, hv⟩ := h
  have hl0 : l.length ≠ 0 := by simpa using h0
  have hown := hv.own
  rw [Lib.byteCells_length] at hown
  obtain ⟨g, cap, cur, rfl, hbg, hg, hnc, hcm, hcs, htake⟩ : ∃ g cap cur, v = .slice (some ⟨g, 0, none⟩) l.length cap ∧ B ≤ g ∧ w.heap[g]? = some (.cells cur 5 (0, 0)) ∧ l.length ≤ cap ∧ cap ≤ maxLen ∧ cur.size = cap * 1 ∧ cur.toList.take (l.length * 1) = Lib.byteCells l := by
    rcases hown.2 with ⟨_, hz⟩ | ⟨g, cap, cur, hv, r⟩
    · exact absurd hz hl0
    · exact ⟨g, cap, cur, hv, r⟩
  have c1 : w.drew.cell? ⟨b, 1, none⟩ = some (.slice (some ⟨g, 0, none⟩) l.length cap) := (blk_cell (blk_drew hv.box) 1).trans rfl
  have hSD : (Builtin.unsafeSliceData_ #[22] 117 #[.slice (some ⟨g, 0, none⟩) l.length cap]).run Tryd.prog w.drew = .ok (.pointer (some ⟨g, 0, none⟩)) w.drew :=
    Lib.run_unsafeSliceData_row _ _ _ _ _ _ (by omega)
  have hUS : (Builtin.unsafeString_ #[117, 3] 9 #[.pointer (some ⟨g, 0, none⟩), .int .i64 l.length]).run Tryd.prog w.drew = .ok (.string ⟨l.toArray⟩) (w.drew.freeze ⟨g, 0, none⟩ l.length) := by
    refine Lib.run_unsafeString_row w.drew 117 3 9 5 Tryd.underlying117 cellsByte g cur.size (by have hg' : w.drew.heap[g]? = some (.cells cur 5 (0, 0)) := hg; simp [World.shape?, hg']) l h0 (by omega) (by unfold maxLen at hcm; omega) ?_
    intro j x hx
    have := hown.cells (g := g) rfl j (.int .u8 x.toNat) (by simp [Lib.byteCells, hx])
    exact this
  clear h0 hl0 hown hnc hcm hcs htake hg
  go_enter Tryd.func28, Tryd.ntmps28
  go_wp2
  go_region
  all_goals (go_wp2; go_ret; exact ⟨rfl, Lib.below_freeze (Below.drew (Below.refl B w)) (p := ⟨g, 0, none⟩) hbg _⟩)
def cfgW : Nat → List Int → List UInt8 × Bool → List UInt8 × Bool
  | _, [], s => s
  | k, v :: vs, s => cfgW (k + 1) vs (s.1 ++ (32 :: namesT.getD k []) ++ numB v, badN s.2 v)
def taskW (s : List UInt8 × Bool) (t : Tk) : List UInt8 × Bool := (s.1 ++ taskB ++ numB t.mem ++ numB t.cost ++ [10], badN (badN s.2 t.mem) t.cost)
def opW (s : List UInt8 × Bool) (o : Opn) : List UInt8 × Bool := ((answersW o.kind o.a o.b o.c o.d s.1 s.2).out ++ [10], lastB o.kind o.c (answersW o.kind o.a o.b o.c o.d s.1 s.2))
def headW (vs : List Int) : List UInt8 × Bool := ((cfgW 0 vs (configB, false)).1 ++ [10], (cfgW 0 vs (configB, false)).2)
def textW (f : FileS) : List UInt8 × Bool := f.ops.foldl opW (f.tasks.foldl taskW (headW f.cfg))
def textP (f : FileS) : List UInt8 × Int :=
  if 64 < f.tasks.length ∨ 4096 < f.ops.length then ([], 1) else if (textW f).2 = true then ([], 1) else ((textW f).1, 0)
structure TxSt (w wB : World) (b : Nat) (s : List UInt8 × Bool) (wr : World) : Prop where
  text : TextAt w.heap.size b s.1 s.2 wr
  below : Below w.heap.size w wr
  keep : KeepU wB wr b
section tx
variable {w wB wr w' : World} {b : Nat} {s : List UInt8 × Bool}
theorem TxSt.step (h : TxSt w wB b s wr) (hb : Below wr.heap.size wr w') : TxSt w wB b s w' := ⟨h.text.below hb, below_step h.below hb, h.keep.trans (KeepU.of_below hb b)⟩
theorem TxSt.wrote {out : List UInt8} {bad : Bool} (h : TxSt w wB b s wr) (ht : TextAt w.heap.size b out bad w') (hb : Below w.heap.size wr w') (hk : KeepU wr w' b) : TxSt w wB b (out, bad) w' := ⟨ht, below_weak h.below hb, h.keep.trans hk⟩
theorem TxSt.wrote' {out : List UInt8} {bad : Bool} (h : TxSt w wB b s wr) (ht : TextAt w.heap.size b out bad w') (hb : Below w.heap.size w w') (hk : KeepU wr w' b) : TxSt w wB b (out, bad) w' := ⟨ht, hb, h.keep.trans hk⟩
end tx
theorem nameT_at (k : Nat) (hk : k < 10) : (nameT k).data.toList = namesT.getD k [] ∧ (nameT k).size ≤ 20 := by
  have : k = 0 ∨ k = 1 ∨ k = 2 ∨ k = 3 ∨ k = 4 ∨ k = 5 ∨ k = 6 ∨ k = 7 ∨ k = 8 ∨ k = 9 := by omega
  rcases this with rfl | rfl | rfl | rfl | rfl | rfl | rfl | rfl | rfl | rfl <;> exact ⟨rfl, by decide⟩
theorem cfgW_snoc : ∀ (vs : List Int) (k : Nat) (v : Int) (s : List UInt8 × Bool), cfgW k (vs ++ [v]) s = ((cfgW k vs s).1 ++ (32 :: namesT.getD (k + vs.length) []) ++ numB v, badN (cfgW k vs s).2 v)
  | [], k, v, s => rfl
  | u :: vs, k, v, s => by
    rw [List.cons_append, cfgW, cfgW_snoc vs, cfgW, show k + 1 + vs.length = k + (u :: vs).length from by simp; omega]
theorem cfgW_step {vs : List Int} {k : Nat} (hk : k < vs.length) (s : List UInt8 × Bool) : cfgW 0 (vs.take (k + 1)) s = ((cfgW 0 (vs.take k) s).1 ++ (32 :: namesT.getD k []) ++ numB (vs.getD k 0), badN (cfgW 0 (vs.take k) s).2 (vs.getD k 0)) := by
  have e : vs.take (k + 1) = vs.take k ++ [vs.getD k 0] := by
    rw [List.take_add_one]
    simp [List.getD_eq_getElem?_getD, hk]
  rw [e, cfgW_snoc]
  simp [List.length_take, Nat.min_eq_left (Nat.le_of_lt hk)]
theorem foldl_step {α : Type} (f : List UInt8 × Bool → α → List UInt8 × Bool) (l : List α) (s : List UInt8 × Bool) (k : Nat) (d : α) (hk : k < l.length) : (l.take (k + 1)).foldl f s = f ((l.take k).foldl f s) (l.getD k d) := by
  rw [List.take_add_one, List.getElem?_eq_getElem hk, List.foldl_append]
  simp [List.getD_eq_getElem?_getD, hk]
def tk0 : Tk := ⟨0, 0⟩
def opn0 : Opn := ⟨0, 0, 0, 0, 0⟩
def getTk (xs : List Tk) (i : Nat) : Tk := xs.getD i tk0
def getOpn (xs : List Opn) (i : Nat) : Opn := xs.getD i opn0
theorem at_Tk {w : World} {A : Option Addr} {n : Nat} {xs : List Tk} (h : Kd.C kTk w A n xs) (i : Nat) (h1 : i < n) : ∃ ad , A = some ad ∧ w.cell? (ad.add (i * 2)) = some (.int .i64 (getTk xs i).mem) ∧ w.cell? ⟨(ad.add (i * 2)).block, (ad.add (i * 2)).off + 1, none⟩ = some (.int .i64 (getTk xs i).cost) := by
  obtain ⟨ad, c, e, _, hK, hc0⟩ := Kd.C_get h tk0 (i : Int) (by omega) (by omega)
  have hc : ∀ j u, c[j]? = some u → w.cell? (ad.add (i * 2 + j)) = some u := hc0
  obtain ⟨_, _, rfl, rfl, rfl⟩ := hK
  exact ⟨ad, e, hc 0 _ rfl, by rw [← add_field _ _ 1 (by omega)]; exact hc 1 _ rfl⟩
theorem at_Opn {w : World} {A : Option Addr} {n : Nat} {xs : List Opn} (h : Kd.C kOp w A n xs) (i : Nat) (h1 : i < n) : ∃ ad , A = some ad ∧ w.cell? (ad.add (i * 5)) = some (.int .i64 (getOpn xs i).kind) ∧ w.cell? ⟨(ad.add (i * 5)).block, (ad.add (i * 5)).off + 1, none⟩ = some (.int .i64 (getOpn xs i).a) ∧ w.cell? ⟨(ad.add (i * 5)).block, (ad.add (i * 5)).off + 2, none⟩ = some (.int .i64 (getOpn xs i).b) ∧ w.cell? ⟨(ad.add (i * 5)).block, (ad.add (i * 5)).off + 3, none⟩ = some (.int .i64 (getOpn xs i).c) ∧ w.cell? ⟨(ad.add (i * 5)).block, (ad.add (i * 5)).off + 4, none⟩ = some (.int .i64 (getOpn xs i).d) := by
  obtain ⟨ad, c, e, _, hK, hc0⟩ := Kd.C_get h opn0 (i : Int) (by omega) (by omega)
  have hc : ∀ j u, c[j]? = some u → w.cell? (ad.add (i * 5 + j)) = some u := hc0
  obtain ⟨_, _, rfl, rfl, ⟨_, _, rfl, rfl, ⟨_, _, rfl, rfl, ⟨_, _, rfl, rfl, rfl⟩⟩⟩⟩ := hK
  exact ⟨ad, e, hc 0 _ rfl, by rw [← add_field _ _ 1 (by omega)]; exact hc 1 _ rfl, by rw [← add_field _ _ 2 (by omega)]; exact hc 2 _ rfl, by rw [← add_field _ _ 3 (by omega)]; exact hc 3 _ rfl, by rw [← add_field _ _ 4 (by omega)]; exact hc 4 _ rfl⟩
structure FIn (f : FileS) : Prop where
  cfg : ∀ v ∈ f.cfg, inI v
  tasks : ∀ t ∈ f.tasks, inI t.mem ∧ inI t.cost
  ops : ∀ o ∈ f.ops, inI o.kind ∧ inI o.a ∧ inI o.b ∧ inI o.c ∧ inI o.d
theorem cfgW_len : ∀ (vs : List Int) (k : Nat) (s : List UInt8 × Bool), (∀ v ∈ vs, inI v) → (cfgW k vs s).1.length ≤ s.1.length + 50 * vs.length
  | [], k, s, _ => by simp [cfgW]
  | v :: vs, k, s, h => by
    have h1 := cfgW_len vs (k + 1) (s.1 ++ (32 :: namesT.getD k []) ++ numB v, badN s.2 v) (fun x hx => h x (List.mem_cons_of_mem _ hx))
    have h2 := numB_len (h v (List.mem_cons_self ..))
    have h3 : (namesT.getD k []).length ≤ 20 := by
      by_cases hk : k < 10
      · have := (nameT_at k hk).1
        have h4 := (nameT_at k hk).2
        rw [← this, Array.length_toList]
        exact h4
      · rw [List.getD_eq_getElem?_getD, List.getElem?_eq_none (by simp [namesT]; omega)]
        simp
    rw [cfgW]
    simp only [List.length_append, List.length_cons] at h1 ⊢
    omega
theorem taskW_len {t : Tk} (s : List UInt8 × Bool) (h : inI t.mem ∧ inI t.cost) : (taskW s t).1.length ≤ s.1.length + 60 := by
  have h1 := numB_len h.1
  have h2 := numB_len h.2
  have h3 : taskB.length = 4 := rfl
  simp only [taskW, List.length_append, List.length_cons, List.length_nil]
  omega
theorem opW_len {o : Opn} (s : List UInt8 × Bool) (h : inI o.kind ∧ inI o.a ∧ inI o.b ∧ inI o.c ∧ inI o.d) : (opW s o).1.length ≤ s.1.length + 1000 := by
  have h0 : TOk (⟨s.1, s.2, [o.kind, o.a, o.b, o.c, o.d], false⟩ : TS) s.1.length := ⟨Nat.le_refl _, rfl, fun j => by
    match j with
    | 0 => exact h.1
    | 1 => exact h.2.1
    | 2 => exact h.2.2.1
    | 3 => exact h.2.2.2.1
    | 4 => exact h.2.2.2.2
    | j + 5 => exact inI_zero⟩
  have h1 := TOk.formsT h0 o.kind 6 (by omega)
  have h2 := TOk.answersT h1 o.kind o.c o.d h.2.2.2.2 3 (by omega)
  have h3 := h2.len
  simp only [opW, List.length_append, List.length_cons, List.length_nil]
  have e : answersW o.kind o.a o.b o.c o.d s.1 s.2 = (answersT.take 3).foldl (ansW o.kind o.c o.d) ((formsT.take 6).foldl (formW o.kind) ⟨s.1, s.2, [o.kind, o.a, o.b, o.c, o.d], false⟩) := rfl
  rw [e]
  omega
theorem fold_len {α : Type} (f : List UInt8 × Bool → α → List UInt8 × Bool) (m : Nat) : ∀ (l : List α) (s : List UInt8 × Bool), (∀ x ∈ l, ∀ s, (f s x).1.length ≤ s.1.length + m) → (l.foldl f s).1.length ≤ s.1.length + m * l.length
  | [], s, _ => by simp
  | x :: l, s, h => by
    have h1 := fold_len f m l (f s x) (fun y hy => h y (List.mem_cons_of_mem _ hy))
    have h2 := h x (List.mem_cons_self ..) s
    rw [List.foldl_cons]
    have : m * (x :: l).length = m * l.length + m := by rw [List.length_cons, Nat.mul_succ]
    omega
end Go.Proofs.YtegbfimfpkendaaDoor.PaS
