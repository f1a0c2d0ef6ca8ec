/- The walk of the reference's take. No condition but lengths. -/
import Derived.Test.YtegbfimfpkendaaDoorPcG
import Derived.Test.YtegbfimfpkendaaDoorMg27
namespace Go.Proofs.YtegbfimfpkendaaDoor.PcHa
open Go.RowKit Go.Proofs.YtegbfimfpkendaaDoor.PParseTells Go.Proofs.YtegbfimfpkendaaDoorW.PrintWords Go.Proofs.YtegbfimfpkendaaDoorW.PrintLast Go.Proofs.YtegbfimfpkendaaDoorW.PrintMore LexS LexB PaA LexBox PaC PaD PaE PaF PaG PaL PcA PcB PcC PcD PcE PcF PcG
set_option linter.unusedVariables false
set_option linter.unusedSimpArgs false
structure FilAt (w0 w : World) (F : Nat) (st : FileS) : Prop where
  but : ButF w0 w F
  len : st.cfg.length = 10
  mem : ∃ vT vO, w.heap[F]? = some (.cells (st.cfg.map (Value.int .i64) ++ [vT, vO]).toArray 33 (0, 0)) ∧ kTk.R 51 w w0.heap.size (fun _ => True) vT st.tasks ∧ kOp.R 46 w w0.heap.size (fun _ => True) vO st.ops
structure FilV (w0 w : World) (F : Nat) (cfg : List Int) (vT : Value) (tasks : List Tk) (vO : Value) (ops : List Opn) : Prop where
  but : ButF w0 w F
  len : cfg.length = 10
  box : w.heap[F]? = some (.cells (cfg.map (Value.int .i64) ++ [vT, vO]).toArray 33 (0, 0))
  rT : kTk.R 51 w w0.heap.size (fun _ => True) vT tasks
  rO : kOp.R 46 w w0.heap.size (fun _ => True) vO ops
section filev
variable {w0 w w' : World} {F g : Nat} {cfg : List Int} {vT vO : Value} {tasks : List Tk} {ops : List Opn}
theorem FilV.at (h : FilV w0 w F cfg vT tasks vO ops) : FilAt w0 w F ⟨cfg, tasks, ops⟩ := ⟨h.but, h.len, vT, vO, h.box, h.rT, h.rO⟩
theorem FilAt.vals {st : FileS} (h : FilAt w0 w F st) : ∃ vT vO, FilV w0 w F st.cfg vT st.tasks vO st.ops := by
  obtain ⟨vT, vO, h1, h2, h3⟩ := h.mem
  exact ⟨vT, vO, h.but, h.len, h1, h2, h3⟩
theorem FilV.below (h : FilV w0 w F cfg vT tasks vO ops) (hb : Below w.heap.size w w') : FilV w0 w' F cfg vT tasks vO ops :=
  ⟨h.but.step hb, h.len, blk_below h.box hb, Kd.R_below h.rT hb, Kd.R_below h.rO hb⟩
theorem FilV.cells (h : FilV w0 w F cfg vT tasks vO ops) : w.cell? ⟨F, 10, none⟩ = some vT ∧ w.cell? ⟨F, 11, none⟩ = some vO ∧ w.frozen? ⟨F, 10, none⟩ = false ∧ w.frozen? ⟨F, 11, none⟩ = false := by
  refine ⟨(blk_cell h.box 10).trans ?_, (blk_cell h.box 11).trans ?_, blk_frozen h.box 10, blk_frozen h.box 11⟩ <;> simp [List.getElem?_append, h.len]
theorem FilV.apart (h : FilV w0 w F cfg vT tasks vO ops) : some F ≠ vT.ownBlock ∧ some F ≠ vO.ownBlock := by
  refine ⟨fun e => ?_, fun e => ?_⟩
  · obtain ⟨_, cells, hc⟩ := R_ownAt h.rT F e.symm
    exact blk_ne h.box hc (by decide) rfl
  · obtain ⟨_, cells, hc⟩ := R_ownAt h.rO F e.symm
    exact blk_ne h.box hc (by decide) rfl
theorem FilV.grownT {v1 : Value} {tasks1 : List Tk} (h : FilV w0 w F cfg vT tasks vO ops) (hg : w.grownBy w' vT.ownBlock) (hR : kTk.R 51 w' w0.heap.size (fun _ => True) v1 tasks1) : FilV w0 (w'.setCell ⟨F, 10, none⟩ v1) F cfg v1 tasks1 vO ops ∧ w'.heap[F]? = some (.cells (cfg.map (Value.int .i64) ++ [vT, vO]).toArray 33 (0, 0)) := by
  have hbx := blk_grown h.box hg h.apart.1
  refine ⟨⟨(h.but.grown hg (fun k hk => (R_ownAt h.rT k hk).1)).setF _ _, h.len, ?_, ?_, ?_⟩, hbx⟩
  · exact blk_put hbx 10 _ (by simp [List.set_append, h.len])
  · exact Kd.R_mono (Kd.R_far (Kd.R_types hR hbx (by decide)) (fun _ h => h.2) _) (fun _ h => h.1)
  · have h1 : kOp.R 46 w' w0.heap.size (fun _ => True) vO ops := by
      cases hv : vT.ownBlock with
      | none => rw [hv] at hg; exact Kd.R_grown h.rO hg (fun _ _ e => by cases e)
      | some b =>
        rw [hv] at hg
        obtain ⟨_, cells, hc⟩ := R_ownAt h.rT b hv
        exact Kd.R_mono (Kd.R_grown (Kd.R_types h.rO hc (by decide)) hg (fun k hk e => hk.2 (Option.some.inj e))) (fun _ h => h.1)
    exact Kd.R_mono (Kd.R_far (Kd.R_types h1 hbx (by decide)) (fun _ h => h.2) _) (fun _ h => h.1)
theorem FilV.grownO {v1 : Value} {ops1 : List Opn} (h : FilV w0 w F cfg vT tasks vO ops) (hg : w.grownBy w' vO.ownBlock) (hR : kOp.R 46 w' w0.heap.size (fun _ => True) v1 ops1) : FilV w0 (w'.setCell ⟨F, 11, none⟩ v1) F cfg vT tasks v1 ops1 ∧ w'.heap[F]? = some (.cells (cfg.map (Value.int .i64) ++ [vT, vO]).toArray 33 (0, 0)) := by
  have hbx := blk_grown h.box hg h.apart.2
  refine ⟨⟨(h.but.grown hg (fun k hk => (R_ownAt h.rO k hk).1)).setF _ _, h.len, ?_, ?_, ?_⟩, hbx⟩
  · exact blk_put hbx 11 _ (by simp [List.set_append, h.len])
  · have h1 : kTk.R 51 w' w0.heap.size (fun _ => True) vT tasks := by
      cases hv : vO.ownBlock with
      | none => rw [hv] at hg; exact Kd.R_grown h.rT hg (fun _ _ e => by cases e)
      | some b =>
        rw [hv] at hg
        obtain ⟨_, cells, hc⟩ := R_ownAt h.rO b hv
        exact Kd.R_mono (Kd.R_grown (Kd.R_types h.rT hc (by decide)) hg (fun k hk e => hk.2 (Option.some.inj e))) (fun _ h => h.1)
    exact Kd.R_mono (Kd.R_far (Kd.R_types h1 hbx (by decide)) (fun _ h => h.2) _) (fun _ h => h.1)
  · exact Kd.R_mono (Kd.R_far (Kd.R_types hR hbx (by decide)) (fun _ h => h.2) _) (fun _ h => h.1)
end filev
theorem form_len (a b : ByteArray) : (formR a b).length ≤ 100 := by
  unfold formR
  (repeat' split) <;> decide
theorem numbers_t (ts : List Tok) (X : List ByteArray) (A AX : Option Addr) (m c cX : Nat) (nl : List Int) (e : Int) (w : World) (hm : ts.length = m) (hC : k68.C w A ts.length (ts.map f48)) (hc : ts.length ≤ c) (hX : Kd.C Kd.string w AX X.length X) (hcX : X.length ≤ cX) (hl : ts.length ≤ 100000 ∧ ∀ t ∈ ts, t.text.length ≤ 100000) (hn : numsR ts X [] = (nl, e)) (hXl : X.length ≤ 100000) :
    Calls Tryd.prog 44 #[.slice A m c, .slice AX X.length cX] w fun x w' => ∃ v0_ : Value, x = .returned (.tuple #[v0_, .int .i64 e]) ∧ Kd.R (Kd.int .i64) 3 w' w.heap.size (fun _ => True) v0_ nl ∧ Below w.heap.size w w' := by
  subst hm
  obtain ⟨K, hK⟩ := nums_f ts X ⟨hl.1, hXl⟩ hl.2
  have h := hK K (Nat.le_refl _)
  rw [hn] at h
  have hlen : (ts.map f48).length = ts.length := List.length_map _
  have := millwrightref03_numbers.calls K A c (ts.map f48) AX cX X nl e w (by rw [hlen]; exact hC) (by rw [hlen]; exact hc) hX hcX h
  rw [hlen] at this
  exact this
theorem cell_alloc {w : World} {p : Addr} {v : Value} (h : w.cell? p = some v) (ob : Obj) : (w.alloc ob).cell? p = some v := (Below.cell (below_alloc (Below.refl w.heap.size w) ob) (cell_lt h)).trans h
theorem fil_map : ∀ ls : List (List UInt8), ((ls.map bs).filter (fun f => f.toList == nB)).length = (ls.filter (fun l => l == nB)).length
  | [] => rfl
  | l :: r => by
    have h := fil_map r
    have e : (bs l).toList = l := tl l
    rw [List.map_cons, List.filter_cons, List.filter_cons, e]
    by_cases g : (l == nB) = true
    · rw [if_pos g, if_pos g, List.length_cons, List.length_cons, h]
    · rw [if_neg g, if_neg g, h]
theorem fil_n (ls : List (List UInt8)) (n : Nat) (h : (ls.filter (fun l => l == nB)).length = n) : ([] : List Int).length + ((ls.map bs).filter (fun f => f.toList == nB)).length = n :=
  (Nat.zero_add _).trans ((fil_map ls).trans h)
theorem fil_cfg : ∀ f k : Nat, ((cfgFm f k).filter (fun f => f.toList == nB)).length = f
  | 0, _ => rfl
  | f + 1, k => by
    have h := fil_cfg f (k + 1)
    have e : (bs nB).toList = nB := tl nB
    have h1 : ((nameT k).toList == nB) = false := beq_eq_false_iff_ne.2 (name_n k)
    rw [cfgFm, List.filter_cons, h1, if_neg (by decide), List.filter_cons, e, if_pos (by decide), List.length_cons, h]
theorem fil_cfg10 : ([] : List Int).length + ((bs configB :: cfgFm 10 0).filter (fun f => f.toList == nB)).length = 10 := by
  have e : (bs configB).toList = configB := tl configB
  rw [List.filter_cons, e, if_neg (by decide), fil_cfg]
  rfl
theorem form_n (a b : ByteArray) (h1 : ¬ a.toList = configB) (h2 : ¬ a.toList = taskB) (hne : ¬ formR a b = []) : ([] : List Int).length + ((formR a b).filter (fun f => f.toList == nB)).length = opN a b := by
  have hb : ∀ l, (bs l).toList = l := tl
  unfold formR opN at *
  rw [if_neg h1, if_neg h2] at hne ⊢
  by_cases g1 : a.toList = submitB
  · rw [if_pos g1, if_pos g1]; exact fil_n [submitB, nB, nB, nB] _ (by decide)
  rw [if_neg g1] at hne
  rw [if_neg g1, if_neg g1]
  by_cases g2 : a.toList = cancelB
  · rw [if_pos g2, if_pos g2]; exact fil_n [cancelB, nB] _ (by decide)
  rw [if_neg g2] at hne
  rw [if_neg g2, if_neg g2]
  by_cases g3 : a.toList = queryB
  · rw [if_pos g3, if_neg (by rw [g3]; decide), if_neg (by rw [g3]; decide), if_pos g3]; exact fil_n [queryB, nB] _ (by decide)
  rw [if_neg g3] at hne
  rw [if_neg g3, if_neg g3]
  by_cases g4 : a.toList = tickB
  · rw [if_pos g4, if_pos g4]; exact fil_n [tickB] _ (by decide)
  rw [if_neg g4] at hne
  rw [if_neg g4, if_neg g4]
  by_cases g5 : a.toList = dispatchB
  · rw [if_pos g5, if_pos g5]; exact fil_n [dispatchB] _ (by decide)
  rw [if_neg g5] at hne
  rw [if_neg g5, if_neg g5]
  by_cases g6 : a.toList = answerB
  · rw [if_pos g6]
    by_cases k1 : b.toList = needB
    · rw [if_pos k1, if_pos k1]; exact fil_n [answerB, nB, nB, needB, nB] _ (by decide)
    · rw [if_neg k1, if_neg k1]
      by_cases k2 : b.toList = failB
      · rw [if_pos k2]; exact fil_n [answerB, nB, nB, failB] _ (by decide)
      · rw [if_neg k2]; exact fil_n [answerB, nB, nB, didB] _ (by decide)
  · rw [if_neg g6] at hne
    exact absurd rfl hne
def TPost (w0 : World) (F : Nat) (st : FileS) (r : Rt) (x : Ending) (w' : World) : Prop :=
  match r with
  | .ok st' => x = .returned (.int .i64 0) ∧ FilAt w0 w' F st'
  | .bad e => x = .returned (.int .i64 e) ∧ FilAt w0 w' F st
theorem R_set10 {α : Type} {d : Kd α} {e base : Nat} {ok : Nat → Prop} {w : World} {v : Value} {xs : List α} {g : Nat} {t : TypeId} {cs : Array Value} (h : d.R e w base ok v xs) (hb : w.heap[g]? = some (.cells cs t (0, 0))) (hne : ∀ q, q ∈ e :: d.E → q ≠ t) (u0 u1 u2 u3 u4 u5 u6 u7 u8 u9 : Value) :
    d.R e ((((((((((w.setCell ⟨g, 0, none⟩ u0).setCell ⟨g, 1, none⟩ u1).setCell ⟨g, 2, none⟩ u2).setCell ⟨g, 3, none⟩ u3).setCell ⟨g, 4, none⟩ u4).setCell ⟨g, 5, none⟩ u5).setCell ⟨g, 6, none⟩ u6).setCell ⟨g, 7, none⟩ u7).setCell ⟨g, 8, none⟩ u8).setCell ⟨g, 9, none⟩ u9) base ok v xs :=
  Kd.R_mono (Kd.R_far (p := ⟨g, 9, none⟩) (Kd.R_far (p := ⟨g, 8, none⟩) (Kd.R_far (p := ⟨g, 7, none⟩) (Kd.R_far (p := ⟨g, 6, none⟩) (Kd.R_far (p := ⟨g, 5, none⟩) (Kd.R_far (p := ⟨g, 4, none⟩) (Kd.R_far (p := ⟨g, 3, none⟩) (Kd.R_far (p := ⟨g, 2, none⟩) (Kd.R_far (p := ⟨g, 1, none⟩) (Kd.R_far (p := ⟨g, 0, none⟩) (Kd.R_types h hb hne) (fun _ hk => hk.2) u0) (fun _ hk => hk.2) u1) (fun _ hk => hk.2) u2) (fun _ hk => hk.2) u3) (fun _ hk => hk.2) u4) (fun _ hk => hk.2) u5) (fun _ hk => hk.2) u6) (fun _ hk => hk.2) u7) (fun _ hk => hk.2) u8) (fun _ hk => hk.2) u9) (fun _ hk => hk.1)
theorem FilV.cfg10 {w0 w : World} {F : Nat} {c0 c1 c2 c3 c4 c5 c6 c7 c8 c9 : Int} {vT vO : Value} {tasks : List Tk} {ops : List Opn} (h : FilV w0 w F [c0, c1, c2, c3, c4, c5, c6, c7, c8, c9] vT tasks vO ops) (n0 n1 n2 n3 n4 n5 n6 n7 n8 n9 : Int) :
    FilV w0 ((((((((((w.setCell ⟨F, 0, none⟩ (.int .i64 n0)).setCell ⟨F, 1, none⟩ (.int .i64 n1)).setCell ⟨F, 2, none⟩ (.int .i64 n2)).setCell ⟨F, 3, none⟩ (.int .i64 n3)).setCell ⟨F, 4, none⟩ (.int .i64 n4)).setCell ⟨F, 5, none⟩ (.int .i64 n5)).setCell ⟨F, 6, none⟩ (.int .i64 n6)).setCell ⟨F, 7, none⟩ (.int .i64 n7)).setCell ⟨F, 8, none⟩ (.int .i64 n8)).setCell ⟨F, 9, none⟩ (.int .i64 n9)) F [n0, n1, n2, n3, n4, n5, n6, n7, n8, n9] vT tasks vO ops :=
  ⟨ButF.set10 h.but _ _ _ _ _ _ _ _ _ _, rfl, setP12 _ _ _ _ _ _ _ _ _ _ h.box, R_set10 h.rT h.box (by decide) _ _ _ _ _ _ _ _ _ _, R_set10 h.rO h.box (by decide) _ _ _ _ _ _ _ _ _ _⟩
end Go.Proofs.YtegbfimfpkendaaDoor.PcHa
