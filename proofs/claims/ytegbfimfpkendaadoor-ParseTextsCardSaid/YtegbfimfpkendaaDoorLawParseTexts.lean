/- The statement ParseTexts: for every input the law returns true, the listed variables being laid as the program lays them. No other condition. -/
import Derived.Test.YtegbfimfpkendaaDoorCards
import Derived.Test.YtegbfimfpkendaaDoorTie
import Derived.Test.YtegbfimfpkendaaDoorPbK
import Derived.Test.YtegbfimfpkendaaDoorPbO
import Derived.Deep.DeepHandedRow
import Derived.Deep.DeepWitnessRowRef
import Derived.Test.YtegbfimfpkendaaDoorPm3
import Derived.WalkKit
import Derived.ProofKit
import Derived.OpenShut
import Derived.ShutString
import Derived.ChangeOld
import Derived.Below
import Derived.SizedLaws
namespace Go.Proofs.YtegbfimfpkendaaDoor.parseTexts
open Go.ChangeShapes Go.WideShapes Go.ChangeAt Go.RowKit Go.Proofs.YtegbfimfpkendaaDoorW.PrintWords
open Go.ChangeMaps (open_string shut_string)
set_option linter.unusedVariables false
theorem own : ownKnob Tryd.prog.godebug = none := by kernel_rfl
theorem laidOut : laidOutB Tryd.prog = true := by kernel_rfl
set_option maxRecDepth 100000 in
theorem contract (H : Type) (enc : TypeId × Value → H) (W : World) (base : Nat) (args : Array Value) (ds gs : List (DataW H)) (before : List MemPlace)
    (hval0 : ∀ (j : Nat) t v, Tryd.f4.params[j]? = some t → args[j]? = some v → Value.okWide Tryd.prog W .any base t v)
    (hW : DataW.Whole enc Tryd.prog Tryd.f4.params.toList Rows.parseTextsSpec.vars false W args.toList ds gs before)
    (hsz0 : (DataW.weightsEach Tryd.prog (Tryd.f4.params.toList ++ Rows.parseTextsSpec.plain.varTypes Tryd.prog) (ds ++ gs)).all (· ≤ reachBytes) = true) (hL : laidMetH Tryd.prog Rows.parseTextsRow.laid W) :
    Calls Tryd.prog 4 args W fun e W' => ∃ v, e = .returned v ∧ Rows.parseTextsSpec.post enc Tryd.prog Tryd.f4 false true false false W args v W' := by
  have HT : PaW.Laid W := PbK.laid_of hL
  have hsz : (DataW.weightsEach Tryd.prog (Tryd.f4.params.toList ++ Rows.parseTextsSpec.plain.varTypes Tryd.prog) (ds ++ gs)).all (· ≤ reachBytes) = true := hsz0
  have hval : ∀ (j : Nat) t v, Tryd.f4.params[j]? = some t → args[j]? = some v → Value.okWide Tryd.prog W .any base t v := hval0
  have hW' := hW
  obtain ⟨p, q, hA0, hV, rfl, hfz, hnd⟩ := hW
  have hA : DataW.TrodAll enc Tryd.prog W 0 (fun _ => true) true Tryd.f4.params.toList args.toList ds p := hA0
  rw [Tryd.params4] at hA hval hsz
  obtain ⟨v0, vs0, d0, ds0, p0, q0, hargs, rfl, rfl, h0, r0⟩ := trodAll_cons hA
  obtain ⟨rfl, rfl, rfl⟩ := trodAll_nil r0
  obtain rfl : args = #[v0] := by cases args; simp_all
  obtain ⟨rfl, rfl⟩ := trodVars_none hV
  have k0 := h0
  have lt0 : ∀ x ∈ p0, x.block < W.heap.size := by obtain ⟨m, hm⟩ := k0; exact DataW.trod_lt m _ _ _ hm
  obtain ⟨c0, c1, c2, c3, c4, c5, c6, c7, c8, c9, AT, nT, cT, AO, nO, cO, dT, pT, dO, pO, rfl, yc, hTt, hOt⟩ := PbO.open_file Tryd.underlying29 ⟨rfl, rfl⟩ ⟨rfl, rfl⟩ ⟨rfl, rfl⟩ (by kernel_rfl) Tryd.underlying25 (by kernel_rfl) rfl (PbO.fields_of Tryd.underlying3 (by kernel_rfl) (by kernel_rfl)) Tryd.underlying26 Tryd.underlying27 (by kernel_rfl) (by kernel_rfl) (hval 0 29 v0 rfl rfl) h0
  obtain ⟨rowsT, rlT, rcT, rmT, rwT, rrT, -⟩ := PbO.open_recs Tryd.underlying26 Tryd.underlying51 (n := 2) (by kernel_rfl) rfl (PbO.fields_of Tryd.underlying3 (by kernel_rfl) (by kernel_rfl)) hTt
  obtain ⟨tasks, elT, hrT, wlT⟩ : ∃ l : List PaG.Tk, l.length = nT ∧ Kd.C PaG.kTk W AT nT l ∧ ∀ x ∈ l, PaP.inI x.mem ∧ PaP.inI x.cost := by
    refine ⟨rowsT.map (fun r : List Int => (⟨r.getD 0 0, r.getD 1 0⟩ : PaG.Tk)), by rw [List.length_map]; exact rlT, PbO.C_recs (k := PaG.kTk) (fun r : List Int => (⟨r.getD 0 0, r.getD 1 0⟩ : PaG.Tk)) rfl (fun r hr => ?_) rlT (by have := rmT; have : cT ≤ 9223372036854775807 := this; omega) (fun r hr => (rwT r hr).1) rrT, fun x hx => ?_⟩
    · obtain ⟨x0, x1, rfl⟩ := PbO.len2 hr
      exact ⟨[.int .i64 x0], _, rfl, rfl, rfl⟩
    · obtain ⟨r, hr, rfl⟩ := List.mem_map.1 hx
      obtain ⟨h1, h2⟩ := rwT r hr
      exact ⟨PbO.wf_range (PbO.wf_get h1 h2 0 (by decide)), PbO.wf_range (PbO.wf_get h1 h2 1 (by decide))⟩
  subst elT
  obtain ⟨rowsO, rlO, rcO, rmO, rwO, rrO, -⟩ := PbO.open_recs Tryd.underlying27 Tryd.underlying46 (n := 5) (by kernel_rfl) rfl (PbO.fields_of Tryd.underlying3 (by kernel_rfl) (by kernel_rfl)) hOt
  obtain ⟨ops, elO, hrO, wlO⟩ : ∃ l : List PaG.Opn, l.length = nO ∧ Kd.C PaG.kOp W AO nO l ∧ ∀ x ∈ l, PaP.inI x.kind ∧ PaP.inI x.a ∧ PaP.inI x.b ∧ PaP.inI x.c ∧ PaP.inI x.d := by
    refine ⟨rowsO.map (fun r : List Int => (⟨r.getD 0 0, r.getD 1 0, r.getD 2 0, r.getD 3 0, r.getD 4 0⟩ : PaG.Opn)), by rw [List.length_map]; exact rlO, PbO.C_recs (k := PaG.kOp) (fun r : List Int => (⟨r.getD 0 0, r.getD 1 0, r.getD 2 0, r.getD 3 0, r.getD 4 0⟩ : PaG.Opn)) rfl (fun r hr => ?_) rlO (by have := rmO; have : cO ≤ 9223372036854775807 := this; omega) (fun r hr => (rwO r hr).1) rrO, fun x hx => ?_⟩
    · obtain ⟨x0, x1, x2, x3, x4, rfl⟩ := PbO.len5 hr
      exact ⟨[.int .i64 x0], _, rfl, rfl, ⟨[.int .i64 x1], _, rfl, rfl, ⟨[.int .i64 x2], _, rfl, rfl, ⟨[.int .i64 x3], _, rfl, rfl, rfl⟩⟩⟩⟩
    · obtain ⟨r, hr, rfl⟩ := List.mem_map.1 hx
      obtain ⟨h1, h2⟩ := rwO r hr
      exact ⟨PbO.wf_range (PbO.wf_get h1 h2 0 (by decide)), PbO.wf_range (PbO.wf_get h1 h2 1 (by decide)), PbO.wf_range (PbO.wf_get h1 h2 2 (by decide)), PbO.wf_range (PbO.wf_get h1 h2 3 (by decide)), PbO.wf_range (PbO.wf_get h1 h2 4 (by decide))⟩
  subst elO
  have hI : PaS.FIn ⟨[c0, c1, c2, c3, c4, c5, c6, c7, c8, c9], tasks, ops⟩ := ⟨fun v hv => PbO.wf_range (yc v hv), wlT, wlO⟩
  clear hA0 hval0 hsz0 hsz
  refine (PbTx.texts_calls c0 c1 c2 c3 c4 c5 c6 c7 c8 c9 tasks ops AT AO cT cO W hrT rcT hrO rcO HT hI ).mono fun e W' ⟨he, bel⟩ => ?_
  subst he
  exact ⟨_, rfl, _, _, _, [], _, [], hW', trodAll_mk1 (shut_bool Tryd.underlying4 _), (trodAll_cons_mk (Below.trod laidOut (by kernel_rfl) (of_decide_eq_true (by kernel_rfl)) k0 bel lt0) trodAll_mk0), rfl, bel.frame _, fun h => by cases h⟩
theorem reads (os : Os) {H : Type} (enc : TypeId × Value → H) : ∃ places, DataW.whole enc Tryd.prog ((World.doorLaid Tryd.prog 59 os).forCall (fun _ _ => 0) ⟨#[], #[.agg #[.int .i64 0, .int .i64 0, .int .i64 0, .int .i64 0, .int .i64 0, .int .i64 0, .int .i64 0, .int .i64 0, .int .i64 0, .int .i64 0, .slice none 0 0, .slice none 0 0]], []⟩).memory Tryd.f4.params.toList Rows.parseTextsSpec.vars false (#[.agg #[.int .i64 0, .int .i64 0, .int .i64 0, .int .i64 0, .int .i64 0, .int .i64 0, .int .i64 0, .int .i64 0, .int .i64 0, .int .i64 0, .slice none 0 0, .slice none 0 0]] : Array Value).toList 8 = some ([.agg [.agg [.lit (.int .i64 0), .lit (.int .i64 0), .lit (.int .i64 0), .lit (.int .i64 0), .lit (.int .i64 0), .lit (.int .i64 0), .lit (.int .i64 0), .lit (.int .i64 0), .lit (.int .i64 0), .lit (.int .i64 0)], .nil, .nil]], [], places) :=
  ⟨[], by kernel_rfl⟩
set_option maxRecDepth 100000 in
theorem lifted (os : Os) (started : os.Started) (H : Type) (enc : TypeId × Value → H) (F : Stop.Interp) :
    ReturnsInHanded {} Tryd.checked os 4 .any ((OpenSpec.ofChange Rows.parseTextsSpec).preRow enc Tryd.prog Tryd.f4 Rows.parseTextsRow.domain false Rows.parseTextsRow.laid) (((OpenSpec.ofChange Rows.parseTextsSpec).at F).post enc Tryd.prog Tryd.f4 false true false false) := by
  obtain ⟨places, hx⟩ := reads os enc
  refine returnsInHanded_of_row (C := Tryd.checked) (s := OpenSpec.ofChange Rows.parseTextsSpec) own started (by kernel_rfl) Tryd.func4
    (witness_row_atRef (enc := enc) (C := Tryd.checked) false (World.doorLaid Tryd.prog 59 os) #[.agg #[.int .i64 0, .int .i64 0, .int .i64 0, .int .i64 0, .int .i64 0, .int .i64 0, .int .i64 0, .int .i64 0, .int .i64 0, .int .i64 0, .slice none 0 0, .slice none 0 0]] rfl (by kernel_rfl) (by kernel_rfl) (by kernel_rfl)
      (OpenSpec.preRow_of_cond 8 hx (by kernel_rfl) (fun k hk => by cases hk) (by kernel_rfl) (PbK.door_met os _))) ?_
  intro W base args ds gs before hval hW _ _ hsz hL _ _
  exact contract H enc W base args ds gs before hval hW hsz hL
theorem said : Rows.ParseTextsSaid :=
  OpenClaim.holds_of_cond 4 Tryd.f4 rfl rfl rfl rfl rfl rfl rfl ⟨rfl, rfl, rfl, rfl, rfl⟩ rfl rfl rfl rfl rfl (by kernel_rfl) Tryd.func4 (by kernel_rfl)
    (of_decide_eq_true (by kernel_rfl)) (by unfold Func.isWrapper; first | (rw [if_pos (by decide +kernel)]; kernel_rfl) | (rw [if_neg (by decide +kernel)]; exact ⟨rfl, rfl⟩))
    (fun os started H enc _ F => by rw [OpenClaim.pre_eq_preRow]; exact lifted os started H enc F)
theorem plain (f : FuncId) (fn : Func) (hf : Tryd.pinned.checked.prog.funcNamed "millwright/millwrightlaw03.ParseTexts" = some f) (hfn : Tryd.pinned.checked.prog.funcs[f]? = some fn) :
    true = Tryd.pinned.checked.prog.looks [] ∧ ∀ (j : Nat) t, fn.params[j]? = some t → Tryd.pinned.checked.prog.wantsStandIn t = false := by
  obtain rfl : f = 4 := Option.some.inj ((show Tryd.prog.funcNamed "millwright/millwrightlaw03.ParseTexts" = some 4 by kernel_rfl).symm.trans hf) |>.symm
  obtain rfl : fn = Tryd.f4 := (Option.some.inj (Tryd.func4.symm.trans hfn)).symm
  refine ⟨by kernel_rfl, fun j t ht => ?_⟩
  rw [Tryd.params4] at ht
  have hm := Array.mem_of_getElem? ht
  simp only [List.mem_toArray, List.mem_cons, List.not_mem_nil, or_false] at hm
  rcases hm with rfl
  · exact (show Tryd.prog.wantsStandIn 29 = false by kernel_rfl)
theorem card : Rows.ParseTextsCardSaid :=
  Claim7.holds_tied_plain_at .later [] _ _ _ _ said (fun _ h => by cases h) (by kernel_rfl) (fun _ h => by cases h) parseTexts_row_tie rfl ⟨rfl, rfl⟩ (by kernel_rfl) rfl plain (by kernel_rfl)
#print axioms card
end Go.Proofs.YtegbfimfpkendaaDoor.parseTexts
namespace Go.Proofs.YtegbfimfpkendaaDoor
/-- The card, under a short name, for the claim. -/
theorem parseTexts_card_holds : Rows.ParseTextsCardSaid := parseTexts.card
end Go.Proofs.YtegbfimfpkendaaDoor
