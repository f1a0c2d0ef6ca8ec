/- The statement TraceBack: for every input the law returns true, the listed variables being laid as the program lays them. No other condition. -/
import Derived.Test.YtckcepmkfegkiaaDoorCards
import Derived.Test.YtckcepmkfegkiaaDoorTie
import Derived.Test.YtckcepmkfegkiaaDoorTrCard
import Derived.Test.YtckcepmkfegkiaaDoorTrO
import Derived.Deep.DeepHandedRow
import Derived.Deep.DeepWitnessRowRef
import Derived.Test.YtckcepmkfegkiaaDoorPTraceBackx3
import Derived.Test.YtckcepmkfegkiaaDoorPureTraceBack
import Derived.WalkKit
import Derived.ProofKit
import Derived.OpenShut
import Derived.ShutString
import Derived.ChangeOld
import Derived.Below
import Derived.SizedLaws
import Derived.Test.YtckcepmkfegkiaaDoorBb
namespace Go.Proofs.YtckcepmkfegkiaaDoor.traceBack
open Go.ChangeShapes Go.WideShapes Go.ChangeAt Go.RowKit Go.Proofs.YtckcepmkfegkiaaDoorW.PrintWords
open Go.ChangeMaps (open_string shut_string)
set_option linter.unusedVariables false
theorem own : ownKnob Tryd.prog.godebug = none := by kernel_rfl
theorem laidOut : laidOutB Tryd.prog = true := by kernel_rfl
set_option maxRecDepth 100000 in
theorem contract (H : Type) (enc : TypeId × Value → H) (W : World) (base : Nat) (args : Array Value) (ds gs : List (DataW H)) (before : List MemPlace)
    (hval0 : ∀ (j : Nat) t v, Tryd.f5.params[j]? = some t → args[j]? = some v → Value.okWide Tryd.prog W .any base t v)
    (hW : DataW.Whole enc Tryd.prog Tryd.f5.params.toList Rows.traceBackSpec.vars false W args.toList ds gs before)
    (hsz0 : (DataW.weightsEach Tryd.prog (Tryd.f5.params.toList ++ Rows.traceBackSpec.plain.varTypes Tryd.prog) (ds ++ gs)).all (· ≤ reachBytes) = true) (hL : laidMetH Tryd.prog Rows.traceBackRow.laid W) :
    Calls Tryd.prog 5 args W fun e W' => ∃ v, e = .returned v ∧ Rows.traceBackSpec.post enc Tryd.prog Tryd.f5 false true false false W args v W' := by
  have HT : TrL.Laid W := ⟨TrCard.words hL, TrCard.ends hL, TrCard.table hL⟩
  have hsz : (DataW.weightsEach Tryd.prog (Tryd.f5.params.toList ++ Rows.traceBackSpec.plain.varTypes Tryd.prog) (ds ++ gs)).all (· ≤ reachBytes) = true := hsz0
  have hval : ∀ (j : Nat) t v, Tryd.f5.params[j]? = some t → args[j]? = some v → Value.okWide Tryd.prog W .any base t v := hval0
  have hW' := hW
  obtain ⟨p, q, hA0, hV, rfl, hfz, hnd⟩ := hW
  have hA : DataW.TrodAll enc Tryd.prog W 0 (fun _ => true) true Tryd.f5.params.toList args.toList ds p := hA0
  rw [Tryd.params5] at hA hval hsz
  obtain ⟨v0, vs0, d0, ds0, p0, q0, hargs, rfl, rfl, h0, r0⟩ := trodAll_cons hA
  obtain ⟨rfl, rfl, rfl⟩ := trodAll_nil r0
  obtain rfl : args = #[v0] := by cases args; simp_all
  obtain ⟨rfl, rfl⟩ := trodVars_none hV
  have k0 := h0
  have lt0 : ∀ x ∈ p0, x.block < W.heap.size := by obtain ⟨m, hm⟩ := k0; exact DataW.trod_lt m _ _ _ hm
  obtain ⟨a0, len0, cap0, rfl⟩ := okWide_slice Tryd.underlying25 (hval 0 25 v0 rfl rfl)
  obtain ⟨rows0, rl0, rc0, rm0, rw0, rr0, rd0⟩ := TrO.open_recs Tryd.underlying25 Tryd.underlying42 (n := 5) (by kernel_rfl) rfl (TrO.fields_of Tryd.underlying3 (by kernel_rfl) (by kernel_rfl)) h0
  obtain ⟨l0, el0, hr0, wl0⟩ : ∃ l : List PTraceBack.S42, l.length = len0 ∧ Kd.C PTraceBack.k42 W a0 len0 l ∧ ∀ x ∈ l, (Lit.int .i64 x.f0).wf = true ∧ (Lit.int .i64 x.f1).wf = true ∧ (Lit.int .i64 x.f2).wf = true ∧ (Lit.int .i64 x.f3).wf = true ∧ (Lit.int .i64 x.f4).wf = true := by
    refine ⟨rows0.map (fun r : List Int => (⟨r.getD 0 0, r.getD 1 0, r.getD 2 0, r.getD 3 0, r.getD 4 0⟩ : PTraceBack.S42)), by rw [List.length_map]; exact rl0, TrO.C_recs (k := PTraceBack.k42) (fun r : List Int => (⟨r.getD 0 0, r.getD 1 0, r.getD 2 0, r.getD 3 0, r.getD 4 0⟩ : PTraceBack.S42)) rfl (fun r hr => ?_) rl0 (by have := rm0; have : cap0 ≤ 9223372036854775807 := this; omega) (fun r hr => (rw0 r hr).1) rr0, fun x hx => ?_⟩
    · obtain ⟨x0, x1, x2, x3, x4, rfl⟩ := TrO.len5 hr
      exact ⟨[.int .i64 x0], _, rfl, rfl, ⟨[.int .i64 x1], _, rfl, rfl, ⟨[.int .i64 x2], _, rfl, rfl, ⟨[.int .i64 x3], _, rfl, rfl, rfl⟩⟩⟩⟩
    · obtain ⟨r, hr, rfl⟩ := List.mem_map.1 hx
      obtain ⟨h1, h2⟩ := rw0 r hr
      exact ⟨TrO.wf_get h1 h2 0 (by decide), TrO.wf_get h1 h2 1 (by decide), TrO.wf_get h1 h2 2 (by decide), TrO.wf_get h1 h2 3 (by decide), TrO.wf_get h1 h2 4 (by decide)⟩
  subst el0
  have bl0 : l0.length ≤ 9223372036854775807 := by have := rm0; have : cap0 ≤ 9223372036854775807 := this; omega
  clear hA0 hval0 hsz0 hsz
  obtain ⟨k, h⟩ := Pure.TraceBack l0 bl0 wl0
  refine (PTraceBack.millwrightlaw19_TraceBack.calls k _ _ l0 true W hr0 rc0 h HT).mono fun e W' ⟨he, bel⟩ => ?_
  subst he
  exact ⟨_, rfl, _, _, _, [], _, [], hW', trodAll_mk1 (shut_bool Tryd.underlying4 _), (trodAll_cons_mk (Below.trod laidOut (by kernel_rfl) (of_decide_eq_true (by kernel_rfl)) k0 bel lt0) trodAll_mk0), rfl, bel.frame _, fun h => by cases h⟩
theorem reads (os : Os) {H : Type} (enc : TypeId × Value → H) : ∃ places, DataW.whole enc Tryd.prog ((World.doorLaid Tryd.prog 59 os).forCall (fun _ _ => 0) ⟨#[], #[.slice none 0 0], []⟩).memory Tryd.f5.params.toList Rows.traceBackSpec.vars false (#[.slice none 0 0] : Array Value).toList 8 = some ([.nil], [], places) :=
  ⟨[], by kernel_rfl⟩
set_option maxRecDepth 100000 in
theorem lifted (os : Os) (started : os.Started) (H : Type) (enc : TypeId × Value → H) (F : Stop.Interp) :
    ReturnsInHanded {} Tryd.checked os 5 .any ((OpenSpec.ofChange Rows.traceBackSpec).preRow enc Tryd.prog Tryd.f5 Rows.traceBackRow.domain false Rows.traceBackRow.laid) (((OpenSpec.ofChange Rows.traceBackSpec).at F).post enc Tryd.prog Tryd.f5 false true false false) := by
  obtain ⟨places, hx⟩ := reads os enc
  refine returnsInHanded_of_row (C := Tryd.checked) (s := OpenSpec.ofChange Rows.traceBackSpec) own started (by kernel_rfl) Tryd.func5
    (witness_row_atRef (enc := enc) (C := Tryd.checked) false (World.doorLaid Tryd.prog 59 os) #[.slice none 0 0] rfl (by kernel_rfl) (by kernel_rfl) (by kernel_rfl)
      (OpenSpec.preRow_of_cond 8 hx (by kernel_rfl) (fun k hk => by cases hk) (by kernel_rfl) (TrCard.door_met os _))) ?_
  intro W base args ds gs before hval hW _ _ hsz hL _ _
  exact contract H enc W base args ds gs before hval hW hsz hL
theorem said : Rows.TraceBackSaid :=
  OpenClaim.holds_of_cond 5 Tryd.f5 rfl rfl rfl rfl rfl rfl rfl ⟨rfl, rfl, rfl, rfl, rfl⟩ rfl rfl rfl rfl rfl (by kernel_rfl) Tryd.func5 (by kernel_rfl)
    (of_decide_eq_true (by kernel_rfl)) (by unfold Func.isWrapper; first | (rw [if_pos (by decide +kernel)]; kernel_rfl) | (rw [if_neg (by decide +kernel)]; exact ⟨rfl, rfl⟩))
    (fun os started H enc _ F => by rw [OpenClaim.pre_eq_preRow]; exact lifted os started H enc F)
theorem plain (f : FuncId) (fn : Func) (hf : Tryd.pinned.checked.prog.funcNamed "millwright/millwrightlaw19.TraceBack" = some f) (hfn : Tryd.pinned.checked.prog.funcs[f]? = some fn) :
    false = Tryd.pinned.checked.prog.looks [] ∧ ∀ (j : Nat) t, fn.params[j]? = some t → Tryd.pinned.checked.prog.wantsStandIn t = false := by
  obtain rfl : f = 5 := Option.some.inj ((show Tryd.prog.funcNamed "millwright/millwrightlaw19.TraceBack" = some 5 by kernel_rfl).symm.trans hf) |>.symm
  obtain rfl : fn = Tryd.f5 := (Option.some.inj (Tryd.func5.symm.trans hfn)).symm
  refine ⟨by kernel_rfl, fun j t ht => ?_⟩
  rw [Tryd.params5] at ht
  have hm := Array.mem_of_getElem? ht
  simp only [List.mem_toArray, List.mem_cons, List.not_mem_nil, or_false] at hm
  rcases hm with rfl
  · exact (show Tryd.prog.wantsStandIn 25 = false by kernel_rfl)
theorem card : Rows.TraceBackCardSaid :=
  Claim7.holds_tied_plain_at .later [] _ _ _ _ said (fun _ h => by cases h) (by kernel_rfl) (fun _ h => by cases h) traceBack_row_tie rfl ⟨rfl, rfl⟩ (by kernel_rfl) rfl plain (by kernel_rfl)
#print axioms card
end Go.Proofs.YtckcepmkfegkiaaDoor.traceBack
namespace Go.Proofs.YtckcepmkfegkiaaDoor
/-- The card, under a short name, for the claim. -/
theorem traceBack_card_holds : Rows.TraceBackCardSaid := traceBack.card
end Go.Proofs.YtckcepmkfegkiaaDoor
