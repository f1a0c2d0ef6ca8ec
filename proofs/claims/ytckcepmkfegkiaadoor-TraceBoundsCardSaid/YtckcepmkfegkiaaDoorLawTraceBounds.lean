/- The statement TraceBounds: for every input the law returns true, the listed variables being laid as the program lays them. No other condition. -/
import Derived.Test.YtckcepmkfegkiaaDoorCards
import Derived.Test.YtckcepmkfegkiaaDoorTie
import Derived.Test.YtckcepmkfegkiaaDoorTrCard
import Derived.Test.YtckcepmkfegkiaaDoorTrO
import Derived.Deep.DeepHandedRow
import Derived.Deep.DeepWitnessRowRef
import Derived.Test.YtckcepmkfegkiaaDoorPTraceBoundsx3
import Derived.Test.YtckcepmkfegkiaaDoorPureTraceBounds
import Derived.WalkKit
import Derived.ProofKit
import Derived.OpenShut
import Derived.ShutString
import Derived.ChangeOld
import Derived.Below
import Derived.SizedLaws
import Derived.Test.YtckcepmkfegkiaaDoorBb
namespace Go.Proofs.YtckcepmkfegkiaaDoor.traceBounds
open Go.ChangeShapes Go.WideShapes Go.ChangeAt Go.RowKit Go.Proofs.YtckcepmkfegkiaaDoorW.PrintWords
open Go.ChangeMaps (open_string shut_string)
set_option linter.unusedVariables false
theorem own : ownKnob Tryd.prog.godebug = none := by kernel_rfl
theorem laidOut : laidOutB Tryd.prog = true := by kernel_rfl
set_option maxRecDepth 100000 in
theorem contract (H : Type) (enc : TypeId × Value → H) (W : World) (base : Nat) (args : Array Value) (ds gs : List (DataW H)) (before : List MemPlace)
    (hval0 : ∀ (j : Nat) t v, Tryd.f6.params[j]? = some t → args[j]? = some v → Value.okWide Tryd.prog W .any base t v)
    (hW : DataW.Whole enc Tryd.prog Tryd.f6.params.toList Rows.traceBoundsSpec.vars false W args.toList ds gs before)
    (hsz0 : (DataW.weightsEach Tryd.prog (Tryd.f6.params.toList ++ Rows.traceBoundsSpec.plain.varTypes Tryd.prog) (ds ++ gs)).all (· ≤ reachBytes) = true) (hL : laidMetH Tryd.prog Rows.traceBoundsRow.laid W) :
    Calls Tryd.prog 6 args W fun e W' => ∃ v, e = .returned v ∧ Rows.traceBoundsSpec.post enc Tryd.prog Tryd.f6 false true false false W args v W' := by
  have HT : TrL.Laid W := ⟨TrCard.words hL, TrCard.ends hL, TrCard.table hL⟩
  have hsz : (DataW.weightsEach Tryd.prog (Tryd.f6.params.toList ++ Rows.traceBoundsSpec.plain.varTypes Tryd.prog) (ds ++ gs)).all (· ≤ reachBytes) = true := hsz0
  have hval : ∀ (j : Nat) t v, Tryd.f6.params[j]? = some t → args[j]? = some v → Value.okWide Tryd.prog W .any base t v := hval0
  have hW' := hW
  obtain ⟨p, q, hA0, hV, rfl, hfz, hnd⟩ := hW
  have hA : DataW.TrodAll enc Tryd.prog W 0 (fun _ => true) true Tryd.f6.params.toList args.toList ds p := hA0
  rw [Tryd.params6] at hA hval hsz
  obtain ⟨v0, vs0, d0, ds0, p0, q0, hargs, rfl, rfl, h0, r0⟩ := trodAll_cons hA
  obtain ⟨v1, vs1, d1, ds1, p1, q1, rfl, rfl, rfl, h1, r1⟩ := trodAll_cons r0
  obtain ⟨v2, vs2, d2, ds2, p2, q2, rfl, rfl, rfl, h2, r2⟩ := trodAll_cons r1
  obtain ⟨rfl, rfl, rfl⟩ := trodAll_nil r2
  obtain rfl : args = #[v0, v1, v2] := by cases args; simp_all
  obtain ⟨rfl, rfl⟩ := trodVars_none hV
  have k0 := h0
  have lt0 : ∀ x ∈ p0, x.block < W.heap.size := by obtain ⟨m, hm⟩ := k0; exact DataW.trod_lt m _ _ _ hm
  obtain ⟨c0_0, c0_1, c0_2, c0_3, c0_4, c0_5, c0_6, c0_7, c0_8, c0_9, rfl, y0⟩ := TrO.open_cfg Tryd.underlying23 (by kernel_rfl) rfl (TrO.fields_of Tryd.underlying3 (by kernel_rfl) (by kernel_rfl)) (hval 0 23 v0 rfl rfl) h0
  have k1 := h1
  have lt1 : ∀ x ∈ p1, x.block < W.heap.size := by obtain ⟨m, hm⟩ := k1; exact DataW.trod_lt m _ _ _ hm
  obtain ⟨a1, len1, cap1, rfl⟩ := okWide_slice Tryd.underlying24 (hval 1 24 v1 rfl rfl)
  obtain ⟨rows1, rl1, rc1, rm1, rw1, rr1, rd1⟩ := TrO.open_recs Tryd.underlying24 Tryd.underlying50 (n := 2) (by kernel_rfl) rfl (TrO.fields_of Tryd.underlying3 (by kernel_rfl) (by kernel_rfl)) h1
  obtain ⟨l1, el1, hr1, wl1⟩ : ∃ l : List PTraceBounds.S50, l.length = len1 ∧ Kd.C PTraceBounds.k50 W a1 len1 l ∧ ∀ x ∈ l, (Lit.int .i64 x.f0).wf = true ∧ (Lit.int .i64 x.f1).wf = true := by
    refine ⟨rows1.map (fun r : List Int => (⟨r.getD 0 0, r.getD 1 0⟩ : PTraceBounds.S50)), by rw [List.length_map]; exact rl1, TrO.C_recs (k := PTraceBounds.k50) (fun r : List Int => (⟨r.getD 0 0, r.getD 1 0⟩ : PTraceBounds.S50)) rfl (fun r hr => ?_) rl1 (by have := rm1; have : cap1 ≤ 9223372036854775807 := this; omega) (fun r hr => (rw1 r hr).1) rr1, fun x hx => ?_⟩
    · obtain ⟨x0, x1, rfl⟩ := TrO.len2 hr
      exact ⟨[.int .i64 x0], _, rfl, rfl, rfl⟩
    · obtain ⟨r, hr, rfl⟩ := List.mem_map.1 hx
      obtain ⟨h1, h2⟩ := rw1 r hr
      exact ⟨TrO.wf_get h1 h2 0 (by decide), TrO.wf_get h1 h2 1 (by decide)⟩
  subst el1
  have bl1 : l1.length ≤ 9223372036854775807 := by have := rm1; have : cap1 ≤ 9223372036854775807 := this; omega
  have k2 := h2
  have lt2 : ∀ x ∈ p2, x.block < W.heap.size := by obtain ⟨m, hm⟩ := k2; exact DataW.trod_lt m _ _ _ hm
  obtain ⟨a2, len2, cap2, rfl⟩ := okWide_slice Tryd.underlying25 (hval 2 25 v2 rfl rfl)
  obtain ⟨rows2, rl2, rc2, rm2, rw2, rr2, rd2⟩ := TrO.open_recs Tryd.underlying25 Tryd.underlying42 (n := 5) (by kernel_rfl) rfl (TrO.fields_of Tryd.underlying3 (by kernel_rfl) (by kernel_rfl)) h2
  obtain ⟨l2, el2, hr2, wl2⟩ : ∃ l : List PTraceBounds.S42, l.length = len2 ∧ Kd.C PTraceBounds.k42 W a2 len2 l ∧ ∀ x ∈ l, (Lit.int .i64 x.f0).wf = true ∧ (Lit.int .i64 x.f1).wf = true ∧ (Lit.int .i64 x.f2).wf = true ∧ (Lit.int .i64 x.f3).wf = true ∧ (Lit.int .i64 x.f4).wf = true := by
    refine ⟨rows2.map (fun r : List Int => (⟨r.getD 0 0, r.getD 1 0, r.getD 2 0, r.getD 3 0, r.getD 4 0⟩ : PTraceBounds.S42)), by rw [List.length_map]; exact rl2, TrO.C_recs (k := PTraceBounds.k42) (fun r : List Int => (⟨r.getD 0 0, r.getD 1 0, r.getD 2 0, r.getD 3 0, r.getD 4 0⟩ : PTraceBounds.S42)) rfl (fun r hr => ?_) rl2 (by have := rm2; have : cap2 ≤ 9223372036854775807 := this; omega) (fun r hr => (rw2 r hr).1) rr2, fun x hx => ?_⟩
    · obtain ⟨x0, x1, x2, x3, x4, rfl⟩ := TrO.len5 hr
      exact ⟨[.int .i64 x0], _, rfl, rfl, ⟨[.int .i64 x1], _, rfl, rfl, ⟨[.int .i64 x2], _, rfl, rfl, ⟨[.int .i64 x3], _, rfl, rfl, rfl⟩⟩⟩⟩
    · obtain ⟨r, hr, rfl⟩ := List.mem_map.1 hx
      obtain ⟨h1, h2⟩ := rw2 r hr
      exact ⟨TrO.wf_get h1 h2 0 (by decide), TrO.wf_get h1 h2 1 (by decide), TrO.wf_get h1 h2 2 (by decide), TrO.wf_get h1 h2 3 (by decide), TrO.wf_get h1 h2 4 (by decide)⟩
  subst el2
  have bl2 : l2.length ≤ 9223372036854775807 := by have := rm2; have : cap2 ≤ 9223372036854775807 := this; omega
  clear hA0 hval0 hsz0 hsz
  obtain ⟨k, h⟩ := Pure.TraceBounds c0_0 c0_1 c0_2 c0_3 c0_4 c0_5 c0_6 c0_7 c0_8 c0_9 l1 l2 y0 bl1 wl1 bl2 wl2
  refine (PTraceBounds.millwrightlaw19_TraceBounds.calls k c0_0 c0_1 c0_2 c0_3 c0_4 c0_5 c0_6 c0_7 c0_8 c0_9 _ _ l1 _ _ l2 true W hr1 rc1 hr2 rc2 h HT).mono fun e W' ⟨he, bel⟩ => ?_
  subst he
  exact ⟨_, rfl, _, _, _, [], _, [], hW', trodAll_mk1 (shut_bool Tryd.underlying4 _), (trodAll_cons_mk (Below.trod laidOut (by kernel_rfl) (of_decide_eq_true (by kernel_rfl)) k0 bel lt0) (trodAll_cons_mk (Below.trod laidOut (by kernel_rfl) (of_decide_eq_true (by kernel_rfl)) k1 bel lt1) (trodAll_cons_mk (Below.trod laidOut (by kernel_rfl) (of_decide_eq_true (by kernel_rfl)) k2 bel lt2) trodAll_mk0))), rfl, bel.frame _, fun h => by cases h⟩
theorem reads (os : Os) {H : Type} (enc : TypeId × Value → H) : ∃ places, DataW.whole enc Tryd.prog ((World.doorLaid Tryd.prog 59 os).forCall (fun _ _ => 0) ⟨#[], #[.agg #[.int .i64 0, .int .i64 0, .int .i64 0, .int .i64 0, .int .i64 0, .int .i64 0, .int .i64 0, .int .i64 0, .int .i64 0, .int .i64 0], .slice none 0 0, .slice none 0 0], []⟩).memory Tryd.f6.params.toList Rows.traceBoundsSpec.vars false (#[.agg #[.int .i64 0, .int .i64 0, .int .i64 0, .int .i64 0, .int .i64 0, .int .i64 0, .int .i64 0, .int .i64 0, .int .i64 0, .int .i64 0], .slice none 0 0, .slice none 0 0] : Array Value).toList 8 = some ([.agg [.lit (.int .i64 0), .lit (.int .i64 0), .lit (.int .i64 0), .lit (.int .i64 0), .lit (.int .i64 0), .lit (.int .i64 0), .lit (.int .i64 0), .lit (.int .i64 0), .lit (.int .i64 0), .lit (.int .i64 0)], .nil, .nil], [], places) :=
  ⟨[], by kernel_rfl⟩
set_option maxRecDepth 100000 in
theorem lifted (os : Os) (started : os.Started) (H : Type) (enc : TypeId × Value → H) (F : Stop.Interp) :
    ReturnsInHanded {} Tryd.checked os 6 .any ((OpenSpec.ofChange Rows.traceBoundsSpec).preRow enc Tryd.prog Tryd.f6 Rows.traceBoundsRow.domain false Rows.traceBoundsRow.laid) (((OpenSpec.ofChange Rows.traceBoundsSpec).at F).post enc Tryd.prog Tryd.f6 false true false false) := by
  obtain ⟨places, hx⟩ := reads os enc
  refine returnsInHanded_of_row (C := Tryd.checked) (s := OpenSpec.ofChange Rows.traceBoundsSpec) own started (by kernel_rfl) Tryd.func6
    (witness_row_atRef (enc := enc) (C := Tryd.checked) false (World.doorLaid Tryd.prog 59 os) #[.agg #[.int .i64 0, .int .i64 0, .int .i64 0, .int .i64 0, .int .i64 0, .int .i64 0, .int .i64 0, .int .i64 0, .int .i64 0, .int .i64 0], .slice none 0 0, .slice none 0 0] rfl (by kernel_rfl) (by kernel_rfl) (by kernel_rfl)
      (OpenSpec.preRow_of_cond 8 hx (by kernel_rfl) (fun k hk => by cases hk) (by kernel_rfl) (TrCard.door_met os _))) ?_
  intro W base args ds gs before hval hW _ _ hsz hL _ _
  exact contract H enc W base args ds gs before hval hW hsz hL
theorem said : Rows.TraceBoundsSaid :=
  OpenClaim.holds_of_cond 6 Tryd.f6 rfl rfl rfl rfl rfl rfl rfl ⟨rfl, rfl, rfl, rfl, rfl⟩ rfl rfl rfl rfl rfl (by kernel_rfl) Tryd.func6 (by kernel_rfl)
    (of_decide_eq_true (by kernel_rfl)) (by unfold Func.isWrapper; first | (rw [if_pos (by decide +kernel)]; kernel_rfl) | (rw [if_neg (by decide +kernel)]; exact ⟨rfl, rfl⟩))
    (fun os started H enc _ F => by rw [OpenClaim.pre_eq_preRow]; exact lifted os started H enc F)
theorem plain (f : FuncId) (fn : Func) (hf : Tryd.pinned.checked.prog.funcNamed "millwright/millwrightlaw19.TraceBounds" = some f) (hfn : Tryd.pinned.checked.prog.funcs[f]? = some fn) :
    false = Tryd.pinned.checked.prog.looks [] ∧ ∀ (j : Nat) t, fn.params[j]? = some t → Tryd.pinned.checked.prog.wantsStandIn t = false := by
  obtain rfl : f = 6 := Option.some.inj ((show Tryd.prog.funcNamed "millwright/millwrightlaw19.TraceBounds" = some 6 by kernel_rfl).symm.trans hf) |>.symm
  obtain rfl : fn = Tryd.f6 := (Option.some.inj (Tryd.func6.symm.trans hfn)).symm
  refine ⟨by kernel_rfl, fun j t ht => ?_⟩
  rw [Tryd.params6] at ht
  have hm := Array.mem_of_getElem? ht
  simp only [List.mem_toArray, List.mem_cons, List.not_mem_nil, or_false] at hm
  rcases hm with rfl | rfl | rfl
  · exact (show Tryd.prog.wantsStandIn 23 = false by kernel_rfl)
  · exact (show Tryd.prog.wantsStandIn 24 = false by kernel_rfl)
  · exact (show Tryd.prog.wantsStandIn 25 = false by kernel_rfl)
theorem card : Rows.TraceBoundsCardSaid :=
  Claim7.holds_tied_plain_at .later [] _ _ _ _ said (fun _ h => by cases h) (by kernel_rfl) (fun _ h => by cases h) traceBounds_row_tie rfl ⟨rfl, rfl⟩ (by kernel_rfl) rfl plain (by kernel_rfl)
#print axioms card
end Go.Proofs.YtckcepmkfegkiaaDoor.traceBounds
namespace Go.Proofs.YtckcepmkfegkiaaDoor
/-- The card, under a short name, for the claim. -/
theorem traceBounds_card_holds : Rows.TraceBoundsCardSaid := traceBounds.card
end Go.Proofs.YtckcepmkfegkiaaDoor
