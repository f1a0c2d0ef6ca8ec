-- Printed for this claim by a program of this project's own, over the kit's printer; some functions are told by hand.
import Derived.Test.YtckcepmkfegkiaaDoorPTraceTellsx0
import Derived.Test.YtckcepmkfegkiaaDoorPTraceTellsx1
import Derived.Test.YtckcepmkfegkiaaDoorPTraceTellsx2
namespace Go.Proofs.YtckcepmkfegkiaaDoor.PTraceTells
open Go.RowKit Go.Proofs.YtckcepmkfegkiaaDoorW.PrintWords Go.Proofs.YtckcepmkfegkiaaDoorW.PrintLast Go.Proofs.YtckcepmkfegkiaaDoorW.PrintMore
attribute [local go_sem] max2_int min2_int max_two min_two max_three min_three max_four min_four   -- for this text's walks alone
set_option linter.unusedVariables false
set_option linter.unusedSimpArgs false
mutual
def millwrightref19_one.j0 : Nat → List (S50) → List (S39) → Bool → Int → Int → Int → Int → Int → Int → Int → Int → Int → Int → Int → Int → Int → Int → Int → Option (Int)
  | 0, _, _, _, _, _, _, _, _, _, _, _, _, _, _, _, _, _, _ => none
  | k + 1, x1, x2, x52, x129000, x129001, x129002, x129003, x129004, x129005, x129006, x129007, x129008, x129009, x130000, x130001, x130002, x130003, x130004 => if x52 = true then (some 1) else (if (x2.length : Int) > 0 then (if 0 ≤ (wrap64 ((x2.length : Int) - 1)) then (if (wrap64 ((x2.length : Int) - 1)) < (x2.length : Int) then (millwrightref19_one.j1 k x1 x2 (decide (x130004 < ((rd_T39 x2 (wrap64 ((x2.length : Int) - 1))).f4))) x129000 x129001 x129002 x129003 x129004 x129005 x129006 x129007 x129008 x129009 x130000 x130001 x130002 x130003 x130004) else (none)) else (none)) else (millwrightref19_one.j1 k x1 x2 false x129000 x129001 x129002 x129003 x129004 x129005 x129006 x129007 x129008 x129009 x130000 x130001 x130002 x130003 x130004))
def millwrightref19_one.j1 : Nat → List (S50) → List (S39) → Bool → Int → Int → Int → Int → Int → Int → Int → Int → Int → Int → Int → Int → Int → Int → Int → Option (Int)
  | 0, _, _, _, _, _, _, _, _, _, _, _, _, _, _, _, _, _, _ => none
  | k + 1, x1, x2, x67, x129000, x129001, x129002, x129003, x129004, x129005, x129006, x129007, x129008, x129009, x130000, x130001, x130002, x130003, x130004 => if x67 = true then (some 1) else (if x130000 = 1 then ((millwrightref19_start.f k x129000 x129001 x129002 x129003 x129004 x129005 x129006 x129007 x129008 x129009 x1 x2 x130000 x130001 x130002 x130003 x130004).bind fun t131 => (some t131)) else ((millwrightref19_Live.f k x2 x130001).bind fun t132 => (if t132 = true then ((millwrightref19_last.f k x2 x130001).bind fun t133 => (if 0 ≤ t133 then (if t133 < (x2.length : Int) then (if ((rd_T39 x2 t133).f2) = x130002 then (millwrightref19_one.j2 k x2 (((rd_T39 x2 t133).f3) != x130003) x129000 x129001 x129002 x129003 x129004 x129005 x129006 x129007 x129008 x129009 x130000 x130001 x130002 x130003 x130004 ((rd_T39 x2 t133).f0) ((rd_T39 x2 t133).f1) ((rd_T39 x2 t133).f2) ((rd_T39 x2 t133).f3) ((rd_T39 x2 t133).f4)) else (millwrightref19_one.j2 k x2 true x129000 x129001 x129002 x129003 x129004 x129005 x129006 x129007 x129008 x129009 x130000 x130001 x130002 x130003 x130004 ((rd_T39 x2 t133).f0) ((rd_T39 x2 t133).f1) ((rd_T39 x2 t133).f2) ((rd_T39 x2 t133).f3) ((rd_T39 x2 t133).f4))) else (none)) else (none))) else (some 6))))
def millwrightref19_one.j2 : Nat → List (S39) → Bool → Int → Int → Int → Int → Int → Int → Int → Int → Int → Int → Int → Int → Int → Int → Int → Int → Int → Int → Int → Int → Option (Int)
  | 0, _, _, _, _, _, _, _, _, _, _, _, _, _, _, _, _, _, _, _, _, _, _ => none
  | k + 1, x2, x100, x129000, x129001, x129002, x129003, x129004, x129005, x129006, x129007, x129008, x129009, x130000, x130001, x130002, x130003, x130004, x136000, x136001, x136002, x136003, x136004 => if x100 = true then (some 6) else (if x130000 = 5 then (millwrightref19_one.j3 k x2 (decide ((wrap64 (x130004 - x136004)) < x129006)) x129000 x129001 x129002 x129003 x129004 x129005 x129006 x129007 x129008 x129009 x130000 x130001 x130002 x130003 x130004) else (millwrightref19_one.j3 k x2 false x129000 x129001 x129002 x129003 x129004 x129005 x129006 x129007 x129008 x129009 x130000 x130001 x130002 x130003 x130004))
def millwrightref19_one.j3 : Nat → List (S39) → Bool → Int → Int → Int → Int → Int → Int → Int → Int → Int → Int → Int → Int → Int → Int → Int → Option (Int)
  | 0, _, _, _, _, _, _, _, _, _, _, _, _, _, _, _, _, _ => none
  | k + 1, x2, x113, x129000, x129001, x129002, x129003, x129004, x129005, x129006, x129007, x129008, x129009, x130000, x130001, x130002, x130003, x130004 => if x113 = true then (some 10) else (if x130000 = 6 then ((millwrightref19_many.f k x2 x130001 6).bind fun t136 => (if t136 ≥ x129005 then (some 3) else (some 0))) else (some 0))
end
def millwrightref19_one.f (k : Nat) (a0_0 : Int) (a0_1 : Int) (a0_2 : Int) (a0_3 : Int) (a0_4 : Int) (a0_5 : Int) (a0_6 : Int) (a0_7 : Int) (a0_8 : Int) (a0_9 : Int) (l1 : List (S50)) (l2 : List (S39)) (a3_0 : Int) (a3_1 : Int) (a3_2 : Int) (a3_3 : Int) (a3_4 : Int) : Option (Int) := if a3_0 < 1 then (millwrightref19_one.j0 k l1 l2 true a0_0 a0_1 a0_2 a0_3 a0_4 a0_5 a0_6 a0_7 a0_8 a0_9 a3_0 a3_1 a3_2 a3_3 a3_4) else (if a3_0 > 6 then (millwrightref19_one.j0 k l1 l2 true a0_0 a0_1 a0_2 a0_3 a0_4 a0_5 a0_6 a0_7 a0_8 a0_9 a3_0 a3_1 a3_2 a3_3 a3_4) else (if a3_1 < 0 then (millwrightref19_one.j0 k l1 l2 true a0_0 a0_1 a0_2 a0_3 a0_4 a0_5 a0_6 a0_7 a0_8 a0_9 a3_0 a3_1 a3_2 a3_3 a3_4) else (if a3_1 ≥ (l1.length : Int) then (millwrightref19_one.j0 k l1 l2 true a0_0 a0_1 a0_2 a0_3 a0_4 a0_5 a0_6 a0_7 a0_8 a0_9 a3_0 a3_1 a3_2 a3_3 a3_4) else (if a3_2 < 0 then (millwrightref19_one.j0 k l1 l2 true a0_0 a0_1 a0_2 a0_3 a0_4 a0_5 a0_6 a0_7 a0_8 a0_9 a3_0 a3_1 a3_2 a3_3 a3_4) else (if a3_2 ≥ a0_1 then (millwrightref19_one.j0 k l1 l2 true a0_0 a0_1 a0_2 a0_3 a0_4 a0_5 a0_6 a0_7 a0_8 a0_9 a3_0 a3_1 a3_2 a3_3 a3_4) else (if a3_3 < 0 then (millwrightref19_one.j0 k l1 l2 true a0_0 a0_1 a0_2 a0_3 a0_4 a0_5 a0_6 a0_7 a0_8 a0_9 a3_0 a3_1 a3_2 a3_3 a3_4) else (millwrightref19_one.j0 k l1 l2 (decide (a3_4 < 0)) a0_0 a0_1 a0_2 a0_3 a0_4 a0_5 a0_6 a0_7 a0_8 a0_9 a3_0 a3_1 a3_2 a3_3 a3_4)))))))
theorem millwrightref19_one.mono_l : ∀ k, (∀ y0 y1 y2 y3 y4 y5 y6 y7 y8 y9 y10 y11 y12 y13 y14 y15 y16 y17, LeO (millwrightref19_one.j0 k y0 y1 y2 y3 y4 y5 y6 y7 y8 y9 y10 y11 y12 y13 y14 y15 y16 y17) (millwrightref19_one.j0 (k + 1) y0 y1 y2 y3 y4 y5 y6 y7 y8 y9 y10 y11 y12 y13 y14 y15 y16 y17)) ∧ (∀ y0 y1 y2 y3 y4 y5 y6 y7 y8 y9 y10 y11 y12 y13 y14 y15 y16 y17, LeO (millwrightref19_one.j1 k y0 y1 y2 y3 y4 y5 y6 y7 y8 y9 y10 y11 y12 y13 y14 y15 y16 y17) (millwrightref19_one.j1 (k + 1) y0 y1 y2 y3 y4 y5 y6 y7 y8 y9 y10 y11 y12 y13 y14 y15 y16 y17)) ∧ (∀ y0 y1 y2 y3 y4 y5 y6 y7 y8 y9 y10 y11 y12 y13 y14 y15 y16 y17 y18 y19 y20 y21, LeO (millwrightref19_one.j2 k y0 y1 y2 y3 y4 y5 y6 y7 y8 y9 y10 y11 y12 y13 y14 y15 y16 y17 y18 y19 y20 y21) (millwrightref19_one.j2 (k + 1) y0 y1 y2 y3 y4 y5 y6 y7 y8 y9 y10 y11 y12 y13 y14 y15 y16 y17 y18 y19 y20 y21)) ∧ (∀ y0 y1 y2 y3 y4 y5 y6 y7 y8 y9 y10 y11 y12 y13 y14 y15 y16, LeO (millwrightref19_one.j3 k y0 y1 y2 y3 y4 y5 y6 y7 y8 y9 y10 y11 y12 y13 y14 y15 y16) (millwrightref19_one.j3 (k + 1) y0 y1 y2 y3 y4 y5 y6 y7 y8 y9 y10 y11 y12 y13 y14 y15 y16))
  | 0 => ⟨fun _ _ _ _ _ _ _ _ _ _ _ _ _ _ _ _ _ _ r h => by simp [millwrightref19_one.j0] at h, fun _ _ _ _ _ _ _ _ _ _ _ _ _ _ _ _ _ _ r h => by simp [millwrightref19_one.j1] at h, fun _ _ _ _ _ _ _ _ _ _ _ _ _ _ _ _ _ _ _ _ _ _ r h => by simp [millwrightref19_one.j2] at h, fun _ _ _ _ _ _ _ _ _ _ _ _ _ _ _ _ _ r h => by simp [millwrightref19_one.j3] at h⟩
  | k + 1 => by
    obtain ⟨ih0, ih1, ih2, ih3⟩ := millwrightref19_one.mono_l k
    refine ⟨?_, ?_, ?_, ?_⟩
    · intro y0 y1 y2 y3 y4 y5 y6 y7 y8 y9 y10 y11 y12 y13 y14 y15 y16 y17
      unfold millwrightref19_one.j0
      repeat' first
      | (with_reducible exact ih0 _ _ _ _ _ _ _ _ _ _ _ _ _ _ _ _ _ _)
      | (with_reducible exact ih1 _ _ _ _ _ _ _ _ _ _ _ _ _ _ _ _ _ _)
      | (with_reducible exact ih2 _ _ _ _ _ _ _ _ _ _ _ _ _ _ _ _ _ _ _ _ _ _)
      | (with_reducible exact ih3 _ _ _ _ _ _ _ _ _ _ _ _ _ _ _ _ _)
      | (with_reducible exact millwrightref19_Live.mono _ _ _)
      | (with_reducible exact millwrightref19_last.mono _ _ _)
      | (with_reducible exact millwrightref19_many.mono _ _ _ _)
      | (with_reducible exact millwrightref19_start.mono _ _ _ _ _ _ _ _ _ _ _ _ _ _ _ _ _ _)
      | (with_reducible exact LeO.refl _)
      | (with_reducible exact LeO.none _)
      | (with_reducible refine LeO.ite ?_ ?_)
      | (with_reducible refine LeO.bind ?_ (fun _ => ?_))
      | exact ih0 _ _ _ _ _ _ _ _ _ _ _ _ _ _ _ _ _ _
      | exact ih1 _ _ _ _ _ _ _ _ _ _ _ _ _ _ _ _ _ _
      | exact ih2 _ _ _ _ _ _ _ _ _ _ _ _ _ _ _ _ _ _ _ _ _ _
      | exact ih3 _ _ _ _ _ _ _ _ _ _ _ _ _ _ _ _ _
      | exact millwrightref19_Live.mono _ _ _
      | exact millwrightref19_last.mono _ _ _
      | exact millwrightref19_many.mono _ _ _ _
      | exact millwrightref19_start.mono _ _ _ _ _ _ _ _ _ _ _ _ _ _ _ _ _ _
      | exact LeO.none _
      | refine LeO.ite ?_ ?_
      | refine LeO.bind ?_ (fun _ => ?_)
    · intro y0 y1 y2 y3 y4 y5 y6 y7 y8 y9 y10 y11 y12 y13 y14 y15 y16 y17
      unfold millwrightref19_one.j1
      repeat' first
      | (with_reducible exact ih0 _ _ _ _ _ _ _ _ _ _ _ _ _ _ _ _ _ _)
      | (with_reducible exact ih1 _ _ _ _ _ _ _ _ _ _ _ _ _ _ _ _ _ _)
      | (with_reducible exact ih2 _ _ _ _ _ _ _ _ _ _ _ _ _ _ _ _ _ _ _ _ _ _)
      | (with_reducible exact ih3 _ _ _ _ _ _ _ _ _ _ _ _ _ _ _ _ _)
      | (with_reducible exact millwrightref19_Live.mono _ _ _)
      | (with_reducible exact millwrightref19_last.mono _ _ _)
      | (with_reducible exact millwrightref19_many.mono _ _ _ _)
      | (with_reducible exact millwrightref19_start.mono _ _ _ _ _ _ _ _ _ _ _ _ _ _ _ _ _ _)
      | (with_reducible exact LeO.refl _)
      | (with_reducible exact LeO.none _)
      | (with_reducible refine LeO.ite ?_ ?_)
      | (with_reducible refine LeO.bind ?_ (fun _ => ?_))
      | exact ih0 _ _ _ _ _ _ _ _ _ _ _ _ _ _ _ _ _ _
      | exact ih1 _ _ _ _ _ _ _ _ _ _ _ _ _ _ _ _ _ _
      | exact ih2 _ _ _ _ _ _ _ _ _ _ _ _ _ _ _ _ _ _ _ _ _ _
      | exact ih3 _ _ _ _ _ _ _ _ _ _ _ _ _ _ _ _ _
      | exact millwrightref19_Live.mono _ _ _
      | exact millwrightref19_last.mono _ _ _
      | exact millwrightref19_many.mono _ _ _ _
      | exact millwrightref19_start.mono _ _ _ _ _ _ _ _ _ _ _ _ _ _ _ _ _ _
      | exact LeO.none _
      | refine LeO.ite ?_ ?_
      | refine LeO.bind ?_ (fun _ => ?_)
    · intro y0 y1 y2 y3 y4 y5 y6 y7 y8 y9 y10 y11 y12 y13 y14 y15 y16 y17 y18 y19 y20 y21
      unfold millwrightref19_one.j2
      repeat' first
      | (with_reducible exact ih0 _ _ _ _ _ _ _ _ _ _ _ _ _ _ _ _ _ _)
      | (with_reducible exact ih1 _ _ _ _ _ _ _ _ _ _ _ _ _ _ _ _ _ _)
      | (with_reducible exact ih2 _ _ _ _ _ _ _ _ _ _ _ _ _ _ _ _ _ _ _ _ _ _)
      | (with_reducible exact ih3 _ _ _ _ _ _ _ _ _ _ _ _ _ _ _ _ _)
      | (with_reducible exact millwrightref19_Live.mono _ _ _)
      | (with_reducible exact millwrightref19_last.mono _ _ _)
      | (with_reducible exact millwrightref19_many.mono _ _ _ _)
      | (with_reducible exact millwrightref19_start.mono _ _ _ _ _ _ _ _ _ _ _ _ _ _ _ _ _ _)
      | (with_reducible exact LeO.refl _)
      | (with_reducible exact LeO.none _)
      | (with_reducible refine LeO.ite ?_ ?_)
      | (with_reducible refine LeO.bind ?_ (fun _ => ?_))
      | exact ih0 _ _ _ _ _ _ _ _ _ _ _ _ _ _ _ _ _ _
      | exact ih1 _ _ _ _ _ _ _ _ _ _ _ _ _ _ _ _ _ _
      | exact ih2 _ _ _ _ _ _ _ _ _ _ _ _ _ _ _ _ _ _ _ _ _ _
      | exact ih3 _ _ _ _ _ _ _ _ _ _ _ _ _ _ _ _ _
      | exact millwrightref19_Live.mono _ _ _
      | exact millwrightref19_last.mono _ _ _
      | exact millwrightref19_many.mono _ _ _ _
      | exact millwrightref19_start.mono _ _ _ _ _ _ _ _ _ _ _ _ _ _ _ _ _ _
      | exact LeO.none _
      | refine LeO.ite ?_ ?_
      | refine LeO.bind ?_ (fun _ => ?_)
    · intro y0 y1 y2 y3 y4 y5 y6 y7 y8 y9 y10 y11 y12 y13 y14 y15 y16
      unfold millwrightref19_one.j3
      repeat' first
      | (with_reducible exact ih0 _ _ _ _ _ _ _ _ _ _ _ _ _ _ _ _ _ _)
      | (with_reducible exact ih1 _ _ _ _ _ _ _ _ _ _ _ _ _ _ _ _ _ _)
      | (with_reducible exact ih2 _ _ _ _ _ _ _ _ _ _ _ _ _ _ _ _ _ _ _ _ _ _)
      | (with_reducible exact ih3 _ _ _ _ _ _ _ _ _ _ _ _ _ _ _ _ _)
      | (with_reducible exact millwrightref19_Live.mono _ _ _)
      | (with_reducible exact millwrightref19_last.mono _ _ _)
      | (with_reducible exact millwrightref19_many.mono _ _ _ _)
      | (with_reducible exact millwrightref19_start.mono _ _ _ _ _ _ _ _ _ _ _ _ _ _ _ _ _ _)
      | (with_reducible exact LeO.refl _)
      | (with_reducible exact LeO.none _)
      | (with_reducible refine LeO.ite ?_ ?_)
      | (with_reducible refine LeO.bind ?_ (fun _ => ?_))
      | exact ih0 _ _ _ _ _ _ _ _ _ _ _ _ _ _ _ _ _ _
      | exact ih1 _ _ _ _ _ _ _ _ _ _ _ _ _ _ _ _ _ _
      | exact ih2 _ _ _ _ _ _ _ _ _ _ _ _ _ _ _ _ _ _ _ _ _ _
      | exact ih3 _ _ _ _ _ _ _ _ _ _ _ _ _ _ _ _ _
      | exact millwrightref19_Live.mono _ _ _
      | exact millwrightref19_last.mono _ _ _
      | exact millwrightref19_many.mono _ _ _ _
      | exact millwrightref19_start.mono _ _ _ _ _ _ _ _ _ _ _ _ _ _ _ _ _ _
      | exact LeO.none _
      | refine LeO.ite ?_ ?_
      | refine LeO.bind ?_ (fun _ => ?_)
theorem millwrightref19_one.mono : ∀ a0 a1 a2 a3 a4 a5 a6 a7 a8 a9 a10 a11 a12 a13 a14 a15 a16 k, LeO (millwrightref19_one.f k a0 a1 a2 a3 a4 a5 a6 a7 a8 a9 a10 a11 a12 a13 a14 a15 a16) (millwrightref19_one.f (k + 1) a0 a1 a2 a3 a4 a5 a6 a7 a8 a9 a10 a11 a12 a13 a14 a15 a16) := by
  intro a0 a1 a2 a3 a4 a5 a6 a7 a8 a9 a10 a11 a12 a13 a14 a15 a16 k
  obtain ⟨ih0, ih1, ih2, ih3⟩ := millwrightref19_one.mono_l k
  unfold millwrightref19_one.f
  repeat' first
      | (with_reducible exact ih0 _ _ _ _ _ _ _ _ _ _ _ _ _ _ _ _ _ _)
      | (with_reducible exact ih1 _ _ _ _ _ _ _ _ _ _ _ _ _ _ _ _ _ _)
      | (with_reducible exact ih2 _ _ _ _ _ _ _ _ _ _ _ _ _ _ _ _ _ _ _ _ _ _)
      | (with_reducible exact ih3 _ _ _ _ _ _ _ _ _ _ _ _ _ _ _ _ _)
      | (with_reducible exact millwrightref19_Live.mono _ _ _)
      | (with_reducible exact millwrightref19_last.mono _ _ _)
      | (with_reducible exact millwrightref19_many.mono _ _ _ _)
      | (with_reducible exact millwrightref19_start.mono _ _ _ _ _ _ _ _ _ _ _ _ _ _ _ _ _ _)
      | (with_reducible exact LeO.refl _)
      | (with_reducible exact LeO.none _)
      | (with_reducible refine LeO.ite ?_ ?_)
      | (with_reducible refine LeO.bind ?_ (fun _ => ?_))
      | exact ih0 _ _ _ _ _ _ _ _ _ _ _ _ _ _ _ _ _ _
      | exact ih1 _ _ _ _ _ _ _ _ _ _ _ _ _ _ _ _ _ _
      | exact ih2 _ _ _ _ _ _ _ _ _ _ _ _ _ _ _ _ _ _ _ _ _ _
      | exact ih3 _ _ _ _ _ _ _ _ _ _ _ _ _ _ _ _ _
      | exact millwrightref19_Live.mono _ _ _
      | exact millwrightref19_last.mono _ _ _
      | exact millwrightref19_many.mono _ _ _ _
      | exact millwrightref19_start.mono _ _ _ _ _ _ _ _ _ _ _ _ _ _ _ _ _ _
      | exact LeO.none _
      | refine LeO.ite ?_ ?_
      | refine LeO.bind ?_ (fun _ => ?_)
set_option maxHeartbeats 8000000 in
set_option maxRecDepth 100000 in
theorem millwrightref19_one.calls (k : Nat) (a0_0 : Int) (a0_1 : Int) (a0_2 : Int) (a0_3 : Int) (a0_4 : Int) (a0_5 : Int) (a0_6 : Int) (a0_7 : Int) (a0_8 : Int) (a0_9 : Int) (A1 : Option Addr) (c1 : Nat) (l1 : List (S50)) (A2 : Option Addr) (c2 : Nat) (l2 : List (S39)) (a3_0 : Int) (a3_1 : Int) (a3_2 : Int) (a3_3 : Int) (a3_4 : Int) (r : Int) (w : World) (hr1 : Kd.C k50 w A1 l1.length l1) (hc1 : l1.length ≤ c1) (hr2 : Kd.C k39 w A2 l2.length l2) (hc2 : l2.length ≤ c2) (h : millwrightref19_one.f k a0_0 a0_1 a0_2 a0_3 a0_4 a0_5 a0_6 a0_7 a0_8 a0_9 l1 l2 a3_0 a3_1 a3_2 a3_3 a3_4 = some r) :
    Calls Tryd.prog 24 #[.agg #[.int .i64 a0_0, .int .i64 a0_1, .int .i64 a0_2, .int .i64 a0_3, .int .i64 a0_4, .int .i64 a0_5, .int .i64 a0_6, .int .i64 a0_7, .int .i64 a0_8, .int .i64 a0_9], .slice A1 l1.length c1, .slice A2 l2.length c2, .agg #[.int .i64 a3_0, .int .i64 a3_1, .int .i64 a3_2, .int .i64 a3_3, .int .i64 a3_4]] w fun e w' => e = .returned (.int .i64 r) ∧ Below w.heap.size w w' := by
  have hu23 := Tryd.underlying23
  have hu39 := Tryd.underlying39
  have HR1 := Aside0.mk hr1
  have HC1 := Aside0.mk hc1
  clear hr1 hc1
  have HR2 := Aside0.mk hr2
  have HC2 := Aside0.mk hc2
  clear hr2 hc2
  have HB := Aside0.mk (Below.refl w.heap.size w)
  have H : (if a3_0 < 1 then (millwrightref19_one.j0 k l1 l2 true a0_0 a0_1 a0_2 a0_3 a0_4 a0_5 a0_6 a0_7 a0_8 a0_9 a3_0 a3_1 a3_2 a3_3 a3_4) else (if a3_0 > 6 then (millwrightref19_one.j0 k l1 l2 true a0_0 a0_1 a0_2 a0_3 a0_4 a0_5 a0_6 a0_7 a0_8 a0_9 a3_0 a3_1 a3_2 a3_3 a3_4) else (if a3_1 < 0 then (millwrightref19_one.j0 k l1 l2 true a0_0 a0_1 a0_2 a0_3 a0_4 a0_5 a0_6 a0_7 a0_8 a0_9 a3_0 a3_1 a3_2 a3_3 a3_4) else (if a3_1 ≥ (l1.length : Int) then (millwrightref19_one.j0 k l1 l2 true a0_0 a0_1 a0_2 a0_3 a0_4 a0_5 a0_6 a0_7 a0_8 a0_9 a3_0 a3_1 a3_2 a3_3 a3_4) else (if a3_2 < 0 then (millwrightref19_one.j0 k l1 l2 true a0_0 a0_1 a0_2 a0_3 a0_4 a0_5 a0_6 a0_7 a0_8 a0_9 a3_0 a3_1 a3_2 a3_3 a3_4) else (if a3_2 ≥ a0_1 then (millwrightref19_one.j0 k l1 l2 true a0_0 a0_1 a0_2 a0_3 a0_4 a0_5 a0_6 a0_7 a0_8 a0_9 a3_0 a3_1 a3_2 a3_3 a3_4) else (if a3_3 < 0 then (millwrightref19_one.j0 k l1 l2 true a0_0 a0_1 a0_2 a0_3 a0_4 a0_5 a0_6 a0_7 a0_8 a0_9 a3_0 a3_1 a3_2 a3_3 a3_4) else (millwrightref19_one.j0 k l1 l2 (decide (a3_4 < 0)) a0_0 a0_1 a0_2 a0_3 a0_4 a0_5 a0_6 a0_7 a0_8 a0_9 a3_0 a3_1 a3_2 a3_3 a3_4)))))))) = some r := h
  clear h
  have HC5 := Aside0.mk H
  clear H
  go_enter Tryd.func24, Tryd.ntmps24
  go_upto_region 1 with (first | ((with_reducible refine gate_dst (N := 4) rfl ?_); (try (refine gate_guard (by rfl) ?_; dsimp only)); refine box_event ?hg (N := 4) ?hd (cs := #[.int .i64 a0_0, .int .i64 a0_1, .int .i64 a0_2, .int .i64 a0_3, .int .i64 a0_4, .int .i64 a0_5, .int .i64 a0_6, .int .i64 a0_7, .int .i64 a0_8, .int .i64 a0_9]) (t := 23) ?hr ?_; (case hd => rfl); (case hg => rfl); (case hr => first | (go_simp; done) | (go_simp; rfl)); intro gb128 hg w6 hbox hb; have n0_ := Aside0.mk (below_step (by repeat (first | (with_reducible first | exact HB.out | apply below_alloc | apply pw_below_drewN | apply below_drew1) | exact HB.out)) hb); have n1_ := Aside0.mk (hbox); have n2_ := Aside0.mk ((by rw [hg]; exact (below_size (by repeat (first | (with_reducible first | exact HB.out | apply below_alloc | apply pw_below_drewN | apply below_drew1) | exact HB.out))) : w.heap.size ≤ gb128)); have n3_ := Aside0.mk ((by rw [hg]; exact (below_size (by repeat (first | (with_reducible first | exact HB.out | apply below_alloc | apply pw_below_drewN | apply below_drew1) | exact HB.out))) : w.heap.size ≤ gb128)); clear HB; have HB := n0_; have BK128 := n1_; have GW128 := n2_; have GE128 := n3_; clear n0_ n1_ n2_ n3_; clear hb hbox hg) | ((with_reducible refine gate_dst (N := 7) rfl ?_); (try (refine gate_guard (by rfl) ?_; dsimp only)); refine box_event ?hg (N := 7) ?hd (cs := #[.int .i64 a3_0, .int .i64 a3_1, .int .i64 a3_2, .int .i64 a3_3, .int .i64 a3_4]) (t := 39) ?hr ?_; (case hd => rfl); (case hg => rfl); (case hr => first | (go_simp; done) | (go_simp; rfl)); intro gb129 hg w7 hbox hb; have n0_ := Aside0.mk (blk_below (g := gb128) (o := .cells #[.int .i64 a0_0, .int .i64 a0_1, .int .i64 a0_2, .int .i64 a0_3, .int .i64 a0_4, .int .i64 a0_5, .int .i64 a0_6, .int .i64 a0_7, .int .i64 a0_8, .int .i64 a0_9] 23 (0, 0)) (by (with_reducible repeat (first | refine blk_drewN ?_ _ | refine blk_drew ?_ | refine blk_alloc ?_ _)); exact BK128.out) hb); have n1_ := Aside0.mk (below_step (by repeat (first | (with_reducible first | exact HB.out | apply below_alloc | apply pw_below_drewN | apply below_drew1 | refine below_set ?_ GE128.out) | exact HB.out)) hb); have n2_ := Aside0.mk (hbox); have n3_ := Aside0.mk ((by rw [hg]; exact (below_size (by repeat (first | (with_reducible first | exact HB.out | apply below_alloc | apply pw_below_drewN | apply below_drew1 | refine below_set ?_ GE128.out) | exact HB.out))) : w.heap.size ≤ gb129)); have n4_ := Aside0.mk ((by rw [hg]; exact (below_size (by repeat (first | (with_reducible first | exact HB.out | apply below_alloc | apply pw_below_drewN | apply below_drew1 | refine below_set ?_ GE128.out) | exact HB.out))) : w.heap.size ≤ gb129)); have n5_ := Aside0.mk ((by rw [hg]; exact Nat.ne_of_lt (blk_lt (g := gb128) (o := .cells #[.int .i64 a0_0, .int .i64 a0_1, .int .i64 a0_2, .int .i64 a0_3, .int .i64 a0_4, .int .i64 a0_5, .int .i64 a0_6, .int .i64 a0_7, .int .i64 a0_8, .int .i64 a0_9] 23 (0, 0)) (by (with_reducible repeat (first | refine blk_drewN ?_ _ | refine blk_drew ?_ | refine blk_alloc ?_ _)); exact BK128.out)) : gb128 ≠ gb129)); have n6_ := Aside0.mk ((by rw [hg]; exact Nat.ne_of_gt (blk_lt (g := gb128) (o := .cells #[.int .i64 a0_0, .int .i64 a0_1, .int .i64 a0_2, .int .i64 a0_3, .int .i64 a0_4, .int .i64 a0_5, .int .i64 a0_6, .int .i64 a0_7, .int .i64 a0_8, .int .i64 a0_9] 23 (0, 0)) (by (with_reducible repeat (first | refine blk_drewN ?_ _ | refine blk_drew ?_ | refine blk_alloc ?_ _)); exact BK128.out)) : gb129 ≠ gb128)); clear BK128; clear HB; have BK128 := n0_; have HB := n1_; have BK129 := n2_; have GW129 := n3_; have GE129 := n4_; have NB128_129 := n5_; have NB129_128 := n6_; clear n0_ n1_ n2_ n3_ n4_ n5_ n6_; clear hb hbox hg))
  repeat (go_quiet (fail); try go_wp2)
  (try simp only [Act.put, List.setIfInBounds_toArray, List.set_cons_zero, List.set_cons_succ])
  go_cut [52] (fun v52 wc => ∃ (kq : Nat) (x52_4 : Bool), v52 = .bool x52_4 ∧ Aside0 (millwrightref19_one.j0 kq l1 l2 x52_4 a0_0 a0_1 a0_2 a0_3 a0_4 a0_5 a0_6 a0_7 a0_8 a0_9 a3_0 a3_1 a3_2 a3_3 a3_4 = some r) ∧ Aside0 (kq ≤ k) ∧ Aside0 (wc.heap[gb128]? = some (.cells #[.int .i64 a0_0, .int .i64 a0_1, .int .i64 a0_2, .int .i64 a0_3, .int .i64 a0_4, .int .i64 a0_5, .int .i64 a0_6, .int .i64 a0_7, .int .i64 a0_8, .int .i64 a0_9] 23 (0, 0))) ∧ Aside0 (wc.heap[gb129]? = some (.cells #[.int .i64 a3_0, .int .i64 a3_1, .int .i64 a3_2, .int .i64 a3_3, .int .i64 a3_4] 39 (0, 0))) ∧ Aside0 (Below w.heap.size w wc))
  case first =>
    have H := HC5.out
    clear HC5
    by_cases c8 : a3_0 < 1
    · rw [if_pos c8] at H
      have c8b0 : decide (a3_0 < 1) = true := decide_eq_true c8
      clear c8
      (first | rw [c8b0] | (simp only [i64_w, i32_w]; rw [c8b0]) | skip)
      have H' := Aside0.mk H
      clear H
      have hnb9 := NB129_128.out
      have hnc9 := NB128_129.out
      have hcz10_0 : w7.cell? ⟨gb129, 0, none⟩ = some (.int .i64 a3_0) := (blk_cell BK129.out 0).trans rfl
      have hcz10_1 : w7.cell? ⟨gb129, 1, none⟩ = some (.int .i64 a3_1) := (blk_cell BK129.out 1).trans rfl
      have hcz10_2 : w7.cell? ⟨gb129, 2, none⟩ = some (.int .i64 a3_2) := (blk_cell BK129.out 2).trans rfl
      have hcz10_3 : w7.cell? ⟨gb129, 3, none⟩ = some (.int .i64 a3_3) := (blk_cell BK129.out 3).trans rfl
      have hcz10_4 : w7.cell? ⟨gb129, 4, none⟩ = some (.int .i64 a3_4) := (blk_cell BK129.out 4).trans rfl
      have hfz10_0 := blk_frozen BK129.out 0
      have hfz10_1 := blk_frozen BK129.out 1
      have hfz10_2 := blk_frozen BK129.out 2
      have hfz10_3 := blk_frozen BK129.out 3
      have hfz10_4 := blk_frozen BK129.out 4
      go_wp2
      repeat (go_quiet (fail); try go_wp2)
      go_meet
      case rel => exact ⟨_, (true), (by first | rfl | (simp; done) | (simp [*]; done)), H', ⟨by first | omega | exact Nat.le_refl _⟩, ⟨by (with_reducible repeat (first | refine blk_drewN ?_ _ | refine blk_drew ?_ | refine blk_alloc ?_ _)); exact BK128.out⟩, ⟨by (with_reducible repeat (first | refine blk_drewN ?_ _ | refine blk_drew ?_ | refine blk_alloc ?_ _)); exact BK129.out⟩, ⟨by repeat (first | (with_reducible first | exact HB.out | apply below_alloc | apply pw_below_drewN | apply below_drew1 | refine below_set ?_ GE128.out | refine below_set ?_ GE129.out) | exact HB.out)⟩⟩
    · rw [if_neg c8] at H
      have c8b0 : decide (a3_0 < 1) = false := decide_eq_false c8
      clear c8
      (first | rw [c8b0] | (simp only [i64_w, i32_w]; rw [c8b0]) | skip)
      by_cases c11 : a3_0 > 6
      · rw [if_pos c11] at H
        have c11b0 : decide (6 < a3_0) = true := decide_eq_true c11
        clear c11
        have H' := Aside0.mk H
        clear H
        have hnb12 := NB129_128.out
        have hnc12 := NB128_129.out
        have hcz13_0 : w7.cell? ⟨gb129, 0, none⟩ = some (.int .i64 a3_0) := (blk_cell BK129.out 0).trans rfl
        have hcz13_1 : w7.cell? ⟨gb129, 1, none⟩ = some (.int .i64 a3_1) := (blk_cell BK129.out 1).trans rfl
        have hcz13_2 : w7.cell? ⟨gb129, 2, none⟩ = some (.int .i64 a3_2) := (blk_cell BK129.out 2).trans rfl
        have hcz13_3 : w7.cell? ⟨gb129, 3, none⟩ = some (.int .i64 a3_3) := (blk_cell BK129.out 3).trans rfl
        have hcz13_4 : w7.cell? ⟨gb129, 4, none⟩ = some (.int .i64 a3_4) := (blk_cell BK129.out 4).trans rfl
        have hfz13_0 := blk_frozen BK129.out 0
        have hfz13_1 := blk_frozen BK129.out 1
        have hfz13_2 := blk_frozen BK129.out 2
        have hfz13_3 := blk_frozen BK129.out 3
        have hfz13_4 := blk_frozen BK129.out 4
        go_wp2
        repeat (go_quiet (fail); try go_wp2)
        go_meet
        case rel => exact ⟨_, (true), (by first | rfl | (simp; done) | (simp [*]; done)), H', ⟨by first | omega | exact Nat.le_refl _⟩, ⟨by (with_reducible repeat (first | refine blk_drewN ?_ _ | refine blk_drew ?_ | refine blk_alloc ?_ _)); exact BK128.out⟩, ⟨by (with_reducible repeat (first | refine blk_drewN ?_ _ | refine blk_drew ?_ | refine blk_alloc ?_ _)); exact BK129.out⟩, ⟨by repeat (first | (with_reducible first | exact HB.out | apply below_alloc | apply pw_below_drewN | apply below_drew1 | refine below_set ?_ GE128.out | refine below_set ?_ GE129.out) | exact HB.out)⟩⟩
      · rw [if_neg c11] at H
        have c11b0 : decide (6 < a3_0) = false := decide_eq_false c11
        clear c11
        by_cases c14 : a3_1 < 0
        · rw [if_pos c14] at H
          have c14b0 : decide (a3_1 < 0) = true := decide_eq_true c14
          clear c14
          have H' := Aside0.mk H
          clear H
          have hnb15 := NB129_128.out
          have hnc15 := NB128_129.out
          have hcz16_0 : w7.cell? ⟨gb129, 0, none⟩ = some (.int .i64 a3_0) := (blk_cell BK129.out 0).trans rfl
          have hcz16_1 : w7.cell? ⟨gb129, 1, none⟩ = some (.int .i64 a3_1) := (blk_cell BK129.out 1).trans rfl
          have hcz16_2 : w7.cell? ⟨gb129, 2, none⟩ = some (.int .i64 a3_2) := (blk_cell BK129.out 2).trans rfl
          have hcz16_3 : w7.cell? ⟨gb129, 3, none⟩ = some (.int .i64 a3_3) := (blk_cell BK129.out 3).trans rfl
          have hcz16_4 : w7.cell? ⟨gb129, 4, none⟩ = some (.int .i64 a3_4) := (blk_cell BK129.out 4).trans rfl
          have hfz16_0 := blk_frozen BK129.out 0
          have hfz16_1 := blk_frozen BK129.out 1
          have hfz16_2 := blk_frozen BK129.out 2
          have hfz16_3 := blk_frozen BK129.out 3
          have hfz16_4 := blk_frozen BK129.out 4
          go_wp2
          repeat (go_quiet (fail); try go_wp2)
          go_meet
          case rel => exact ⟨_, (true), (by first | rfl | (simp; done) | (simp [*]; done)), H', ⟨by first | omega | exact Nat.le_refl _⟩, ⟨by (with_reducible repeat (first | refine blk_drewN ?_ _ | refine blk_drew ?_ | refine blk_alloc ?_ _)); exact BK128.out⟩, ⟨by (with_reducible repeat (first | refine blk_drewN ?_ _ | refine blk_drew ?_ | refine blk_alloc ?_ _)); exact BK129.out⟩, ⟨by repeat (first | (with_reducible first | exact HB.out | apply below_alloc | apply pw_below_drewN | apply below_drew1 | refine below_set ?_ GE128.out | refine below_set ?_ GE129.out) | exact HB.out)⟩⟩
        · rw [if_neg c14] at H
          have c14b0 : decide (a3_1 < 0) = false := decide_eq_false c14
          clear c14
          by_cases c17 : a3_1 ≥ (l1.length : Int)
          · rw [if_pos c17] at H
            have c17b0 : decide ((l1.length : Int) ≤ a3_1) = true := decide_eq_true c17
            clear c17
            have H' := Aside0.mk H
            clear H
            have hnb18 := NB129_128.out
            have hnc18 := NB128_129.out
            have hcz19_0 : w7.cell? ⟨gb129, 0, none⟩ = some (.int .i64 a3_0) := (blk_cell BK129.out 0).trans rfl
            have hcz19_1 : w7.cell? ⟨gb129, 1, none⟩ = some (.int .i64 a3_1) := (blk_cell BK129.out 1).trans rfl
            have hcz19_2 : w7.cell? ⟨gb129, 2, none⟩ = some (.int .i64 a3_2) := (blk_cell BK129.out 2).trans rfl
            have hcz19_3 : w7.cell? ⟨gb129, 3, none⟩ = some (.int .i64 a3_3) := (blk_cell BK129.out 3).trans rfl
            have hcz19_4 : w7.cell? ⟨gb129, 4, none⟩ = some (.int .i64 a3_4) := (blk_cell BK129.out 4).trans rfl
            have hfz19_0 := blk_frozen BK129.out 0
            have hfz19_1 := blk_frozen BK129.out 1
            have hfz19_2 := blk_frozen BK129.out 2
            have hfz19_3 := blk_frozen BK129.out 3
            have hfz19_4 := blk_frozen BK129.out 4
            go_wp2
            repeat (go_quiet (fail); try go_wp2)
            go_meet
            case rel => exact ⟨_, (true), (by first | rfl | (simp; done) | (simp [*]; done)), H', ⟨by first | omega | exact Nat.le_refl _⟩, ⟨by (with_reducible repeat (first | refine blk_drewN ?_ _ | refine blk_drew ?_ | refine blk_alloc ?_ _)); exact BK128.out⟩, ⟨by (with_reducible repeat (first | refine blk_drewN ?_ _ | refine blk_drew ?_ | refine blk_alloc ?_ _)); exact BK129.out⟩, ⟨by repeat (first | (with_reducible first | exact HB.out | apply below_alloc | apply pw_below_drewN | apply below_drew1 | refine below_set ?_ GE128.out | refine below_set ?_ GE129.out) | exact HB.out)⟩⟩
          · rw [if_neg c17] at H
            have c17b0 : decide ((l1.length : Int) ≤ a3_1) = false := decide_eq_false c17
            clear c17
            by_cases c20 : a3_2 < 0
            · rw [if_pos c20] at H
              have c20b0 : decide (a3_2 < 0) = true := decide_eq_true c20
              clear c20
              have H' := Aside0.mk H
              clear H
              have hnb21 := NB129_128.out
              have hnc21 := NB128_129.out
              have hcz22_0 : w7.cell? ⟨gb129, 0, none⟩ = some (.int .i64 a3_0) := (blk_cell BK129.out 0).trans rfl
              have hcz22_1 : w7.cell? ⟨gb129, 1, none⟩ = some (.int .i64 a3_1) := (blk_cell BK129.out 1).trans rfl
              have hcz22_2 : w7.cell? ⟨gb129, 2, none⟩ = some (.int .i64 a3_2) := (blk_cell BK129.out 2).trans rfl
              have hcz22_3 : w7.cell? ⟨gb129, 3, none⟩ = some (.int .i64 a3_3) := (blk_cell BK129.out 3).trans rfl
              have hcz22_4 : w7.cell? ⟨gb129, 4, none⟩ = some (.int .i64 a3_4) := (blk_cell BK129.out 4).trans rfl
              have hfz22_0 := blk_frozen BK129.out 0
              have hfz22_1 := blk_frozen BK129.out 1
              have hfz22_2 := blk_frozen BK129.out 2
              have hfz22_3 := blk_frozen BK129.out 3
              have hfz22_4 := blk_frozen BK129.out 4
              go_wp2
              repeat (go_quiet (fail); try go_wp2)
              go_meet
              case rel => exact ⟨_, (true), (by first | rfl | (simp; done) | (simp [*]; done)), H', ⟨by first | omega | exact Nat.le_refl _⟩, ⟨by (with_reducible repeat (first | refine blk_drewN ?_ _ | refine blk_drew ?_ | refine blk_alloc ?_ _)); exact BK128.out⟩, ⟨by (with_reducible repeat (first | refine blk_drewN ?_ _ | refine blk_drew ?_ | refine blk_alloc ?_ _)); exact BK129.out⟩, ⟨by repeat (first | (with_reducible first | exact HB.out | apply below_alloc | apply pw_below_drewN | apply below_drew1 | refine below_set ?_ GE128.out | refine below_set ?_ GE129.out) | exact HB.out)⟩⟩
            · rw [if_neg c20] at H
              have c20b0 : decide (a3_2 < 0) = false := decide_eq_false c20
              clear c20
              by_cases c23 : a3_2 ≥ a0_1
              · rw [if_pos c23] at H
                have c23b0 : decide (a0_1 ≤ a3_2) = true := decide_eq_true c23
                clear c23
                have H' := Aside0.mk H
                clear H
                have hnb24 := NB129_128.out
                have hnc24 := NB128_129.out
                have hcz25_0 : w7.cell? ⟨gb129, 0, none⟩ = some (.int .i64 a3_0) := (blk_cell BK129.out 0).trans rfl
                have hcz25_1 : w7.cell? ⟨gb129, 1, none⟩ = some (.int .i64 a3_1) := (blk_cell BK129.out 1).trans rfl
                have hcz25_2 : w7.cell? ⟨gb129, 2, none⟩ = some (.int .i64 a3_2) := (blk_cell BK129.out 2).trans rfl
                have hcz25_3 : w7.cell? ⟨gb129, 3, none⟩ = some (.int .i64 a3_3) := (blk_cell BK129.out 3).trans rfl
                have hcz25_4 : w7.cell? ⟨gb129, 4, none⟩ = some (.int .i64 a3_4) := (blk_cell BK129.out 4).trans rfl
                have hfz25_0 := blk_frozen BK129.out 0
                have hfz25_1 := blk_frozen BK129.out 1
                have hfz25_2 := blk_frozen BK129.out 2
                have hfz25_3 := blk_frozen BK129.out 3
                have hfz25_4 := blk_frozen BK129.out 4
                have hcz26_0 : w7.cell? ⟨gb128, 0, none⟩ = some (.int .i64 a0_0) := (blk_cell BK128.out 0).trans rfl
                have hcz26_1 : w7.cell? ⟨gb128, 1, none⟩ = some (.int .i64 a0_1) := (blk_cell BK128.out 1).trans rfl
                have hcz26_2 : w7.cell? ⟨gb128, 2, none⟩ = some (.int .i64 a0_2) := (blk_cell BK128.out 2).trans rfl
                have hcz26_3 : w7.cell? ⟨gb128, 3, none⟩ = some (.int .i64 a0_3) := (blk_cell BK128.out 3).trans rfl
                have hcz26_4 : w7.cell? ⟨gb128, 4, none⟩ = some (.int .i64 a0_4) := (blk_cell BK128.out 4).trans rfl
                have hcz26_5 : w7.cell? ⟨gb128, 5, none⟩ = some (.int .i64 a0_5) := (blk_cell BK128.out 5).trans rfl
                have hcz26_6 : w7.cell? ⟨gb128, 6, none⟩ = some (.int .i64 a0_6) := (blk_cell BK128.out 6).trans rfl
                have hcz26_7 : w7.cell? ⟨gb128, 7, none⟩ = some (.int .i64 a0_7) := (blk_cell BK128.out 7).trans rfl
                have hcz26_8 : w7.cell? ⟨gb128, 8, none⟩ = some (.int .i64 a0_8) := (blk_cell BK128.out 8).trans rfl
                have hcz26_9 : w7.cell? ⟨gb128, 9, none⟩ = some (.int .i64 a0_9) := (blk_cell BK128.out 9).trans rfl
                have hfz26_0 := blk_frozen BK128.out 0
                have hfz26_1 := blk_frozen BK128.out 1
                have hfz26_2 := blk_frozen BK128.out 2
                have hfz26_3 := blk_frozen BK128.out 3
                have hfz26_4 := blk_frozen BK128.out 4
                have hfz26_5 := blk_frozen BK128.out 5
                have hfz26_6 := blk_frozen BK128.out 6
                have hfz26_7 := blk_frozen BK128.out 7
                have hfz26_8 := blk_frozen BK128.out 8
                have hfz26_9 := blk_frozen BK128.out 9
                go_wp2
                repeat (go_quiet (fail); try go_wp2)
                go_meet
                case rel => exact ⟨_, (true), (by first | rfl | (simp; done) | (simp [*]; done)), H', ⟨by first | omega | exact Nat.le_refl _⟩, ⟨by (with_reducible repeat (first | refine blk_drewN ?_ _ | refine blk_drew ?_ | refine blk_alloc ?_ _)); exact BK128.out⟩, ⟨by (with_reducible repeat (first | refine blk_drewN ?_ _ | refine blk_drew ?_ | refine blk_alloc ?_ _)); exact BK129.out⟩, ⟨by repeat (first | (with_reducible first | exact HB.out | apply below_alloc | apply pw_below_drewN | apply below_drew1 | refine below_set ?_ GE128.out | refine below_set ?_ GE129.out) | exact HB.out)⟩⟩
              · rw [if_neg c23] at H
                have c23b0 : decide (a0_1 ≤ a3_2) = false := decide_eq_false c23
                clear c23
                by_cases c27 : a3_3 < 0
                · rw [if_pos c27] at H
                  have c27b0 : decide (a3_3 < 0) = true := decide_eq_true c27
                  clear c27
                  have H' := Aside0.mk H
                  clear H
                  have hnb28 := NB129_128.out
                  have hnc28 := NB128_129.out
                  have hcz29_0 : w7.cell? ⟨gb129, 0, none⟩ = some (.int .i64 a3_0) := (blk_cell BK129.out 0).trans rfl
                  have hcz29_1 : w7.cell? ⟨gb129, 1, none⟩ = some (.int .i64 a3_1) := (blk_cell BK129.out 1).trans rfl
                  have hcz29_2 : w7.cell? ⟨gb129, 2, none⟩ = some (.int .i64 a3_2) := (blk_cell BK129.out 2).trans rfl
                  have hcz29_3 : w7.cell? ⟨gb129, 3, none⟩ = some (.int .i64 a3_3) := (blk_cell BK129.out 3).trans rfl
                  have hcz29_4 : w7.cell? ⟨gb129, 4, none⟩ = some (.int .i64 a3_4) := (blk_cell BK129.out 4).trans rfl
                  have hfz29_0 := blk_frozen BK129.out 0
                  have hfz29_1 := blk_frozen BK129.out 1
                  have hfz29_2 := blk_frozen BK129.out 2
                  have hfz29_3 := blk_frozen BK129.out 3
                  have hfz29_4 := blk_frozen BK129.out 4
                  have hcz30_0 : w7.cell? ⟨gb128, 0, none⟩ = some (.int .i64 a0_0) := (blk_cell BK128.out 0).trans rfl
                  have hcz30_1 : w7.cell? ⟨gb128, 1, none⟩ = some (.int .i64 a0_1) := (blk_cell BK128.out 1).trans rfl
                  have hcz30_2 : w7.cell? ⟨gb128, 2, none⟩ = some (.int .i64 a0_2) := (blk_cell BK128.out 2).trans rfl
                  have hcz30_3 : w7.cell? ⟨gb128, 3, none⟩ = some (.int .i64 a0_3) := (blk_cell BK128.out 3).trans rfl
                  have hcz30_4 : w7.cell? ⟨gb128, 4, none⟩ = some (.int .i64 a0_4) := (blk_cell BK128.out 4).trans rfl
                  have hcz30_5 : w7.cell? ⟨gb128, 5, none⟩ = some (.int .i64 a0_5) := (blk_cell BK128.out 5).trans rfl
                  have hcz30_6 : w7.cell? ⟨gb128, 6, none⟩ = some (.int .i64 a0_6) := (blk_cell BK128.out 6).trans rfl
                  have hcz30_7 : w7.cell? ⟨gb128, 7, none⟩ = some (.int .i64 a0_7) := (blk_cell BK128.out 7).trans rfl
                  have hcz30_8 : w7.cell? ⟨gb128, 8, none⟩ = some (.int .i64 a0_8) := (blk_cell BK128.out 8).trans rfl
                  have hcz30_9 : w7.cell? ⟨gb128, 9, none⟩ = some (.int .i64 a0_9) := (blk_cell BK128.out 9).trans rfl
                  have hfz30_0 := blk_frozen BK128.out 0
                  have hfz30_1 := blk_frozen BK128.out 1
                  have hfz30_2 := blk_frozen BK128.out 2
                  have hfz30_3 := blk_frozen BK128.out 3
                  have hfz30_4 := blk_frozen BK128.out 4
                  have hfz30_5 := blk_frozen BK128.out 5
                  have hfz30_6 := blk_frozen BK128.out 6
                  have hfz30_7 := blk_frozen BK128.out 7
                  have hfz30_8 := blk_frozen BK128.out 8
                  have hfz30_9 := blk_frozen BK128.out 9
                  go_wp2
                  repeat (go_quiet (fail); try go_wp2)
                  go_meet
                  case rel => exact ⟨_, (true), (by first | rfl | (simp; done) | (simp [*]; done)), H', ⟨by first | omega | exact Nat.le_refl _⟩, ⟨by (with_reducible repeat (first | refine blk_drewN ?_ _ | refine blk_drew ?_ | refine blk_alloc ?_ _)); exact BK128.out⟩, ⟨by (with_reducible repeat (first | refine blk_drewN ?_ _ | refine blk_drew ?_ | refine blk_alloc ?_ _)); exact BK129.out⟩, ⟨by repeat (first | (with_reducible first | exact HB.out | apply below_alloc | apply pw_below_drewN | apply below_drew1 | refine below_set ?_ GE128.out | refine below_set ?_ GE129.out) | exact HB.out)⟩⟩
                · rw [if_neg c27] at H
                  have c27b0 : decide (a3_3 < 0) = false := decide_eq_false c27
                  clear c27
                  have H' := Aside0.mk H
                  clear H
                  have hnb31 := NB129_128.out
                  have hnc31 := NB128_129.out
                  have hcz32_0 : w7.cell? ⟨gb129, 0, none⟩ = some (.int .i64 a3_0) := (blk_cell BK129.out 0).trans rfl
                  have hcz32_1 : w7.cell? ⟨gb129, 1, none⟩ = some (.int .i64 a3_1) := (blk_cell BK129.out 1).trans rfl
                  have hcz32_2 : w7.cell? ⟨gb129, 2, none⟩ = some (.int .i64 a3_2) := (blk_cell BK129.out 2).trans rfl
                  have hcz32_3 : w7.cell? ⟨gb129, 3, none⟩ = some (.int .i64 a3_3) := (blk_cell BK129.out 3).trans rfl
                  have hcz32_4 : w7.cell? ⟨gb129, 4, none⟩ = some (.int .i64 a3_4) := (blk_cell BK129.out 4).trans rfl
                  have hfz32_0 := blk_frozen BK129.out 0
                  have hfz32_1 := blk_frozen BK129.out 1
                  have hfz32_2 := blk_frozen BK129.out 2
                  have hfz32_3 := blk_frozen BK129.out 3
                  have hfz32_4 := blk_frozen BK129.out 4
                  have hcz33_0 : w7.cell? ⟨gb128, 0, none⟩ = some (.int .i64 a0_0) := (blk_cell BK128.out 0).trans rfl
                  have hcz33_1 : w7.cell? ⟨gb128, 1, none⟩ = some (.int .i64 a0_1) := (blk_cell BK128.out 1).trans rfl
                  have hcz33_2 : w7.cell? ⟨gb128, 2, none⟩ = some (.int .i64 a0_2) := (blk_cell BK128.out 2).trans rfl
                  have hcz33_3 : w7.cell? ⟨gb128, 3, none⟩ = some (.int .i64 a0_3) := (blk_cell BK128.out 3).trans rfl
                  have hcz33_4 : w7.cell? ⟨gb128, 4, none⟩ = some (.int .i64 a0_4) := (blk_cell BK128.out 4).trans rfl
                  have hcz33_5 : w7.cell? ⟨gb128, 5, none⟩ = some (.int .i64 a0_5) := (blk_cell BK128.out 5).trans rfl
                  have hcz33_6 : w7.cell? ⟨gb128, 6, none⟩ = some (.int .i64 a0_6) := (blk_cell BK128.out 6).trans rfl
                  have hcz33_7 : w7.cell? ⟨gb128, 7, none⟩ = some (.int .i64 a0_7) := (blk_cell BK128.out 7).trans rfl
                  have hcz33_8 : w7.cell? ⟨gb128, 8, none⟩ = some (.int .i64 a0_8) := (blk_cell BK128.out 8).trans rfl
                  have hcz33_9 : w7.cell? ⟨gb128, 9, none⟩ = some (.int .i64 a0_9) := (blk_cell BK128.out 9).trans rfl
                  have hfz33_0 := blk_frozen BK128.out 0
                  have hfz33_1 := blk_frozen BK128.out 1
                  have hfz33_2 := blk_frozen BK128.out 2
                  have hfz33_3 := blk_frozen BK128.out 3
                  have hfz33_4 := blk_frozen BK128.out 4
                  have hfz33_5 := blk_frozen BK128.out 5
                  have hfz33_6 := blk_frozen BK128.out 6
                  have hfz33_7 := blk_frozen BK128.out 7
                  have hfz33_8 := blk_frozen BK128.out 8
                  have hfz33_9 := blk_frozen BK128.out 9
                  go_wp2
                  repeat (go_quiet (fail); try go_wp2)
                  go_meet
                  case rel => exact ⟨_, (decide (a3_4 < 0)), (by first | rfl | (simp; done) | (simp [*]; done)), H', ⟨by first | omega | exact Nat.le_refl _⟩, ⟨by (with_reducible repeat (first | refine blk_drewN ?_ _ | refine blk_drew ?_ | refine blk_alloc ?_ _)); exact BK128.out⟩, ⟨by (with_reducible repeat (first | refine blk_drewN ?_ _ | refine blk_drew ?_ | refine blk_alloc ?_ _)); exact BK129.out⟩, ⟨by repeat (first | (with_reducible first | exact HB.out | apply below_alloc | apply pw_below_drewN | apply below_drew1 | refine below_set ?_ GE128.out | refine below_set ?_ GE129.out) | exact HB.out)⟩⟩
  case rest =>
    clear HC5
    (try clear c1); (try clear c2); (try clear p2); (try clear c3); (try clear c8); (try clear c8b0); (try clear c9); (try clear c11); (try clear c11b0); (try clear c12); (try clear c14); (try clear c14b0); (try clear c15); (try clear c17); (try clear c17b0); (try clear c18); (try clear c20); (try clear c20b0); (try clear c21); (try clear c23); (try clear c23b0); (try clear c24); (try clear c27); (try clear c27b0); (try clear c28); (try clear c31); (try clear hcz10_0); (try clear hcz10_1); (try clear hcz10_2); (try clear hcz10_3); (try clear hcz10_4); (try clear hcz13_0); (try clear hcz13_1); (try clear hcz13_2); (try clear hcz13_3); (try clear hcz13_4); (try clear hcz16_0); (try clear hcz16_1); (try clear hcz16_2); (try clear hcz16_3); (try clear hcz16_4); (try clear hcz19_0); (try clear hcz19_1); (try clear hcz19_2); (try clear hcz19_3); (try clear hcz19_4); (try clear hcz22_0); (try clear hcz22_1); (try clear hcz22_2); (try clear hcz22_3); (try clear hcz22_4); (try clear hcz25_0); (try clear hcz25_1); (try clear hcz25_2); (try clear hcz25_3); (try clear hcz25_4); (try clear hcz26_0); (try clear hcz26_1); (try clear hcz26_2); (try clear hcz26_3); (try clear hcz26_4); (try clear hcz26_5); (try clear hcz26_6); (try clear hcz26_7); (try clear hcz26_8); (try clear hcz26_9); (try clear hcz29_0); (try clear hcz29_1); (try clear hcz29_2); (try clear hcz29_3); (try clear hcz29_4); (try clear hcz30_0); (try clear hcz30_1); (try clear hcz30_2); (try clear hcz30_3); (try clear hcz30_4); (try clear hcz30_5); (try clear hcz30_6); (try clear hcz30_7); (try clear hcz30_8); (try clear hcz30_9); (try clear hcz32_0); (try clear hcz32_1); (try clear hcz32_2); (try clear hcz32_3); (try clear hcz32_4); (try clear hcz33_0); (try clear hcz33_1); (try clear hcz33_2); (try clear hcz33_3); (try clear hcz33_4); (try clear hcz33_5); (try clear hcz33_6); (try clear hcz33_7); (try clear hcz33_8); (try clear hcz33_9); (try clear hfz10_0); (try clear hfz10_1); (try clear hfz10_2); (try clear hfz10_3); (try clear hfz10_4); (try clear hfz13_0); (try clear hfz13_1); (try clear hfz13_2); (try clear hfz13_3); (try clear hfz13_4); (try clear hfz16_0); (try clear hfz16_1); (try clear hfz16_2); (try clear hfz16_3); (try clear hfz16_4); (try clear hfz19_0); (try clear hfz19_1); (try clear hfz19_2); (try clear hfz19_3); (try clear hfz19_4); (try clear hfz22_0); (try clear hfz22_1); (try clear hfz22_2); (try clear hfz22_3); (try clear hfz22_4); (try clear hfz25_0); (try clear hfz25_1); (try clear hfz25_2); (try clear hfz25_3); (try clear hfz25_4); (try clear hfz26_0); (try clear hfz26_1); (try clear hfz26_2); (try clear hfz26_3); (try clear hfz26_4); (try clear hfz26_5); (try clear hfz26_6); (try clear hfz26_7); (try clear hfz26_8); (try clear hfz26_9); (try clear hfz29_0); (try clear hfz29_1); (try clear hfz29_2); (try clear hfz29_3); (try clear hfz29_4); (try clear hfz30_0); (try clear hfz30_1); (try clear hfz30_2); (try clear hfz30_3); (try clear hfz30_4); (try clear hfz30_5); (try clear hfz30_6); (try clear hfz30_7); (try clear hfz30_8); (try clear hfz30_9); (try clear hfz32_0); (try clear hfz32_1); (try clear hfz32_2); (try clear hfz32_3); (try clear hfz32_4); (try clear hfz33_0); (try clear hfz33_1); (try clear hfz33_2); (try clear hfz33_3); (try clear hfz33_4); (try clear hfz33_5); (try clear hfz33_6); (try clear hfz33_7); (try clear hfz33_8); (try clear hfz33_9)
    obtain ⟨kq, x52_4, rfl, HA, HJ4, BK128, BK129, HB⟩ := hcut
    cases kq with
    | zero => exact absurd HA.out (by simp [millwrightref19_one.j0])
    | succ kj4 =>
      have H := HA.out
      clear HA
      simp only [millwrightref19_one.j0] at H
      by_cases c34 : x52_4 = true
      · subst c34
        have H1 : (some 1) = some r := by rw [if_pos rfl] at H; exact H
        clear H
        have H := H1
        clear H1
        obtain rfl := Option.some.inj H
        go_wp2
        repeat (go_quiet (fail); try go_wp2)
        go_ret
        exact ⟨by first | rfl | (simp [errW_none, errW_some] <;> rfl) | (simp [*, errW_none, errW_some] <;> rfl), by repeat (first | (with_reducible first | exact HB.out | apply below_alloc | apply pw_below_drewN | apply below_drew1 | refine below_set ?_ GE128.out | refine below_set ?_ GE129.out) | exact HB.out)⟩
      · replace c34 := Bool.eq_false_iff.mpr c34
        subst c34
        have H1 : (if (l2.length : Int) > 0 then (if 0 ≤ (wrap64 ((l2.length : Int) - 1)) then (if (wrap64 ((l2.length : Int) - 1)) < (l2.length : Int) then (millwrightref19_one.j1 kj4 l1 l2 (decide (a3_4 < ((rd_T39 l2 (wrap64 ((l2.length : Int) - 1))).f4))) a0_0 a0_1 a0_2 a0_3 a0_4 a0_5 a0_6 a0_7 a0_8 a0_9 a3_0 a3_1 a3_2 a3_3 a3_4) else (none)) else (none)) else (millwrightref19_one.j1 kj4 l1 l2 false a0_0 a0_1 a0_2 a0_3 a0_4 a0_5 a0_6 a0_7 a0_8 a0_9 a3_0 a3_1 a3_2 a3_3 a3_4)) = some r := by rw [if_neg (show ¬ (false = true) by decide)] at H; exact H
        clear H
        have H := H1
        clear H1
        have HC35 := Aside0.mk H
        clear H
        go_upto_region 3 with (fail)
        repeat (go_quiet (fail); go_upto_region 3 with (fail))
        go_cut [67] (fun v67 wc => ∃ (kq : Nat) (x67_34 : Bool), v67 = .bool x67_34 ∧ Aside0 (millwrightref19_one.j1 kq l1 l2 x67_34 a0_0 a0_1 a0_2 a0_3 a0_4 a0_5 a0_6 a0_7 a0_8 a0_9 a3_0 a3_1 a3_2 a3_3 a3_4 = some r) ∧ Aside0 (kq ≤ kj4) ∧ Aside0 (wc.heap[gb128]? = some (.cells #[.int .i64 a0_0, .int .i64 a0_1, .int .i64 a0_2, .int .i64 a0_3, .int .i64 a0_4, .int .i64 a0_5, .int .i64 a0_6, .int .i64 a0_7, .int .i64 a0_8, .int .i64 a0_9] 23 (0, 0))) ∧ Aside0 (wc.heap[gb129]? = some (.cells #[.int .i64 a3_0, .int .i64 a3_1, .int .i64 a3_2, .int .i64 a3_3, .int .i64 a3_4] 39 (0, 0))) ∧ Aside0 (Below w.heap.size w wc))
        case first =>
          have H := HC35.out
          clear HC35
          by_cases c36 : (l2.length : Int) > 0
          · rw [if_pos c36] at H
            have c36b0 : decide (0 < (l2.length : Int)) = true := decide_eq_true c36
            have c36b1 : decide (0 < l2.length) = true := decide_eq_true (by omega)
            clear c36
            (first | rw [c36b0] | (simp only [i64_w, i32_w]; rw [c36b0]) | skip)
            obtain ⟨ji37, hji37⟩ : ∃ j_ : Int, (wrap64 ((l2.length : Int) - 1)) = j_ := ⟨_, rfl⟩
            replace H : (if 0 ≤ (ji37) then (if (ji37) < (l2.length : Int) then (millwrightref19_one.j1 kj4 l1 l2 (decide (a3_4 < ((rd_T39 l2 (ji37)).f4))) a0_0 a0_1 a0_2 a0_3 a0_4 a0_5 a0_6 a0_7 a0_8 a0_9 a3_0 a3_1 a3_2 a3_3 a3_4) else (none)) else (none)) = some r := by first | (rw [hji37] at H; exact H) | (simp only [hji37] at H ⊢; exact H)
            have hji37w : (IntKind.i64.wrap ((l2.length : Int) - 1)) = ji37 := (i64_w _).trans hji37
            by_cases c38 : 0 ≤ (ji37)
            · rw [if_pos c38] at H
              have c38b0 : decide (0 ≤ (ji37)) = true := decide_eq_true c38
              clear c38
              by_cases c39 : (ji37) < (l2.length : Int)
              · rw [if_pos c39] at H
                have c39b0 : decide ((ji37) < (l2.length : Int)) = true := decide_eq_true c39
                clear c39
                have H' := Aside0.mk H
                clear H
                have hnb40 := NB129_128.out
                have hnc40 := NB128_129.out
                have hcz41_0 : wc.cell? ⟨gb129, 0, none⟩ = some (.int .i64 a3_0) := (blk_cell BK129.out 0).trans rfl
                have hcz41_1 : wc.cell? ⟨gb129, 1, none⟩ = some (.int .i64 a3_1) := (blk_cell BK129.out 1).trans rfl
                have hcz41_2 : wc.cell? ⟨gb129, 2, none⟩ = some (.int .i64 a3_2) := (blk_cell BK129.out 2).trans rfl
                have hcz41_3 : wc.cell? ⟨gb129, 3, none⟩ = some (.int .i64 a3_3) := (blk_cell BK129.out 3).trans rfl
                have hcz41_4 : wc.cell? ⟨gb129, 4, none⟩ = some (.int .i64 a3_4) := (blk_cell BK129.out 4).trans rfl
                have hfz41_0 := blk_frozen BK129.out 0
                have hfz41_1 := blk_frozen BK129.out 1
                have hfz41_2 := blk_frozen BK129.out 2
                have hfz41_3 := blk_frozen BK129.out 3
                have hfz41_4 := blk_frozen BK129.out 4
                have p130 : 0 ≤ ((ji37) : Int) := of_decide_eq_true (by first | (with_reducible assumption) | assumption)
                have q130 : (ji37) < (l2.length : Int) := of_decide_eq_true (by first | (with_reducible assumption) | assumption)
                obtain ⟨ad130, e130, hx130_0, hx130_1, hx130_2, hx130_3, hx130_4⟩ := at_T39 HR2.out (ji37) p130 q130
                cases e130
                replace hx130_0 := (HB.out.cell (World.block_lt_of_cell? w _ hx130_0)).trans hx130_0
                replace hx130_1 := (HB.out.cell (World.block_lt_of_cell? w _ hx130_1)).trans hx130_1
                replace hx130_2 := (HB.out.cell (World.block_lt_of_cell? w _ hx130_2)).trans hx130_2
                replace hx130_3 := (HB.out.cell (World.block_lt_of_cell? w _ hx130_3)).trans hx130_3
                replace hx130_4 := (HB.out.cell (World.block_lt_of_cell? w _ hx130_4)).trans hx130_4
                replace p130 := eq_true p130
                replace q130 := eq_true q130
                go_wp2
                repeat (go_quiet (fail); try go_wp2)
                go_meet
                case rel => exact ⟨_, (decide (a3_4 < ((rd_T39 l2 (ji37)).f4))), (by first | rfl | (simp; done) | (simp only [← hji37] <;> (first | rfl | simp)) | (simp [*]; done)), H', ⟨by have := HJ4.out; first | omega | exact Nat.le_refl _⟩, ⟨by (with_reducible repeat (first | refine blk_drewN ?_ _ | refine blk_drew ?_ | refine blk_alloc ?_ _)); exact BK128.out⟩, ⟨by (with_reducible repeat (first | refine blk_drewN ?_ _ | refine blk_drew ?_ | refine blk_alloc ?_ _)); exact BK129.out⟩, ⟨by repeat (first | (with_reducible first | exact HB.out | apply below_alloc | apply pw_below_drewN | apply below_drew1 | refine below_set ?_ GE128.out | refine below_set ?_ GE129.out) | exact HB.out)⟩⟩
              · rw [if_neg c39] at H
                exact absurd H (by simp)
            · rw [if_neg c38] at H
              exact absurd H (by simp)
          · rw [if_neg c36] at H
            have c36b0 : decide (0 < (l2.length : Int)) = false := decide_eq_false c36
            have c36b1 : decide (0 < l2.length) = false := decide_eq_false (by omega)
            clear c36
            (first | rw [c36b0] | (simp only [i64_w, i32_w]; rw [c36b0]) | skip)
            have H' := Aside0.mk H
            clear H
            go_wp2
            repeat (go_quiet (fail); try go_wp2)
            go_meet
            case rel => exact ⟨_, (false), (by first | rfl | (simp; done) | (simp [*]; done)), H', ⟨by have := HJ4.out; first | omega | exact Nat.le_refl _⟩, ⟨by (with_reducible repeat (first | refine blk_drewN ?_ _ | refine blk_drew ?_ | refine blk_alloc ?_ _)); exact BK128.out⟩, ⟨by (with_reducible repeat (first | refine blk_drewN ?_ _ | refine blk_drew ?_ | refine blk_alloc ?_ _)); exact BK129.out⟩, ⟨by repeat (first | (with_reducible first | exact HB.out | apply below_alloc | apply pw_below_drewN | apply below_drew1 | refine below_set ?_ GE128.out | refine below_set ?_ GE129.out) | exact HB.out)⟩⟩
        case rest =>
          clear HC35
          (try clear c1); (try clear p1); (try clear q1); (try clear hx1); (try clear c2); (try clear p2); (try clear c3); (try clear c4); (try clear p6); (try clear c8); (try clear c8b0); (try clear c9); (try clear c11); (try clear c11b0); (try clear c12); (try clear p13); (try clear q13); (try clear hx13); (try clear c14); (try clear c14b0); (try clear c15); (try clear c17); (try clear c17b0); (try clear c18); (try clear c20); (try clear c20b0); (try clear c21); (try clear c23); (try clear c23b0); (try clear c24); (try clear c27); (try clear c27b0); (try clear c28); (try clear c31); (try clear c34); (try clear c36); (try clear c36b0); (try clear c36b1); (try clear c38); (try clear c38b0); (try clear c39); (try clear c39b0); (try clear c40); (try clear hcz10_0); (try clear hcz10_1); (try clear hcz10_2); (try clear hcz10_3); (try clear hcz10_4); (try clear hcz13_0); (try clear hcz13_1); (try clear hcz13_2); (try clear hcz13_3); (try clear hcz13_4); (try clear hcz16_0); (try clear hcz16_1); (try clear hcz16_2); (try clear hcz16_3); (try clear hcz16_4); (try clear hcz19_0); (try clear hcz19_1); (try clear hcz19_2); (try clear hcz19_3); (try clear hcz19_4); (try clear hcz22_0); (try clear hcz22_1); (try clear hcz22_2); (try clear hcz22_3); (try clear hcz22_4); (try clear hcz25_0); (try clear hcz25_1); (try clear hcz25_2); (try clear hcz25_3); (try clear hcz25_4); (try clear hcz26_0); (try clear hcz26_1); (try clear hcz26_2); (try clear hcz26_3); (try clear hcz26_4); (try clear hcz26_5); (try clear hcz26_6); (try clear hcz26_7); (try clear hcz26_8); (try clear hcz26_9); (try clear hcz29_0); (try clear hcz29_1); (try clear hcz29_2); (try clear hcz29_3); (try clear hcz29_4); (try clear hcz30_0); (try clear hcz30_1); (try clear hcz30_2); (try clear hcz30_3); (try clear hcz30_4); (try clear hcz30_5); (try clear hcz30_6); (try clear hcz30_7); (try clear hcz30_8); (try clear hcz30_9); (try clear hcz32_0); (try clear hcz32_1); (try clear hcz32_2); (try clear hcz32_3); (try clear hcz32_4); (try clear hcz33_0); (try clear hcz33_1); (try clear hcz33_2); (try clear hcz33_3); (try clear hcz33_4); (try clear hcz33_5); (try clear hcz33_6); (try clear hcz33_7); (try clear hcz33_8); (try clear hcz33_9); (try clear hcz41_0); (try clear hcz41_1); (try clear hcz41_2); (try clear hcz41_3); (try clear hcz41_4); (try clear hfz10_0); (try clear hfz10_1); (try clear hfz10_2); (try clear hfz10_3); (try clear hfz10_4); (try clear hfz13_0); (try clear hfz13_1); (try clear hfz13_2); (try clear hfz13_3); (try clear hfz13_4); (try clear hfz16_0); (try clear hfz16_1); (try clear hfz16_2); (try clear hfz16_3); (try clear hfz16_4); (try clear hfz19_0); (try clear hfz19_1); (try clear hfz19_2); (try clear hfz19_3); (try clear hfz19_4); (try clear hfz22_0); (try clear hfz22_1); (try clear hfz22_2); (try clear hfz22_3); (try clear hfz22_4); (try clear hfz25_0); (try clear hfz25_1); (try clear hfz25_2); (try clear hfz25_3); (try clear hfz25_4); (try clear hfz26_0); (try clear hfz26_1); (try clear hfz26_2); (try clear hfz26_3); (try clear hfz26_4); (try clear hfz26_5); (try clear hfz26_6); (try clear hfz26_7); (try clear hfz26_8); (try clear hfz26_9); (try clear hfz29_0); (try clear hfz29_1); (try clear hfz29_2); (try clear hfz29_3); (try clear hfz29_4); (try clear hfz30_0); (try clear hfz30_1); (try clear hfz30_2); (try clear hfz30_3); (try clear hfz30_4); (try clear hfz30_5); (try clear hfz30_6); (try clear hfz30_7); (try clear hfz30_8); (try clear hfz30_9); (try clear hfz32_0); (try clear hfz32_1); (try clear hfz32_2); (try clear hfz32_3); (try clear hfz32_4); (try clear hfz33_0); (try clear hfz33_1); (try clear hfz33_2); (try clear hfz33_3); (try clear hfz33_4); (try clear hfz33_5); (try clear hfz33_6); (try clear hfz33_7); (try clear hfz33_8); (try clear hfz33_9); (try clear hfz41_0); (try clear hfz41_1); (try clear hfz41_2); (try clear hfz41_3); (try clear hfz41_4); (try clear hx130_0); (try clear hx130_1); (try clear hx130_2); (try clear hx130_3); (try clear hx130_4); (try clear p130); (try clear p2); (try clear q130)
          obtain ⟨kq, x67_34, rfl, HA, HJ34, BK128, BK129, HB⟩ := hcut
          cases kq with
          | zero => exact absurd HA.out (by simp [millwrightref19_one.j1])
          | succ kj34 =>
            have H := HA.out
            clear HA
            simp only [millwrightref19_one.j1] at H
            by_cases c42 : x67_34 = true
            · subst c42
              have H1 : (some 1) = some r := by rw [if_pos rfl] at H; exact H
              clear H
              have H := H1
              clear H1
              obtain rfl := Option.some.inj H
              go_wp2
              repeat (go_quiet (fail); try go_wp2)
              go_ret
              exact ⟨by first | rfl | (simp [errW_none, errW_some] <;> rfl) | (simp [*, errW_none, errW_some] <;> rfl), by repeat (first | (with_reducible first | exact HB.out | apply below_alloc | apply pw_below_drewN | apply below_drew1 | refine below_set ?_ GE128.out | refine below_set ?_ GE129.out) | exact HB.out)⟩
            · replace c42 := Bool.eq_false_iff.mpr c42
              subst c42
              have H1 : (if a3_0 = 1 then ((millwrightref19_start.f kj34 a0_0 a0_1 a0_2 a0_3 a0_4 a0_5 a0_6 a0_7 a0_8 a0_9 l1 l2 a3_0 a3_1 a3_2 a3_3 a3_4).bind fun t131 => (some t131)) else ((millwrightref19_Live.f kj34 l2 a3_1).bind fun t132 => (if t132 = true then ((millwrightref19_last.f kj34 l2 a3_1).bind fun t133 => (if 0 ≤ t133 then (if t133 < (l2.length : Int) then (if ((rd_T39 l2 t133).f2) = a3_2 then (millwrightref19_one.j2 kj34 l2 (((rd_T39 l2 t133).f3) != a3_3) a0_0 a0_1 a0_2 a0_3 a0_4 a0_5 a0_6 a0_7 a0_8 a0_9 a3_0 a3_1 a3_2 a3_3 a3_4 ((rd_T39 l2 t133).f0) ((rd_T39 l2 t133).f1) ((rd_T39 l2 t133).f2) ((rd_T39 l2 t133).f3) ((rd_T39 l2 t133).f4)) else (millwrightref19_one.j2 kj34 l2 true a0_0 a0_1 a0_2 a0_3 a0_4 a0_5 a0_6 a0_7 a0_8 a0_9 a3_0 a3_1 a3_2 a3_3 a3_4 ((rd_T39 l2 t133).f0) ((rd_T39 l2 t133).f1) ((rd_T39 l2 t133).f2) ((rd_T39 l2 t133).f3) ((rd_T39 l2 t133).f4))) else (none)) else (none))) else (some 6)))) = some r := by rw [if_neg (show ¬ (false = true) by decide)] at H; exact H
              clear H
              have H := H1
              clear H1
              by_cases c43 : a3_0 = 1
              · rw [if_pos c43] at H
                have c43b0 : (a3_0 == 1) = true := beq_iff_eq.mpr c43
                have c43b1 : (a3_0 != 1) = false := bne_eq_false_iff_eq.mpr c43
                clear c43
                replace H := Option.bind_eq_some_iff.mp H
                obtain ⟨t131, A440, H⟩ := H
                replace H : (some t131) = some r := H
                have A44 := Aside0.mk A440
                clear A440
                obtain rfl := Option.some.inj H
                have hnb45 := NB129_128.out
                have hnc45 := NB128_129.out
                have hcz46_0 : wc.cell? ⟨gb129, 0, none⟩ = some (.int .i64 a3_0) := (blk_cell BK129.out 0).trans rfl
                have hcz46_1 : wc.cell? ⟨gb129, 1, none⟩ = some (.int .i64 a3_1) := (blk_cell BK129.out 1).trans rfl
                have hcz46_2 : wc.cell? ⟨gb129, 2, none⟩ = some (.int .i64 a3_2) := (blk_cell BK129.out 2).trans rfl
                have hcz46_3 : wc.cell? ⟨gb129, 3, none⟩ = some (.int .i64 a3_3) := (blk_cell BK129.out 3).trans rfl
                have hcz46_4 : wc.cell? ⟨gb129, 4, none⟩ = some (.int .i64 a3_4) := (blk_cell BK129.out 4).trans rfl
                have hfz46_0 := blk_frozen BK129.out 0
                have hfz46_1 := blk_frozen BK129.out 1
                have hfz46_2 := blk_frozen BK129.out 2
                have hfz46_3 := blk_frozen BK129.out 3
                have hfz46_4 := blk_frozen BK129.out 4
                have hcz47_0 : wc.cell? ⟨gb128, 0, none⟩ = some (.int .i64 a0_0) := (blk_cell BK128.out 0).trans rfl
                have hcz47_1 : wc.cell? ⟨gb128, 1, none⟩ = some (.int .i64 a0_1) := (blk_cell BK128.out 1).trans rfl
                have hcz47_2 : wc.cell? ⟨gb128, 2, none⟩ = some (.int .i64 a0_2) := (blk_cell BK128.out 2).trans rfl
                have hcz47_3 : wc.cell? ⟨gb128, 3, none⟩ = some (.int .i64 a0_3) := (blk_cell BK128.out 3).trans rfl
                have hcz47_4 : wc.cell? ⟨gb128, 4, none⟩ = some (.int .i64 a0_4) := (blk_cell BK128.out 4).trans rfl
                have hcz47_5 : wc.cell? ⟨gb128, 5, none⟩ = some (.int .i64 a0_5) := (blk_cell BK128.out 5).trans rfl
                have hcz47_6 : wc.cell? ⟨gb128, 6, none⟩ = some (.int .i64 a0_6) := (blk_cell BK128.out 6).trans rfl
                have hcz47_7 : wc.cell? ⟨gb128, 7, none⟩ = some (.int .i64 a0_7) := (blk_cell BK128.out 7).trans rfl
                have hcz47_8 : wc.cell? ⟨gb128, 8, none⟩ = some (.int .i64 a0_8) := (blk_cell BK128.out 8).trans rfl
                have hcz47_9 : wc.cell? ⟨gb128, 9, none⟩ = some (.int .i64 a0_9) := (blk_cell BK128.out 9).trans rfl
                have hfz47_0 := blk_frozen BK128.out 0
                have hfz47_1 := blk_frozen BK128.out 1
                have hfz47_2 := blk_frozen BK128.out 2
                have hfz47_3 := blk_frozen BK128.out 3
                have hfz47_4 := blk_frozen BK128.out 4
                have hfz47_5 := blk_frozen BK128.out 5
                have hfz47_6 := blk_frozen BK128.out 6
                have hfz47_7 := blk_frozen BK128.out 7
                have hfz47_8 := blk_frozen BK128.out 8
                have hfz47_9 := blk_frozen BK128.out 9
                go_wp2_with (first | (go_at_call 39; (with_reducible refine (millwrightref19_start.calls kj34 a0_0 a0_1 a0_2 a0_3 a0_4 a0_5 a0_6 a0_7 a0_8 a0_9 _ _ l1 _ _ l2 a3_0 a3_1 a3_2 a3_3 a3_4 t131 _ ?side1 ?side2 ?side3 ?side4 A44.out).mono ?_); (case side1 => repeat (first | exact (Kd.C_below HR1.out HB.out) | (with_reducible refine Kd.C_alloc ?_ _) | (with_reducible refine Kd.C_drewN ?_ _) | (with_reducible refine Kd.C_drew ?_))); (case side2 => exact HC1.out); (case side3 => repeat (first | exact (Kd.C_below HR2.out HB.out) | (with_reducible refine Kd.C_alloc ?_ _) | (with_reducible refine Kd.C_drewN ?_ _) | (with_reducible refine Kd.C_drew ?_))); (case side4 => exact HC2.out); rintro e w48 ⟨rfl, hb⟩; have n0_ := Aside0.mk (blk_below (g := gb128) (o := .cells #[.int .i64 a0_0, .int .i64 a0_1, .int .i64 a0_2, .int .i64 a0_3, .int .i64 a0_4, .int .i64 a0_5, .int .i64 a0_6, .int .i64 a0_7, .int .i64 a0_8, .int .i64 a0_9] 23 (0, 0)) (by (with_reducible repeat (first | refine blk_drewN ?_ _ | refine blk_drew ?_ | refine blk_alloc ?_ _)); exact BK128.out) hb); have n1_ := Aside0.mk (blk_below (g := gb129) (o := .cells #[.int .i64 a3_0, .int .i64 a3_1, .int .i64 a3_2, .int .i64 a3_3, .int .i64 a3_4] 39 (0, 0)) (by (with_reducible repeat (first | refine blk_drewN ?_ _ | refine blk_drew ?_ | refine blk_alloc ?_ _)); exact BK129.out) hb); have n2_ := Aside0.mk (below_step (by repeat (first | (with_reducible first | exact HB.out | apply below_alloc | apply pw_below_drewN | apply below_drew1 | refine below_set ?_ GE128.out | refine below_set ?_ GE129.out) | exact HB.out)) hb); clear BK128; clear BK129; clear HB; have BK128 := n0_; have BK129 := n1_; have HB := n2_; clear n0_ n1_ n2_; (try clear hb); (try clear hb2); (try clear hk); (try clear hi)))
                repeat (go_quiet (fail); try go_wp2)
                go_ret
                exact ⟨by first | rfl | (simp [errW_none, errW_some] <;> rfl) | (simp [*, errW_none, errW_some] <;> rfl), by repeat (first | (with_reducible first | exact HB.out | apply below_alloc | apply pw_below_drewN | apply below_drew1 | refine below_set ?_ GE128.out | refine below_set ?_ GE129.out) | exact HB.out)⟩
              · rw [if_neg c43] at H
                have c43b0 : (a3_0 == 1) = false := beq_eq_false_iff_ne.mpr c43
                have c43b1 : (a3_0 != 1) = true := bne_iff_ne.mpr c43
                replace H := Option.bind_eq_some_iff.mp H
                obtain ⟨t132, A490, H⟩ := H
                replace H : (if t132 = true then ((millwrightref19_last.f kj34 l2 a3_1).bind fun t133 => (if 0 ≤ t133 then (if t133 < (l2.length : Int) then (if ((rd_T39 l2 t133).f2) = a3_2 then (millwrightref19_one.j2 kj34 l2 (((rd_T39 l2 t133).f3) != a3_3) a0_0 a0_1 a0_2 a0_3 a0_4 a0_5 a0_6 a0_7 a0_8 a0_9 a3_0 a3_1 a3_2 a3_3 a3_4 ((rd_T39 l2 t133).f0) ((rd_T39 l2 t133).f1) ((rd_T39 l2 t133).f2) ((rd_T39 l2 t133).f3) ((rd_T39 l2 t133).f4)) else (millwrightref19_one.j2 kj34 l2 true a0_0 a0_1 a0_2 a0_3 a0_4 a0_5 a0_6 a0_7 a0_8 a0_9 a3_0 a3_1 a3_2 a3_3 a3_4 ((rd_T39 l2 t133).f0) ((rd_T39 l2 t133).f1) ((rd_T39 l2 t133).f2) ((rd_T39 l2 t133).f3) ((rd_T39 l2 t133).f4))) else (none)) else (none))) else (some 6)) = some r := H
                have A49 := Aside0.mk A490
                clear A490
                by_cases c50 : t132 = true
                · subst c50
                  have H1 : ((millwrightref19_last.f kj34 l2 a3_1).bind fun t133 => (if 0 ≤ t133 then (if t133 < (l2.length : Int) then (if ((rd_T39 l2 t133).f2) = a3_2 then (millwrightref19_one.j2 kj34 l2 (((rd_T39 l2 t133).f3) != a3_3) a0_0 a0_1 a0_2 a0_3 a0_4 a0_5 a0_6 a0_7 a0_8 a0_9 a3_0 a3_1 a3_2 a3_3 a3_4 ((rd_T39 l2 t133).f0) ((rd_T39 l2 t133).f1) ((rd_T39 l2 t133).f2) ((rd_T39 l2 t133).f3) ((rd_T39 l2 t133).f4)) else (millwrightref19_one.j2 kj34 l2 true a0_0 a0_1 a0_2 a0_3 a0_4 a0_5 a0_6 a0_7 a0_8 a0_9 a3_0 a3_1 a3_2 a3_3 a3_4 ((rd_T39 l2 t133).f0) ((rd_T39 l2 t133).f1) ((rd_T39 l2 t133).f2) ((rd_T39 l2 t133).f3) ((rd_T39 l2 t133).f4))) else (none)) else (none))) = some r := by rw [if_pos rfl] at H; exact H
                  clear H
                  have H := H1
                  clear H1
                  replace H := Option.bind_eq_some_iff.mp H
                  obtain ⟨t133, A510, H⟩ := H
                  replace H : (if 0 ≤ t133 then (if t133 < (l2.length : Int) then (if ((rd_T39 l2 t133).f2) = a3_2 then (millwrightref19_one.j2 kj34 l2 (((rd_T39 l2 t133).f3) != a3_3) a0_0 a0_1 a0_2 a0_3 a0_4 a0_5 a0_6 a0_7 a0_8 a0_9 a3_0 a3_1 a3_2 a3_3 a3_4 ((rd_T39 l2 t133).f0) ((rd_T39 l2 t133).f1) ((rd_T39 l2 t133).f2) ((rd_T39 l2 t133).f3) ((rd_T39 l2 t133).f4)) else (millwrightref19_one.j2 kj34 l2 true a0_0 a0_1 a0_2 a0_3 a0_4 a0_5 a0_6 a0_7 a0_8 a0_9 a3_0 a3_1 a3_2 a3_3 a3_4 ((rd_T39 l2 t133).f0) ((rd_T39 l2 t133).f1) ((rd_T39 l2 t133).f2) ((rd_T39 l2 t133).f3) ((rd_T39 l2 t133).f4))) else (none)) else (none)) = some r := H
                  have A51 := Aside0.mk A510
                  clear A510
                  by_cases c52 : 0 ≤ t133
                  · rw [if_pos c52] at H
                    have c52b0 : decide (0 ≤ t133) = true := decide_eq_true c52
                    clear c52
                    by_cases c53 : t133 < (l2.length : Int)
                    · rw [if_pos c53] at H
                      have c53b0 : decide (t133 < (l2.length : Int)) = true := decide_eq_true c53
                      clear c53
                      have HC54 := Aside0.mk H
                      clear H
                      have hnb55 := NB129_128.out
                      have hnc55 := NB128_129.out
                      have hcz56_0 : wc.cell? ⟨gb129, 0, none⟩ = some (.int .i64 a3_0) := (blk_cell BK129.out 0).trans rfl
                      have hcz56_1 : wc.cell? ⟨gb129, 1, none⟩ = some (.int .i64 a3_1) := (blk_cell BK129.out 1).trans rfl
                      have hcz56_2 : wc.cell? ⟨gb129, 2, none⟩ = some (.int .i64 a3_2) := (blk_cell BK129.out 2).trans rfl
                      have hcz56_3 : wc.cell? ⟨gb129, 3, none⟩ = some (.int .i64 a3_3) := (blk_cell BK129.out 3).trans rfl
                      have hcz56_4 : wc.cell? ⟨gb129, 4, none⟩ = some (.int .i64 a3_4) := (blk_cell BK129.out 4).trans rfl
                      have hfz56_0 := blk_frozen BK129.out 0
                      have hfz56_1 := blk_frozen BK129.out 1
                      have hfz56_2 := blk_frozen BK129.out 2
                      have hfz56_3 := blk_frozen BK129.out 3
                      have hfz56_4 := blk_frozen BK129.out 4
                      go_upto_region 11 with (first | (go_at_call 40; (with_reducible refine (millwrightref19_Live.calls kj34 _ _ l2 a3_1 true _ ?side1 ?side2 A49.out).mono ?_); (case side1 => repeat (first | exact (Kd.C_below HR2.out HB.out) | (with_reducible refine Kd.C_alloc ?_ _) | (with_reducible refine Kd.C_drewN ?_ _) | (with_reducible refine Kd.C_drew ?_))); (case side2 => exact HC2.out); rintro e w' ⟨rfl, ⟨nd, rfl⟩⟩; (try first | exact ⟨rfl, _, World.drewN_drewN _ _ _⟩ | exact ⟨rfl, _, Eq.trans (World.drewN_drewN _ _ _) (congrArg (World.drewN _) (Nat.add_assoc _ _ _))⟩)) | (go_at_call 41; (with_reducible refine (millwrightref19_last.calls kj34 _ _ l2 a3_1 t133 _ ?side1 ?side2 A51.out).mono ?_); (case side1 => repeat (first | exact (Kd.C_below HR2.out (by repeat (first | (with_reducible first | exact HB.out | apply below_alloc | apply pw_below_drewN | apply below_drew1 | refine below_set ?_ GE128.out | refine below_set ?_ GE129.out) | exact HB.out))) | (with_reducible refine Kd.C_alloc ?_ _) | (with_reducible refine Kd.C_drewN ?_ _) | (with_reducible refine Kd.C_drew ?_))); (case side2 => exact HC2.out); rintro e w' ⟨rfl, ⟨nd, rfl⟩⟩; (try first | exact ⟨rfl, _, World.drewN_drewN _ _ _⟩ | exact ⟨rfl, _, Eq.trans (World.drewN_drewN _ _ _) (congrArg (World.drewN _) (Nat.add_assoc _ _ _))⟩); have p134 : 0 ≤ (t133 : Int) := of_decide_eq_true (by first | (with_reducible assumption) | assumption); have q134 : t133 < (l2.length : Int) := of_decide_eq_true (by first | (with_reducible assumption) | assumption); obtain ⟨ad134, e134, hx134_0, hx134_1, hx134_2, hx134_3, hx134_4⟩ := at_T39 HR2.out t133 p134 q134; cases e134; replace hx134_0 := (HB.out.cell (World.block_lt_of_cell? w _ hx134_0)).trans hx134_0; replace hx134_1 := (HB.out.cell (World.block_lt_of_cell? w _ hx134_1)).trans hx134_1; replace hx134_2 := (HB.out.cell (World.block_lt_of_cell? w _ hx134_2)).trans hx134_2; replace hx134_3 := (HB.out.cell (World.block_lt_of_cell? w _ hx134_3)).trans hx134_3; replace hx134_4 := (HB.out.cell (World.block_lt_of_cell? w _ hx134_4)).trans hx134_4; replace p134 := eq_true p134; replace q134 := eq_true q134) | ((with_reducible refine gate_dst (N := 10) rfl ?_); (try (refine gate_guard (by rfl) ?_; dsimp only)); refine box_event ?hg (N := 10) ?hd (cs := #[.int .i64 0, .int .i64 0, .int .i64 0, .int .i64 0, .int .i64 0]) (t := 39) ?hr ?_; (case hd => rfl); (case hg => rfl); (case hr => first | (go_simp; done) | (go_simp; rfl)); intro gb135 hg w57 hbox hb; have n0_ := Aside0.mk (blk_below (g := gb128) (o := .cells #[.int .i64 a0_0, .int .i64 a0_1, .int .i64 a0_2, .int .i64 a0_3, .int .i64 a0_4, .int .i64 a0_5, .int .i64 a0_6, .int .i64 a0_7, .int .i64 a0_8, .int .i64 a0_9] 23 (0, 0)) (by (with_reducible repeat (first | refine blk_drewN ?_ _ | refine blk_drew ?_ | refine blk_alloc ?_ _)); exact BK128.out) hb); have n1_ := Aside0.mk (blk_below (g := gb129) (o := .cells #[.int .i64 a3_0, .int .i64 a3_1, .int .i64 a3_2, .int .i64 a3_3, .int .i64 a3_4] 39 (0, 0)) (by (with_reducible repeat (first | refine blk_drewN ?_ _ | refine blk_drew ?_ | refine blk_alloc ?_ _)); exact BK129.out) hb); have n2_ := Aside0.mk (below_step (by repeat (first | (with_reducible first | exact HB.out | apply below_alloc | apply pw_below_drewN | apply below_drew1 | refine below_set ?_ GE128.out | refine below_set ?_ GE129.out) | exact HB.out)) hb); have n3_ := Aside0.mk (hbox); have n4_ := Aside0.mk ((by rw [hg]; exact (below_size (by repeat (first | (with_reducible first | exact HB.out | apply below_alloc | apply pw_below_drewN | apply below_drew1 | refine below_set ?_ GE128.out | refine below_set ?_ GE129.out) | exact HB.out))) : w.heap.size ≤ gb135)); have n5_ := Aside0.mk ((by rw [hg]; exact (below_size (by repeat (first | (with_reducible first | exact HB.out | apply below_alloc | apply pw_below_drewN | apply below_drew1 | refine below_set ?_ GE128.out | refine below_set ?_ GE129.out) | exact HB.out))) : w.heap.size ≤ gb135)); have n6_ := Aside0.mk ((by rw [hg]; exact Nat.ne_of_lt (blk_lt (g := gb128) (o := .cells #[.int .i64 a0_0, .int .i64 a0_1, .int .i64 a0_2, .int .i64 a0_3, .int .i64 a0_4, .int .i64 a0_5, .int .i64 a0_6, .int .i64 a0_7, .int .i64 a0_8, .int .i64 a0_9] 23 (0, 0)) (by (with_reducible repeat (first | refine blk_drewN ?_ _ | refine blk_drew ?_ | refine blk_alloc ?_ _)); exact BK128.out)) : gb128 ≠ gb135)); have n7_ := Aside0.mk ((by rw [hg]; exact Nat.ne_of_gt (blk_lt (g := gb128) (o := .cells #[.int .i64 a0_0, .int .i64 a0_1, .int .i64 a0_2, .int .i64 a0_3, .int .i64 a0_4, .int .i64 a0_5, .int .i64 a0_6, .int .i64 a0_7, .int .i64 a0_8, .int .i64 a0_9] 23 (0, 0)) (by (with_reducible repeat (first | refine blk_drewN ?_ _ | refine blk_drew ?_ | refine blk_alloc ?_ _)); exact BK128.out)) : gb135 ≠ gb128)); have n8_ := Aside0.mk ((by rw [hg]; exact Nat.ne_of_lt (blk_lt (g := gb129) (o := .cells #[.int .i64 a3_0, .int .i64 a3_1, .int .i64 a3_2, .int .i64 a3_3, .int .i64 a3_4] 39 (0, 0)) (by (with_reducible repeat (first | refine blk_drewN ?_ _ | refine blk_drew ?_ | refine blk_alloc ?_ _)); exact BK129.out)) : gb129 ≠ gb135)); have n9_ := Aside0.mk ((by rw [hg]; exact Nat.ne_of_gt (blk_lt (g := gb129) (o := .cells #[.int .i64 a3_0, .int .i64 a3_1, .int .i64 a3_2, .int .i64 a3_3, .int .i64 a3_4] 39 (0, 0)) (by (with_reducible repeat (first | refine blk_drewN ?_ _ | refine blk_drew ?_ | refine blk_alloc ?_ _)); exact BK129.out)) : gb135 ≠ gb129)); clear BK128; clear BK129; clear HB; have BK128 := n0_; have BK129 := n1_; have HB := n2_; have BK135 := n3_; have GW135 := n4_; have GE135 := n5_; have NB128_135 := n6_; have NB135_128 := n7_; have NB129_135 := n8_; have NB135_129 := n9_; clear n0_ n1_ n2_ n3_ n4_ n5_ n6_ n7_ n8_ n9_; clear hb hbox hg; have hnb58 := NB135_128.out; have hnc58 := NB128_135.out; have hnb59 := NB135_129.out; have hnc59 := NB129_135.out; have hcz60_0 : w57.cell? ⟨gb135, 0, none⟩ = some (.int .i64 0) := (blk_cell BK135.out 0).trans rfl; have hcz60_1 : w57.cell? ⟨gb135, 1, none⟩ = some (.int .i64 0) := (blk_cell BK135.out 1).trans rfl; have hcz60_2 : w57.cell? ⟨gb135, 2, none⟩ = some (.int .i64 0) := (blk_cell BK135.out 2).trans rfl; have hcz60_3 : w57.cell? ⟨gb135, 3, none⟩ = some (.int .i64 0) := (blk_cell BK135.out 3).trans rfl; have hcz60_4 : w57.cell? ⟨gb135, 4, none⟩ = some (.int .i64 0) := (blk_cell BK135.out 4).trans rfl; have hfz60_0 := blk_frozen BK135.out 0; have hfz60_1 := blk_frozen BK135.out 1; have hfz60_2 := blk_frozen BK135.out 2; have hfz60_3 := blk_frozen BK135.out 3; have hfz60_4 := blk_frozen BK135.out 4))
                      repeat (go_quiet (fail); try go_wp2)
                      (try simp only [Act.put, List.setIfInBounds_toArray, List.set_cons_zero, List.set_cons_succ])
                      go_cut [100] (fun v100 wc => ∃ (kq : Nat) (x100_53 : Bool), v100 = .bool x100_53 ∧ Aside0 (millwrightref19_one.j2 kq l2 x100_53 a0_0 a0_1 a0_2 a0_3 a0_4 a0_5 a0_6 a0_7 a0_8 a0_9 a3_0 a3_1 a3_2 a3_3 a3_4 ((rd_T39 l2 t133).f0) ((rd_T39 l2 t133).f1) ((rd_T39 l2 t133).f2) ((rd_T39 l2 t133).f3) ((rd_T39 l2 t133).f4) = some r) ∧ Aside0 (kq ≤ kj34) ∧ Aside0 (wc.heap[gb128]? = some (.cells #[.int .i64 a0_0, .int .i64 a0_1, .int .i64 a0_2, .int .i64 a0_3, .int .i64 a0_4, .int .i64 a0_5, .int .i64 a0_6, .int .i64 a0_7, .int .i64 a0_8, .int .i64 a0_9] 23 (0, 0))) ∧ Aside0 (wc.heap[gb129]? = some (.cells #[.int .i64 a3_0, .int .i64 a3_1, .int .i64 a3_2, .int .i64 a3_3, .int .i64 a3_4] 39 (0, 0))) ∧ Aside0 (wc.heap[gb135]? = some (.cells #[.int .i64 ((rd_T39 l2 t133).f0), .int .i64 ((rd_T39 l2 t133).f1), .int .i64 ((rd_T39 l2 t133).f2), .int .i64 ((rd_T39 l2 t133).f3), .int .i64 ((rd_T39 l2 t133).f4)] 39 (0, 0))) ∧ Aside0 (Below w.heap.size w wc))
                      case first =>
                        have H := HC54.out
                        clear HC54
                        by_cases c61 : ((rd_T39 l2 t133).f2) = a3_2
                        · rw [if_pos c61] at H
                          have c61b0 : (((rd_T39 l2 t133).f2) == a3_2) = true := beq_iff_eq.mpr c61
                          have c61b1 : (((rd_T39 l2 t133).f2) != a3_2) = false := bne_eq_false_iff_eq.mpr c61
                          clear c61
                          (first | rw [c61b0] | (simp only [i64_w, i32_w]; rw [c61b0]) | skip)
                          have H' := Aside0.mk H
                          clear H
                          have hnb62 := NB135_128.out
                          have hnc62 := NB128_135.out
                          have hnb63 := NB135_129.out
                          have hnc63 := NB129_135.out
                          have hcz64_0 : w57.cell? ⟨gb135, 0, none⟩ = some (.int .i64 0) := (blk_cell BK135.out 0).trans rfl
                          have hcz64_1 : w57.cell? ⟨gb135, 1, none⟩ = some (.int .i64 0) := (blk_cell BK135.out 1).trans rfl
                          have hcz64_2 : w57.cell? ⟨gb135, 2, none⟩ = some (.int .i64 0) := (blk_cell BK135.out 2).trans rfl
                          have hcz64_3 : w57.cell? ⟨gb135, 3, none⟩ = some (.int .i64 0) := (blk_cell BK135.out 3).trans rfl
                          have hcz64_4 : w57.cell? ⟨gb135, 4, none⟩ = some (.int .i64 0) := (blk_cell BK135.out 4).trans rfl
                          have hfz64_0 := blk_frozen BK135.out 0
                          have hfz64_1 := blk_frozen BK135.out 1
                          have hfz64_2 := blk_frozen BK135.out 2
                          have hfz64_3 := blk_frozen BK135.out 3
                          have hfz64_4 := blk_frozen BK135.out 4
                          have hnb65 := NB129_128.out
                          have hnc65 := NB128_129.out
                          have hcz66_0 : w57.cell? ⟨gb129, 0, none⟩ = some (.int .i64 a3_0) := (blk_cell BK129.out 0).trans rfl
                          have hcz66_1 : w57.cell? ⟨gb129, 1, none⟩ = some (.int .i64 a3_1) := (blk_cell BK129.out 1).trans rfl
                          have hcz66_2 : w57.cell? ⟨gb129, 2, none⟩ = some (.int .i64 a3_2) := (blk_cell BK129.out 2).trans rfl
                          have hcz66_3 : w57.cell? ⟨gb129, 3, none⟩ = some (.int .i64 a3_3) := (blk_cell BK129.out 3).trans rfl
                          have hcz66_4 : w57.cell? ⟨gb129, 4, none⟩ = some (.int .i64 a3_4) := (blk_cell BK129.out 4).trans rfl
                          have hfz66_0 := blk_frozen BK129.out 0
                          have hfz66_1 := blk_frozen BK129.out 1
                          have hfz66_2 := blk_frozen BK129.out 2
                          have hfz66_3 := blk_frozen BK129.out 3
                          have hfz66_4 := blk_frozen BK129.out 4
                          go_wp2
                          repeat (go_quiet (fail); try go_wp2)
                          go_meet
                          case rel => exact ⟨_, ((((rd_T39 l2 t133).f3) != a3_3)), (by first | rfl | (simp; done) | (simp [*]; done)), H', ⟨by have := HJ4.out; have := HJ34.out; first | omega | exact Nat.le_refl _⟩, ⟨by (with_reducible repeat (first | refine blk_drewN ?_ _ | refine blk_drew ?_ | refine blk_alloc ?_ _)); refine blk_far ?_ NB128_135.out _; (with_reducible repeat (first | refine blk_drewN ?_ _ | refine blk_drew ?_ | refine blk_alloc ?_ _)); refine blk_far ?_ NB128_135.out _; (with_reducible repeat (first | refine blk_drewN ?_ _ | refine blk_drew ?_ | refine blk_alloc ?_ _)); refine blk_far ?_ NB128_135.out _; (with_reducible repeat (first | refine blk_drewN ?_ _ | refine blk_drew ?_ | refine blk_alloc ?_ _)); refine blk_far ?_ NB128_135.out _; (with_reducible repeat (first | refine blk_drewN ?_ _ | refine blk_drew ?_ | refine blk_alloc ?_ _)); refine blk_far ?_ NB128_135.out _; (with_reducible repeat (first | refine blk_drewN ?_ _ | refine blk_drew ?_ | refine blk_alloc ?_ _)); exact BK128.out⟩, ⟨by (with_reducible repeat (first | refine blk_drewN ?_ _ | refine blk_drew ?_ | refine blk_alloc ?_ _)); refine blk_far ?_ NB129_135.out _; (with_reducible repeat (first | refine blk_drewN ?_ _ | refine blk_drew ?_ | refine blk_alloc ?_ _)); refine blk_far ?_ NB129_135.out _; (with_reducible repeat (first | refine blk_drewN ?_ _ | refine blk_drew ?_ | refine blk_alloc ?_ _)); refine blk_far ?_ NB129_135.out _; (with_reducible repeat (first | refine blk_drewN ?_ _ | refine blk_drew ?_ | refine blk_alloc ?_ _)); refine blk_far ?_ NB129_135.out _; (with_reducible repeat (first | refine blk_drewN ?_ _ | refine blk_drew ?_ | refine blk_alloc ?_ _)); refine blk_far ?_ NB129_135.out _; (with_reducible repeat (first | refine blk_drewN ?_ _ | refine blk_drew ?_ | refine blk_alloc ?_ _)); exact BK129.out⟩, ⟨by (with_reducible repeat (first | refine blk_drewN ?_ _ | refine blk_drew ?_ | refine blk_alloc ?_ _)); refine blk_put (cs := #[.int .i64 ((rd_T39 l2 t133).f0), .int .i64 ((rd_T39 l2 t133).f1), .int .i64 ((rd_T39 l2 t133).f2), .int .i64 ((rd_T39 l2 t133).f3), .int .i64 0]) ?_ 4 _ rfl; (with_reducible repeat (first | refine blk_drewN ?_ _ | refine blk_drew ?_ | refine blk_alloc ?_ _)); refine blk_put (cs := #[.int .i64 ((rd_T39 l2 t133).f0), .int .i64 ((rd_T39 l2 t133).f1), .int .i64 ((rd_T39 l2 t133).f2), .int .i64 0, .int .i64 0]) ?_ 3 _ rfl; (with_reducible repeat (first | refine blk_drewN ?_ _ | refine blk_drew ?_ | refine blk_alloc ?_ _)); refine blk_put (cs := #[.int .i64 ((rd_T39 l2 t133).f0), .int .i64 ((rd_T39 l2 t133).f1), .int .i64 0, .int .i64 0, .int .i64 0]) ?_ 2 _ rfl; (with_reducible repeat (first | refine blk_drewN ?_ _ | refine blk_drew ?_ | refine blk_alloc ?_ _)); refine blk_put (cs := #[.int .i64 ((rd_T39 l2 t133).f0), .int .i64 0, .int .i64 0, .int .i64 0, .int .i64 0]) ?_ 1 _ rfl; (with_reducible repeat (first | refine blk_drewN ?_ _ | refine blk_drew ?_ | refine blk_alloc ?_ _)); refine blk_put (cs := #[.int .i64 0, .int .i64 0, .int .i64 0, .int .i64 0, .int .i64 0]) ?_ 0 _ rfl; (with_reducible repeat (first | refine blk_drewN ?_ _ | refine blk_drew ?_ | refine blk_alloc ?_ _)); exact BK135.out⟩, ⟨by repeat (first | (with_reducible first | exact HB.out | apply below_alloc | apply pw_below_drewN | apply below_drew1 | refine below_set ?_ GE128.out | refine below_set ?_ GE129.out | refine below_set ?_ GE135.out) | exact HB.out)⟩⟩
                        · rw [if_neg c61] at H
                          have c61b0 : (((rd_T39 l2 t133).f2) == a3_2) = false := beq_eq_false_iff_ne.mpr c61
                          have c61b1 : (((rd_T39 l2 t133).f2) != a3_2) = true := bne_iff_ne.mpr c61
                          (first | rw [c61b0] | (simp only [i64_w, i32_w]; rw [c61b0]) | skip)
                          have H' := Aside0.mk H
                          clear H
                          have hnb67 := NB135_128.out
                          have hnc67 := NB128_135.out
                          have hnb68 := NB135_129.out
                          have hnc68 := NB129_135.out
                          have hcz69_0 : w57.cell? ⟨gb135, 0, none⟩ = some (.int .i64 0) := (blk_cell BK135.out 0).trans rfl
                          have hcz69_1 : w57.cell? ⟨gb135, 1, none⟩ = some (.int .i64 0) := (blk_cell BK135.out 1).trans rfl
                          have hcz69_2 : w57.cell? ⟨gb135, 2, none⟩ = some (.int .i64 0) := (blk_cell BK135.out 2).trans rfl
                          have hcz69_3 : w57.cell? ⟨gb135, 3, none⟩ = some (.int .i64 0) := (blk_cell BK135.out 3).trans rfl
                          have hcz69_4 : w57.cell? ⟨gb135, 4, none⟩ = some (.int .i64 0) := (blk_cell BK135.out 4).trans rfl
                          have hfz69_0 := blk_frozen BK135.out 0
                          have hfz69_1 := blk_frozen BK135.out 1
                          have hfz69_2 := blk_frozen BK135.out 2
                          have hfz69_3 := blk_frozen BK135.out 3
                          have hfz69_4 := blk_frozen BK135.out 4
                          have hnb70 := NB129_128.out
                          have hnc70 := NB128_129.out
                          have hcz71_0 : w57.cell? ⟨gb129, 0, none⟩ = some (.int .i64 a3_0) := (blk_cell BK129.out 0).trans rfl
                          have hcz71_1 : w57.cell? ⟨gb129, 1, none⟩ = some (.int .i64 a3_1) := (blk_cell BK129.out 1).trans rfl
                          have hcz71_2 : w57.cell? ⟨gb129, 2, none⟩ = some (.int .i64 a3_2) := (blk_cell BK129.out 2).trans rfl
                          have hcz71_3 : w57.cell? ⟨gb129, 3, none⟩ = some (.int .i64 a3_3) := (blk_cell BK129.out 3).trans rfl
                          have hcz71_4 : w57.cell? ⟨gb129, 4, none⟩ = some (.int .i64 a3_4) := (blk_cell BK129.out 4).trans rfl
                          have hfz71_0 := blk_frozen BK129.out 0
                          have hfz71_1 := blk_frozen BK129.out 1
                          have hfz71_2 := blk_frozen BK129.out 2
                          have hfz71_3 := blk_frozen BK129.out 3
                          have hfz71_4 := blk_frozen BK129.out 4
                          go_wp2
                          repeat (go_quiet (fail); try go_wp2)
                          go_meet
                          case rel => exact ⟨_, (true), (by first | rfl | (simp; done) | (simp [*]; done)), H', ⟨by have := HJ4.out; have := HJ34.out; first | omega | exact Nat.le_refl _⟩, ⟨by (with_reducible repeat (first | refine blk_drewN ?_ _ | refine blk_drew ?_ | refine blk_alloc ?_ _)); refine blk_far ?_ NB128_135.out _; (with_reducible repeat (first | refine blk_drewN ?_ _ | refine blk_drew ?_ | refine blk_alloc ?_ _)); refine blk_far ?_ NB128_135.out _; (with_reducible repeat (first | refine blk_drewN ?_ _ | refine blk_drew ?_ | refine blk_alloc ?_ _)); refine blk_far ?_ NB128_135.out _; (with_reducible repeat (first | refine blk_drewN ?_ _ | refine blk_drew ?_ | refine blk_alloc ?_ _)); refine blk_far ?_ NB128_135.out _; (with_reducible repeat (first | refine blk_drewN ?_ _ | refine blk_drew ?_ | refine blk_alloc ?_ _)); refine blk_far ?_ NB128_135.out _; (with_reducible repeat (first | refine blk_drewN ?_ _ | refine blk_drew ?_ | refine blk_alloc ?_ _)); exact BK128.out⟩, ⟨by (with_reducible repeat (first | refine blk_drewN ?_ _ | refine blk_drew ?_ | refine blk_alloc ?_ _)); refine blk_far ?_ NB129_135.out _; (with_reducible repeat (first | refine blk_drewN ?_ _ | refine blk_drew ?_ | refine blk_alloc ?_ _)); refine blk_far ?_ NB129_135.out _; (with_reducible repeat (first | refine blk_drewN ?_ _ | refine blk_drew ?_ | refine blk_alloc ?_ _)); refine blk_far ?_ NB129_135.out _; (with_reducible repeat (first | refine blk_drewN ?_ _ | refine blk_drew ?_ | refine blk_alloc ?_ _)); refine blk_far ?_ NB129_135.out _; (with_reducible repeat (first | refine blk_drewN ?_ _ | refine blk_drew ?_ | refine blk_alloc ?_ _)); refine blk_far ?_ NB129_135.out _; (with_reducible repeat (first | refine blk_drewN ?_ _ | refine blk_drew ?_ | refine blk_alloc ?_ _)); exact BK129.out⟩, ⟨by (with_reducible repeat (first | refine blk_drewN ?_ _ | refine blk_drew ?_ | refine blk_alloc ?_ _)); refine blk_put (cs := #[.int .i64 ((rd_T39 l2 t133).f0), .int .i64 ((rd_T39 l2 t133).f1), .int .i64 ((rd_T39 l2 t133).f2), .int .i64 ((rd_T39 l2 t133).f3), .int .i64 0]) ?_ 4 _ rfl; (with_reducible repeat (first | refine blk_drewN ?_ _ | refine blk_drew ?_ | refine blk_alloc ?_ _)); refine blk_put (cs := #[.int .i64 ((rd_T39 l2 t133).f0), .int .i64 ((rd_T39 l2 t133).f1), .int .i64 ((rd_T39 l2 t133).f2), .int .i64 0, .int .i64 0]) ?_ 3 _ rfl; (with_reducible repeat (first | refine blk_drewN ?_ _ | refine blk_drew ?_ | refine blk_alloc ?_ _)); refine blk_put (cs := #[.int .i64 ((rd_T39 l2 t133).f0), .int .i64 ((rd_T39 l2 t133).f1), .int .i64 0, .int .i64 0, .int .i64 0]) ?_ 2 _ rfl; (with_reducible repeat (first | refine blk_drewN ?_ _ | refine blk_drew ?_ | refine blk_alloc ?_ _)); refine blk_put (cs := #[.int .i64 ((rd_T39 l2 t133).f0), .int .i64 0, .int .i64 0, .int .i64 0, .int .i64 0]) ?_ 1 _ rfl; (with_reducible repeat (first | refine blk_drewN ?_ _ | refine blk_drew ?_ | refine blk_alloc ?_ _)); refine blk_put (cs := #[.int .i64 0, .int .i64 0, .int .i64 0, .int .i64 0, .int .i64 0]) ?_ 0 _ rfl; (with_reducible repeat (first | refine blk_drewN ?_ _ | refine blk_drew ?_ | refine blk_alloc ?_ _)); exact BK135.out⟩, ⟨by repeat (first | (with_reducible first | exact HB.out | apply below_alloc | apply pw_below_drewN | apply below_drew1 | refine below_set ?_ GE128.out | refine below_set ?_ GE129.out | refine below_set ?_ GE135.out) | exact HB.out)⟩⟩
                      case rest =>
                        clear HC54
                        (try clear c1); (try clear p1); (try clear q1); (try clear hx1); (try clear c2); (try clear p2); (try clear c3); (try clear c4); (try clear c5); (try clear c6); (try clear p6); (try clear c7); (try clear c8); (try clear c8b0); (try clear c9); (try clear c11); (try clear c11b0); (try clear c12); (try clear p13); (try clear q13); (try clear hx13); (try clear c14); (try clear c14b0); (try clear c15); (try clear c17); (try clear c17b0); (try clear c18); (try clear c20); (try clear c20b0); (try clear c21); (try clear c23); (try clear c23b0); (try clear c24); (try clear c27); (try clear c27b0); (try clear c28); (try clear c31); (try clear c34); (try clear c36); (try clear c36b0); (try clear c36b1); (try clear c38); (try clear c38b0); (try clear c39); (try clear c39b0); (try clear c40); (try clear c42); (try clear c43); (try clear c43b0); (try clear c43b1); (try clear c45); (try clear c50); (try clear c52); (try clear c52b0); (try clear c53); (try clear c53b0); (try clear c55); (try clear c58); (try clear c59); (try clear c61); (try clear c61b0); (try clear c61b1); (try clear c62); (try clear c63); (try clear p64); (try clear c65); (try clear c67); (try clear c68); (try clear c70); (try clear hcz10_0); (try clear hcz10_1); (try clear hcz10_2); (try clear hcz10_3); (try clear hcz10_4); (try clear hcz13_0); (try clear hcz13_1); (try clear hcz13_2); (try clear hcz13_3); (try clear hcz13_4); (try clear hcz16_0); (try clear hcz16_1); (try clear hcz16_2); (try clear hcz16_3); (try clear hcz16_4); (try clear hcz19_0); (try clear hcz19_1); (try clear hcz19_2); (try clear hcz19_3); (try clear hcz19_4); (try clear hcz22_0); (try clear hcz22_1); (try clear hcz22_2); (try clear hcz22_3); (try clear hcz22_4); (try clear hcz25_0); (try clear hcz25_1); (try clear hcz25_2); (try clear hcz25_3); (try clear hcz25_4); (try clear hcz26_0); (try clear hcz26_1); (try clear hcz26_2); (try clear hcz26_3); (try clear hcz26_4); (try clear hcz26_5); (try clear hcz26_6); (try clear hcz26_7); (try clear hcz26_8); (try clear hcz26_9); (try clear hcz29_0); (try clear hcz29_1); (try clear hcz29_2); (try clear hcz29_3); (try clear hcz29_4); (try clear hcz30_0); (try clear hcz30_1); (try clear hcz30_2); (try clear hcz30_3); (try clear hcz30_4); (try clear hcz30_5); (try clear hcz30_6); (try clear hcz30_7); (try clear hcz30_8); (try clear hcz30_9); (try clear hcz32_0); (try clear hcz32_1); (try clear hcz32_2); (try clear hcz32_3); (try clear hcz32_4); (try clear hcz33_0); (try clear hcz33_1); (try clear hcz33_2); (try clear hcz33_3); (try clear hcz33_4); (try clear hcz33_5); (try clear hcz33_6); (try clear hcz33_7); (try clear hcz33_8); (try clear hcz33_9); (try clear hcz41_0); (try clear hcz41_1); (try clear hcz41_2); (try clear hcz41_3); (try clear hcz41_4); (try clear hcz46_0); (try clear hcz46_1); (try clear hcz46_2); (try clear hcz46_3); (try clear hcz46_4); (try clear hcz47_0); (try clear hcz47_1); (try clear hcz47_2); (try clear hcz47_3); (try clear hcz47_4); (try clear hcz47_5); (try clear hcz47_6); (try clear hcz47_7); (try clear hcz47_8); (try clear hcz47_9); (try clear hcz56_0); (try clear hcz56_1); (try clear hcz56_2); (try clear hcz56_3); (try clear hcz56_4); (try clear hcz60_0); (try clear hcz60_1); (try clear hcz60_2); (try clear hcz60_3); (try clear hcz60_4); (try clear hcz64_0); (try clear hcz64_1); (try clear hcz64_2); (try clear hcz64_3); (try clear hcz64_4); (try clear hcz66_0); (try clear hcz66_1); (try clear hcz66_2); (try clear hcz66_3); (try clear hcz66_4); (try clear hcz69_0); (try clear hcz69_1); (try clear hcz69_2); (try clear hcz69_3); (try clear hcz69_4); (try clear hcz71_0); (try clear hcz71_1); (try clear hcz71_2); (try clear hcz71_3); (try clear hcz71_4); (try clear hfz10_0); (try clear hfz10_1); (try clear hfz10_2); (try clear hfz10_3); (try clear hfz10_4); (try clear hfz13_0); (try clear hfz13_1); (try clear hfz13_2); (try clear hfz13_3); (try clear hfz13_4); (try clear hfz16_0); (try clear hfz16_1); (try clear hfz16_2); (try clear hfz16_3); (try clear hfz16_4); (try clear hfz19_0); (try clear hfz19_1); (try clear hfz19_2); (try clear hfz19_3); (try clear hfz19_4); (try clear hfz22_0); (try clear hfz22_1); (try clear hfz22_2); (try clear hfz22_3); (try clear hfz22_4); (try clear hfz25_0); (try clear hfz25_1); (try clear hfz25_2); (try clear hfz25_3); (try clear hfz25_4); (try clear hfz26_0); (try clear hfz26_1); (try clear hfz26_2); (try clear hfz26_3); (try clear hfz26_4); (try clear hfz26_5); (try clear hfz26_6); (try clear hfz26_7); (try clear hfz26_8); (try clear hfz26_9); (try clear hfz29_0); (try clear hfz29_1); (try clear hfz29_2); (try clear hfz29_3); (try clear hfz29_4); (try clear hfz30_0); (try clear hfz30_1); (try clear hfz30_2); (try clear hfz30_3); (try clear hfz30_4); (try clear hfz30_5); (try clear hfz30_6); (try clear hfz30_7); (try clear hfz30_8); (try clear hfz30_9); (try clear hfz32_0); (try clear hfz32_1); (try clear hfz32_2); (try clear hfz32_3); (try clear hfz32_4); (try clear hfz33_0); (try clear hfz33_1); (try clear hfz33_2); (try clear hfz33_3); (try clear hfz33_4); (try clear hfz33_5); (try clear hfz33_6); (try clear hfz33_7); (try clear hfz33_8); (try clear hfz33_9); (try clear hfz41_0); (try clear hfz41_1); (try clear hfz41_2); (try clear hfz41_3); (try clear hfz41_4); (try clear hfz46_0); (try clear hfz46_1); (try clear hfz46_2); (try clear hfz46_3); (try clear hfz46_4); (try clear hfz47_0); (try clear hfz47_1); (try clear hfz47_2); (try clear hfz47_3); (try clear hfz47_4); (try clear hfz47_5); (try clear hfz47_6); (try clear hfz47_7); (try clear hfz47_8); (try clear hfz47_9); (try clear hfz56_0); (try clear hfz56_1); (try clear hfz56_2); (try clear hfz56_3); (try clear hfz56_4); (try clear hfz60_0); (try clear hfz60_1); (try clear hfz60_2); (try clear hfz60_3); (try clear hfz60_4); (try clear hfz64_0); (try clear hfz64_1); (try clear hfz64_2); (try clear hfz64_3); (try clear hfz64_4); (try clear hfz66_0); (try clear hfz66_1); (try clear hfz66_2); (try clear hfz66_3); (try clear hfz66_4); (try clear hfz69_0); (try clear hfz69_1); (try clear hfz69_2); (try clear hfz69_3); (try clear hfz69_4); (try clear hfz71_0); (try clear hfz71_1); (try clear hfz71_2); (try clear hfz71_3); (try clear hfz71_4); (try clear hx130_0); (try clear hx130_1); (try clear hx130_2); (try clear hx130_3); (try clear hx130_4); (try clear hx134_0); (try clear hx134_1); (try clear hx134_2); (try clear hx134_3); (try clear hx134_4); (try clear p1); (try clear p13); (try clear p130); (try clear p134); (try clear p2); (try clear p6); (try clear q1); (try clear q13); (try clear q130); (try clear q134)
                        obtain ⟨kq, x100_53, rfl, HA, HJ53, BK128, BK129, BK135, HB⟩ := hcut
                        cases kq with
                        | zero => exact absurd HA.out (by simp [millwrightref19_one.j2])
                        | succ kj53 =>
                          have H := HA.out
                          clear HA
                          simp only [millwrightref19_one.j2] at H
                          by_cases c72 : x100_53 = true
                          · subst c72
                            have H1 : (some 6) = some r := by rw [if_pos rfl] at H; exact H
                            clear H
                            have H := H1
                            clear H1
                            obtain rfl := Option.some.inj H
                            go_wp2
                            repeat (go_quiet (fail); try go_wp2)
                            go_ret
                            exact ⟨by first | rfl | (simp [errW_none, errW_some] <;> rfl) | (simp [*, errW_none, errW_some] <;> rfl), by repeat (first | (with_reducible first | exact HB.out | apply below_alloc | apply pw_below_drewN | apply below_drew1 | refine below_set ?_ GE128.out | refine below_set ?_ GE129.out | refine below_set ?_ GE135.out) | exact HB.out)⟩
                          · replace c72 := Bool.eq_false_iff.mpr c72
                            subst c72
                            have H1 : (if a3_0 = 5 then (millwrightref19_one.j3 kj53 l2 (decide ((wrap64 (a3_4 - ((rd_T39 l2 t133).f4))) < a0_6)) a0_0 a0_1 a0_2 a0_3 a0_4 a0_5 a0_6 a0_7 a0_8 a0_9 a3_0 a3_1 a3_2 a3_3 a3_4) else (millwrightref19_one.j3 kj53 l2 false a0_0 a0_1 a0_2 a0_3 a0_4 a0_5 a0_6 a0_7 a0_8 a0_9 a3_0 a3_1 a3_2 a3_3 a3_4)) = some r := by rw [if_neg (show ¬ (false = true) by decide)] at H; exact H
                            clear H
                            have H := H1
                            clear H1
                            have HC73 := Aside0.mk H
                            clear H
                            go_upto_region 13 with (fail)
                            repeat (go_quiet (fail); go_upto_region 13 with (fail))
                            go_cut [113] (fun v113 wc => ∃ (kq : Nat) (x113_72 : Bool), v113 = .bool x113_72 ∧ Aside0 (millwrightref19_one.j3 kq l2 x113_72 a0_0 a0_1 a0_2 a0_3 a0_4 a0_5 a0_6 a0_7 a0_8 a0_9 a3_0 a3_1 a3_2 a3_3 a3_4 = some r) ∧ Aside0 (kq ≤ kj53) ∧ Aside0 (wc.heap[gb128]? = some (.cells #[.int .i64 a0_0, .int .i64 a0_1, .int .i64 a0_2, .int .i64 a0_3, .int .i64 a0_4, .int .i64 a0_5, .int .i64 a0_6, .int .i64 a0_7, .int .i64 a0_8, .int .i64 a0_9] 23 (0, 0))) ∧ Aside0 (wc.heap[gb129]? = some (.cells #[.int .i64 a3_0, .int .i64 a3_1, .int .i64 a3_2, .int .i64 a3_3, .int .i64 a3_4] 39 (0, 0))) ∧ Aside0 (wc.heap[gb135]? = some (.cells #[.int .i64 ((rd_T39 l2 t133).f0), .int .i64 ((rd_T39 l2 t133).f1), .int .i64 ((rd_T39 l2 t133).f2), .int .i64 ((rd_T39 l2 t133).f3), .int .i64 ((rd_T39 l2 t133).f4)] 39 (0, 0))) ∧ Aside0 (Below w.heap.size w wc))
                            case first =>
                              have H := HC73.out
                              clear HC73
                              by_cases c74 : a3_0 = 5
                              · rw [if_pos c74] at H
                                have c74b0 : (a3_0 == 5) = true := beq_iff_eq.mpr c74
                                have c74b1 : (a3_0 != 5) = false := bne_eq_false_iff_eq.mpr c74
                                clear c74
                                (first | rw [c74b0] | (simp only [i64_w, i32_w]; rw [c74b0]) | skip)
                                have H' := Aside0.mk H
                                clear H
                                have hnb75 := NB129_128.out
                                have hnc75 := NB128_129.out
                                have hnb76 := NB129_135.out
                                have hnc76 := NB135_129.out
                                have hcz77_0 : wc.cell? ⟨gb129, 0, none⟩ = some (.int .i64 a3_0) := (blk_cell BK129.out 0).trans rfl
                                have hcz77_1 : wc.cell? ⟨gb129, 1, none⟩ = some (.int .i64 a3_1) := (blk_cell BK129.out 1).trans rfl
                                have hcz77_2 : wc.cell? ⟨gb129, 2, none⟩ = some (.int .i64 a3_2) := (blk_cell BK129.out 2).trans rfl
                                have hcz77_3 : wc.cell? ⟨gb129, 3, none⟩ = some (.int .i64 a3_3) := (blk_cell BK129.out 3).trans rfl
                                have hcz77_4 : wc.cell? ⟨gb129, 4, none⟩ = some (.int .i64 a3_4) := (blk_cell BK129.out 4).trans rfl
                                have hfz77_0 := blk_frozen BK129.out 0
                                have hfz77_1 := blk_frozen BK129.out 1
                                have hfz77_2 := blk_frozen BK129.out 2
                                have hfz77_3 := blk_frozen BK129.out 3
                                have hfz77_4 := blk_frozen BK129.out 4
                                have hnb78 := NB135_128.out
                                have hnc78 := NB128_135.out
                                have hcz79_0 : wc.cell? ⟨gb135, 0, none⟩ = some (.int .i64 ((rd_T39 l2 t133).f0)) := (blk_cell BK135.out 0).trans rfl
                                have hcz79_1 : wc.cell? ⟨gb135, 1, none⟩ = some (.int .i64 ((rd_T39 l2 t133).f1)) := (blk_cell BK135.out 1).trans rfl
                                have hcz79_2 : wc.cell? ⟨gb135, 2, none⟩ = some (.int .i64 ((rd_T39 l2 t133).f2)) := (blk_cell BK135.out 2).trans rfl
                                have hcz79_3 : wc.cell? ⟨gb135, 3, none⟩ = some (.int .i64 ((rd_T39 l2 t133).f3)) := (blk_cell BK135.out 3).trans rfl
                                have hcz79_4 : wc.cell? ⟨gb135, 4, none⟩ = some (.int .i64 ((rd_T39 l2 t133).f4)) := (blk_cell BK135.out 4).trans rfl
                                have hfz79_0 := blk_frozen BK135.out 0
                                have hfz79_1 := blk_frozen BK135.out 1
                                have hfz79_2 := blk_frozen BK135.out 2
                                have hfz79_3 := blk_frozen BK135.out 3
                                have hfz79_4 := blk_frozen BK135.out 4
                                have hcz80_0 : wc.cell? ⟨gb128, 0, none⟩ = some (.int .i64 a0_0) := (blk_cell BK128.out 0).trans rfl
                                have hcz80_1 : wc.cell? ⟨gb128, 1, none⟩ = some (.int .i64 a0_1) := (blk_cell BK128.out 1).trans rfl
                                have hcz80_2 : wc.cell? ⟨gb128, 2, none⟩ = some (.int .i64 a0_2) := (blk_cell BK128.out 2).trans rfl
                                have hcz80_3 : wc.cell? ⟨gb128, 3, none⟩ = some (.int .i64 a0_3) := (blk_cell BK128.out 3).trans rfl
                                have hcz80_4 : wc.cell? ⟨gb128, 4, none⟩ = some (.int .i64 a0_4) := (blk_cell BK128.out 4).trans rfl
                                have hcz80_5 : wc.cell? ⟨gb128, 5, none⟩ = some (.int .i64 a0_5) := (blk_cell BK128.out 5).trans rfl
                                have hcz80_6 : wc.cell? ⟨gb128, 6, none⟩ = some (.int .i64 a0_6) := (blk_cell BK128.out 6).trans rfl
                                have hcz80_7 : wc.cell? ⟨gb128, 7, none⟩ = some (.int .i64 a0_7) := (blk_cell BK128.out 7).trans rfl
                                have hcz80_8 : wc.cell? ⟨gb128, 8, none⟩ = some (.int .i64 a0_8) := (blk_cell BK128.out 8).trans rfl
                                have hcz80_9 : wc.cell? ⟨gb128, 9, none⟩ = some (.int .i64 a0_9) := (blk_cell BK128.out 9).trans rfl
                                have hfz80_0 := blk_frozen BK128.out 0
                                have hfz80_1 := blk_frozen BK128.out 1
                                have hfz80_2 := blk_frozen BK128.out 2
                                have hfz80_3 := blk_frozen BK128.out 3
                                have hfz80_4 := blk_frozen BK128.out 4
                                have hfz80_5 := blk_frozen BK128.out 5
                                have hfz80_6 := blk_frozen BK128.out 6
                                have hfz80_7 := blk_frozen BK128.out 7
                                have hfz80_8 := blk_frozen BK128.out 8
                                have hfz80_9 := blk_frozen BK128.out 9
                                go_wp2
                                repeat (go_quiet (fail); try go_wp2)
                                go_meet
                                case rel => exact ⟨_, (decide ((wrap64 (a3_4 - ((rd_T39 l2 t133).f4))) < a0_6)), (by first | rfl | (simp; done) | (simp [*]; done)), H', ⟨by have := HJ4.out; have := HJ34.out; have := HJ53.out; first | omega | exact Nat.le_refl _⟩, ⟨by (with_reducible repeat (first | refine blk_drewN ?_ _ | refine blk_drew ?_ | refine blk_alloc ?_ _)); exact BK128.out⟩, ⟨by (with_reducible repeat (first | refine blk_drewN ?_ _ | refine blk_drew ?_ | refine blk_alloc ?_ _)); exact BK129.out⟩, ⟨by (with_reducible repeat (first | refine blk_drewN ?_ _ | refine blk_drew ?_ | refine blk_alloc ?_ _)); exact BK135.out⟩, ⟨by repeat (first | (with_reducible first | exact HB.out | apply below_alloc | apply pw_below_drewN | apply below_drew1 | refine below_set ?_ GE128.out | refine below_set ?_ GE129.out | refine below_set ?_ GE135.out) | exact HB.out)⟩⟩
                              · rw [if_neg c74] at H
                                have c74b0 : (a3_0 == 5) = false := beq_eq_false_iff_ne.mpr c74
                                have c74b1 : (a3_0 != 5) = true := bne_iff_ne.mpr c74
                                (first | rw [c74b0] | (simp only [i64_w, i32_w]; rw [c74b0]) | skip)
                                have H' := Aside0.mk H
                                clear H
                                have hnb81 := NB129_128.out
                                have hnc81 := NB128_129.out
                                have hnb82 := NB129_135.out
                                have hnc82 := NB135_129.out
                                have hcz83_0 : wc.cell? ⟨gb129, 0, none⟩ = some (.int .i64 a3_0) := (blk_cell BK129.out 0).trans rfl
                                have hcz83_1 : wc.cell? ⟨gb129, 1, none⟩ = some (.int .i64 a3_1) := (blk_cell BK129.out 1).trans rfl
                                have hcz83_2 : wc.cell? ⟨gb129, 2, none⟩ = some (.int .i64 a3_2) := (blk_cell BK129.out 2).trans rfl
                                have hcz83_3 : wc.cell? ⟨gb129, 3, none⟩ = some (.int .i64 a3_3) := (blk_cell BK129.out 3).trans rfl
                                have hcz83_4 : wc.cell? ⟨gb129, 4, none⟩ = some (.int .i64 a3_4) := (blk_cell BK129.out 4).trans rfl
                                have hfz83_0 := blk_frozen BK129.out 0
                                have hfz83_1 := blk_frozen BK129.out 1
                                have hfz83_2 := blk_frozen BK129.out 2
                                have hfz83_3 := blk_frozen BK129.out 3
                                have hfz83_4 := blk_frozen BK129.out 4
                                go_wp2
                                repeat (go_quiet (fail); try go_wp2)
                                go_meet
                                case rel => exact ⟨_, (false), (by first | rfl | (simp; done) | (simp [*]; done)), H', ⟨by have := HJ4.out; have := HJ34.out; have := HJ53.out; first | omega | exact Nat.le_refl _⟩, ⟨by (with_reducible repeat (first | refine blk_drewN ?_ _ | refine blk_drew ?_ | refine blk_alloc ?_ _)); exact BK128.out⟩, ⟨by (with_reducible repeat (first | refine blk_drewN ?_ _ | refine blk_drew ?_ | refine blk_alloc ?_ _)); exact BK129.out⟩, ⟨by (with_reducible repeat (first | refine blk_drewN ?_ _ | refine blk_drew ?_ | refine blk_alloc ?_ _)); exact BK135.out⟩, ⟨by repeat (first | (with_reducible first | exact HB.out | apply below_alloc | apply pw_below_drewN | apply below_drew1 | refine below_set ?_ GE128.out | refine below_set ?_ GE129.out | refine below_set ?_ GE135.out) | exact HB.out)⟩⟩
                            case rest =>
                              clear HC73
                              (try clear c1); (try clear p1); (try clear q1); (try clear hx1); (try clear c2); (try clear p2); (try clear c3); (try clear c4); (try clear c5); (try clear c6); (try clear p6); (try clear c7); (try clear c8); (try clear c8b0); (try clear c9); (try clear c11); (try clear c11b0); (try clear c12); (try clear p13); (try clear q13); (try clear hx13); (try clear c14); (try clear c14b0); (try clear c15); (try clear c17); (try clear c17b0); (try clear c18); (try clear c20); (try clear c20b0); (try clear c21); (try clear c23); (try clear c23b0); (try clear c24); (try clear c27); (try clear c27b0); (try clear c28); (try clear c31); (try clear c34); (try clear c36); (try clear c36b0); (try clear c36b1); (try clear c38); (try clear c38b0); (try clear c39); (try clear c39b0); (try clear c40); (try clear c42); (try clear c43); (try clear c43b0); (try clear c43b1); (try clear c45); (try clear c50); (try clear c52); (try clear c52b0); (try clear c53); (try clear c53b0); (try clear c55); (try clear c58); (try clear c59); (try clear c61); (try clear c61b0); (try clear c61b1); (try clear c62); (try clear c63); (try clear p64); (try clear c65); (try clear c67); (try clear c68); (try clear c70); (try clear c72); (try clear c74); (try clear c74b0); (try clear c74b1); (try clear c75); (try clear c76); (try clear c78); (try clear c81); (try clear c82); (try clear hcz10_0); (try clear hcz10_1); (try clear hcz10_2); (try clear hcz10_3); (try clear hcz10_4); (try clear hcz13_0); (try clear hcz13_1); (try clear hcz13_2); (try clear hcz13_3); (try clear hcz13_4); (try clear hcz16_0); (try clear hcz16_1); (try clear hcz16_2); (try clear hcz16_3); (try clear hcz16_4); (try clear hcz19_0); (try clear hcz19_1); (try clear hcz19_2); (try clear hcz19_3); (try clear hcz19_4); (try clear hcz22_0); (try clear hcz22_1); (try clear hcz22_2); (try clear hcz22_3); (try clear hcz22_4); (try clear hcz25_0); (try clear hcz25_1); (try clear hcz25_2); (try clear hcz25_3); (try clear hcz25_4); (try clear hcz26_0); (try clear hcz26_1); (try clear hcz26_2); (try clear hcz26_3); (try clear hcz26_4); (try clear hcz26_5); (try clear hcz26_6); (try clear hcz26_7); (try clear hcz26_8); (try clear hcz26_9); (try clear hcz29_0); (try clear hcz29_1); (try clear hcz29_2); (try clear hcz29_3); (try clear hcz29_4); (try clear hcz30_0); (try clear hcz30_1); (try clear hcz30_2); (try clear hcz30_3); (try clear hcz30_4); (try clear hcz30_5); (try clear hcz30_6); (try clear hcz30_7); (try clear hcz30_8); (try clear hcz30_9); (try clear hcz32_0); (try clear hcz32_1); (try clear hcz32_2); (try clear hcz32_3); (try clear hcz32_4); (try clear hcz33_0); (try clear hcz33_1); (try clear hcz33_2); (try clear hcz33_3); (try clear hcz33_4); (try clear hcz33_5); (try clear hcz33_6); (try clear hcz33_7); (try clear hcz33_8); (try clear hcz33_9); (try clear hcz41_0); (try clear hcz41_1); (try clear hcz41_2); (try clear hcz41_3); (try clear hcz41_4); (try clear hcz46_0); (try clear hcz46_1); (try clear hcz46_2); (try clear hcz46_3); (try clear hcz46_4); (try clear hcz47_0); (try clear hcz47_1); (try clear hcz47_2); (try clear hcz47_3); (try clear hcz47_4); (try clear hcz47_5); (try clear hcz47_6); (try clear hcz47_7); (try clear hcz47_8); (try clear hcz47_9); (try clear hcz56_0); (try clear hcz56_1); (try clear hcz56_2); (try clear hcz56_3); (try clear hcz56_4); (try clear hcz60_0); (try clear hcz60_1); (try clear hcz60_2); (try clear hcz60_3); (try clear hcz60_4); (try clear hcz64_0); (try clear hcz64_1); (try clear hcz64_2); (try clear hcz64_3); (try clear hcz64_4); (try clear hcz66_0); (try clear hcz66_1); (try clear hcz66_2); (try clear hcz66_3); (try clear hcz66_4); (try clear hcz69_0); (try clear hcz69_1); (try clear hcz69_2); (try clear hcz69_3); (try clear hcz69_4); (try clear hcz71_0); (try clear hcz71_1); (try clear hcz71_2); (try clear hcz71_3); (try clear hcz71_4); (try clear hcz77_0); (try clear hcz77_1); (try clear hcz77_2); (try clear hcz77_3); (try clear hcz77_4); (try clear hcz79_0); (try clear hcz79_1); (try clear hcz79_2); (try clear hcz79_3); (try clear hcz79_4); (try clear hcz80_0); (try clear hcz80_1); (try clear hcz80_2); (try clear hcz80_3); (try clear hcz80_4); (try clear hcz80_5); (try clear hcz80_6); (try clear hcz80_7); (try clear hcz80_8); (try clear hcz80_9); (try clear hcz83_0); (try clear hcz83_1); (try clear hcz83_2); (try clear hcz83_3); (try clear hcz83_4); (try clear hfz10_0); (try clear hfz10_1); (try clear hfz10_2); (try clear hfz10_3); (try clear hfz10_4); (try clear hfz13_0); (try clear hfz13_1); (try clear hfz13_2); (try clear hfz13_3); (try clear hfz13_4); (try clear hfz16_0); (try clear hfz16_1); (try clear hfz16_2); (try clear hfz16_3); (try clear hfz16_4); (try clear hfz19_0); (try clear hfz19_1); (try clear hfz19_2); (try clear hfz19_3); (try clear hfz19_4); (try clear hfz22_0); (try clear hfz22_1); (try clear hfz22_2); (try clear hfz22_3); (try clear hfz22_4); (try clear hfz25_0); (try clear hfz25_1); (try clear hfz25_2); (try clear hfz25_3); (try clear hfz25_4); (try clear hfz26_0); (try clear hfz26_1); (try clear hfz26_2); (try clear hfz26_3); (try clear hfz26_4); (try clear hfz26_5); (try clear hfz26_6); (try clear hfz26_7); (try clear hfz26_8); (try clear hfz26_9); (try clear hfz29_0); (try clear hfz29_1); (try clear hfz29_2); (try clear hfz29_3); (try clear hfz29_4); (try clear hfz30_0); (try clear hfz30_1); (try clear hfz30_2); (try clear hfz30_3); (try clear hfz30_4); (try clear hfz30_5); (try clear hfz30_6); (try clear hfz30_7); (try clear hfz30_8); (try clear hfz30_9); (try clear hfz32_0); (try clear hfz32_1); (try clear hfz32_2); (try clear hfz32_3); (try clear hfz32_4); (try clear hfz33_0); (try clear hfz33_1); (try clear hfz33_2); (try clear hfz33_3); (try clear hfz33_4); (try clear hfz33_5); (try clear hfz33_6); (try clear hfz33_7); (try clear hfz33_8); (try clear hfz33_9); (try clear hfz41_0); (try clear hfz41_1); (try clear hfz41_2); (try clear hfz41_3); (try clear hfz41_4); (try clear hfz46_0); (try clear hfz46_1); (try clear hfz46_2); (try clear hfz46_3); (try clear hfz46_4); (try clear hfz47_0); (try clear hfz47_1); (try clear hfz47_2); (try clear hfz47_3); (try clear hfz47_4); (try clear hfz47_5); (try clear hfz47_6); (try clear hfz47_7); (try clear hfz47_8); (try clear hfz47_9); (try clear hfz56_0); (try clear hfz56_1); (try clear hfz56_2); (try clear hfz56_3); (try clear hfz56_4); (try clear hfz60_0); (try clear hfz60_1); (try clear hfz60_2); (try clear hfz60_3); (try clear hfz60_4); (try clear hfz64_0); (try clear hfz64_1); (try clear hfz64_2); (try clear hfz64_3); (try clear hfz64_4); (try clear hfz66_0); (try clear hfz66_1); (try clear hfz66_2); (try clear hfz66_3); (try clear hfz66_4); (try clear hfz69_0); (try clear hfz69_1); (try clear hfz69_2); (try clear hfz69_3); (try clear hfz69_4); (try clear hfz71_0); (try clear hfz71_1); (try clear hfz71_2); (try clear hfz71_3); (try clear hfz71_4); (try clear hfz77_0); (try clear hfz77_1); (try clear hfz77_2); (try clear hfz77_3); (try clear hfz77_4); (try clear hfz79_0); (try clear hfz79_1); (try clear hfz79_2); (try clear hfz79_3); (try clear hfz79_4); (try clear hfz80_0); (try clear hfz80_1); (try clear hfz80_2); (try clear hfz80_3); (try clear hfz80_4); (try clear hfz80_5); (try clear hfz80_6); (try clear hfz80_7); (try clear hfz80_8); (try clear hfz80_9); (try clear hfz83_0); (try clear hfz83_1); (try clear hfz83_2); (try clear hfz83_3); (try clear hfz83_4); (try clear hx130_0); (try clear hx130_1); (try clear hx130_2); (try clear hx130_3); (try clear hx130_4); (try clear hx134_0); (try clear hx134_1); (try clear hx134_2); (try clear hx134_3); (try clear hx134_4); (try clear p1); (try clear p13); (try clear p130); (try clear p134); (try clear p2); (try clear p6); (try clear p64); (try clear q1); (try clear q13); (try clear q130); (try clear q134)
                              obtain ⟨kq, x113_72, rfl, HA, HJ72, BK128, BK129, BK135, HB⟩ := hcut
                              cases kq with
                              | zero => exact absurd HA.out (by simp [millwrightref19_one.j3])
                              | succ kj72 =>
                                have H := HA.out
                                clear HA
                                simp only [millwrightref19_one.j3] at H
                                by_cases c84 : x113_72 = true
                                · subst c84
                                  have H1 : (some 10) = some r := by rw [if_pos rfl] at H; exact H
                                  clear H
                                  have H := H1
                                  clear H1
                                  obtain rfl := Option.some.inj H
                                  go_wp2
                                  repeat (go_quiet (fail); try go_wp2)
                                  go_ret
                                  exact ⟨by first | rfl | (simp [errW_none, errW_some] <;> rfl) | (simp [*, errW_none, errW_some] <;> rfl), by repeat (first | (with_reducible first | exact HB.out | apply below_alloc | apply pw_below_drewN | apply below_drew1 | refine below_set ?_ GE128.out | refine below_set ?_ GE129.out | refine below_set ?_ GE135.out) | exact HB.out)⟩
                                · replace c84 := Bool.eq_false_iff.mpr c84
                                  subst c84
                                  have H1 : (if a3_0 = 6 then ((millwrightref19_many.f kj72 l2 a3_1 6).bind fun t136 => (if t136 ≥ a0_5 then (some 3) else (some 0))) else (some 0)) = some r := by rw [if_neg (show ¬ (false = true) by decide)] at H; exact H
                                  clear H
                                  have H := H1
                                  clear H1
                                  by_cases c85 : a3_0 = 6
                                  · rw [if_pos c85] at H
                                    have c85b0 : (a3_0 == 6) = true := beq_iff_eq.mpr c85
                                    have c85b1 : (a3_0 != 6) = false := bne_eq_false_iff_eq.mpr c85
                                    clear c85
                                    replace H := Option.bind_eq_some_iff.mp H
                                    obtain ⟨t136, A860, H⟩ := H
                                    replace H : (if t136 ≥ a0_5 then (some 3) else (some 0)) = some r := H
                                    have A86 := Aside0.mk A860
                                    clear A860
                                    by_cases c87 : t136 ≥ a0_5
                                    · rw [if_pos c87] at H
                                      have c87b0 : decide (a0_5 ≤ t136) = true := decide_eq_true c87
                                      clear c87
                                      obtain rfl := Option.some.inj H
                                      have hnb88 := NB129_128.out
                                      have hnc88 := NB128_129.out
                                      have hnb89 := NB129_135.out
                                      have hnc89 := NB135_129.out
                                      have hcz90_0 : wc.cell? ⟨gb129, 0, none⟩ = some (.int .i64 a3_0) := (blk_cell BK129.out 0).trans rfl
                                      have hcz90_1 : wc.cell? ⟨gb129, 1, none⟩ = some (.int .i64 a3_1) := (blk_cell BK129.out 1).trans rfl
                                      have hcz90_2 : wc.cell? ⟨gb129, 2, none⟩ = some (.int .i64 a3_2) := (blk_cell BK129.out 2).trans rfl
                                      have hcz90_3 : wc.cell? ⟨gb129, 3, none⟩ = some (.int .i64 a3_3) := (blk_cell BK129.out 3).trans rfl
                                      have hcz90_4 : wc.cell? ⟨gb129, 4, none⟩ = some (.int .i64 a3_4) := (blk_cell BK129.out 4).trans rfl
                                      have hfz90_0 := blk_frozen BK129.out 0
                                      have hfz90_1 := blk_frozen BK129.out 1
                                      have hfz90_2 := blk_frozen BK129.out 2
                                      have hfz90_3 := blk_frozen BK129.out 3
                                      have hfz90_4 := blk_frozen BK129.out 4
                                      go_wp2_with (first | (go_at_call 42; (with_reducible refine (millwrightref19_many.calls kj72 _ _ l2 a3_1 6 t136 _ ?side1 ?side2 A86.out).mono ?_); (case side1 => repeat (first | exact (Kd.C_below HR2.out HB.out) | (with_reducible refine Kd.C_alloc ?_ _) | (with_reducible refine Kd.C_drewN ?_ _) | (with_reducible refine Kd.C_drew ?_))); (case side2 => exact HC2.out); rintro e w' ⟨rfl, ⟨nd, rfl⟩⟩; (try first | exact ⟨rfl, _, World.drewN_drewN _ _ _⟩ | exact ⟨rfl, _, Eq.trans (World.drewN_drewN _ _ _) (congrArg (World.drewN _) (Nat.add_assoc _ _ _))⟩); have hnb91 := NB128_135.out; have hnc91 := NB135_128.out; have hcz92_0 : wc.cell? ⟨gb128, 0, none⟩ = some (.int .i64 a0_0) := (blk_cell BK128.out 0).trans rfl; have hcz92_1 : wc.cell? ⟨gb128, 1, none⟩ = some (.int .i64 a0_1) := (blk_cell BK128.out 1).trans rfl; have hcz92_2 : wc.cell? ⟨gb128, 2, none⟩ = some (.int .i64 a0_2) := (blk_cell BK128.out 2).trans rfl; have hcz92_3 : wc.cell? ⟨gb128, 3, none⟩ = some (.int .i64 a0_3) := (blk_cell BK128.out 3).trans rfl; have hcz92_4 : wc.cell? ⟨gb128, 4, none⟩ = some (.int .i64 a0_4) := (blk_cell BK128.out 4).trans rfl; have hcz92_5 : wc.cell? ⟨gb128, 5, none⟩ = some (.int .i64 a0_5) := (blk_cell BK128.out 5).trans rfl; have hcz92_6 : wc.cell? ⟨gb128, 6, none⟩ = some (.int .i64 a0_6) := (blk_cell BK128.out 6).trans rfl; have hcz92_7 : wc.cell? ⟨gb128, 7, none⟩ = some (.int .i64 a0_7) := (blk_cell BK128.out 7).trans rfl; have hcz92_8 : wc.cell? ⟨gb128, 8, none⟩ = some (.int .i64 a0_8) := (blk_cell BK128.out 8).trans rfl; have hcz92_9 : wc.cell? ⟨gb128, 9, none⟩ = some (.int .i64 a0_9) := (blk_cell BK128.out 9).trans rfl; have hfz92_0 := blk_frozen BK128.out 0; have hfz92_1 := blk_frozen BK128.out 1; have hfz92_2 := blk_frozen BK128.out 2; have hfz92_3 := blk_frozen BK128.out 3; have hfz92_4 := blk_frozen BK128.out 4; have hfz92_5 := blk_frozen BK128.out 5; have hfz92_6 := blk_frozen BK128.out 6; have hfz92_7 := blk_frozen BK128.out 7; have hfz92_8 := blk_frozen BK128.out 8; have hfz92_9 := blk_frozen BK128.out 9))
                                      repeat (go_quiet (first | (go_at_call 42; (with_reducible refine (millwrightref19_many.calls kj72 _ _ l2 a3_1 6 t136 _ ?side1 ?side2 A86.out).mono ?_); (case side1 => repeat (first | exact (Kd.C_below HR2.out HB.out) | (with_reducible refine Kd.C_alloc ?_ _) | (with_reducible refine Kd.C_drewN ?_ _) | (with_reducible refine Kd.C_drew ?_))); (case side2 => exact HC2.out); rintro e w' ⟨rfl, ⟨nd, rfl⟩⟩; (try first | exact ⟨rfl, _, World.drewN_drewN _ _ _⟩ | exact ⟨rfl, _, Eq.trans (World.drewN_drewN _ _ _) (congrArg (World.drewN _) (Nat.add_assoc _ _ _))⟩); have hnb91 := NB128_135.out; have hnc91 := NB135_128.out; have hcz92_0 : wc.cell? ⟨gb128, 0, none⟩ = some (.int .i64 a0_0) := (blk_cell BK128.out 0).trans rfl; have hcz92_1 : wc.cell? ⟨gb128, 1, none⟩ = some (.int .i64 a0_1) := (blk_cell BK128.out 1).trans rfl; have hcz92_2 : wc.cell? ⟨gb128, 2, none⟩ = some (.int .i64 a0_2) := (blk_cell BK128.out 2).trans rfl; have hcz92_3 : wc.cell? ⟨gb128, 3, none⟩ = some (.int .i64 a0_3) := (blk_cell BK128.out 3).trans rfl; have hcz92_4 : wc.cell? ⟨gb128, 4, none⟩ = some (.int .i64 a0_4) := (blk_cell BK128.out 4).trans rfl; have hcz92_5 : wc.cell? ⟨gb128, 5, none⟩ = some (.int .i64 a0_5) := (blk_cell BK128.out 5).trans rfl; have hcz92_6 : wc.cell? ⟨gb128, 6, none⟩ = some (.int .i64 a0_6) := (blk_cell BK128.out 6).trans rfl; have hcz92_7 : wc.cell? ⟨gb128, 7, none⟩ = some (.int .i64 a0_7) := (blk_cell BK128.out 7).trans rfl; have hcz92_8 : wc.cell? ⟨gb128, 8, none⟩ = some (.int .i64 a0_8) := (blk_cell BK128.out 8).trans rfl; have hcz92_9 : wc.cell? ⟨gb128, 9, none⟩ = some (.int .i64 a0_9) := (blk_cell BK128.out 9).trans rfl; have hfz92_0 := blk_frozen BK128.out 0; have hfz92_1 := blk_frozen BK128.out 1; have hfz92_2 := blk_frozen BK128.out 2; have hfz92_3 := blk_frozen BK128.out 3; have hfz92_4 := blk_frozen BK128.out 4; have hfz92_5 := blk_frozen BK128.out 5; have hfz92_6 := blk_frozen BK128.out 6; have hfz92_7 := blk_frozen BK128.out 7; have hfz92_8 := blk_frozen BK128.out 8; have hfz92_9 := blk_frozen BK128.out 9)); try go_wp2_with (first | (go_at_call 42; (with_reducible refine (millwrightref19_many.calls kj72 _ _ l2 a3_1 6 t136 _ ?side1 ?side2 A86.out).mono ?_); (case side1 => repeat (first | exact (Kd.C_below HR2.out HB.out) | (with_reducible refine Kd.C_alloc ?_ _) | (with_reducible refine Kd.C_drewN ?_ _) | (with_reducible refine Kd.C_drew ?_))); (case side2 => exact HC2.out); rintro e w' ⟨rfl, ⟨nd, rfl⟩⟩; (try first | exact ⟨rfl, _, World.drewN_drewN _ _ _⟩ | exact ⟨rfl, _, Eq.trans (World.drewN_drewN _ _ _) (congrArg (World.drewN _) (Nat.add_assoc _ _ _))⟩); have hnb91 := NB128_135.out; have hnc91 := NB135_128.out; have hcz92_0 : wc.cell? ⟨gb128, 0, none⟩ = some (.int .i64 a0_0) := (blk_cell BK128.out 0).trans rfl; have hcz92_1 : wc.cell? ⟨gb128, 1, none⟩ = some (.int .i64 a0_1) := (blk_cell BK128.out 1).trans rfl; have hcz92_2 : wc.cell? ⟨gb128, 2, none⟩ = some (.int .i64 a0_2) := (blk_cell BK128.out 2).trans rfl; have hcz92_3 : wc.cell? ⟨gb128, 3, none⟩ = some (.int .i64 a0_3) := (blk_cell BK128.out 3).trans rfl; have hcz92_4 : wc.cell? ⟨gb128, 4, none⟩ = some (.int .i64 a0_4) := (blk_cell BK128.out 4).trans rfl; have hcz92_5 : wc.cell? ⟨gb128, 5, none⟩ = some (.int .i64 a0_5) := (blk_cell BK128.out 5).trans rfl; have hcz92_6 : wc.cell? ⟨gb128, 6, none⟩ = some (.int .i64 a0_6) := (blk_cell BK128.out 6).trans rfl; have hcz92_7 : wc.cell? ⟨gb128, 7, none⟩ = some (.int .i64 a0_7) := (blk_cell BK128.out 7).trans rfl; have hcz92_8 : wc.cell? ⟨gb128, 8, none⟩ = some (.int .i64 a0_8) := (blk_cell BK128.out 8).trans rfl; have hcz92_9 : wc.cell? ⟨gb128, 9, none⟩ = some (.int .i64 a0_9) := (blk_cell BK128.out 9).trans rfl; have hfz92_0 := blk_frozen BK128.out 0; have hfz92_1 := blk_frozen BK128.out 1; have hfz92_2 := blk_frozen BK128.out 2; have hfz92_3 := blk_frozen BK128.out 3; have hfz92_4 := blk_frozen BK128.out 4; have hfz92_5 := blk_frozen BK128.out 5; have hfz92_6 := blk_frozen BK128.out 6; have hfz92_7 := blk_frozen BK128.out 7; have hfz92_8 := blk_frozen BK128.out 8; have hfz92_9 := blk_frozen BK128.out 9)))
                                      go_ret
                                      exact ⟨by first | rfl | (simp [errW_none, errW_some] <;> rfl) | (simp [*, errW_none, errW_some] <;> rfl), by repeat (first | (with_reducible first | exact HB.out | apply below_alloc | apply pw_below_drewN | apply below_drew1 | refine below_set ?_ GE128.out | refine below_set ?_ GE129.out | refine below_set ?_ GE135.out) | exact HB.out)⟩
                                    · rw [if_neg c87] at H
                                      have c87b0 : decide (a0_5 ≤ t136) = false := decide_eq_false c87
                                      clear c87
                                      obtain rfl := Option.some.inj H
                                      have hnb93 := NB129_128.out
                                      have hnc93 := NB128_129.out
                                      have hnb94 := NB129_135.out
                                      have hnc94 := NB135_129.out
                                      have hcz95_0 : wc.cell? ⟨gb129, 0, none⟩ = some (.int .i64 a3_0) := (blk_cell BK129.out 0).trans rfl
                                      have hcz95_1 : wc.cell? ⟨gb129, 1, none⟩ = some (.int .i64 a3_1) := (blk_cell BK129.out 1).trans rfl
                                      have hcz95_2 : wc.cell? ⟨gb129, 2, none⟩ = some (.int .i64 a3_2) := (blk_cell BK129.out 2).trans rfl
                                      have hcz95_3 : wc.cell? ⟨gb129, 3, none⟩ = some (.int .i64 a3_3) := (blk_cell BK129.out 3).trans rfl
                                      have hcz95_4 : wc.cell? ⟨gb129, 4, none⟩ = some (.int .i64 a3_4) := (blk_cell BK129.out 4).trans rfl
                                      have hfz95_0 := blk_frozen BK129.out 0
                                      have hfz95_1 := blk_frozen BK129.out 1
                                      have hfz95_2 := blk_frozen BK129.out 2
                                      have hfz95_3 := blk_frozen BK129.out 3
                                      have hfz95_4 := blk_frozen BK129.out 4
                                      go_wp2_with (first | (go_at_call 42; (with_reducible refine (millwrightref19_many.calls kj72 _ _ l2 a3_1 6 t136 _ ?side1 ?side2 A86.out).mono ?_); (case side1 => repeat (first | exact (Kd.C_below HR2.out HB.out) | (with_reducible refine Kd.C_alloc ?_ _) | (with_reducible refine Kd.C_drewN ?_ _) | (with_reducible refine Kd.C_drew ?_))); (case side2 => exact HC2.out); rintro e w' ⟨rfl, ⟨nd, rfl⟩⟩; (try first | exact ⟨rfl, _, World.drewN_drewN _ _ _⟩ | exact ⟨rfl, _, Eq.trans (World.drewN_drewN _ _ _) (congrArg (World.drewN _) (Nat.add_assoc _ _ _))⟩); have hnb96 := NB128_135.out; have hnc96 := NB135_128.out; have hcz97_0 : wc.cell? ⟨gb128, 0, none⟩ = some (.int .i64 a0_0) := (blk_cell BK128.out 0).trans rfl; have hcz97_1 : wc.cell? ⟨gb128, 1, none⟩ = some (.int .i64 a0_1) := (blk_cell BK128.out 1).trans rfl; have hcz97_2 : wc.cell? ⟨gb128, 2, none⟩ = some (.int .i64 a0_2) := (blk_cell BK128.out 2).trans rfl; have hcz97_3 : wc.cell? ⟨gb128, 3, none⟩ = some (.int .i64 a0_3) := (blk_cell BK128.out 3).trans rfl; have hcz97_4 : wc.cell? ⟨gb128, 4, none⟩ = some (.int .i64 a0_4) := (blk_cell BK128.out 4).trans rfl; have hcz97_5 : wc.cell? ⟨gb128, 5, none⟩ = some (.int .i64 a0_5) := (blk_cell BK128.out 5).trans rfl; have hcz97_6 : wc.cell? ⟨gb128, 6, none⟩ = some (.int .i64 a0_6) := (blk_cell BK128.out 6).trans rfl; have hcz97_7 : wc.cell? ⟨gb128, 7, none⟩ = some (.int .i64 a0_7) := (blk_cell BK128.out 7).trans rfl; have hcz97_8 : wc.cell? ⟨gb128, 8, none⟩ = some (.int .i64 a0_8) := (blk_cell BK128.out 8).trans rfl; have hcz97_9 : wc.cell? ⟨gb128, 9, none⟩ = some (.int .i64 a0_9) := (blk_cell BK128.out 9).trans rfl; have hfz97_0 := blk_frozen BK128.out 0; have hfz97_1 := blk_frozen BK128.out 1; have hfz97_2 := blk_frozen BK128.out 2; have hfz97_3 := blk_frozen BK128.out 3; have hfz97_4 := blk_frozen BK128.out 4; have hfz97_5 := blk_frozen BK128.out 5; have hfz97_6 := blk_frozen BK128.out 6; have hfz97_7 := blk_frozen BK128.out 7; have hfz97_8 := blk_frozen BK128.out 8; have hfz97_9 := blk_frozen BK128.out 9))
                                      repeat (go_quiet (first | (go_at_call 42; (with_reducible refine (millwrightref19_many.calls kj72 _ _ l2 a3_1 6 t136 _ ?side1 ?side2 A86.out).mono ?_); (case side1 => repeat (first | exact (Kd.C_below HR2.out HB.out) | (with_reducible refine Kd.C_alloc ?_ _) | (with_reducible refine Kd.C_drewN ?_ _) | (with_reducible refine Kd.C_drew ?_))); (case side2 => exact HC2.out); rintro e w' ⟨rfl, ⟨nd, rfl⟩⟩; (try first | exact ⟨rfl, _, World.drewN_drewN _ _ _⟩ | exact ⟨rfl, _, Eq.trans (World.drewN_drewN _ _ _) (congrArg (World.drewN _) (Nat.add_assoc _ _ _))⟩); have hnb96 := NB128_135.out; have hnc96 := NB135_128.out; have hcz97_0 : wc.cell? ⟨gb128, 0, none⟩ = some (.int .i64 a0_0) := (blk_cell BK128.out 0).trans rfl; have hcz97_1 : wc.cell? ⟨gb128, 1, none⟩ = some (.int .i64 a0_1) := (blk_cell BK128.out 1).trans rfl; have hcz97_2 : wc.cell? ⟨gb128, 2, none⟩ = some (.int .i64 a0_2) := (blk_cell BK128.out 2).trans rfl; have hcz97_3 : wc.cell? ⟨gb128, 3, none⟩ = some (.int .i64 a0_3) := (blk_cell BK128.out 3).trans rfl; have hcz97_4 : wc.cell? ⟨gb128, 4, none⟩ = some (.int .i64 a0_4) := (blk_cell BK128.out 4).trans rfl; have hcz97_5 : wc.cell? ⟨gb128, 5, none⟩ = some (.int .i64 a0_5) := (blk_cell BK128.out 5).trans rfl; have hcz97_6 : wc.cell? ⟨gb128, 6, none⟩ = some (.int .i64 a0_6) := (blk_cell BK128.out 6).trans rfl; have hcz97_7 : wc.cell? ⟨gb128, 7, none⟩ = some (.int .i64 a0_7) := (blk_cell BK128.out 7).trans rfl; have hcz97_8 : wc.cell? ⟨gb128, 8, none⟩ = some (.int .i64 a0_8) := (blk_cell BK128.out 8).trans rfl; have hcz97_9 : wc.cell? ⟨gb128, 9, none⟩ = some (.int .i64 a0_9) := (blk_cell BK128.out 9).trans rfl; have hfz97_0 := blk_frozen BK128.out 0; have hfz97_1 := blk_frozen BK128.out 1; have hfz97_2 := blk_frozen BK128.out 2; have hfz97_3 := blk_frozen BK128.out 3; have hfz97_4 := blk_frozen BK128.out 4; have hfz97_5 := blk_frozen BK128.out 5; have hfz97_6 := blk_frozen BK128.out 6; have hfz97_7 := blk_frozen BK128.out 7; have hfz97_8 := blk_frozen BK128.out 8; have hfz97_9 := blk_frozen BK128.out 9)); try go_wp2_with (first | (go_at_call 42; (with_reducible refine (millwrightref19_many.calls kj72 _ _ l2 a3_1 6 t136 _ ?side1 ?side2 A86.out).mono ?_); (case side1 => repeat (first | exact (Kd.C_below HR2.out HB.out) | (with_reducible refine Kd.C_alloc ?_ _) | (with_reducible refine Kd.C_drewN ?_ _) | (with_reducible refine Kd.C_drew ?_))); (case side2 => exact HC2.out); rintro e w' ⟨rfl, ⟨nd, rfl⟩⟩; (try first | exact ⟨rfl, _, World.drewN_drewN _ _ _⟩ | exact ⟨rfl, _, Eq.trans (World.drewN_drewN _ _ _) (congrArg (World.drewN _) (Nat.add_assoc _ _ _))⟩); have hnb96 := NB128_135.out; have hnc96 := NB135_128.out; have hcz97_0 : wc.cell? ⟨gb128, 0, none⟩ = some (.int .i64 a0_0) := (blk_cell BK128.out 0).trans rfl; have hcz97_1 : wc.cell? ⟨gb128, 1, none⟩ = some (.int .i64 a0_1) := (blk_cell BK128.out 1).trans rfl; have hcz97_2 : wc.cell? ⟨gb128, 2, none⟩ = some (.int .i64 a0_2) := (blk_cell BK128.out 2).trans rfl; have hcz97_3 : wc.cell? ⟨gb128, 3, none⟩ = some (.int .i64 a0_3) := (blk_cell BK128.out 3).trans rfl; have hcz97_4 : wc.cell? ⟨gb128, 4, none⟩ = some (.int .i64 a0_4) := (blk_cell BK128.out 4).trans rfl; have hcz97_5 : wc.cell? ⟨gb128, 5, none⟩ = some (.int .i64 a0_5) := (blk_cell BK128.out 5).trans rfl; have hcz97_6 : wc.cell? ⟨gb128, 6, none⟩ = some (.int .i64 a0_6) := (blk_cell BK128.out 6).trans rfl; have hcz97_7 : wc.cell? ⟨gb128, 7, none⟩ = some (.int .i64 a0_7) := (blk_cell BK128.out 7).trans rfl; have hcz97_8 : wc.cell? ⟨gb128, 8, none⟩ = some (.int .i64 a0_8) := (blk_cell BK128.out 8).trans rfl; have hcz97_9 : wc.cell? ⟨gb128, 9, none⟩ = some (.int .i64 a0_9) := (blk_cell BK128.out 9).trans rfl; have hfz97_0 := blk_frozen BK128.out 0; have hfz97_1 := blk_frozen BK128.out 1; have hfz97_2 := blk_frozen BK128.out 2; have hfz97_3 := blk_frozen BK128.out 3; have hfz97_4 := blk_frozen BK128.out 4; have hfz97_5 := blk_frozen BK128.out 5; have hfz97_6 := blk_frozen BK128.out 6; have hfz97_7 := blk_frozen BK128.out 7; have hfz97_8 := blk_frozen BK128.out 8; have hfz97_9 := blk_frozen BK128.out 9)))
                                      go_ret
                                      exact ⟨by first | rfl | (simp [errW_none, errW_some] <;> rfl) | (simp [*, errW_none, errW_some] <;> rfl), by repeat (first | (with_reducible first | exact HB.out | apply below_alloc | apply pw_below_drewN | apply below_drew1 | refine below_set ?_ GE128.out | refine below_set ?_ GE129.out | refine below_set ?_ GE135.out) | exact HB.out)⟩
                                  · rw [if_neg c85] at H
                                    have c85b0 : (a3_0 == 6) = false := beq_eq_false_iff_ne.mpr c85
                                    have c85b1 : (a3_0 != 6) = true := bne_iff_ne.mpr c85
                                    obtain rfl := Option.some.inj H
                                    have hnb98 := NB129_128.out
                                    have hnc98 := NB128_129.out
                                    have hnb99 := NB129_135.out
                                    have hnc99 := NB135_129.out
                                    have hcz100_0 : wc.cell? ⟨gb129, 0, none⟩ = some (.int .i64 a3_0) := (blk_cell BK129.out 0).trans rfl
                                    have hcz100_1 : wc.cell? ⟨gb129, 1, none⟩ = some (.int .i64 a3_1) := (blk_cell BK129.out 1).trans rfl
                                    have hcz100_2 : wc.cell? ⟨gb129, 2, none⟩ = some (.int .i64 a3_2) := (blk_cell BK129.out 2).trans rfl
                                    have hcz100_3 : wc.cell? ⟨gb129, 3, none⟩ = some (.int .i64 a3_3) := (blk_cell BK129.out 3).trans rfl
                                    have hcz100_4 : wc.cell? ⟨gb129, 4, none⟩ = some (.int .i64 a3_4) := (blk_cell BK129.out 4).trans rfl
                                    have hfz100_0 := blk_frozen BK129.out 0
                                    have hfz100_1 := blk_frozen BK129.out 1
                                    have hfz100_2 := blk_frozen BK129.out 2
                                    have hfz100_3 := blk_frozen BK129.out 3
                                    have hfz100_4 := blk_frozen BK129.out 4
                                    go_wp2
                                    repeat (go_quiet (fail); try go_wp2)
                                    go_ret
                                    exact ⟨by first | rfl | (simp [errW_none, errW_some] <;> rfl) | (simp [*, errW_none, errW_some] <;> rfl), by repeat (first | (with_reducible first | exact HB.out | apply below_alloc | apply pw_below_drewN | apply below_drew1 | refine below_set ?_ GE128.out | refine below_set ?_ GE129.out | refine below_set ?_ GE135.out) | exact HB.out)⟩
                    · rw [if_neg c53] at H
                      exact absurd H (by simp)
                  · rw [if_neg c52] at H
                    exact absurd H (by simp)
                · replace c50 := Bool.eq_false_iff.mpr c50
                  subst c50
                  have H1 : (some 6) = some r := by rw [if_neg (show ¬ (false = true) by decide)] at H; exact H
                  clear H
                  have H := H1
                  clear H1
                  obtain rfl := Option.some.inj H
                  have hnb101 := NB129_128.out
                  have hnc101 := NB128_129.out
                  have hcz102_0 : wc.cell? ⟨gb129, 0, none⟩ = some (.int .i64 a3_0) := (blk_cell BK129.out 0).trans rfl
                  have hcz102_1 : wc.cell? ⟨gb129, 1, none⟩ = some (.int .i64 a3_1) := (blk_cell BK129.out 1).trans rfl
                  have hcz102_2 : wc.cell? ⟨gb129, 2, none⟩ = some (.int .i64 a3_2) := (blk_cell BK129.out 2).trans rfl
                  have hcz102_3 : wc.cell? ⟨gb129, 3, none⟩ = some (.int .i64 a3_3) := (blk_cell BK129.out 3).trans rfl
                  have hcz102_4 : wc.cell? ⟨gb129, 4, none⟩ = some (.int .i64 a3_4) := (blk_cell BK129.out 4).trans rfl
                  have hfz102_0 := blk_frozen BK129.out 0
                  have hfz102_1 := blk_frozen BK129.out 1
                  have hfz102_2 := blk_frozen BK129.out 2
                  have hfz102_3 := blk_frozen BK129.out 3
                  have hfz102_4 := blk_frozen BK129.out 4
                  go_wp2_with (first | (go_at_call 40; (with_reducible refine (millwrightref19_Live.calls kj34 _ _ l2 a3_1 false _ ?side1 ?side2 A49.out).mono ?_); (case side1 => repeat (first | exact (Kd.C_below HR2.out HB.out) | (with_reducible refine Kd.C_alloc ?_ _) | (with_reducible refine Kd.C_drewN ?_ _) | (with_reducible refine Kd.C_drew ?_))); (case side2 => exact HC2.out); rintro e w' ⟨rfl, ⟨nd, rfl⟩⟩; (try first | exact ⟨rfl, _, World.drewN_drewN _ _ _⟩ | exact ⟨rfl, _, Eq.trans (World.drewN_drewN _ _ _) (congrArg (World.drewN _) (Nat.add_assoc _ _ _))⟩)))
                  repeat (go_quiet (fail); try go_wp2)
                  go_ret
                  exact ⟨by first | rfl | (simp [errW_none, errW_some] <;> rfl) | (simp [*, errW_none, errW_some] <;> rfl), by repeat (first | (with_reducible first | exact HB.out | apply below_alloc | apply pw_below_drewN | apply below_drew1 | refine below_set ?_ GE128.out | refine below_set ?_ GE129.out) | exact HB.out)⟩
end Go.Proofs.YtckcepmkfegkiaaDoor.PTraceTells
