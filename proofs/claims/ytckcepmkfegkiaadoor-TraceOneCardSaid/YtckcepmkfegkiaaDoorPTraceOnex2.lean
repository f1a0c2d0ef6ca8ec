-- Printed for this claim by a program of this project's own, over the kit's printer; some functions are told by hand.
import Derived.Test.YtckcepmkfegkiaaDoorPTraceOnex0
import Derived.Test.YtckcepmkfegkiaaDoorPTraceOnex1
namespace Go.Proofs.YtckcepmkfegkiaaDoor.PTraceOne
open Go.RowKit Go.Proofs.YtckcepmkfegkiaaDoorW.PrintWords Go.Proofs.YtckcepmkfegkiaaDoorW.PrintLast Go.Proofs.YtckcepmkfegkiaaDoorW.PrintMore
attribute [local go_sem] max2_int min2_int max_two min_two max_three min_three max_four min_four   -- for this text's walks alone
set_option linter.unusedVariables false
set_option linter.unusedSimpArgs false

/-! ### millwrightlaw19_TraceOne: function 12 -/
mutual
def millwrightlaw19_TraceOne.l0 : Nat → Int → Int → List Int → Bool → List Int → List (S42) → Int → Int → Bool → Int → Int → Int → Int → Int → Int → Int → Int → Int → Int → Int → Int → Int → Option (Bool)
  | 0, _, _, _, _, _, _, _, _, _, _, _, _, _, _, _, _, _, _, _, _, _, _ => none
  | k + 1, x0, x1, x2, x7, x9, x10, x11, x12, x13, x14, x15, x16, x103000, x103001, x103002, x103003, x103004, x103005, x103006, x103007, x103008, x103009 => if x16 < (x2.length : Int) then (millwrightlaw19_TraceOne.j1 k x0 x1 x2 x7 x9 x10 x11 x12 x13 x14 x15 x16 (decide (x16 < 60)) x103000 x103001 x103002 x103003 x103004 x103005 x103006 x103007 x103008 x103009) else (millwrightlaw19_TraceOne.j1 k x0 x1 x2 x7 x9 x10 x11 x12 x13 x14 x15 x16 false x103000 x103001 x103002 x103003 x103004 x103005 x103006 x103007 x103008 x103009)
def millwrightlaw19_TraceOne.j1 : Nat → Int → Int → List Int → Bool → List Int → List (S42) → Int → Int → Bool → Int → Int → Int → Bool → Int → Int → Int → Int → Int → Int → Int → Int → Int → Int → Option (Bool)
  | 0, _, _, _, _, _, _, _, _, _, _, _, _, _, _, _, _, _, _, _, _, _, _, _ => none
  | k + 1, x0, x1, x2, x7, x9, x10, x11, x12, x13, x14, x15, x16, x39, x103000, x103001, x103002, x103003, x103004, x103005, x103006, x103007, x103008, x103009 => if x39 = true then (if 0 ≤ x16 then (if x16 < (x2.length : Int) then (if 0 ≤ (Int.tmod (rd x2 x16) 5) then (if (Int.tmod (rd x2 x16) 5) < (x9.length : Int) then (if x14 < 0 then (millwrightlaw19_TraceOne.j2 k x0 x1 x2 x7 x9 x10 x11 x12 x13 x14 x15 x16 (rd x9 (Int.tmod (rd x2 x16) 5)) x13 x103000 x103001 x103002 x103003 x103004 x103005 x103006 x103007 x103008 x103009) else (millwrightlaw19_TraceOne.j2 k x0 x1 x2 x7 x9 x10 x11 x12 x13 x14 x15 x16 (rd x9 (Int.tmod (rd x2 x16) 5)) false x103000 x103001 x103002 x103003 x103004 x103005 x103006 x103007 x103008 x103009)) else (none)) else (none)) else (none)) else (none)) else ((trace_Audit.f x103000 x103001 x103002 x103003 x103004 x103005 x103006 x103007 x103008 x103009 (([(⟨5, 1⟩ : S50)] : List (S50))) x10).bind fun bt109 => (if x7 = true then (if bt109.1 = x14 then (some (bt109.2 == x15)) else (some false)) else (some false)))
def millwrightlaw19_TraceOne.j2 : Nat → Int → Int → List Int → Bool → List Int → List (S42) → Int → Int → Bool → Int → Int → Int → Int → Bool → Int → Int → Int → Int → Int → Int → Int → Int → Int → Int → Option (Bool)
  | 0, _, _, _, _, _, _, _, _, _, _, _, _, _, _, _, _, _, _, _, _, _, _, _, _ => none
  | k + 1, x0, x1, x2, x7, x9, x10, x11, x12, x13, x14, x15, x16, x17, x54, x103000, x103001, x103002, x103003, x103004, x103005, x103006, x103007, x103008, x103009 => if x54 = true then (millwrightlaw19_TraceOne.j3 k x0 x1 x2 x7 x9 x10 x11 x12 x13 (x10.length : Int) 8 x16 x17 x103000 x103001 x103002 x103003 x103004 x103005 x103006 x103007 x103008 x103009) else (millwrightlaw19_TraceOne.j3 k x0 x1 x2 x7 x9 x10 x11 x12 x13 x14 x15 x16 x17 x103000 x103001 x103002 x103003 x103004 x103005 x103006 x103007 x103008 x103009)
def millwrightlaw19_TraceOne.j3 : Nat → Int → Int → List Int → Bool → List Int → List (S42) → Int → Int → Bool → Int → Int → Int → Int → Int → Int → Int → Int → Int → Int → Int → Int → Int → Int → Option (Bool)
  | 0, _, _, _, _, _, _, _, _, _, _, _, _, _, _, _, _, _, _, _, _, _, _, _ => none
  | k + 1, x0, x1, x2, x7, x9, x10, x11, x12, x13, x14, x15, x16, x17, x103000, x103001, x103002, x103003, x103004, x103005, x103006, x103007, x103008, x103009 => if x14 < 0 then (millwrightlaw19_TraceOne.j4 k x0 x1 x2 x7 x9 x10 x11 x12 x13 x14 x15 x16 x17 (decide (x11 ≥ x0)) x103000 x103001 x103002 x103003 x103004 x103005 x103006 x103007 x103008 x103009) else (millwrightlaw19_TraceOne.j4 k x0 x1 x2 x7 x9 x10 x11 x12 x13 x14 x15 x16 x17 false x103000 x103001 x103002 x103003 x103004 x103005 x103006 x103007 x103008 x103009)
def millwrightlaw19_TraceOne.j4 : Nat → Int → Int → List Int → Bool → List Int → List (S42) → Int → Int → Bool → Int → Int → Int → Int → Bool → Int → Int → Int → Int → Int → Int → Int → Int → Int → Int → Option (Bool)
  | 0, _, _, _, _, _, _, _, _, _, _, _, _, _, _, _, _, _, _, _, _, _, _, _, _ => none
  | k + 1, x0, x1, x2, x7, x9, x10, x11, x12, x13, x14, x15, x16, x17, x63, x103000, x103001, x103002, x103003, x103004, x103005, x103006, x103007, x103008, x103009 => if x63 = true then (millwrightlaw19_TraceOne.j5 k x0 x1 x2 x7 x9 x10 x11 x12 x13 (x10.length : Int) 3 x16 x17 x103000 x103001 x103002 x103003 x103004 x103005 x103006 x103007 x103008 x103009) else (millwrightlaw19_TraceOne.j5 k x0 x1 x2 x7 x9 x10 x11 x12 x13 x14 x15 x16 x17 x103000 x103001 x103002 x103003 x103004 x103005 x103006 x103007 x103008 x103009)
def millwrightlaw19_TraceOne.j5 : Nat → Int → Int → List Int → Bool → List Int → List (S42) → Int → Int → Bool → Int → Int → Int → Int → Int → Int → Int → Int → Int → Int → Int → Int → Int → Int → Option (Bool)
  | 0, _, _, _, _, _, _, _, _, _, _, _, _, _, _, _, _, _, _, _, _, _, _, _ => none
  | k + 1, x0, x1, x2, x7, x9, x10, x11, x12, x13, x14, x15, x16, x17, x103000, x103001, x103002, x103003, x103004, x103005, x103006, x103007, x103008, x103009 => if x10.length < 3518437208883 then ((some (x10 ++ [(⟨1, 0, 0, x16, wrap64 (2 * x16)⟩ : S42)] : List (S42))).bind fun y113 => (if x14 < 0 then (if x17 = 6 then (millwrightlaw19_TraceOne.j6 k x0 x1 x2 x7 x9 y113 x11 x12 x13 x14 x15 x16 x17 (decide (x12 ≥ x1)) x103000 x103001 x103002 x103003 x103004 x103005 x103006 x103007 x103008 x103009) else (millwrightlaw19_TraceOne.j6 k x0 x1 x2 x7 x9 y113 x11 x12 x13 x14 x15 x16 x17 false x103000 x103001 x103002 x103003 x103004 x103005 x103006 x103007 x103008 x103009)) else (millwrightlaw19_TraceOne.j6 k x0 x1 x2 x7 x9 y113 x11 x12 x13 x14 x15 x16 x17 false x103000 x103001 x103002 x103003 x103004 x103005 x103006 x103007 x103008 x103009))) else (none)
def millwrightlaw19_TraceOne.j6 : Nat → Int → Int → List Int → Bool → List Int → List (S42) → Int → Int → Bool → Int → Int → Int → Int → Bool → Int → Int → Int → Int → Int → Int → Int → Int → Int → Int → Option (Bool)
  | 0, _, _, _, _, _, _, _, _, _, _, _, _, _, _, _, _, _, _, _, _, _, _, _, _ => none
  | k + 1, x0, x1, x2, x7, x9, x10, x11, x12, x13, x14, x15, x16, x17, x83, x103000, x103001, x103002, x103003, x103004, x103005, x103006, x103007, x103008, x103009 => if x83 = true then (millwrightlaw19_TraceOne.j7 k x0 x1 x2 x7 x9 x10 x11 x12 x13 (x10.length : Int) 3 x16 x17 x103000 x103001 x103002 x103003 x103004 x103005 x103006 x103007 x103008 x103009) else (millwrightlaw19_TraceOne.j7 k x0 x1 x2 x7 x9 x10 x11 x12 x13 x14 x15 x16 x17 x103000 x103001 x103002 x103003 x103004 x103005 x103006 x103007 x103008 x103009)
def millwrightlaw19_TraceOne.j7 : Nat → Int → Int → List Int → Bool → List Int → List (S42) → Int → Int → Bool → Int → Int → Int → Int → Int → Int → Int → Int → Int → Int → Int → Int → Int → Int → Option (Bool)
  | 0, _, _, _, _, _, _, _, _, _, _, _, _, _, _, _, _, _, _, _, _, _, _, _ => none
  | k + 1, x0, x1, x2, x7, x9, x10, x11, x12, x13, x14, x15, x16, x17, x103000, x103001, x103002, x103003, x103004, x103005, x103006, x103007, x103008, x103009 => if x10.length < 3518437208883 then ((some (x10 ++ [(⟨x17, 0, 0, x16, wrap64 ((wrap64 (2 * x16)) + 2)⟩ : S42)] : List (S42))).bind fun y116 => (if x17 = 2 then (millwrightlaw19_TraceOne.l0 k x0 x1 x2 x7 x9 y116 x11 x12 true x14 x15 (wrap64 (x16 + 1)) x103000 x103001 x103002 x103003 x103004 x103005 x103006 x103007 x103008 x103009) else (if x17 = 3 then (millwrightlaw19_TraceOne.j8 k x0 x1 x2 x7 x9 y116 x11 x12 x13 x14 x15 x16 x17 (x17 == 3) x103000 x103001 x103002 x103003 x103004 x103005 x103006 x103007 x103008 x103009) else (millwrightlaw19_TraceOne.j8 k x0 x1 x2 x7 x9 y116 x11 x12 x13 x14 x15 x16 x17 (x17 == 5) x103000 x103001 x103002 x103003 x103004 x103005 x103006 x103007 x103008 x103009)))) else (none)
def millwrightlaw19_TraceOne.j8 : Nat → Int → Int → List Int → Bool → List Int → List (S42) → Int → Int → Bool → Int → Int → Int → Int → Bool → Int → Int → Int → Int → Int → Int → Int → Int → Int → Int → Option (Bool)
  | 0, _, _, _, _, _, _, _, _, _, _, _, _, _, _, _, _, _, _, _, _, _, _, _, _ => none
  | k + 1, x0, x1, x2, x7, x9, x10, x11, x12, x13, x14, x15, x16, x95, x98, x103000, x103001, x103002, x103003, x103004, x103005, x103006, x103007, x103008, x103009 => if x98 = true then (millwrightlaw19_TraceOne.l0 k x0 x1 x2 x7 x9 x10 (wrap64 (x11 + 1)) x12 x13 x14 x15 (wrap64 (x16 + 1)) x103000 x103001 x103002 x103003 x103004 x103005 x103006 x103007 x103008 x103009) else (if x95 = 6 then (millwrightlaw19_TraceOne.l0 k x0 x1 x2 x7 x9 x10 x11 (wrap64 (x12 + 1)) x13 x14 x15 (wrap64 (x16 + 1)) x103000 x103001 x103002 x103003 x103004 x103005 x103006 x103007 x103008 x103009) else (millwrightlaw19_TraceOne.l0 k x0 x1 x2 x7 x9 x10 x11 x12 x13 x14 x15 (wrap64 (x16 + 1)) x103000 x103001 x103002 x103003 x103004 x103005 x103006 x103007 x103008 x103009))
end
def millwrightlaw19_TraceOne.f (k : Nat) (a0 : Int) (a1 : Int) (l2 : List Int) : Option (Bool) := (millwrightlaw19_shown.f).bind fun t101 => (millwrightlaw19_TraceOne.l0 k (wrap64 (1 + (Int.tmod (Go.bits .and .i64 a0 65535) 20))) (Int.tmod (Go.bits .and .i64 a1 65535) 21) l2 t101 (([2, 3, 4, 5, 6] : List Int)) ([] : List (S42)) 0 0 false (-1) 0 0 5 1 0 0 (wrap64 (1 + (Int.tmod (Go.bits .and .i64 a0 65535) 20))) (Int.tmod (Go.bits .and .i64 a1 65535) 21) 2 0 0 0)
theorem millwrightlaw19_TraceOne.mono_l : ∀ k, (∀ y0 y1 y2 y3 y4 y5 y6 y7 y8 y9 y10 y11 y12 y13 y14 y15 y16 y17 y18 y19 y20 y21, LeO (millwrightlaw19_TraceOne.l0 k y0 y1 y2 y3 y4 y5 y6 y7 y8 y9 y10 y11 y12 y13 y14 y15 y16 y17 y18 y19 y20 y21) (millwrightlaw19_TraceOne.l0 (k + 1) y0 y1 y2 y3 y4 y5 y6 y7 y8 y9 y10 y11 y12 y13 y14 y15 y16 y17 y18 y19 y20 y21)) ∧ (∀ y0 y1 y2 y3 y4 y5 y6 y7 y8 y9 y10 y11 y12 y13 y14 y15 y16 y17 y18 y19 y20 y21 y22, LeO (millwrightlaw19_TraceOne.j1 k y0 y1 y2 y3 y4 y5 y6 y7 y8 y9 y10 y11 y12 y13 y14 y15 y16 y17 y18 y19 y20 y21 y22) (millwrightlaw19_TraceOne.j1 (k + 1) y0 y1 y2 y3 y4 y5 y6 y7 y8 y9 y10 y11 y12 y13 y14 y15 y16 y17 y18 y19 y20 y21 y22)) ∧ (∀ y0 y1 y2 y3 y4 y5 y6 y7 y8 y9 y10 y11 y12 y13 y14 y15 y16 y17 y18 y19 y20 y21 y22 y23, LeO (millwrightlaw19_TraceOne.j2 k y0 y1 y2 y3 y4 y5 y6 y7 y8 y9 y10 y11 y12 y13 y14 y15 y16 y17 y18 y19 y20 y21 y22 y23) (millwrightlaw19_TraceOne.j2 (k + 1) y0 y1 y2 y3 y4 y5 y6 y7 y8 y9 y10 y11 y12 y13 y14 y15 y16 y17 y18 y19 y20 y21 y22 y23)) ∧ (∀ y0 y1 y2 y3 y4 y5 y6 y7 y8 y9 y10 y11 y12 y13 y14 y15 y16 y17 y18 y19 y20 y21 y22, LeO (millwrightlaw19_TraceOne.j3 k y0 y1 y2 y3 y4 y5 y6 y7 y8 y9 y10 y11 y12 y13 y14 y15 y16 y17 y18 y19 y20 y21 y22) (millwrightlaw19_TraceOne.j3 (k + 1) y0 y1 y2 y3 y4 y5 y6 y7 y8 y9 y10 y11 y12 y13 y14 y15 y16 y17 y18 y19 y20 y21 y22)) ∧ (∀ y0 y1 y2 y3 y4 y5 y6 y7 y8 y9 y10 y11 y12 y13 y14 y15 y16 y17 y18 y19 y20 y21 y22 y23, LeO (millwrightlaw19_TraceOne.j4 k y0 y1 y2 y3 y4 y5 y6 y7 y8 y9 y10 y11 y12 y13 y14 y15 y16 y17 y18 y19 y20 y21 y22 y23) (millwrightlaw19_TraceOne.j4 (k + 1) y0 y1 y2 y3 y4 y5 y6 y7 y8 y9 y10 y11 y12 y13 y14 y15 y16 y17 y18 y19 y20 y21 y22 y23)) ∧ (∀ y0 y1 y2 y3 y4 y5 y6 y7 y8 y9 y10 y11 y12 y13 y14 y15 y16 y17 y18 y19 y20 y21 y22, LeO (millwrightlaw19_TraceOne.j5 k y0 y1 y2 y3 y4 y5 y6 y7 y8 y9 y10 y11 y12 y13 y14 y15 y16 y17 y18 y19 y20 y21 y22) (millwrightlaw19_TraceOne.j5 (k + 1) y0 y1 y2 y3 y4 y5 y6 y7 y8 y9 y10 y11 y12 y13 y14 y15 y16 y17 y18 y19 y20 y21 y22)) ∧ (∀ y0 y1 y2 y3 y4 y5 y6 y7 y8 y9 y10 y11 y12 y13 y14 y15 y16 y17 y18 y19 y20 y21 y22 y23, LeO (millwrightlaw19_TraceOne.j6 k y0 y1 y2 y3 y4 y5 y6 y7 y8 y9 y10 y11 y12 y13 y14 y15 y16 y17 y18 y19 y20 y21 y22 y23) (millwrightlaw19_TraceOne.j6 (k + 1) y0 y1 y2 y3 y4 y5 y6 y7 y8 y9 y10 y11 y12 y13 y14 y15 y16 y17 y18 y19 y20 y21 y22 y23)) ∧ (∀ y0 y1 y2 y3 y4 y5 y6 y7 y8 y9 y10 y11 y12 y13 y14 y15 y16 y17 y18 y19 y20 y21 y22, LeO (millwrightlaw19_TraceOne.j7 k y0 y1 y2 y3 y4 y5 y6 y7 y8 y9 y10 y11 y12 y13 y14 y15 y16 y17 y18 y19 y20 y21 y22) (millwrightlaw19_TraceOne.j7 (k + 1) y0 y1 y2 y3 y4 y5 y6 y7 y8 y9 y10 y11 y12 y13 y14 y15 y16 y17 y18 y19 y20 y21 y22)) ∧ (∀ y0 y1 y2 y3 y4 y5 y6 y7 y8 y9 y10 y11 y12 y13 y14 y15 y16 y17 y18 y19 y20 y21 y22 y23, LeO (millwrightlaw19_TraceOne.j8 k y0 y1 y2 y3 y4 y5 y6 y7 y8 y9 y10 y11 y12 y13 y14 y15 y16 y17 y18 y19 y20 y21 y22 y23) (millwrightlaw19_TraceOne.j8 (k + 1) y0 y1 y2 y3 y4 y5 y6 y7 y8 y9 y10 y11 y12 y13 y14 y15 y16 y17 y18 y19 y20 y21 y22 y23))
  | 0 => ⟨fun _ _ _ _ _ _ _ _ _ _ _ _ _ _ _ _ _ _ _ _ _ _ r h => by simp [millwrightlaw19_TraceOne.l0] at h, fun _ _ _ _ _ _ _ _ _ _ _ _ _ _ _ _ _ _ _ _ _ _ _ r h => by simp [millwrightlaw19_TraceOne.j1] at h, fun _ _ _ _ _ _ _ _ _ _ _ _ _ _ _ _ _ _ _ _ _ _ _ _ r h => by simp [millwrightlaw19_TraceOne.j2] at h, fun _ _ _ _ _ _ _ _ _ _ _ _ _ _ _ _ _ _ _ _ _ _ _ r h => by simp [millwrightlaw19_TraceOne.j3] at h, fun _ _ _ _ _ _ _ _ _ _ _ _ _ _ _ _ _ _ _ _ _ _ _ _ r h => by simp [millwrightlaw19_TraceOne.j4] at h, fun _ _ _ _ _ _ _ _ _ _ _ _ _ _ _ _ _ _ _ _ _ _ _ r h => by simp [millwrightlaw19_TraceOne.j5] at h, fun _ _ _ _ _ _ _ _ _ _ _ _ _ _ _ _ _ _ _ _ _ _ _ _ r h => by simp [millwrightlaw19_TraceOne.j6] at h, fun _ _ _ _ _ _ _ _ _ _ _ _ _ _ _ _ _ _ _ _ _ _ _ r h => by simp [millwrightlaw19_TraceOne.j7] at h, fun _ _ _ _ _ _ _ _ _ _ _ _ _ _ _ _ _ _ _ _ _ _ _ _ r h => by simp [millwrightlaw19_TraceOne.j8] at h⟩
  | k + 1 => by
    obtain ⟨ih0, ih1, ih2, ih3, ih4, ih5, ih6, ih7, ih8⟩ := millwrightlaw19_TraceOne.mono_l k
    refine ⟨?_, ?_, ?_, ?_, ?_, ?_, ?_, ?_, ?_⟩
    · intro y0 y1 y2 y3 y4 y5 y6 y7 y8 y9 y10 y11 y12 y13 y14 y15 y16 y17 y18 y19 y20 y21
      unfold millwrightlaw19_TraceOne.l0
      repeat' first
      | (with_reducible exact ih0 _ _ _ _ _ _ _ _ _ _ _ _ _ _ _ _ _ _ _ _ _ _)
      | (with_reducible exact ih1 _ _ _ _ _ _ _ _ _ _ _ _ _ _ _ _ _ _ _ _ _ _ _)
      | (with_reducible exact ih2 _ _ _ _ _ _ _ _ _ _ _ _ _ _ _ _ _ _ _ _ _ _ _ _)
      | (with_reducible exact ih3 _ _ _ _ _ _ _ _ _ _ _ _ _ _ _ _ _ _ _ _ _ _ _)
      | (with_reducible exact ih4 _ _ _ _ _ _ _ _ _ _ _ _ _ _ _ _ _ _ _ _ _ _ _ _)
      | (with_reducible exact ih5 _ _ _ _ _ _ _ _ _ _ _ _ _ _ _ _ _ _ _ _ _ _ _)
      | (with_reducible exact ih6 _ _ _ _ _ _ _ _ _ _ _ _ _ _ _ _ _ _ _ _ _ _ _ _)
      | (with_reducible exact ih7 _ _ _ _ _ _ _ _ _ _ _ _ _ _ _ _ _ _ _ _ _ _ _)
      | (with_reducible exact ih8 _ _ _ _ _ _ _ _ _ _ _ _ _ _ _ _ _ _ _ _ _ _ _ _)
      | (with_reducible exact LeO.refl _)
      | (with_reducible exact LeO.none _)
      | (with_reducible refine LeO.ite ?_ ?_)
      | (with_reducible refine LeO.bind ?_ (fun _ => ?_))
      | exact ih0 _ _ _ _ _ _ _ _ _ _ _ _ _ _ _ _ _ _ _ _ _ _
      | exact ih1 _ _ _ _ _ _ _ _ _ _ _ _ _ _ _ _ _ _ _ _ _ _ _
      | exact ih2 _ _ _ _ _ _ _ _ _ _ _ _ _ _ _ _ _ _ _ _ _ _ _ _
      | exact ih3 _ _ _ _ _ _ _ _ _ _ _ _ _ _ _ _ _ _ _ _ _ _ _
      | exact ih4 _ _ _ _ _ _ _ _ _ _ _ _ _ _ _ _ _ _ _ _ _ _ _ _
      | exact ih5 _ _ _ _ _ _ _ _ _ _ _ _ _ _ _ _ _ _ _ _ _ _ _
      | exact ih6 _ _ _ _ _ _ _ _ _ _ _ _ _ _ _ _ _ _ _ _ _ _ _ _
      | exact ih7 _ _ _ _ _ _ _ _ _ _ _ _ _ _ _ _ _ _ _ _ _ _ _
      | exact ih8 _ _ _ _ _ _ _ _ _ _ _ _ _ _ _ _ _ _ _ _ _ _ _ _
      | exact LeO.none _
      | refine LeO.ite ?_ ?_
      | refine LeO.bind ?_ (fun _ => ?_)
    · intro y0 y1 y2 y3 y4 y5 y6 y7 y8 y9 y10 y11 y12 y13 y14 y15 y16 y17 y18 y19 y20 y21 y22
      unfold millwrightlaw19_TraceOne.j1
      repeat' first
      | (with_reducible exact ih0 _ _ _ _ _ _ _ _ _ _ _ _ _ _ _ _ _ _ _ _ _ _)
      | (with_reducible exact ih1 _ _ _ _ _ _ _ _ _ _ _ _ _ _ _ _ _ _ _ _ _ _ _)
      | (with_reducible exact ih2 _ _ _ _ _ _ _ _ _ _ _ _ _ _ _ _ _ _ _ _ _ _ _ _)
      | (with_reducible exact ih3 _ _ _ _ _ _ _ _ _ _ _ _ _ _ _ _ _ _ _ _ _ _ _)
      | (with_reducible exact ih4 _ _ _ _ _ _ _ _ _ _ _ _ _ _ _ _ _ _ _ _ _ _ _ _)
      | (with_reducible exact ih5 _ _ _ _ _ _ _ _ _ _ _ _ _ _ _ _ _ _ _ _ _ _ _)
      | (with_reducible exact ih6 _ _ _ _ _ _ _ _ _ _ _ _ _ _ _ _ _ _ _ _ _ _ _ _)
      | (with_reducible exact ih7 _ _ _ _ _ _ _ _ _ _ _ _ _ _ _ _ _ _ _ _ _ _ _)
      | (with_reducible exact ih8 _ _ _ _ _ _ _ _ _ _ _ _ _ _ _ _ _ _ _ _ _ _ _ _)
      | (with_reducible exact LeO.refl _)
      | (with_reducible exact LeO.none _)
      | (with_reducible refine LeO.ite ?_ ?_)
      | (with_reducible refine LeO.bind ?_ (fun _ => ?_))
      | exact ih0 _ _ _ _ _ _ _ _ _ _ _ _ _ _ _ _ _ _ _ _ _ _
      | exact ih1 _ _ _ _ _ _ _ _ _ _ _ _ _ _ _ _ _ _ _ _ _ _ _
      | exact ih2 _ _ _ _ _ _ _ _ _ _ _ _ _ _ _ _ _ _ _ _ _ _ _ _
      | exact ih3 _ _ _ _ _ _ _ _ _ _ _ _ _ _ _ _ _ _ _ _ _ _ _
      | exact ih4 _ _ _ _ _ _ _ _ _ _ _ _ _ _ _ _ _ _ _ _ _ _ _ _
      | exact ih5 _ _ _ _ _ _ _ _ _ _ _ _ _ _ _ _ _ _ _ _ _ _ _
      | exact ih6 _ _ _ _ _ _ _ _ _ _ _ _ _ _ _ _ _ _ _ _ _ _ _ _
      | exact ih7 _ _ _ _ _ _ _ _ _ _ _ _ _ _ _ _ _ _ _ _ _ _ _
      | exact ih8 _ _ _ _ _ _ _ _ _ _ _ _ _ _ _ _ _ _ _ _ _ _ _ _
      | exact LeO.none _
      | refine LeO.ite ?_ ?_
      | refine LeO.bind ?_ (fun _ => ?_)
    · intro y0 y1 y2 y3 y4 y5 y6 y7 y8 y9 y10 y11 y12 y13 y14 y15 y16 y17 y18 y19 y20 y21 y22 y23
      unfold millwrightlaw19_TraceOne.j2
      repeat' first
      | (with_reducible exact ih0 _ _ _ _ _ _ _ _ _ _ _ _ _ _ _ _ _ _ _ _ _ _)
      | (with_reducible exact ih1 _ _ _ _ _ _ _ _ _ _ _ _ _ _ _ _ _ _ _ _ _ _ _)
      | (with_reducible exact ih2 _ _ _ _ _ _ _ _ _ _ _ _ _ _ _ _ _ _ _ _ _ _ _ _)
      | (with_reducible exact ih3 _ _ _ _ _ _ _ _ _ _ _ _ _ _ _ _ _ _ _ _ _ _ _)
      | (with_reducible exact ih4 _ _ _ _ _ _ _ _ _ _ _ _ _ _ _ _ _ _ _ _ _ _ _ _)
      | (with_reducible exact ih5 _ _ _ _ _ _ _ _ _ _ _ _ _ _ _ _ _ _ _ _ _ _ _)
      | (with_reducible exact ih6 _ _ _ _ _ _ _ _ _ _ _ _ _ _ _ _ _ _ _ _ _ _ _ _)
      | (with_reducible exact ih7 _ _ _ _ _ _ _ _ _ _ _ _ _ _ _ _ _ _ _ _ _ _ _)
      | (with_reducible exact ih8 _ _ _ _ _ _ _ _ _ _ _ _ _ _ _ _ _ _ _ _ _ _ _ _)
      | (with_reducible exact LeO.refl _)
      | (with_reducible exact LeO.none _)
      | (with_reducible refine LeO.ite ?_ ?_)
      | (with_reducible refine LeO.bind ?_ (fun _ => ?_))
      | exact ih0 _ _ _ _ _ _ _ _ _ _ _ _ _ _ _ _ _ _ _ _ _ _
      | exact ih1 _ _ _ _ _ _ _ _ _ _ _ _ _ _ _ _ _ _ _ _ _ _ _
      | exact ih2 _ _ _ _ _ _ _ _ _ _ _ _ _ _ _ _ _ _ _ _ _ _ _ _
      | exact ih3 _ _ _ _ _ _ _ _ _ _ _ _ _ _ _ _ _ _ _ _ _ _ _
      | exact ih4 _ _ _ _ _ _ _ _ _ _ _ _ _ _ _ _ _ _ _ _ _ _ _ _
      | exact ih5 _ _ _ _ _ _ _ _ _ _ _ _ _ _ _ _ _ _ _ _ _ _ _
      | exact ih6 _ _ _ _ _ _ _ _ _ _ _ _ _ _ _ _ _ _ _ _ _ _ _ _
      | exact ih7 _ _ _ _ _ _ _ _ _ _ _ _ _ _ _ _ _ _ _ _ _ _ _
      | exact ih8 _ _ _ _ _ _ _ _ _ _ _ _ _ _ _ _ _ _ _ _ _ _ _ _
      | exact LeO.none _
      | refine LeO.ite ?_ ?_
      | refine LeO.bind ?_ (fun _ => ?_)
    · intro y0 y1 y2 y3 y4 y5 y6 y7 y8 y9 y10 y11 y12 y13 y14 y15 y16 y17 y18 y19 y20 y21 y22
      unfold millwrightlaw19_TraceOne.j3
      repeat' first
      | (with_reducible exact ih0 _ _ _ _ _ _ _ _ _ _ _ _ _ _ _ _ _ _ _ _ _ _)
      | (with_reducible exact ih1 _ _ _ _ _ _ _ _ _ _ _ _ _ _ _ _ _ _ _ _ _ _ _)
      | (with_reducible exact ih2 _ _ _ _ _ _ _ _ _ _ _ _ _ _ _ _ _ _ _ _ _ _ _ _)
      | (with_reducible exact ih3 _ _ _ _ _ _ _ _ _ _ _ _ _ _ _ _ _ _ _ _ _ _ _)
      | (with_reducible exact ih4 _ _ _ _ _ _ _ _ _ _ _ _ _ _ _ _ _ _ _ _ _ _ _ _)
      | (with_reducible exact ih5 _ _ _ _ _ _ _ _ _ _ _ _ _ _ _ _ _ _ _ _ _ _ _)
      | (with_reducible exact ih6 _ _ _ _ _ _ _ _ _ _ _ _ _ _ _ _ _ _ _ _ _ _ _ _)
      | (with_reducible exact ih7 _ _ _ _ _ _ _ _ _ _ _ _ _ _ _ _ _ _ _ _ _ _ _)
      | (with_reducible exact ih8 _ _ _ _ _ _ _ _ _ _ _ _ _ _ _ _ _ _ _ _ _ _ _ _)
      | (with_reducible exact LeO.refl _)
      | (with_reducible exact LeO.none _)
      | (with_reducible refine LeO.ite ?_ ?_)
      | (with_reducible refine LeO.bind ?_ (fun _ => ?_))
      | exact ih0 _ _ _ _ _ _ _ _ _ _ _ _ _ _ _ _ _ _ _ _ _ _
      | exact ih1 _ _ _ _ _ _ _ _ _ _ _ _ _ _ _ _ _ _ _ _ _ _ _
      | exact ih2 _ _ _ _ _ _ _ _ _ _ _ _ _ _ _ _ _ _ _ _ _ _ _ _
      | exact ih3 _ _ _ _ _ _ _ _ _ _ _ _ _ _ _ _ _ _ _ _ _ _ _
      | exact ih4 _ _ _ _ _ _ _ _ _ _ _ _ _ _ _ _ _ _ _ _ _ _ _ _
      | exact ih5 _ _ _ _ _ _ _ _ _ _ _ _ _ _ _ _ _ _ _ _ _ _ _
      | exact ih6 _ _ _ _ _ _ _ _ _ _ _ _ _ _ _ _ _ _ _ _ _ _ _ _
      | exact ih7 _ _ _ _ _ _ _ _ _ _ _ _ _ _ _ _ _ _ _ _ _ _ _
      | exact ih8 _ _ _ _ _ _ _ _ _ _ _ _ _ _ _ _ _ _ _ _ _ _ _ _
      | exact LeO.none _
      | refine LeO.ite ?_ ?_
      | refine LeO.bind ?_ (fun _ => ?_)
    · intro y0 y1 y2 y3 y4 y5 y6 y7 y8 y9 y10 y11 y12 y13 y14 y15 y16 y17 y18 y19 y20 y21 y22 y23
      unfold millwrightlaw19_TraceOne.j4
      repeat' first
      | (with_reducible exact ih0 _ _ _ _ _ _ _ _ _ _ _ _ _ _ _ _ _ _ _ _ _ _)
      | (with_reducible exact ih1 _ _ _ _ _ _ _ _ _ _ _ _ _ _ _ _ _ _ _ _ _ _ _)
      | (with_reducible exact ih2 _ _ _ _ _ _ _ _ _ _ _ _ _ _ _ _ _ _ _ _ _ _ _ _)
      | (with_reducible exact ih3 _ _ _ _ _ _ _ _ _ _ _ _ _ _ _ _ _ _ _ _ _ _ _)
      | (with_reducible exact ih4 _ _ _ _ _ _ _ _ _ _ _ _ _ _ _ _ _ _ _ _ _ _ _ _)
      | (with_reducible exact ih5 _ _ _ _ _ _ _ _ _ _ _ _ _ _ _ _ _ _ _ _ _ _ _)
      | (with_reducible exact ih6 _ _ _ _ _ _ _ _ _ _ _ _ _ _ _ _ _ _ _ _ _ _ _ _)
      | (with_reducible exact ih7 _ _ _ _ _ _ _ _ _ _ _ _ _ _ _ _ _ _ _ _ _ _ _)
      | (with_reducible exact ih8 _ _ _ _ _ _ _ _ _ _ _ _ _ _ _ _ _ _ _ _ _ _ _ _)
      | (with_reducible exact LeO.refl _)
      | (with_reducible exact LeO.none _)
      | (with_reducible refine LeO.ite ?_ ?_)
      | (with_reducible refine LeO.bind ?_ (fun _ => ?_))
      | exact ih0 _ _ _ _ _ _ _ _ _ _ _ _ _ _ _ _ _ _ _ _ _ _
      | exact ih1 _ _ _ _ _ _ _ _ _ _ _ _ _ _ _ _ _ _ _ _ _ _ _
      | exact ih2 _ _ _ _ _ _ _ _ _ _ _ _ _ _ _ _ _ _ _ _ _ _ _ _
      | exact ih3 _ _ _ _ _ _ _ _ _ _ _ _ _ _ _ _ _ _ _ _ _ _ _
      | exact ih4 _ _ _ _ _ _ _ _ _ _ _ _ _ _ _ _ _ _ _ _ _ _ _ _
      | exact ih5 _ _ _ _ _ _ _ _ _ _ _ _ _ _ _ _ _ _ _ _ _ _ _
      | exact ih6 _ _ _ _ _ _ _ _ _ _ _ _ _ _ _ _ _ _ _ _ _ _ _ _
      | exact ih7 _ _ _ _ _ _ _ _ _ _ _ _ _ _ _ _ _ _ _ _ _ _ _
      | exact ih8 _ _ _ _ _ _ _ _ _ _ _ _ _ _ _ _ _ _ _ _ _ _ _ _
      | exact LeO.none _
      | refine LeO.ite ?_ ?_
      | refine LeO.bind ?_ (fun _ => ?_)
    · intro y0 y1 y2 y3 y4 y5 y6 y7 y8 y9 y10 y11 y12 y13 y14 y15 y16 y17 y18 y19 y20 y21 y22
      unfold millwrightlaw19_TraceOne.j5
      repeat' first
      | (with_reducible exact ih0 _ _ _ _ _ _ _ _ _ _ _ _ _ _ _ _ _ _ _ _ _ _)
      | (with_reducible exact ih1 _ _ _ _ _ _ _ _ _ _ _ _ _ _ _ _ _ _ _ _ _ _ _)
      | (with_reducible exact ih2 _ _ _ _ _ _ _ _ _ _ _ _ _ _ _ _ _ _ _ _ _ _ _ _)
      | (with_reducible exact ih3 _ _ _ _ _ _ _ _ _ _ _ _ _ _ _ _ _ _ _ _ _ _ _)
      | (with_reducible exact ih4 _ _ _ _ _ _ _ _ _ _ _ _ _ _ _ _ _ _ _ _ _ _ _ _)
      | (with_reducible exact ih5 _ _ _ _ _ _ _ _ _ _ _ _ _ _ _ _ _ _ _ _ _ _ _)
      | (with_reducible exact ih6 _ _ _ _ _ _ _ _ _ _ _ _ _ _ _ _ _ _ _ _ _ _ _ _)
      | (with_reducible exact ih7 _ _ _ _ _ _ _ _ _ _ _ _ _ _ _ _ _ _ _ _ _ _ _)
      | (with_reducible exact ih8 _ _ _ _ _ _ _ _ _ _ _ _ _ _ _ _ _ _ _ _ _ _ _ _)
      | (with_reducible exact LeO.refl _)
      | (with_reducible exact LeO.none _)
      | (with_reducible refine LeO.ite ?_ ?_)
      | (with_reducible refine LeO.bind ?_ (fun _ => ?_))
      | exact ih0 _ _ _ _ _ _ _ _ _ _ _ _ _ _ _ _ _ _ _ _ _ _
      | exact ih1 _ _ _ _ _ _ _ _ _ _ _ _ _ _ _ _ _ _ _ _ _ _ _
      | exact ih2 _ _ _ _ _ _ _ _ _ _ _ _ _ _ _ _ _ _ _ _ _ _ _ _
      | exact ih3 _ _ _ _ _ _ _ _ _ _ _ _ _ _ _ _ _ _ _ _ _ _ _
      | exact ih4 _ _ _ _ _ _ _ _ _ _ _ _ _ _ _ _ _ _ _ _ _ _ _ _
      | exact ih5 _ _ _ _ _ _ _ _ _ _ _ _ _ _ _ _ _ _ _ _ _ _ _
      | exact ih6 _ _ _ _ _ _ _ _ _ _ _ _ _ _ _ _ _ _ _ _ _ _ _ _
      | exact ih7 _ _ _ _ _ _ _ _ _ _ _ _ _ _ _ _ _ _ _ _ _ _ _
      | exact ih8 _ _ _ _ _ _ _ _ _ _ _ _ _ _ _ _ _ _ _ _ _ _ _ _
      | exact LeO.none _
      | refine LeO.ite ?_ ?_
      | refine LeO.bind ?_ (fun _ => ?_)
    · intro y0 y1 y2 y3 y4 y5 y6 y7 y8 y9 y10 y11 y12 y13 y14 y15 y16 y17 y18 y19 y20 y21 y22 y23
      unfold millwrightlaw19_TraceOne.j6
      repeat' first
      | (with_reducible exact ih0 _ _ _ _ _ _ _ _ _ _ _ _ _ _ _ _ _ _ _ _ _ _)
      | (with_reducible exact ih1 _ _ _ _ _ _ _ _ _ _ _ _ _ _ _ _ _ _ _ _ _ _ _)
      | (with_reducible exact ih2 _ _ _ _ _ _ _ _ _ _ _ _ _ _ _ _ _ _ _ _ _ _ _ _)
      | (with_reducible exact ih3 _ _ _ _ _ _ _ _ _ _ _ _ _ _ _ _ _ _ _ _ _ _ _)
      | (with_reducible exact ih4 _ _ _ _ _ _ _ _ _ _ _ _ _ _ _ _ _ _ _ _ _ _ _ _)
      | (with_reducible exact ih5 _ _ _ _ _ _ _ _ _ _ _ _ _ _ _ _ _ _ _ _ _ _ _)
      | (with_reducible exact ih6 _ _ _ _ _ _ _ _ _ _ _ _ _ _ _ _ _ _ _ _ _ _ _ _)
      | (with_reducible exact ih7 _ _ _ _ _ _ _ _ _ _ _ _ _ _ _ _ _ _ _ _ _ _ _)
      | (with_reducible exact ih8 _ _ _ _ _ _ _ _ _ _ _ _ _ _ _ _ _ _ _ _ _ _ _ _)
      | (with_reducible exact LeO.refl _)
      | (with_reducible exact LeO.none _)
      | (with_reducible refine LeO.ite ?_ ?_)
      | (with_reducible refine LeO.bind ?_ (fun _ => ?_))
      | exact ih0 _ _ _ _ _ _ _ _ _ _ _ _ _ _ _ _ _ _ _ _ _ _
      | exact ih1 _ _ _ _ _ _ _ _ _ _ _ _ _ _ _ _ _ _ _ _ _ _ _
      | exact ih2 _ _ _ _ _ _ _ _ _ _ _ _ _ _ _ _ _ _ _ _ _ _ _ _
      | exact ih3 _ _ _ _ _ _ _ _ _ _ _ _ _ _ _ _ _ _ _ _ _ _ _
      | exact ih4 _ _ _ _ _ _ _ _ _ _ _ _ _ _ _ _ _ _ _ _ _ _ _ _
      | exact ih5 _ _ _ _ _ _ _ _ _ _ _ _ _ _ _ _ _ _ _ _ _ _ _
      | exact ih6 _ _ _ _ _ _ _ _ _ _ _ _ _ _ _ _ _ _ _ _ _ _ _ _
      | exact ih7 _ _ _ _ _ _ _ _ _ _ _ _ _ _ _ _ _ _ _ _ _ _ _
      | exact ih8 _ _ _ _ _ _ _ _ _ _ _ _ _ _ _ _ _ _ _ _ _ _ _ _
      | exact LeO.none _
      | refine LeO.ite ?_ ?_
      | refine LeO.bind ?_ (fun _ => ?_)
    · intro y0 y1 y2 y3 y4 y5 y6 y7 y8 y9 y10 y11 y12 y13 y14 y15 y16 y17 y18 y19 y20 y21 y22
      unfold millwrightlaw19_TraceOne.j7
      repeat' first
      | (with_reducible exact ih0 _ _ _ _ _ _ _ _ _ _ _ _ _ _ _ _ _ _ _ _ _ _)
      | (with_reducible exact ih1 _ _ _ _ _ _ _ _ _ _ _ _ _ _ _ _ _ _ _ _ _ _ _)
      | (with_reducible exact ih2 _ _ _ _ _ _ _ _ _ _ _ _ _ _ _ _ _ _ _ _ _ _ _ _)
      | (with_reducible exact ih3 _ _ _ _ _ _ _ _ _ _ _ _ _ _ _ _ _ _ _ _ _ _ _)
      | (with_reducible exact ih4 _ _ _ _ _ _ _ _ _ _ _ _ _ _ _ _ _ _ _ _ _ _ _ _)
      | (with_reducible exact ih5 _ _ _ _ _ _ _ _ _ _ _ _ _ _ _ _ _ _ _ _ _ _ _)
      | (with_reducible exact ih6 _ _ _ _ _ _ _ _ _ _ _ _ _ _ _ _ _ _ _ _ _ _ _ _)
      | (with_reducible exact ih7 _ _ _ _ _ _ _ _ _ _ _ _ _ _ _ _ _ _ _ _ _ _ _)
      | (with_reducible exact ih8 _ _ _ _ _ _ _ _ _ _ _ _ _ _ _ _ _ _ _ _ _ _ _ _)
      | (with_reducible exact LeO.refl _)
      | (with_reducible exact LeO.none _)
      | (with_reducible refine LeO.ite ?_ ?_)
      | (with_reducible refine LeO.bind ?_ (fun _ => ?_))
      | exact ih0 _ _ _ _ _ _ _ _ _ _ _ _ _ _ _ _ _ _ _ _ _ _
      | exact ih1 _ _ _ _ _ _ _ _ _ _ _ _ _ _ _ _ _ _ _ _ _ _ _
      | exact ih2 _ _ _ _ _ _ _ _ _ _ _ _ _ _ _ _ _ _ _ _ _ _ _ _
      | exact ih3 _ _ _ _ _ _ _ _ _ _ _ _ _ _ _ _ _ _ _ _ _ _ _
      | exact ih4 _ _ _ _ _ _ _ _ _ _ _ _ _ _ _ _ _ _ _ _ _ _ _ _
      | exact ih5 _ _ _ _ _ _ _ _ _ _ _ _ _ _ _ _ _ _ _ _ _ _ _
      | exact ih6 _ _ _ _ _ _ _ _ _ _ _ _ _ _ _ _ _ _ _ _ _ _ _ _
      | exact ih7 _ _ _ _ _ _ _ _ _ _ _ _ _ _ _ _ _ _ _ _ _ _ _
      | exact ih8 _ _ _ _ _ _ _ _ _ _ _ _ _ _ _ _ _ _ _ _ _ _ _ _
      | exact LeO.none _
      | refine LeO.ite ?_ ?_
      | refine LeO.bind ?_ (fun _ => ?_)
    · intro y0 y1 y2 y3 y4 y5 y6 y7 y8 y9 y10 y11 y12 y13 y14 y15 y16 y17 y18 y19 y20 y21 y22 y23
      unfold millwrightlaw19_TraceOne.j8
      repeat' first
      | (with_reducible exact ih0 _ _ _ _ _ _ _ _ _ _ _ _ _ _ _ _ _ _ _ _ _ _)
      | (with_reducible exact ih1 _ _ _ _ _ _ _ _ _ _ _ _ _ _ _ _ _ _ _ _ _ _ _)
      | (with_reducible exact ih2 _ _ _ _ _ _ _ _ _ _ _ _ _ _ _ _ _ _ _ _ _ _ _ _)
      | (with_reducible exact ih3 _ _ _ _ _ _ _ _ _ _ _ _ _ _ _ _ _ _ _ _ _ _ _)
      | (with_reducible exact ih4 _ _ _ _ _ _ _ _ _ _ _ _ _ _ _ _ _ _ _ _ _ _ _ _)
      | (with_reducible exact ih5 _ _ _ _ _ _ _ _ _ _ _ _ _ _ _ _ _ _ _ _ _ _ _)
      | (with_reducible exact ih6 _ _ _ _ _ _ _ _ _ _ _ _ _ _ _ _ _ _ _ _ _ _ _ _)
      | (with_reducible exact ih7 _ _ _ _ _ _ _ _ _ _ _ _ _ _ _ _ _ _ _ _ _ _ _)
      | (with_reducible exact ih8 _ _ _ _ _ _ _ _ _ _ _ _ _ _ _ _ _ _ _ _ _ _ _ _)
      | (with_reducible exact LeO.refl _)
      | (with_reducible exact LeO.none _)
      | (with_reducible refine LeO.ite ?_ ?_)
      | (with_reducible refine LeO.bind ?_ (fun _ => ?_))
      | exact ih0 _ _ _ _ _ _ _ _ _ _ _ _ _ _ _ _ _ _ _ _ _ _
      | exact ih1 _ _ _ _ _ _ _ _ _ _ _ _ _ _ _ _ _ _ _ _ _ _ _
      | exact ih2 _ _ _ _ _ _ _ _ _ _ _ _ _ _ _ _ _ _ _ _ _ _ _ _
      | exact ih3 _ _ _ _ _ _ _ _ _ _ _ _ _ _ _ _ _ _ _ _ _ _ _
      | exact ih4 _ _ _ _ _ _ _ _ _ _ _ _ _ _ _ _ _ _ _ _ _ _ _ _
      | exact ih5 _ _ _ _ _ _ _ _ _ _ _ _ _ _ _ _ _ _ _ _ _ _ _
      | exact ih6 _ _ _ _ _ _ _ _ _ _ _ _ _ _ _ _ _ _ _ _ _ _ _ _
      | exact ih7 _ _ _ _ _ _ _ _ _ _ _ _ _ _ _ _ _ _ _ _ _ _ _
      | exact ih8 _ _ _ _ _ _ _ _ _ _ _ _ _ _ _ _ _ _ _ _ _ _ _ _
      | exact LeO.none _
      | refine LeO.ite ?_ ?_
      | refine LeO.bind ?_ (fun _ => ?_)
theorem millwrightlaw19_TraceOne.mono : ∀ a0 a1 a2 k, LeO (millwrightlaw19_TraceOne.f k a0 a1 a2) (millwrightlaw19_TraceOne.f (k + 1) a0 a1 a2) := by
  intro a0 a1 a2 k
  obtain ⟨ih0, ih1, ih2, ih3, ih4, ih5, ih6, ih7, ih8⟩ := millwrightlaw19_TraceOne.mono_l k
  unfold millwrightlaw19_TraceOne.f
  repeat' first
      | (with_reducible exact ih0 _ _ _ _ _ _ _ _ _ _ _ _ _ _ _ _ _ _ _ _ _ _)
      | (with_reducible exact ih1 _ _ _ _ _ _ _ _ _ _ _ _ _ _ _ _ _ _ _ _ _ _ _)
      | (with_reducible exact ih2 _ _ _ _ _ _ _ _ _ _ _ _ _ _ _ _ _ _ _ _ _ _ _ _)
      | (with_reducible exact ih3 _ _ _ _ _ _ _ _ _ _ _ _ _ _ _ _ _ _ _ _ _ _ _)
      | (with_reducible exact ih4 _ _ _ _ _ _ _ _ _ _ _ _ _ _ _ _ _ _ _ _ _ _ _ _)
      | (with_reducible exact ih5 _ _ _ _ _ _ _ _ _ _ _ _ _ _ _ _ _ _ _ _ _ _ _)
      | (with_reducible exact ih6 _ _ _ _ _ _ _ _ _ _ _ _ _ _ _ _ _ _ _ _ _ _ _ _)
      | (with_reducible exact ih7 _ _ _ _ _ _ _ _ _ _ _ _ _ _ _ _ _ _ _ _ _ _ _)
      | (with_reducible exact ih8 _ _ _ _ _ _ _ _ _ _ _ _ _ _ _ _ _ _ _ _ _ _ _ _)
      | (with_reducible exact LeO.refl _)
      | (with_reducible exact LeO.none _)
      | (with_reducible refine LeO.ite ?_ ?_)
      | (with_reducible refine LeO.bind ?_ (fun _ => ?_))
      | exact ih0 _ _ _ _ _ _ _ _ _ _ _ _ _ _ _ _ _ _ _ _ _ _
      | exact ih1 _ _ _ _ _ _ _ _ _ _ _ _ _ _ _ _ _ _ _ _ _ _ _
      | exact ih2 _ _ _ _ _ _ _ _ _ _ _ _ _ _ _ _ _ _ _ _ _ _ _ _
      | exact ih3 _ _ _ _ _ _ _ _ _ _ _ _ _ _ _ _ _ _ _ _ _ _ _
      | exact ih4 _ _ _ _ _ _ _ _ _ _ _ _ _ _ _ _ _ _ _ _ _ _ _ _
      | exact ih5 _ _ _ _ _ _ _ _ _ _ _ _ _ _ _ _ _ _ _ _ _ _ _
      | exact ih6 _ _ _ _ _ _ _ _ _ _ _ _ _ _ _ _ _ _ _ _ _ _ _ _
      | exact ih7 _ _ _ _ _ _ _ _ _ _ _ _ _ _ _ _ _ _ _ _ _ _ _
      | exact ih8 _ _ _ _ _ _ _ _ _ _ _ _ _ _ _ _ _ _ _ _ _ _ _ _
      | exact LeO.none _
      | refine LeO.ite ?_ ?_
      | refine LeO.bind ?_ (fun _ => ?_)
set_option maxHeartbeats 8000000 in
set_option maxRecDepth 100000 in
theorem millwrightlaw19_TraceOne.calls (k : Nat) (a0 : Int) (a1 : Int) (A2 : Option Addr) (c2 : Nat) (l2 : List Int) (r : Bool) (w : World) (hr2 : Kd.C (Kd.int .u8) w A2 l2.length l2) (hc2 : l2.length ≤ c2) (h : millwrightlaw19_TraceOne.f k a0 a1 l2 = some r) (HT : TrL.Laid w) :
    Calls Tryd.prog 12 #[.int .i64 a0, .int .i64 a1, .slice A2 l2.length c2] w fun e w' => e = .returned (.bool r) ∧ Below w.heap.size w w' := by
  have hu23 := Tryd.underlying23
  have hu42 := Tryd.underlying42
  have hu50 := Tryd.underlying50
  have HR2 := Aside0.mk hr2
  have HC2 := Aside0.mk hc2
  clear hr2 hc2
  have HB := Aside0.mk (Below.refl w.heap.size w)
  have H : ((millwrightlaw19_shown.f).bind fun t101 => (millwrightlaw19_TraceOne.l0 k (wrap64 (1 + (Int.tmod (Go.bits .and .i64 a0 65535) 20))) (Int.tmod (Go.bits .and .i64 a1 65535) 21) l2 t101 (([2, 3, 4, 5, 6] : List Int)) ([] : List (S42)) 0 0 false (-1) 0 0 5 1 0 0 (wrap64 (1 + (Int.tmod (Go.bits .and .i64 a0 65535) 20))) (Int.tmod (Go.bits .and .i64 a1 65535) 21) 2 0 0 0)) = some r := h
  clear h
  replace H := Option.bind_eq_some_iff.mp H
  obtain ⟨t101, A40, H⟩ := H
  replace H : (millwrightlaw19_TraceOne.l0 k (wrap64 (1 + (Int.tmod (Go.bits .and .i64 a0 65535) 20))) (Int.tmod (Go.bits .and .i64 a1 65535) 21) l2 t101 (([2, 3, 4, 5, 6] : List Int)) ([] : List (S42)) 0 0 false (-1) 0 0 5 1 0 0 (wrap64 (1 + (Int.tmod (Go.bits .and .i64 a0 65535) 20))) (Int.tmod (Go.bits .and .i64 a1 65535) 21) 2 0 0 0) = some r := H
  have A4 := Aside0.mk A40
  clear A40
  obtain ⟨y103, hy103⟩ : ∃ y_ : List Int, y_ = (([2, 3, 4, 5, 6] : List Int)) := ⟨_, rfl⟩
  replace H : (millwrightlaw19_TraceOne.l0 k (wrap64 (1 + (Int.tmod (Go.bits .and .i64 a0 65535) 20))) (Int.tmod (Go.bits .and .i64 a1 65535) 21) l2 t101 y103 ([] : List (S42)) 0 0 false (-1) 0 0 5 1 0 0 (wrap64 (1 + (Int.tmod (Go.bits .and .i64 a0 65535) 20))) (Int.tmod (Go.bits .and .i64 a1 65535) 21) 2 0 0 0) = some r := by first | (rw [hy103]; with_reducible exact H) | (have H2_ := (Option.bind_some _ _).symm.trans H; rw [hy103]; with_reducible exact H2_) | (have H2_ := (Option.bind_some _ _).symm.trans H; with_reducible exact H2_) | with_reducible exact H | (rw [hy103]; exact H) | exact H
  have Ny103 := Aside0.mk hy103
  clear hy103
  have H' := Aside0.mk H
  clear H
  go_enter Tryd.func12, Tryd.ntmps12
  go_wp2_with (first | ((with_reducible refine gate_callee (f := 14) rfl ?_); refine goesL_ (some 20) rfl rfl Tryd.func14 (by kernel_rfl) rfl #[] rfl (by (try simp only [List.map_toArray, List.map_cons, List.map_nil]); first | done | rfl | (simp only [List.length_drop, List.length_take]; rfl)) ?_; (with_reducible refine (millwrightlaw19_shown.calls  t101 _ A4.out (TrL.Laid.below HT (by repeat (first | (with_reducible first | exact HB.out | apply below_alloc | apply pw_below_drewN | apply below_drew1) | exact HB.out)))).mono ?_); rintro e w5 ⟨rfl, hb⟩; refine ⟨_, rfl, ?_⟩; have n0_ := Aside0.mk (below_step (by repeat (first | (with_reducible first | exact HB.out | apply below_alloc | apply pw_below_drewN | apply below_drew1) | exact HB.out)) hb); clear HB; have HB := n0_; clear n0_; (try clear hb); (try clear hb2); (try clear hk); (try clear hi)) | ((with_reducible refine gate_dst (N := 8) rfl ?_); refine box_event ?hg (N := 8) ?hd (cs := #[.int .i64 0, .int .i64 0, .int .i64 0, .int .i64 0, .int .i64 0, .int .i64 0, .int .i64 0, .int .i64 0, .int .i64 0, .int .i64 0]) (t := 23) ?hr ?_; (case hd => rfl); (case hg => rfl); (case hr => first | (go_simp; done) | (go_simp; rfl)); intro gb102 hg w6 hbox hb; have n0_ := Aside0.mk (below_step (by repeat (first | (with_reducible first | exact HB.out | apply below_alloc | apply pw_below_drewN | apply below_drew1) | exact HB.out)) hb); have n1_ := Aside0.mk (hbox); have n2_ := Aside0.mk ((by rw [hg]; exact (below_size (by repeat (first | (with_reducible first | exact HB.out | apply below_alloc | apply pw_below_drewN | apply below_drew1) | exact HB.out))) : w.heap.size ≤ gb102)); have n3_ := Aside0.mk ((by rw [hg]; exact (below_size (by repeat (first | (with_reducible first | exact HB.out | apply below_alloc | apply pw_below_drewN | apply below_drew1) | exact HB.out))) : w.heap.size ≤ gb102)); clear HB; have HB := n0_; have BK102 := n1_; have GW102 := n2_; have GE102 := n3_; clear n0_ n1_ n2_ n3_; clear hb hbox hg; have hcz7_0 : w6.cell? ⟨gb102, 0, none⟩ = some (.int .i64 0) := (blk_cell BK102.out 0).trans rfl; have hcz7_1 : w6.cell? ⟨gb102, 1, none⟩ = some (.int .i64 0) := (blk_cell BK102.out 1).trans rfl; have hcz7_2 : w6.cell? ⟨gb102, 2, none⟩ = some (.int .i64 0) := (blk_cell BK102.out 2).trans rfl; have hcz7_3 : w6.cell? ⟨gb102, 3, none⟩ = some (.int .i64 0) := (blk_cell BK102.out 3).trans rfl; have hcz7_4 : w6.cell? ⟨gb102, 4, none⟩ = some (.int .i64 0) := (blk_cell BK102.out 4).trans rfl; have hcz7_5 : w6.cell? ⟨gb102, 5, none⟩ = some (.int .i64 0) := (blk_cell BK102.out 5).trans rfl; have hcz7_6 : w6.cell? ⟨gb102, 6, none⟩ = some (.int .i64 0) := (blk_cell BK102.out 6).trans rfl; have hcz7_7 : w6.cell? ⟨gb102, 7, none⟩ = some (.int .i64 0) := (blk_cell BK102.out 7).trans rfl; have hcz7_8 : w6.cell? ⟨gb102, 8, none⟩ = some (.int .i64 0) := (blk_cell BK102.out 8).trans rfl; have hcz7_9 : w6.cell? ⟨gb102, 9, none⟩ = some (.int .i64 0) := (blk_cell BK102.out 9).trans rfl; have hfz7_0 := blk_frozen BK102.out 0; have hfz7_1 := blk_frozen BK102.out 1; have hfz7_2 := blk_frozen BK102.out 2; have hfz7_3 := blk_frozen BK102.out 3; have hfz7_4 := blk_frozen BK102.out 4; have hfz7_5 := blk_frozen BK102.out 5; have hfz7_6 := blk_frozen BK102.out 6; have hfz7_7 := blk_frozen BK102.out 7; have hfz7_8 := blk_frozen BK102.out 8; have hfz7_9 := blk_frozen BK102.out 9) | ((with_reducible refine gate_dst (N := 31) rfl ?_); refine Kd.R_lit (Kd.int .i64) _ 3 ?hg (N := 31) ?hd (xs := ([2, 3, 4, 5, 6] : List Int)) (inner := [.int .i64 2, .int .i64 3, .int .i64 4, .int .i64 5, .int .i64 6]) (ok := fun _ => True) (okp := fun _ => True) ?hr ?hp (fun _ hk => hk) trivial (Below.refl _ _) (Nat.le_refl _) (by simp) ?_; (case hd => rfl); (case hg => rfl); (case hr => first | (go_simp; done) | (go_simp; rfl)); (case hp => exact (Reps.one (show Kd.M (Kd.int .i64) _ _ _ 2 [.int .i64 2] from rfl) (Reps.one (show Kd.M (Kd.int .i64) _ _ _ 3 [.int .i64 3] from rfl) (Reps.one (show Kd.M (Kd.int .i64) _ _ _ 4 [.int .i64 4] from rfl) (Reps.one (show Kd.M (Kd.int .i64) _ _ _ 5 [.int .i64 5] from rfl) (Reps.one (show Kd.M (Kd.int .i64) _ _ _ 6 [.int .i64 6] from rfl) (Reps.none _ _))))))); intro v104 w8 ho9 hb hg_ hnew_; clear hg_ hnew_; (first | rw [← Ny103.out] at ho9 | (simp only [Int.reduceToNat] at ho9; rw [← Ny103.out] at ho9)); have n0_ := Aside0.mk (Kd.R_lower ho9 (below_size (by repeat (first | (with_reducible first | exact HB.out | apply below_alloc | apply pw_below_drewN | apply below_drew1 | refine below_set ?_ GE102.out) | exact HB.out)))); have n1_ := Aside0.mk (blk_below (g := gb102) (o := .cells #[.int .i64 5, .int .i64 1, .int .i64 0, .int .i64 0, .int .i64 (wrap64 (1 + (Int.tmod (Go.bits .and .i64 a0 65535) 20))), .int .i64 (Int.tmod (Go.bits .and .i64 a1 65535) 21), .int .i64 2, .int .i64 0, .int .i64 0, .int .i64 0] 23 (0, 0)) (by (with_reducible repeat (first | refine blk_drewN ?_ _ | refine blk_drew ?_ | refine blk_alloc ?_ _)); refine blk_put (cs := #[.int .i64 5, .int .i64 1, .int .i64 0, .int .i64 0, .int .i64 (wrap64 (1 + (Int.tmod (Go.bits .and .i64 a0 65535) 20))), .int .i64 (Int.tmod (Go.bits .and .i64 a1 65535) 21), .int .i64 2, .int .i64 0, .int .i64 0, .int .i64 0]) ?_ 9 _ rfl; (with_reducible repeat (first | refine blk_drewN ?_ _ | refine blk_drew ?_ | refine blk_alloc ?_ _)); refine blk_put (cs := #[.int .i64 5, .int .i64 1, .int .i64 0, .int .i64 0, .int .i64 (wrap64 (1 + (Int.tmod (Go.bits .and .i64 a0 65535) 20))), .int .i64 (Int.tmod (Go.bits .and .i64 a1 65535) 21), .int .i64 2, .int .i64 0, .int .i64 0, .int .i64 0]) ?_ 8 _ rfl; (with_reducible repeat (first | refine blk_drewN ?_ _ | refine blk_drew ?_ | refine blk_alloc ?_ _)); refine blk_put (cs := #[.int .i64 5, .int .i64 1, .int .i64 0, .int .i64 0, .int .i64 (wrap64 (1 + (Int.tmod (Go.bits .and .i64 a0 65535) 20))), .int .i64 (Int.tmod (Go.bits .and .i64 a1 65535) 21), .int .i64 2, .int .i64 0, .int .i64 0, .int .i64 0]) ?_ 7 _ rfl; (with_reducible repeat (first | refine blk_drewN ?_ _ | refine blk_drew ?_ | refine blk_alloc ?_ _)); refine blk_put (cs := #[.int .i64 5, .int .i64 1, .int .i64 0, .int .i64 0, .int .i64 (wrap64 (1 + (Int.tmod (Go.bits .and .i64 a0 65535) 20))), .int .i64 (Int.tmod (Go.bits .and .i64 a1 65535) 21), .int .i64 0, .int .i64 0, .int .i64 0, .int .i64 0]) ?_ 6 _ rfl; (with_reducible repeat (first | refine blk_drewN ?_ _ | refine blk_drew ?_ | refine blk_alloc ?_ _)); refine blk_put (cs := #[.int .i64 5, .int .i64 1, .int .i64 0, .int .i64 0, .int .i64 (wrap64 (1 + (Int.tmod (Go.bits .and .i64 a0 65535) 20))), .int .i64 0, .int .i64 0, .int .i64 0, .int .i64 0, .int .i64 0]) ?_ 5 _ rfl; (with_reducible repeat (first | refine blk_drewN ?_ _ | refine blk_drew ?_ | refine blk_alloc ?_ _)); refine blk_put (cs := #[.int .i64 5, .int .i64 1, .int .i64 0, .int .i64 0, .int .i64 0, .int .i64 0, .int .i64 0, .int .i64 0, .int .i64 0, .int .i64 0]) ?_ 4 _ rfl; (with_reducible repeat (first | refine blk_drewN ?_ _ | refine blk_drew ?_ | refine blk_alloc ?_ _)); refine blk_put (cs := #[.int .i64 5, .int .i64 1, .int .i64 0, .int .i64 0, .int .i64 0, .int .i64 0, .int .i64 0, .int .i64 0, .int .i64 0, .int .i64 0]) ?_ 3 _ rfl; (with_reducible repeat (first | refine blk_drewN ?_ _ | refine blk_drew ?_ | refine blk_alloc ?_ _)); refine blk_put (cs := #[.int .i64 5, .int .i64 1, .int .i64 0, .int .i64 0, .int .i64 0, .int .i64 0, .int .i64 0, .int .i64 0, .int .i64 0, .int .i64 0]) ?_ 2 _ rfl; (with_reducible repeat (first | refine blk_drewN ?_ _ | refine blk_drew ?_ | refine blk_alloc ?_ _)); refine blk_put (cs := #[.int .i64 5, .int .i64 0, .int .i64 0, .int .i64 0, .int .i64 0, .int .i64 0, .int .i64 0, .int .i64 0, .int .i64 0, .int .i64 0]) ?_ 1 _ rfl; (with_reducible repeat (first | refine blk_drewN ?_ _ | refine blk_drew ?_ | refine blk_alloc ?_ _)); refine blk_put (cs := #[.int .i64 0, .int .i64 0, .int .i64 0, .int .i64 0, .int .i64 0, .int .i64 0, .int .i64 0, .int .i64 0, .int .i64 0, .int .i64 0]) ?_ 0 _ rfl; (with_reducible repeat (first | refine blk_drewN ?_ _ | refine blk_drew ?_ | refine blk_alloc ?_ _)); exact BK102.out) hb); have n2_ := Aside0.mk (below_step (by repeat (first | (with_reducible first | exact HB.out | apply below_alloc | apply pw_below_drewN | apply below_drew1 | refine below_set ?_ GE102.out) | exact HB.out)) hb); clear BK102; clear HB; have HO105 := n0_; have BK102 := n1_; have HB := n2_; clear n0_ n1_ n2_; clear hb ho9))
  go_loopg [10, 11, 12, 13, 14, 15, 16] k (fun kq v10 v11 v12 v13 v14 v15 v16 w' => ∃ (x10_1 : List (S42)) (x11_1 : Int) (x12_1 : Int) (x13_1 : Bool) (x14_1 : Int) (x15_1 : Int) (x16_1 : Int), v11 = .int .i64 x11_1 ∧ v12 = .int .i64 x12_1 ∧ v13 = .bool x13_1 ∧ v14 = .int .i64 x14_1 ∧ v15 = .int .i64 x15_1 ∧ v16 = .int .i64 x16_1 ∧ Aside0 (millwrightlaw19_TraceOne.l0 kq (wrap64 (1 + (Int.tmod (Go.bits .and .i64 a0 65535) 20))) (Int.tmod (Go.bits .and .i64 a1 65535) 21) l2 t101 y103 x10_1 x11_1 x12_1 x13_1 x14_1 x15_1 x16_1 5 1 0 0 (wrap64 (1 + (Int.tmod (Go.bits .and .i64 a0 65535) 20))) (Int.tmod (Go.bits .and .i64 a1 65535) 21) 2 0 0 0 = some r) ∧ Aside0 (kq ≤ k) ∧ Aside0 (Kd.R (Kd.int .i64) 3 w' w.heap.size (fun _ => True) v104 y103) ∧ Aside0 (Kd.R k42 42 w' w.heap.size (fun _ => True) v10 x10_1) ∧ Aside0 (w'.heap[gb102]? = some (.cells #[.int .i64 5, .int .i64 1, .int .i64 0, .int .i64 0, .int .i64 (wrap64 (1 + (Int.tmod (Go.bits .and .i64 a0 65535) 20))), .int .i64 (Int.tmod (Go.bits .and .i64 a1 65535) 21), .int .i64 2, .int .i64 0, .int .i64 0, .int .i64 0] 23 (0, 0))) ∧ Aside0 (Below w.heap.size w w'))
  case atStart => exact ⟨(([] : List (S42))), (0), (0), (false), ((-1)), (0), (0), (by first | rfl | (simp; done) | (simp [*]; done)), (by first | rfl | (simp; done) | (simp [*]; done)), (by first | rfl | (simp; done) | (simp [*]; done)), (by first | rfl | (simp; done) | (simp [*]; done)), (by first | rfl | (simp; done) | (simp [*]; done)), (by first | rfl | (simp; done) | (simp [*]; done)), H', ⟨Nat.le_refl _⟩, ⟨by (with_reducible repeat (first | apply Kd.R_alloc | apply Kd.R_drewN | apply Kd.R_drew)); exact HO105.out⟩, ⟨by first | exact Kd.R_nil _ _ _ _ _ | exact Kd.N_nil _ _ _ _ _ | exact Kd.V_nil _ _ _ _ _ | exact Kd.Q_nil _ _ _ _ _ | exact Kd.S_nil _ _ _ _ _⟩, ⟨by (with_reducible repeat (first | refine blk_drewN ?_ _ | refine blk_drew ?_ | refine blk_alloc ?_ _)); exact BK102.out⟩, ⟨by repeat (first | (with_reducible first | exact HB.out | apply below_alloc | apply pw_below_drewN | apply below_drew1 | refine below_set ?_ GE102.out) | exact HB.out)⟩⟩
  case round =>
    clear H'
    try clear c1
    try clear c2
    try clear p2
    try clear p6
    try clear hcz7_0
    try clear hcz7_1
    try clear hcz7_2
    try clear hcz7_3
    try clear hcz7_4
    try clear hcz7_5
    try clear hcz7_6
    try clear hcz7_7
    try clear hcz7_8
    try clear hcz7_9
    try clear hfz7_0
    try clear hfz7_1
    try clear hfz7_2
    try clear hfz7_3
    try clear hfz7_4
    try clear hfz7_5
    try clear hfz7_6
    try clear hfz7_7
    try clear hfz7_8
    try clear hfz7_9
    obtain ⟨x10_1, x11_1, x12_1, x13_1, x14_1, x15_1, x16_1, rfl, rfl, rfl, rfl, rfl, rfl, HA, HK1, HO_9, HO_10, BK102, HB⟩ := hrel
    cases gk with
    | zero => exact absurd HA.out (by simp [millwrightlaw19_TraceOne.l0])
    | succ k1 =>
      have H := HA.out
      clear HA
      simp only [millwrightlaw19_TraceOne.l0] at H
      have HC10 := Aside0.mk H
      clear H
      go_upto_region 13 with (fail)
      go_cut [39] (fun v39 wc => ∃ (kq : Nat) (x39_9 : Bool), v39 = .bool x39_9 ∧ Aside0 (millwrightlaw19_TraceOne.j1 kq (wrap64 (1 + (Int.tmod (Go.bits .and .i64 a0 65535) 20))) (Int.tmod (Go.bits .and .i64 a1 65535) 21) l2 t101 y103 x10_1 x11_1 x12_1 x13_1 x14_1 x15_1 x16_1 x39_9 5 1 0 0 (wrap64 (1 + (Int.tmod (Go.bits .and .i64 a0 65535) 20))) (Int.tmod (Go.bits .and .i64 a1 65535) 21) 2 0 0 0 = some r) ∧ Aside0 (kq ≤ k1) ∧ Aside0 (Kd.R (Kd.int .i64) 3 wc w.heap.size (fun _ => True) v104 y103) ∧ Aside0 (Kd.R k42 42 wc w.heap.size (fun _ => True) u10 x10_1) ∧ Aside0 (wc.heap[gb102]? = some (.cells #[.int .i64 5, .int .i64 1, .int .i64 0, .int .i64 0, .int .i64 (wrap64 (1 + (Int.tmod (Go.bits .and .i64 a0 65535) 20))), .int .i64 (Int.tmod (Go.bits .and .i64 a1 65535) 21), .int .i64 2, .int .i64 0, .int .i64 0, .int .i64 0] 23 (0, 0))) ∧ Aside0 (Below w.heap.size w wc))
      case first =>
        have H := HC10.out
        clear HC10
        by_cases c11 : x16_1 < (l2.length : Int)
        · rw [if_pos c11] at H
          have c11b0 : decide (x16_1 < (l2.length : Int)) = true := decide_eq_true c11
          clear c11
          (first | rw [c11b0] | (simp only [i64_w, i32_w]; rw [c11b0]) | skip)
          have H' := Aside0.mk H
          clear H
          go_wp2
          go_meet
          case rel => exact ⟨_, (decide (x16_1 < 60)), (by first | rfl | (simp; done) | (simp [*]; done)), H', ⟨by have := HK1.out; first | omega | exact Nat.le_refl _⟩, ⟨by (with_reducible repeat (first | apply Kd.R_alloc | apply Kd.R_drewN | apply Kd.R_drew)); exact HO_9.out⟩, ⟨by (with_reducible repeat (first | apply Kd.R_alloc | apply Kd.R_drewN | apply Kd.R_drew)); exact HO_10.out⟩, ⟨by (with_reducible repeat (first | refine blk_drewN ?_ _ | refine blk_drew ?_ | refine blk_alloc ?_ _)); exact BK102.out⟩, ⟨by repeat (first | (with_reducible first | exact HB.out | apply below_alloc | apply pw_below_drewN | apply below_drew1 | refine below_set ?_ GE102.out) | exact HB.out)⟩⟩
        · rw [if_neg c11] at H
          have c11b0 : decide (x16_1 < (l2.length : Int)) = false := decide_eq_false c11
          clear c11
          (first | rw [c11b0] | (simp only [i64_w, i32_w]; rw [c11b0]) | skip)
          have H' := Aside0.mk H
          clear H
          go_wp2
          go_meet
          case rel => exact ⟨_, (false), (by first | rfl | (simp; done) | (simp [*]; done)), H', ⟨by have := HK1.out; first | omega | exact Nat.le_refl _⟩, ⟨by (with_reducible repeat (first | apply Kd.R_alloc | apply Kd.R_drewN | apply Kd.R_drew)); exact HO_9.out⟩, ⟨by (with_reducible repeat (first | apply Kd.R_alloc | apply Kd.R_drewN | apply Kd.R_drew)); exact HO_10.out⟩, ⟨by (with_reducible repeat (first | refine blk_drewN ?_ _ | refine blk_drew ?_ | refine blk_alloc ?_ _)); exact BK102.out⟩, ⟨by repeat (first | (with_reducible first | exact HB.out | apply below_alloc | apply pw_below_drewN | apply below_drew1 | refine below_set ?_ GE102.out) | exact HB.out)⟩⟩
      case rest =>
        clear HC10
        try clear c1
        try clear c2
        try clear p2
        try clear p6
        try clear c11
        try clear c11b0
        try clear hcz7_0
        try clear hcz7_1
        try clear hcz7_2
        try clear hcz7_3
        try clear hcz7_4
        try clear hcz7_5
        try clear hcz7_6
        try clear hcz7_7
        try clear hcz7_8
        try clear hcz7_9
        try clear hfz7_0
        try clear hfz7_1
        try clear hfz7_2
        try clear hfz7_3
        try clear hfz7_4
        try clear hfz7_5
        try clear hfz7_6
        try clear hfz7_7
        try clear hfz7_8
        try clear hfz7_9
        try clear p2
        try clear p6
        obtain ⟨kq, x39_9, rfl, HA, HJ9, HO_9, HO_10, BK102, HB⟩ := hcut
        cases kq with
        | zero => exact absurd HA.out (by simp [millwrightlaw19_TraceOne.j1])
        | succ kj9 =>
          have H := HA.out
          clear HA
          simp only [millwrightlaw19_TraceOne.j1] at H
          by_cases c12 : x39_9 = true
          · subst c12
            have H1 : (if 0 ≤ x16_1 then (if x16_1 < (l2.length : Int) then (if 0 ≤ (Int.tmod (rd l2 x16_1) 5) then (if (Int.tmod (rd l2 x16_1) 5) < (y103.length : Int) then (if x14_1 < 0 then (millwrightlaw19_TraceOne.j2 kj9 (wrap64 (1 + (Int.tmod (Go.bits .and .i64 a0 65535) 20))) (Int.tmod (Go.bits .and .i64 a1 65535) 21) l2 t101 y103 x10_1 x11_1 x12_1 x13_1 x14_1 x15_1 x16_1 (rd y103 (Int.tmod (rd l2 x16_1) 5)) x13_1 5 1 0 0 (wrap64 (1 + (Int.tmod (Go.bits .and .i64 a0 65535) 20))) (Int.tmod (Go.bits .and .i64 a1 65535) 21) 2 0 0 0) else (millwrightlaw19_TraceOne.j2 kj9 (wrap64 (1 + (Int.tmod (Go.bits .and .i64 a0 65535) 20))) (Int.tmod (Go.bits .and .i64 a1 65535) 21) l2 t101 y103 x10_1 x11_1 x12_1 x13_1 x14_1 x15_1 x16_1 (rd y103 (Int.tmod (rd l2 x16_1) 5)) false 5 1 0 0 (wrap64 (1 + (Int.tmod (Go.bits .and .i64 a0 65535) 20))) (Int.tmod (Go.bits .and .i64 a1 65535) 21) 2 0 0 0)) else (none)) else (none)) else (none)) else (none)) = some r := by rw [if_pos rfl] at H; exact H
            clear H
            have H := H1
            clear H1
            by_cases c13 : 0 ≤ x16_1
            · rw [if_pos c13] at H
              have c13b0 : decide (0 ≤ x16_1) = true := decide_eq_true c13
              clear c13
              by_cases c14 : x16_1 < (l2.length : Int)
              · rw [if_pos c14] at H
                have c14b0 : decide (x16_1 < (l2.length : Int)) = true := decide_eq_true c14
                clear c14
                obtain ⟨ji15, hji15⟩ : ∃ j_ : Int, (Int.tmod (rd l2 x16_1) 5) = j_ := ⟨_, rfl⟩
                replace H : (if 0 ≤ (ji15) then (if (ji15) < (y103.length : Int) then (if x14_1 < 0 then (millwrightlaw19_TraceOne.j2 kj9 (wrap64 (1 + (Int.tmod (Go.bits .and .i64 a0 65535) 20))) (Int.tmod (Go.bits .and .i64 a1 65535) 21) l2 t101 y103 x10_1 x11_1 x12_1 x13_1 x14_1 x15_1 x16_1 (rd y103 (ji15)) x13_1 5 1 0 0 (wrap64 (1 + (Int.tmod (Go.bits .and .i64 a0 65535) 20))) (Int.tmod (Go.bits .and .i64 a1 65535) 21) 2 0 0 0) else (millwrightlaw19_TraceOne.j2 kj9 (wrap64 (1 + (Int.tmod (Go.bits .and .i64 a0 65535) 20))) (Int.tmod (Go.bits .and .i64 a1 65535) 21) l2 t101 y103 x10_1 x11_1 x12_1 x13_1 x14_1 x15_1 x16_1 (rd y103 (ji15)) false 5 1 0 0 (wrap64 (1 + (Int.tmod (Go.bits .and .i64 a0 65535) 20))) (Int.tmod (Go.bits .and .i64 a1 65535) 21) 2 0 0 0)) else (none)) else (none)) = some r := by first | (rw [hji15] at H; exact H) | (simp only [hji15] at H ⊢; exact H)
                by_cases c16 : 0 ≤ (ji15)
                · rw [if_pos c16] at H
                  have c16b0 : decide (0 ≤ (ji15)) = true := decide_eq_true c16
                  clear c16
                  by_cases c17 : (ji15) < (y103.length : Int)
                  · rw [if_pos c17] at H
                    have c17b0 : decide ((ji15) < (y103.length : Int)) = true := decide_eq_true c17
                    clear c17
                    have HC18 := Aside0.mk H
                    clear H
                    have p111 : 0 ≤ (x16_1 : Int) := of_decide_eq_true (by first | (with_reducible assumption) | assumption)
                    have q111 : x16_1 < (l2.length : Int) := of_decide_eq_true (by first | (with_reducible assumption) | assumption)
                    obtain ⟨ad111, e111, hx111_0⟩ := Kd.at_int HR2.out x16_1 p111 q111
                    cases e111
                    replace hx111_0 := (HB.out.cell (World.block_lt_of_cell? w _ hx111_0)).trans hx111_0
                    replace p111 := eq_true p111
                    replace q111 := eq_true q111
                    obtain ⟨Ao19, co19, eo19⟩ := Kd.R_slice HO_9.out
                    subst eo19
                    have p112 : 0 ≤ ((ji15) : Int) := of_decide_eq_true (by first | (with_reducible assumption) | assumption)
                    have q112 : (ji15) < (y103.length : Int) := of_decide_eq_true (by first | (with_reducible assumption) | assumption)
                    obtain ⟨ad112, e112, hx112_0⟩ := Kd.at_int (Kd.R_reads' HO_9.out).2.2 (ji15) p112 q112
                    cases e112
                    replace p112 := eq_true p112
                    replace q112 := eq_true q112
                    go_upto_region 16 with (fail)
                    go_cut [54] (fun v54 wc => ∃ (kq : Nat) (x54_17 : Bool), v54 = .bool x54_17 ∧ Aside0 (millwrightlaw19_TraceOne.j2 kq (wrap64 (1 + (Int.tmod (Go.bits .and .i64 a0 65535) 20))) (Int.tmod (Go.bits .and .i64 a1 65535) 21) l2 t101 y103 x10_1 x11_1 x12_1 x13_1 x14_1 x15_1 x16_1 (rd y103 (ji15)) x54_17 5 1 0 0 (wrap64 (1 + (Int.tmod (Go.bits .and .i64 a0 65535) 20))) (Int.tmod (Go.bits .and .i64 a1 65535) 21) 2 0 0 0 = some r) ∧ Aside0 (kq ≤ kj9) ∧ Aside0 (Kd.R (Kd.int .i64) 3 wc w.heap.size (fun _ => True) (.slice (some ad112) y103.length co19) y103) ∧ Aside0 (Kd.R k42 42 wc w.heap.size (fun _ => True) u10 x10_1) ∧ Aside0 (wc.heap[gb102]? = some (.cells #[.int .i64 5, .int .i64 1, .int .i64 0, .int .i64 0, .int .i64 (wrap64 (1 + (Int.tmod (Go.bits .and .i64 a0 65535) 20))), .int .i64 (Int.tmod (Go.bits .and .i64 a1 65535) 21), .int .i64 2, .int .i64 0, .int .i64 0, .int .i64 0] 23 (0, 0))) ∧ Aside0 (Below w.heap.size w wc))
                    case first =>
                      have H := HC18.out
                      clear HC18
                      by_cases c20 : x14_1 < 0
                      · rw [if_pos c20] at H
                        have c20b0 : decide (x14_1 < 0) = true := decide_eq_true c20
                        clear c20
                        (first | rw [c20b0] | (simp only [i64_w, i32_w]; rw [c20b0]) | skip)
                        have H' := Aside0.mk H
                        clear H
                        go_wp2
                        go_meet
                        case rel => exact ⟨_, (x13_1), (by first | rfl | (simp; done) | (simp [*]; done)), H', ⟨by have := HK1.out; have := HJ9.out; first | omega | exact Nat.le_refl _⟩, ⟨by (with_reducible repeat (first | apply Kd.R_alloc | apply Kd.R_drewN | apply Kd.R_drew)); exact HO_9.out⟩, ⟨by (with_reducible repeat (first | apply Kd.R_alloc | apply Kd.R_drewN | apply Kd.R_drew)); exact HO_10.out⟩, ⟨by (with_reducible repeat (first | refine blk_drewN ?_ _ | refine blk_drew ?_ | refine blk_alloc ?_ _)); exact BK102.out⟩, ⟨by repeat (first | (with_reducible first | exact HB.out | apply below_alloc | apply pw_below_drewN | apply below_drew1 | refine below_set ?_ GE102.out) | exact HB.out)⟩⟩
                      · rw [if_neg c20] at H
                        have c20b0 : decide (x14_1 < 0) = false := decide_eq_false c20
                        clear c20
                        (first | rw [c20b0] | (simp only [i64_w, i32_w]; rw [c20b0]) | skip)
                        have H' := Aside0.mk H
                        clear H
                        go_wp2
                        go_meet
                        case rel => exact ⟨_, (false), (by first | rfl | (simp; done) | (simp [*]; done)), H', ⟨by have := HK1.out; have := HJ9.out; first | omega | exact Nat.le_refl _⟩, ⟨by (with_reducible repeat (first | apply Kd.R_alloc | apply Kd.R_drewN | apply Kd.R_drew)); exact HO_9.out⟩, ⟨by (with_reducible repeat (first | apply Kd.R_alloc | apply Kd.R_drewN | apply Kd.R_drew)); exact HO_10.out⟩, ⟨by (with_reducible repeat (first | refine blk_drewN ?_ _ | refine blk_drew ?_ | refine blk_alloc ?_ _)); exact BK102.out⟩, ⟨by repeat (first | (with_reducible first | exact HB.out | apply below_alloc | apply pw_below_drewN | apply below_drew1 | refine below_set ?_ GE102.out) | exact HB.out)⟩⟩
                    case rest =>
                      clear HC18
                      try clear c1
                      try clear p1
                      try clear q1
                      try clear hx1
                      try clear c2
                      try clear p2
                      try clear p6
                      try clear c11
                      try clear c11b0
                      try clear p11
                      try clear q11
                      try clear hx11
                      try clear c12
                      try clear c13
                      try clear c13b0
                      try clear c14
                      try clear c14b0
                      try clear c16
                      try clear c16b0
                      try clear c17
                      try clear c17b0
                      try clear c20
                      try clear c20b0
                      try clear hcz7_0
                      try clear hcz7_1
                      try clear hcz7_2
                      try clear hcz7_3
                      try clear hcz7_4
                      try clear hcz7_5
                      try clear hcz7_6
                      try clear hcz7_7
                      try clear hcz7_8
                      try clear hcz7_9
                      try clear hfz7_0
                      try clear hfz7_1
                      try clear hfz7_2
                      try clear hfz7_3
                      try clear hfz7_4
                      try clear hfz7_5
                      try clear hfz7_6
                      try clear hfz7_7
                      try clear hfz7_8
                      try clear hfz7_9
                      try clear hx111_0
                      try clear hx112_0
                      try clear p111
                      try clear p112
                      try clear p2
                      try clear p6
                      try clear q111
                      try clear q112
                      obtain ⟨kq, x54_17, rfl, HA, HJ17, HO_9, HO_10, BK102, HB⟩ := hcut
                      cases kq with
                      | zero => exact absurd HA.out (by simp [millwrightlaw19_TraceOne.j2])
                      | succ kj17 =>
                        have H := HA.out
                        clear HA
                        simp only [millwrightlaw19_TraceOne.j2] at H
                        have HC21 := Aside0.mk H
                        clear H
                        go_upto_if 54 with (fail)
                        go_cut [14, 15] (fun v14 v15 wc => ∃ (kq : Nat) (x14_20 : Int) (x15_20 : Int), v14 = .int .i64 x14_20 ∧ v15 = .int .i64 x15_20 ∧ Aside0 (millwrightlaw19_TraceOne.j3 kq (wrap64 (1 + (Int.tmod (Go.bits .and .i64 a0 65535) 20))) (Int.tmod (Go.bits .and .i64 a1 65535) 21) l2 t101 y103 x10_1 x11_1 x12_1 x13_1 x14_20 x15_20 x16_1 (rd y103 (ji15)) 5 1 0 0 (wrap64 (1 + (Int.tmod (Go.bits .and .i64 a0 65535) 20))) (Int.tmod (Go.bits .and .i64 a1 65535) 21) 2 0 0 0 = some r) ∧ Aside0 (kq ≤ kj17) ∧ Aside0 (Kd.R (Kd.int .i64) 3 wc w.heap.size (fun _ => True) (.slice (some ad112) y103.length co19) y103) ∧ Aside0 (Kd.R k42 42 wc w.heap.size (fun _ => True) u10 x10_1) ∧ Aside0 (wc.heap[gb102]? = some (.cells #[.int .i64 5, .int .i64 1, .int .i64 0, .int .i64 0, .int .i64 (wrap64 (1 + (Int.tmod (Go.bits .and .i64 a0 65535) 20))), .int .i64 (Int.tmod (Go.bits .and .i64 a1 65535) 21), .int .i64 2, .int .i64 0, .int .i64 0, .int .i64 0] 23 (0, 0))) ∧ Aside0 (Below w.heap.size w wc))
                        case first =>
                          have H := HC21.out
                          clear HC21
                          by_cases c22 : x54_17 = true
                          · subst c22
                            have H1 : (millwrightlaw19_TraceOne.j3 kj17 (wrap64 (1 + (Int.tmod (Go.bits .and .i64 a0 65535) 20))) (Int.tmod (Go.bits .and .i64 a1 65535) 21) l2 t101 y103 x10_1 x11_1 x12_1 x13_1 (x10_1.length : Int) 8 x16_1 (rd y103 (ji15)) 5 1 0 0 (wrap64 (1 + (Int.tmod (Go.bits .and .i64 a0 65535) 20))) (Int.tmod (Go.bits .and .i64 a1 65535) 21) 2 0 0 0) = some r := by rw [if_pos rfl] at H; exact H
                            clear H
                            have H := H1
                            clear H1
                            have H' := Aside0.mk H
                            clear H
                            obtain ⟨Ao23, co23, eo23⟩ := Kd.R_slice HO_10.out
                            subst eo23
                            go_wp2
                            go_meet
                            case rel => exact ⟨_, ((x10_1.length : Int)), (8), (by first | rfl | (simp; done) | (simp [*]; done)), (by first | rfl | (simp; done) | (simp [*]; done)), H', ⟨by have := HK1.out; have := HJ9.out; have := HJ17.out; first | omega | exact Nat.le_refl _⟩, ⟨by (with_reducible repeat (first | apply Kd.R_alloc | apply Kd.R_drewN | apply Kd.R_drew)); exact HO_9.out⟩, ⟨by (with_reducible repeat (first | apply Kd.R_alloc | apply Kd.R_drewN | apply Kd.R_drew)); exact HO_10.out⟩, ⟨by (with_reducible repeat (first | refine blk_drewN ?_ _ | refine blk_drew ?_ | refine blk_alloc ?_ _)); exact BK102.out⟩, ⟨by repeat (first | (with_reducible first | exact HB.out | apply below_alloc | apply pw_below_drewN | apply below_drew1 | refine below_set ?_ GE102.out) | exact HB.out)⟩⟩
                          · replace c22 := Bool.eq_false_iff.mpr c22
                            subst c22
                            have H1 : (millwrightlaw19_TraceOne.j3 kj17 (wrap64 (1 + (Int.tmod (Go.bits .and .i64 a0 65535) 20))) (Int.tmod (Go.bits .and .i64 a1 65535) 21) l2 t101 y103 x10_1 x11_1 x12_1 x13_1 x14_1 x15_1 x16_1 (rd y103 (ji15)) 5 1 0 0 (wrap64 (1 + (Int.tmod (Go.bits .and .i64 a0 65535) 20))) (Int.tmod (Go.bits .and .i64 a1 65535) 21) 2 0 0 0) = some r := by rw [if_neg (show ¬ (false = true) by decide)] at H; exact H
                            clear H
                            have H := H1
                            clear H1
                            have H' := Aside0.mk H
                            clear H
                            go_wp2
                            go_meet
                            case rel => exact ⟨_, (x14_1), (x15_1), (by first | rfl | (simp; done) | (simp [*]; done)), (by first | rfl | (simp; done) | (simp [*]; done)), H', ⟨by have := HK1.out; have := HJ9.out; have := HJ17.out; first | omega | exact Nat.le_refl _⟩, ⟨by (with_reducible repeat (first | apply Kd.R_alloc | apply Kd.R_drewN | apply Kd.R_drew)); exact HO_9.out⟩, ⟨by (with_reducible repeat (first | apply Kd.R_alloc | apply Kd.R_drewN | apply Kd.R_drew)); exact HO_10.out⟩, ⟨by (with_reducible repeat (first | refine blk_drewN ?_ _ | refine blk_drew ?_ | refine blk_alloc ?_ _)); exact BK102.out⟩, ⟨by repeat (first | (with_reducible first | exact HB.out | apply below_alloc | apply pw_below_drewN | apply below_drew1 | refine below_set ?_ GE102.out) | exact HB.out)⟩⟩
                        case rest =>
                          clear HC21
                          try clear c1
                          try clear p1
                          try clear q1
                          try clear hx1
                          try clear c2
                          try clear p2
                          try clear p6
                          try clear c11
                          try clear c11b0
                          try clear p11
                          try clear q11
                          try clear hx11
                          try clear c12
                          try clear c13
                          try clear c13b0
                          try clear c14
                          try clear c14b0
                          try clear c16
                          try clear c16b0
                          try clear c17
                          try clear c17b0
                          try clear c20
                          try clear c20b0
                          try clear c22
                          try clear hcz7_0
                          try clear hcz7_1
                          try clear hcz7_2
                          try clear hcz7_3
                          try clear hcz7_4
                          try clear hcz7_5
                          try clear hcz7_6
                          try clear hcz7_7
                          try clear hcz7_8
                          try clear hcz7_9
                          try clear hfz7_0
                          try clear hfz7_1
                          try clear hfz7_2
                          try clear hfz7_3
                          try clear hfz7_4
                          try clear hfz7_5
                          try clear hfz7_6
                          try clear hfz7_7
                          try clear hfz7_8
                          try clear hfz7_9
                          try clear hx111_0
                          try clear hx112_0
                          try clear p1
                          try clear p11
                          try clear p111
                          try clear p112
                          try clear p2
                          try clear p6
                          try clear q1
                          try clear q11
                          try clear q111
                          try clear q112
                          obtain ⟨kq, x14_20, x15_20, rfl, rfl, HA, HJ20, HO_9, HO_10, BK102, HB⟩ := hcut
                          cases kq with
                          | zero => exact absurd HA.out (by simp [millwrightlaw19_TraceOne.j3])
                          | succ kj20 =>
                            have H := HA.out
                            clear HA
                            simp only [millwrightlaw19_TraceOne.j3] at H
                            have HC24 := Aside0.mk H
                            clear H
                            go_upto_region 19 with (fail)
                            go_cut [63] (fun v63 wc => ∃ (kq : Nat) (x63_23 : Bool), v63 = .bool x63_23 ∧ Aside0 (millwrightlaw19_TraceOne.j4 kq (wrap64 (1 + (Int.tmod (Go.bits .and .i64 a0 65535) 20))) (Int.tmod (Go.bits .and .i64 a1 65535) 21) l2 t101 y103 x10_1 x11_1 x12_1 x13_1 x14_20 x15_20 x16_1 (rd y103 (ji15)) x63_23 5 1 0 0 (wrap64 (1 + (Int.tmod (Go.bits .and .i64 a0 65535) 20))) (Int.tmod (Go.bits .and .i64 a1 65535) 21) 2 0 0 0 = some r) ∧ Aside0 (kq ≤ kj20) ∧ Aside0 (Kd.R (Kd.int .i64) 3 wc w.heap.size (fun _ => True) (.slice (some ad112) y103.length co19) y103) ∧ Aside0 (Kd.R k42 42 wc w.heap.size (fun _ => True) u10 x10_1) ∧ Aside0 (wc.heap[gb102]? = some (.cells #[.int .i64 5, .int .i64 1, .int .i64 0, .int .i64 0, .int .i64 (wrap64 (1 + (Int.tmod (Go.bits .and .i64 a0 65535) 20))), .int .i64 (Int.tmod (Go.bits .and .i64 a1 65535) 21), .int .i64 2, .int .i64 0, .int .i64 0, .int .i64 0] 23 (0, 0))) ∧ Aside0 (Below w.heap.size w wc))
                            case first =>
                              have H := HC24.out
                              clear HC24
                              by_cases c25 : x14_20 < 0
                              · rw [if_pos c25] at H
                                have c25b0 : decide (x14_20 < 0) = true := decide_eq_true c25
                                clear c25
                                (first | rw [c25b0] | (simp only [i64_w, i32_w]; rw [c25b0]) | skip)
                                have H' := Aside0.mk H
                                clear H
                                go_wp2
                                go_meet
                                case rel => exact ⟨_, (decide (x11_1 ≥ (wrap64 (1 + (Int.tmod (Go.bits .and .i64 a0 65535) 20))))), (by first | rfl | (simp; done) | (simp [*]; done)), H', ⟨by have := HK1.out; have := HJ9.out; have := HJ17.out; have := HJ20.out; first | omega | exact Nat.le_refl _⟩, ⟨by (with_reducible repeat (first | apply Kd.R_alloc | apply Kd.R_drewN | apply Kd.R_drew)); exact HO_9.out⟩, ⟨by (with_reducible repeat (first | apply Kd.R_alloc | apply Kd.R_drewN | apply Kd.R_drew)); exact HO_10.out⟩, ⟨by (with_reducible repeat (first | refine blk_drewN ?_ _ | refine blk_drew ?_ | refine blk_alloc ?_ _)); exact BK102.out⟩, ⟨by repeat (first | (with_reducible first | exact HB.out | apply below_alloc | apply pw_below_drewN | apply below_drew1 | refine below_set ?_ GE102.out) | exact HB.out)⟩⟩
                              · rw [if_neg c25] at H
                                have c25b0 : decide (x14_20 < 0) = false := decide_eq_false c25
                                clear c25
                                (first | rw [c25b0] | (simp only [i64_w, i32_w]; rw [c25b0]) | skip)
                                have H' := Aside0.mk H
                                clear H
                                go_wp2
                                go_meet
                                case rel => exact ⟨_, (false), (by first | rfl | (simp; done) | (simp [*]; done)), H', ⟨by have := HK1.out; have := HJ9.out; have := HJ17.out; have := HJ20.out; first | omega | exact Nat.le_refl _⟩, ⟨by (with_reducible repeat (first | apply Kd.R_alloc | apply Kd.R_drewN | apply Kd.R_drew)); exact HO_9.out⟩, ⟨by (with_reducible repeat (first | apply Kd.R_alloc | apply Kd.R_drewN | apply Kd.R_drew)); exact HO_10.out⟩, ⟨by (with_reducible repeat (first | refine blk_drewN ?_ _ | refine blk_drew ?_ | refine blk_alloc ?_ _)); exact BK102.out⟩, ⟨by repeat (first | (with_reducible first | exact HB.out | apply below_alloc | apply pw_below_drewN | apply below_drew1 | refine below_set ?_ GE102.out) | exact HB.out)⟩⟩
                            case rest =>
                              clear HC24
                              try clear c1
                              try clear p1
                              try clear q1
                              try clear hx1
                              try clear c2
                              try clear p2
                              try clear p6
                              try clear c11
                              try clear c11b0
                              try clear p11
                              try clear q11
                              try clear hx11
                              try clear c12
                              try clear c13
                              try clear c13b0
                              try clear c14
                              try clear c14b0
                              try clear c16
                              try clear c16b0
                              try clear c17
                              try clear c17b0
                              try clear c20
                              try clear c20b0
                              try clear c22
                              try clear c25
                              try clear c25b0
                              try clear hcz7_0
                              try clear hcz7_1
                              try clear hcz7_2
                              try clear hcz7_3
                              try clear hcz7_4
                              try clear hcz7_5
                              try clear hcz7_6
                              try clear hcz7_7
                              try clear hcz7_8
                              try clear hcz7_9
                              try clear hfz7_0
                              try clear hfz7_1
                              try clear hfz7_2
                              try clear hfz7_3
                              try clear hfz7_4
                              try clear hfz7_5
                              try clear hfz7_6
                              try clear hfz7_7
                              try clear hfz7_8
                              try clear hfz7_9
                              try clear hx111_0
                              try clear hx112_0
                              try clear p1
                              try clear p11
                              try clear p111
                              try clear p112
                              try clear p2
                              try clear p6
                              try clear q1
                              try clear q11
                              try clear q111
                              try clear q112
                              obtain ⟨kq, x63_23, rfl, HA, HJ23, HO_9, HO_10, BK102, HB⟩ := hcut
                              cases kq with
                              | zero => exact absurd HA.out (by simp [millwrightlaw19_TraceOne.j4])
                              | succ kj23 =>
                                have H := HA.out
                                clear HA
                                simp only [millwrightlaw19_TraceOne.j4] at H
                                have HC26 := Aside0.mk H
                                clear H
                                go_upto_if 63 with (fail)
                                go_cut [14, 15] (fun v14 v15 wc => ∃ (kq : Nat) (x14_25 : Int) (x15_25 : Int), v14 = .int .i64 x14_25 ∧ v15 = .int .i64 x15_25 ∧ Aside0 (millwrightlaw19_TraceOne.j5 kq (wrap64 (1 + (Int.tmod (Go.bits .and .i64 a0 65535) 20))) (Int.tmod (Go.bits .and .i64 a1 65535) 21) l2 t101 y103 x10_1 x11_1 x12_1 x13_1 x14_25 x15_25 x16_1 (rd y103 (ji15)) 5 1 0 0 (wrap64 (1 + (Int.tmod (Go.bits .and .i64 a0 65535) 20))) (Int.tmod (Go.bits .and .i64 a1 65535) 21) 2 0 0 0 = some r) ∧ Aside0 (kq ≤ kj23) ∧ Aside0 (Kd.R (Kd.int .i64) 3 wc w.heap.size (fun _ => True) (.slice (some ad112) y103.length co19) y103) ∧ Aside0 (Kd.R k42 42 wc w.heap.size (fun _ => True) u10 x10_1) ∧ Aside0 (wc.heap[gb102]? = some (.cells #[.int .i64 5, .int .i64 1, .int .i64 0, .int .i64 0, .int .i64 (wrap64 (1 + (Int.tmod (Go.bits .and .i64 a0 65535) 20))), .int .i64 (Int.tmod (Go.bits .and .i64 a1 65535) 21), .int .i64 2, .int .i64 0, .int .i64 0, .int .i64 0] 23 (0, 0))) ∧ Aside0 (Below w.heap.size w wc))
                                case first =>
                                  have H := HC26.out
                                  clear HC26
                                  by_cases c27 : x63_23 = true
                                  · subst c27
                                    have H1 : (millwrightlaw19_TraceOne.j5 kj23 (wrap64 (1 + (Int.tmod (Go.bits .and .i64 a0 65535) 20))) (Int.tmod (Go.bits .and .i64 a1 65535) 21) l2 t101 y103 x10_1 x11_1 x12_1 x13_1 (x10_1.length : Int) 3 x16_1 (rd y103 (ji15)) 5 1 0 0 (wrap64 (1 + (Int.tmod (Go.bits .and .i64 a0 65535) 20))) (Int.tmod (Go.bits .and .i64 a1 65535) 21) 2 0 0 0) = some r := by rw [if_pos rfl] at H; exact H
                                    clear H
                                    have H := H1
                                    clear H1
                                    have H' := Aside0.mk H
                                    clear H
                                    obtain ⟨Ao28, co28, eo28⟩ := Kd.R_slice HO_10.out
                                    subst eo28
                                    go_wp2
                                    go_meet
                                    case rel => exact ⟨_, ((x10_1.length : Int)), (3), (by first | rfl | (simp; done) | (simp [*]; done)), (by first | rfl | (simp; done) | (simp [*]; done)), H', ⟨by have := HK1.out; have := HJ9.out; have := HJ17.out; have := HJ20.out; have := HJ23.out; first | omega | exact Nat.le_refl _⟩, ⟨by (with_reducible repeat (first | apply Kd.R_alloc | apply Kd.R_drewN | apply Kd.R_drew)); exact HO_9.out⟩, ⟨by (with_reducible repeat (first | apply Kd.R_alloc | apply Kd.R_drewN | apply Kd.R_drew)); exact HO_10.out⟩, ⟨by (with_reducible repeat (first | refine blk_drewN ?_ _ | refine blk_drew ?_ | refine blk_alloc ?_ _)); exact BK102.out⟩, ⟨by repeat (first | (with_reducible first | exact HB.out | apply below_alloc | apply pw_below_drewN | apply below_drew1 | refine below_set ?_ GE102.out) | exact HB.out)⟩⟩
                                  · replace c27 := Bool.eq_false_iff.mpr c27
                                    subst c27
                                    have H1 : (millwrightlaw19_TraceOne.j5 kj23 (wrap64 (1 + (Int.tmod (Go.bits .and .i64 a0 65535) 20))) (Int.tmod (Go.bits .and .i64 a1 65535) 21) l2 t101 y103 x10_1 x11_1 x12_1 x13_1 x14_20 x15_20 x16_1 (rd y103 (ji15)) 5 1 0 0 (wrap64 (1 + (Int.tmod (Go.bits .and .i64 a0 65535) 20))) (Int.tmod (Go.bits .and .i64 a1 65535) 21) 2 0 0 0) = some r := by rw [if_neg (show ¬ (false = true) by decide)] at H; exact H
                                    clear H
                                    have H := H1
                                    clear H1
                                    have H' := Aside0.mk H
                                    clear H
                                    go_wp2
                                    go_meet
                                    case rel => exact ⟨_, (x14_20), (x15_20), (by first | rfl | (simp; done) | (simp [*]; done)), (by first | rfl | (simp; done) | (simp [*]; done)), H', ⟨by have := HK1.out; have := HJ9.out; have := HJ17.out; have := HJ20.out; have := HJ23.out; first | omega | exact Nat.le_refl _⟩, ⟨by (with_reducible repeat (first | apply Kd.R_alloc | apply Kd.R_drewN | apply Kd.R_drew)); exact HO_9.out⟩, ⟨by (with_reducible repeat (first | apply Kd.R_alloc | apply Kd.R_drewN | apply Kd.R_drew)); exact HO_10.out⟩, ⟨by (with_reducible repeat (first | refine blk_drewN ?_ _ | refine blk_drew ?_ | refine blk_alloc ?_ _)); exact BK102.out⟩, ⟨by repeat (first | (with_reducible first | exact HB.out | apply below_alloc | apply pw_below_drewN | apply below_drew1 | refine below_set ?_ GE102.out) | exact HB.out)⟩⟩
                                case rest =>
                                  clear HC26
                                  try clear c1
                                  try clear p1
                                  try clear q1
                                  try clear hx1
                                  try clear c2
                                  try clear p2
                                  try clear p6
                                  try clear c11
                                  try clear c11b0
                                  try clear p11
                                  try clear q11
                                  try clear hx11
                                  try clear c12
                                  try clear c13
                                  try clear c13b0
                                  try clear c14
                                  try clear c14b0
                                  try clear c16
                                  try clear c16b0
                                  try clear c17
                                  try clear c17b0
                                  try clear c20
                                  try clear c20b0
                                  try clear c22
                                  try clear c25
                                  try clear c25b0
                                  try clear c27
                                  try clear hcz7_0
                                  try clear hcz7_1
                                  try clear hcz7_2
                                  try clear hcz7_3
                                  try clear hcz7_4
                                  try clear hcz7_5
                                  try clear hcz7_6
                                  try clear hcz7_7
                                  try clear hcz7_8
                                  try clear hcz7_9
                                  try clear hfz7_0
                                  try clear hfz7_1
                                  try clear hfz7_2
                                  try clear hfz7_3
                                  try clear hfz7_4
                                  try clear hfz7_5
                                  try clear hfz7_6
                                  try clear hfz7_7
                                  try clear hfz7_8
                                  try clear hfz7_9
                                  try clear hx111_0
                                  try clear hx112_0
                                  try clear p1
                                  try clear p11
                                  try clear p111
                                  try clear p112
                                  try clear p2
                                  try clear p6
                                  try clear q1
                                  try clear q11
                                  try clear q111
                                  try clear q112
                                  obtain ⟨kq, x14_25, x15_25, rfl, rfl, HA, HJ25, HO_9, HO_10, BK102, HB⟩ := hcut
                                  cases kq with
                                  | zero => exact absurd HA.out (by simp [millwrightlaw19_TraceOne.j5])
                                  | succ kj25 =>
                                    have H := HA.out
                                    clear HA
                                    simp only [millwrightlaw19_TraceOne.j5] at H
                                    by_cases c29 : x10_1.length < 3518437208883
                                    · rw [if_pos c29] at H
                                      have LMc29 := Aside0.mk c29
                                      clear c29
                                      obtain ⟨y113, hy113⟩ : ∃ y_ : List (S42), y_ = (x10_1 ++ [(⟨1, 0, 0, x16_1, wrap64 (2 * x16_1)⟩ : S42)]) := ⟨_, rfl⟩
                                      replace H : (if x14_25 < 0 then (if (rd y103 (ji15)) = 6 then (millwrightlaw19_TraceOne.j6 kj25 (wrap64 (1 + (Int.tmod (Go.bits .and .i64 a0 65535) 20))) (Int.tmod (Go.bits .and .i64 a1 65535) 21) l2 t101 y103 y113 x11_1 x12_1 x13_1 x14_25 x15_25 x16_1 (rd y103 (ji15)) (decide (x12_1 ≥ (Int.tmod (Go.bits .and .i64 a1 65535) 21))) 5 1 0 0 (wrap64 (1 + (Int.tmod (Go.bits .and .i64 a0 65535) 20))) (Int.tmod (Go.bits .and .i64 a1 65535) 21) 2 0 0 0) else (millwrightlaw19_TraceOne.j6 kj25 (wrap64 (1 + (Int.tmod (Go.bits .and .i64 a0 65535) 20))) (Int.tmod (Go.bits .and .i64 a1 65535) 21) l2 t101 y103 y113 x11_1 x12_1 x13_1 x14_25 x15_25 x16_1 (rd y103 (ji15)) false 5 1 0 0 (wrap64 (1 + (Int.tmod (Go.bits .and .i64 a0 65535) 20))) (Int.tmod (Go.bits .and .i64 a1 65535) 21) 2 0 0 0)) else (millwrightlaw19_TraceOne.j6 kj25 (wrap64 (1 + (Int.tmod (Go.bits .and .i64 a0 65535) 20))) (Int.tmod (Go.bits .and .i64 a1 65535) 21) l2 t101 y103 y113 x11_1 x12_1 x13_1 x14_25 x15_25 x16_1 (rd y103 (ji15)) false 5 1 0 0 (wrap64 (1 + (Int.tmod (Go.bits .and .i64 a0 65535) 20))) (Int.tmod (Go.bits .and .i64 a1 65535) 21) 2 0 0 0)) = some r := by first | (rw [hy113]; with_reducible exact H) | (have H2_ := (Option.bind_some _ _).symm.trans H; rw [hy113]; with_reducible exact H2_) | (have H2_ := (Option.bind_some _ _).symm.trans H; with_reducible exact H2_) | with_reducible exact H | (rw [hy113]; exact H) | exact H
                                      have Ny113 := Aside0.mk hy113
                                      clear hy113
                                      have HC30 := Aside0.mk H
                                      clear H
                                      go_upto_region 23 with (first | ((with_reducible refine gate_builtin (b := .append) (xs := #[.tmp 66, .tmp 71]) rfl ?_); at_builtin; refine Kd.R_append k42 (w0 := w) w.heap.size rfl (.tmp 66) (.tmp 71) 25 42 (.agg #[(.int .i64 0), (.int .i64 0), (.int .i64 0), (.int .i64 0), (.int .i64 0)]) 40 rfl Tryd.underlying25 info42 rfl (by decide) (by omega) u10 x10_1 (⟨1, 0, 0, x16_1, wrap64 (2 * x16_1)⟩ : S42) [.int .i64 1, .int .i64 0, .int .i64 0, .int .i64 x16_1, .int .i64 (wrap64 (2 * x16_1))] (fun _ => True) (fun _ => False) rfl rfl ?aP (fun _ hk => hk.elim) ?aF ?aO ?aB ?aS ?aL ?_; (case aP => exact k42_mkM _ _ _ (⟨1, 0, 0, x16_1, wrap64 (2 * x16_1)⟩ : S42)); (case aB => exact (by repeat (first | (with_reducible first | exact HB.out | apply below_alloc | apply pw_below_drewN | apply below_drew1 | refine below_set ?_ GE102.out) | exact HB.out))); (case aF => exact (fun _ _ => trivial)); (case aO => exact (by (with_reducible repeat (first | apply Kd.R_alloc | apply Kd.R_drewN | apply Kd.R_drew)); exact HO_10.out)); (case aS => exact (below_size (by repeat (first | (with_reducible first | exact HB.out | apply below_alloc | apply pw_below_drewN | apply below_drew1 | refine below_set ?_ GE102.out) | exact HB.out)))); (case aL => have := LMc29.out; omega); intro v114 w31 ho hb hg hat; rw [← Ny113.out] at ho; have n0_ := Aside0.mk (Kd.R_over' (by (with_reducible repeat (first | apply Kd.R_alloc | apply Kd.R_drewN | apply Kd.R_drew)); exact HO_9.out) (Kd.R_typed (by (with_reducible repeat (first | apply Kd.R_alloc | apply Kd.R_drewN | apply Kd.R_drew)); exact HO_10.out)) (by decide) hg); have n1_ := Aside0.mk (blk_grown (g := gb102) (o := .cells #[.int .i64 5, .int .i64 1, .int .i64 0, .int .i64 0, .int .i64 (wrap64 (1 + (Int.tmod (Go.bits .and .i64 a0 65535) 20))), .int .i64 (Int.tmod (Go.bits .and .i64 a1 65535) 21), .int .i64 2, .int .i64 0, .int .i64 0, .int .i64 0] 23 (0, 0)) (by (with_reducible repeat (first | refine blk_drewN ?_ _ | refine blk_drew ?_ | refine blk_alloc ?_ _)); exact BK102.out) hg (Kd.R_ne HO_10.out BK102.out (by decide))); have n2_ := Aside0.mk (hb); have n3_ := Aside0.mk (ho); clear HO_9; clear BK102; clear HB; clear HO_10; have HO_9 := n0_; have BK102 := n1_; have HB := n2_; have HO115 := n3_; clear n0_ n1_ n2_ n3_; clear ho hb hg hat))
                                      (try simp only [Act.put, List.setIfInBounds_toArray, List.set_cons_zero, List.set_cons_succ])
                                      go_cut [83] (fun v83 wc => ∃ (kq : Nat) (x83_29 : Bool), v83 = .bool x83_29 ∧ Aside0 (millwrightlaw19_TraceOne.j6 kq (wrap64 (1 + (Int.tmod (Go.bits .and .i64 a0 65535) 20))) (Int.tmod (Go.bits .and .i64 a1 65535) 21) l2 t101 y103 y113 x11_1 x12_1 x13_1 x14_25 x15_25 x16_1 (rd y103 (ji15)) x83_29 5 1 0 0 (wrap64 (1 + (Int.tmod (Go.bits .and .i64 a0 65535) 20))) (Int.tmod (Go.bits .and .i64 a1 65535) 21) 2 0 0 0 = some r) ∧ Aside0 (kq ≤ kj25) ∧ Aside0 (Kd.R (Kd.int .i64) 3 wc w.heap.size (fun _ => True) (.slice (some ad112) y103.length co19) y103) ∧ Aside0 (Kd.R k42 42 wc w.heap.size (fun _ => True) v114 y113) ∧ Aside0 (wc.heap[gb102]? = some (.cells #[.int .i64 5, .int .i64 1, .int .i64 0, .int .i64 0, .int .i64 (wrap64 (1 + (Int.tmod (Go.bits .and .i64 a0 65535) 20))), .int .i64 (Int.tmod (Go.bits .and .i64 a1 65535) 21), .int .i64 2, .int .i64 0, .int .i64 0, .int .i64 0] 23 (0, 0))) ∧ Aside0 (Below w.heap.size w wc))
                                      case first =>
                                        have H := HC30.out
                                        clear HC30
                                        by_cases c32 : x14_25 < 0
                                        · rw [if_pos c32] at H
                                          have c32b0 : decide (x14_25 < 0) = true := decide_eq_true c32
                                          clear c32
                                          (first | rw [c32b0] | (simp only [i64_w, i32_w]; rw [c32b0]) | skip)
                                          by_cases c33 : (rd y103 (ji15)) = 6
                                          · rw [if_pos c33] at H
                                            have c33b0 : ((rd y103 (ji15)) == 6) = true := beq_iff_eq.mpr c33
                                            have c33b1 : ((rd y103 (ji15)) != 6) = false := bne_eq_false_iff_eq.mpr c33
                                            clear c33
                                            have H' := Aside0.mk H
                                            clear H
                                            go_wp2
                                            go_meet
                                            case rel => exact ⟨_, (decide (x12_1 ≥ (Int.tmod (Go.bits .and .i64 a1 65535) 21))), (by first | rfl | (simp; done) | (simp [*]; done)), H', ⟨by have := HK1.out; have := HJ9.out; have := HJ17.out; have := HJ20.out; have := HJ23.out; have := HJ25.out; first | omega | exact Nat.le_refl _⟩, ⟨by (with_reducible repeat (first | apply Kd.R_alloc | apply Kd.R_drewN | apply Kd.R_drew)); exact HO_9.out⟩, ⟨by (with_reducible repeat (first | apply Kd.R_alloc | apply Kd.R_drewN | apply Kd.R_drew)); exact HO115.out⟩, ⟨by (with_reducible repeat (first | refine blk_drewN ?_ _ | refine blk_drew ?_ | refine blk_alloc ?_ _)); exact BK102.out⟩, ⟨by repeat (first | (with_reducible first | exact HB.out | apply below_alloc | apply pw_below_drewN | apply below_drew1 | refine below_set ?_ GE102.out) | exact HB.out)⟩⟩
                                          · rw [if_neg c33] at H
                                            have c33b0 : ((rd y103 (ji15)) == 6) = false := beq_eq_false_iff_ne.mpr c33
                                            have c33b1 : ((rd y103 (ji15)) != 6) = true := bne_iff_ne.mpr c33
                                            have H' := Aside0.mk H
                                            clear H
                                            go_wp2
                                            go_meet
                                            case rel => exact ⟨_, (false), (by first | rfl | (simp; done) | (simp [*]; done)), H', ⟨by have := HK1.out; have := HJ9.out; have := HJ17.out; have := HJ20.out; have := HJ23.out; have := HJ25.out; first | omega | exact Nat.le_refl _⟩, ⟨by (with_reducible repeat (first | apply Kd.R_alloc | apply Kd.R_drewN | apply Kd.R_drew)); exact HO_9.out⟩, ⟨by (with_reducible repeat (first | apply Kd.R_alloc | apply Kd.R_drewN | apply Kd.R_drew)); exact HO115.out⟩, ⟨by (with_reducible repeat (first | refine blk_drewN ?_ _ | refine blk_drew ?_ | refine blk_alloc ?_ _)); exact BK102.out⟩, ⟨by repeat (first | (with_reducible first | exact HB.out | apply below_alloc | apply pw_below_drewN | apply below_drew1 | refine below_set ?_ GE102.out) | exact HB.out)⟩⟩
                                        · rw [if_neg c32] at H
                                          have c32b0 : decide (x14_25 < 0) = false := decide_eq_false c32
                                          clear c32
                                          (first | rw [c32b0] | (simp only [i64_w, i32_w]; rw [c32b0]) | skip)
                                          have H' := Aside0.mk H
                                          clear H
                                          go_wp2
                                          go_meet
                                          case rel => exact ⟨_, (false), (by first | rfl | (simp; done) | (simp [*]; done)), H', ⟨by have := HK1.out; have := HJ9.out; have := HJ17.out; have := HJ20.out; have := HJ23.out; have := HJ25.out; first | omega | exact Nat.le_refl _⟩, ⟨by (with_reducible repeat (first | apply Kd.R_alloc | apply Kd.R_drewN | apply Kd.R_drew)); exact HO_9.out⟩, ⟨by (with_reducible repeat (first | apply Kd.R_alloc | apply Kd.R_drewN | apply Kd.R_drew)); exact HO115.out⟩, ⟨by (with_reducible repeat (first | refine blk_drewN ?_ _ | refine blk_drew ?_ | refine blk_alloc ?_ _)); exact BK102.out⟩, ⟨by repeat (first | (with_reducible first | exact HB.out | apply below_alloc | apply pw_below_drewN | apply below_drew1 | refine below_set ?_ GE102.out) | exact HB.out)⟩⟩
                                      case rest =>
                                        clear HC30
                                        try clear c1
                                        try clear p1
                                        try clear q1
                                        try clear hx1
                                        try clear c2
                                        try clear p2
                                        try clear c3
                                        try clear p6
                                        try clear c11
                                        try clear c11b0
                                        try clear p11
                                        try clear q11
                                        try clear hx11
                                        try clear c12
                                        try clear c13
                                        try clear c13b0
                                        try clear c14
                                        try clear c14b0
                                        try clear c16
                                        try clear c16b0
                                        try clear c17
                                        try clear c17b0
                                        try clear c20
                                        try clear c20b0
                                        try clear c22
                                        try clear c25
                                        try clear c25b0
                                        try clear c27
                                        try clear c29
                                        try clear c32
                                        try clear c32b0
                                        try clear c33
                                        try clear c33b0
                                        try clear c33b1
                                        try clear hcz7_0
                                        try clear hcz7_1
                                        try clear hcz7_2
                                        try clear hcz7_3
                                        try clear hcz7_4
                                        try clear hcz7_5
                                        try clear hcz7_6
                                        try clear hcz7_7
                                        try clear hcz7_8
                                        try clear hcz7_9
                                        try clear hfz7_0
                                        try clear hfz7_1
                                        try clear hfz7_2
                                        try clear hfz7_3
                                        try clear hfz7_4
                                        try clear hfz7_5
                                        try clear hfz7_6
                                        try clear hfz7_7
                                        try clear hfz7_8
                                        try clear hfz7_9
                                        try clear hx111_0
                                        try clear hx112_0
                                        try clear p1
                                        try clear p11
                                        try clear p111
                                        try clear p112
                                        try clear p2
                                        try clear p6
                                        try clear q1
                                        try clear q11
                                        try clear q111
                                        try clear q112
                                        obtain ⟨kq, x83_29, rfl, HA, HJ29, HO_9, HO_10, BK102, HB⟩ := hcut
                                        cases kq with
                                        | zero => exact absurd HA.out (by simp [millwrightlaw19_TraceOne.j6])
                                        | succ kj29 =>
                                          have H := HA.out
                                          clear HA
                                          simp only [millwrightlaw19_TraceOne.j6] at H
                                          have HC34 := Aside0.mk H
                                          clear H
                                          go_upto_if 83 with (fail)
                                          go_cut [14, 15] (fun v14 v15 wc => ∃ (kq : Nat) (x14_33 : Int) (x15_33 : Int), v14 = .int .i64 x14_33 ∧ v15 = .int .i64 x15_33 ∧ Aside0 (millwrightlaw19_TraceOne.j7 kq (wrap64 (1 + (Int.tmod (Go.bits .and .i64 a0 65535) 20))) (Int.tmod (Go.bits .and .i64 a1 65535) 21) l2 t101 y103 y113 x11_1 x12_1 x13_1 x14_33 x15_33 x16_1 (rd y103 (ji15)) 5 1 0 0 (wrap64 (1 + (Int.tmod (Go.bits .and .i64 a0 65535) 20))) (Int.tmod (Go.bits .and .i64 a1 65535) 21) 2 0 0 0 = some r) ∧ Aside0 (kq ≤ kj29) ∧ Aside0 (Kd.R (Kd.int .i64) 3 wc w.heap.size (fun _ => True) (.slice (some ad112) y103.length co19) y103) ∧ Aside0 (Kd.R k42 42 wc w.heap.size (fun _ => True) v114 y113) ∧ Aside0 (wc.heap[gb102]? = some (.cells #[.int .i64 5, .int .i64 1, .int .i64 0, .int .i64 0, .int .i64 (wrap64 (1 + (Int.tmod (Go.bits .and .i64 a0 65535) 20))), .int .i64 (Int.tmod (Go.bits .and .i64 a1 65535) 21), .int .i64 2, .int .i64 0, .int .i64 0, .int .i64 0] 23 (0, 0))) ∧ Aside0 (Below w.heap.size w wc))
                                          case first =>
                                            have H := HC34.out
                                            clear HC34
                                            by_cases c35 : x83_29 = true
                                            · subst c35
                                              have H1 : (millwrightlaw19_TraceOne.j7 kj29 (wrap64 (1 + (Int.tmod (Go.bits .and .i64 a0 65535) 20))) (Int.tmod (Go.bits .and .i64 a1 65535) 21) l2 t101 y103 y113 x11_1 x12_1 x13_1 (y113.length : Int) 3 x16_1 (rd y103 (ji15)) 5 1 0 0 (wrap64 (1 + (Int.tmod (Go.bits .and .i64 a0 65535) 20))) (Int.tmod (Go.bits .and .i64 a1 65535) 21) 2 0 0 0) = some r := by rw [if_pos rfl] at H; exact H
                                              clear H
                                              have H := H1
                                              clear H1
                                              have H' := Aside0.mk H
                                              clear H
                                              obtain ⟨Ao36, co36, eo36⟩ := Kd.R_slice HO_10.out
                                              subst eo36
                                              go_wp2
                                              go_meet
                                              case rel => exact ⟨_, ((y113.length : Int)), (3), (by first | rfl | (simp; done) | (simp [*]; done)), (by first | rfl | (simp; done) | (simp [*]; done)), H', ⟨by have := HK1.out; have := HJ9.out; have := HJ17.out; have := HJ20.out; have := HJ23.out; have := HJ25.out; have := HJ29.out; first | omega | exact Nat.le_refl _⟩, ⟨by (with_reducible repeat (first | apply Kd.R_alloc | apply Kd.R_drewN | apply Kd.R_drew)); exact HO_9.out⟩, ⟨by (with_reducible repeat (first | apply Kd.R_alloc | apply Kd.R_drewN | apply Kd.R_drew)); exact HO_10.out⟩, ⟨by (with_reducible repeat (first | refine blk_drewN ?_ _ | refine blk_drew ?_ | refine blk_alloc ?_ _)); exact BK102.out⟩, ⟨by repeat (first | (with_reducible first | exact HB.out | apply below_alloc | apply pw_below_drewN | apply below_drew1 | refine below_set ?_ GE102.out) | exact HB.out)⟩⟩
                                            · replace c35 := Bool.eq_false_iff.mpr c35
                                              subst c35
                                              have H1 : (millwrightlaw19_TraceOne.j7 kj29 (wrap64 (1 + (Int.tmod (Go.bits .and .i64 a0 65535) 20))) (Int.tmod (Go.bits .and .i64 a1 65535) 21) l2 t101 y103 y113 x11_1 x12_1 x13_1 x14_25 x15_25 x16_1 (rd y103 (ji15)) 5 1 0 0 (wrap64 (1 + (Int.tmod (Go.bits .and .i64 a0 65535) 20))) (Int.tmod (Go.bits .and .i64 a1 65535) 21) 2 0 0 0) = some r := by rw [if_neg (show ¬ (false = true) by decide)] at H; exact H
                                              clear H
                                              have H := H1
                                              clear H1
                                              have H' := Aside0.mk H
                                              clear H
                                              go_wp2
                                              go_meet
                                              case rel => exact ⟨_, (x14_25), (x15_25), (by first | rfl | (simp; done) | (simp [*]; done)), (by first | rfl | (simp; done) | (simp [*]; done)), H', ⟨by have := HK1.out; have := HJ9.out; have := HJ17.out; have := HJ20.out; have := HJ23.out; have := HJ25.out; have := HJ29.out; first | omega | exact Nat.le_refl _⟩, ⟨by (with_reducible repeat (first | apply Kd.R_alloc | apply Kd.R_drewN | apply Kd.R_drew)); exact HO_9.out⟩, ⟨by (with_reducible repeat (first | apply Kd.R_alloc | apply Kd.R_drewN | apply Kd.R_drew)); exact HO_10.out⟩, ⟨by (with_reducible repeat (first | refine blk_drewN ?_ _ | refine blk_drew ?_ | refine blk_alloc ?_ _)); exact BK102.out⟩, ⟨by repeat (first | (with_reducible first | exact HB.out | apply below_alloc | apply pw_below_drewN | apply below_drew1 | refine below_set ?_ GE102.out) | exact HB.out)⟩⟩
                                          case rest =>
                                            clear HC34
                                            try clear c1
                                            try clear p1
                                            try clear q1
                                            try clear hx1
                                            try clear c2
                                            try clear p2
                                            try clear c3
                                            try clear p6
                                            try clear c11
                                            try clear c11b0
                                            try clear p11
                                            try clear q11
                                            try clear hx11
                                            try clear c12
                                            try clear c13
                                            try clear c13b0
                                            try clear c14
                                            try clear c14b0
                                            try clear c16
                                            try clear c16b0
                                            try clear c17
                                            try clear c17b0
                                            try clear c20
                                            try clear c20b0
                                            try clear c22
                                            try clear c25
                                            try clear c25b0
                                            try clear c27
                                            try clear c29
                                            try clear c32
                                            try clear c32b0
                                            try clear c33
                                            try clear c33b0
                                            try clear c33b1
                                            try clear c35
                                            try clear hcz7_0
                                            try clear hcz7_1
                                            try clear hcz7_2
                                            try clear hcz7_3
                                            try clear hcz7_4
                                            try clear hcz7_5
                                            try clear hcz7_6
                                            try clear hcz7_7
                                            try clear hcz7_8
                                            try clear hcz7_9
                                            try clear hfz7_0
                                            try clear hfz7_1
                                            try clear hfz7_2
                                            try clear hfz7_3
                                            try clear hfz7_4
                                            try clear hfz7_5
                                            try clear hfz7_6
                                            try clear hfz7_7
                                            try clear hfz7_8
                                            try clear hfz7_9
                                            try clear hx111_0
                                            try clear hx112_0
                                            try clear p1
                                            try clear p11
                                            try clear p111
                                            try clear p112
                                            try clear p2
                                            try clear p6
                                            try clear q1
                                            try clear q11
                                            try clear q111
                                            try clear q112
                                            obtain ⟨kq, x14_33, x15_33, rfl, rfl, HA, HJ33, HO_9, HO_10, BK102, HB⟩ := hcut
                                            cases kq with
                                            | zero => exact absurd HA.out (by simp [millwrightlaw19_TraceOne.j7])
                                            | succ kj33 =>
                                              have H := HA.out
                                              clear HA
                                              simp only [millwrightlaw19_TraceOne.j7] at H
                                              by_cases c37 : y113.length < 3518437208883
                                              · rw [if_pos c37] at H
                                                have LMc37 := Aside0.mk c37
                                                clear c37
                                                obtain ⟨y116, hy116⟩ : ∃ y_ : List (S42), y_ = (y113 ++ [(⟨(rd y103 (ji15)), 0, 0, x16_1, wrap64 ((wrap64 (2 * x16_1)) + 2)⟩ : S42)]) := ⟨_, rfl⟩
                                                replace H : (if (rd y103 (ji15)) = 2 then (millwrightlaw19_TraceOne.l0 kj33 (wrap64 (1 + (Int.tmod (Go.bits .and .i64 a0 65535) 20))) (Int.tmod (Go.bits .and .i64 a1 65535) 21) l2 t101 y103 y116 x11_1 x12_1 true x14_33 x15_33 (wrap64 (x16_1 + 1)) 5 1 0 0 (wrap64 (1 + (Int.tmod (Go.bits .and .i64 a0 65535) 20))) (Int.tmod (Go.bits .and .i64 a1 65535) 21) 2 0 0 0) else (if (rd y103 (ji15)) = 3 then (millwrightlaw19_TraceOne.j8 kj33 (wrap64 (1 + (Int.tmod (Go.bits .and .i64 a0 65535) 20))) (Int.tmod (Go.bits .and .i64 a1 65535) 21) l2 t101 y103 y116 x11_1 x12_1 x13_1 x14_33 x15_33 x16_1 (rd y103 (ji15)) ((rd y103 (ji15)) == 3) 5 1 0 0 (wrap64 (1 + (Int.tmod (Go.bits .and .i64 a0 65535) 20))) (Int.tmod (Go.bits .and .i64 a1 65535) 21) 2 0 0 0) else (millwrightlaw19_TraceOne.j8 kj33 (wrap64 (1 + (Int.tmod (Go.bits .and .i64 a0 65535) 20))) (Int.tmod (Go.bits .and .i64 a1 65535) 21) l2 t101 y103 y116 x11_1 x12_1 x13_1 x14_33 x15_33 x16_1 (rd y103 (ji15)) ((rd y103 (ji15)) == 5) 5 1 0 0 (wrap64 (1 + (Int.tmod (Go.bits .and .i64 a0 65535) 20))) (Int.tmod (Go.bits .and .i64 a1 65535) 21) 2 0 0 0))) = some r := by first | (rw [hy116]; with_reducible exact H) | (have H2_ := (Option.bind_some _ _).symm.trans H; rw [hy116]; with_reducible exact H2_) | (have H2_ := (Option.bind_some _ _).symm.trans H; with_reducible exact H2_) | with_reducible exact H | (rw [hy116]; exact H) | exact H
                                                have Ny116 := Aside0.mk hy116
                                                clear hy116
                                                by_cases c38 : (rd y103 (ji15)) = 2
                                                · rw [if_pos c38] at H
                                                  have c38b0 : ((rd y103 (ji15)) == 2) = true := beq_iff_eq.mpr c38
                                                  have c38b1 : ((rd y103 (ji15)) != 2) = false := bne_eq_false_iff_eq.mpr c38
                                                  clear c38
                                                  have H' := Aside0.mk H
                                                  clear H
                                                  go_wp2_with (first | ((with_reducible refine gate_builtin (b := .append) (xs := #[.tmp 86, .tmp 93]) rfl ?_); at_builtin; refine Kd.R_append k42 (w0 := w) w.heap.size rfl (.tmp 86) (.tmp 93) 25 42 (.agg #[(.int .i64 0), (.int .i64 0), (.int .i64 0), (.int .i64 0), (.int .i64 0)]) 40 rfl Tryd.underlying25 info42 rfl (by decide) (by omega) v114 y113 (⟨(rd y103 (ji15)), 0, 0, x16_1, wrap64 ((wrap64 (2 * x16_1)) + 2)⟩ : S42) [.int .i64 (rd y103 (ji15)), .int .i64 0, .int .i64 0, .int .i64 x16_1, .int .i64 (wrap64 ((wrap64 (2 * x16_1)) + 2))] (fun _ => True) (fun _ => False) rfl rfl ?aP (fun _ hk => hk.elim) ?aF ?aO ?aB ?aS ?aL ?_; (case aP => exact k42_mkM _ _ _ (⟨(rd y103 (ji15)), 0, 0, x16_1, wrap64 ((wrap64 (2 * x16_1)) + 2)⟩ : S42)); (case aB => exact (by repeat (first | (with_reducible first | exact HB.out | apply below_alloc | apply pw_below_drewN | apply below_drew1 | refine below_set ?_ GE102.out) | exact HB.out))); (case aF => exact (fun _ _ => trivial)); (case aO => exact (by (with_reducible repeat (first | apply Kd.R_alloc | apply Kd.R_drewN | apply Kd.R_drew)); exact HO_10.out)); (case aS => exact (below_size (by repeat (first | (with_reducible first | exact HB.out | apply below_alloc | apply pw_below_drewN | apply below_drew1 | refine below_set ?_ GE102.out) | exact HB.out)))); (case aL => have := LMc37.out; omega); intro v117 w39 ho hb hg hat; rw [← Ny116.out] at ho; have n0_ := Aside0.mk (Kd.R_over' (by (with_reducible repeat (first | apply Kd.R_alloc | apply Kd.R_drewN | apply Kd.R_drew)); exact HO_9.out) (Kd.R_typed (by (with_reducible repeat (first | apply Kd.R_alloc | apply Kd.R_drewN | apply Kd.R_drew)); exact HO_10.out)) (by decide) hg); have n1_ := Aside0.mk (blk_grown (g := gb102) (o := .cells #[.int .i64 5, .int .i64 1, .int .i64 0, .int .i64 0, .int .i64 (wrap64 (1 + (Int.tmod (Go.bits .and .i64 a0 65535) 20))), .int .i64 (Int.tmod (Go.bits .and .i64 a1 65535) 21), .int .i64 2, .int .i64 0, .int .i64 0, .int .i64 0] 23 (0, 0)) (by (with_reducible repeat (first | refine blk_drewN ?_ _ | refine blk_drew ?_ | refine blk_alloc ?_ _)); exact BK102.out) hg (Kd.R_ne HO_10.out BK102.out (by decide))); have n2_ := Aside0.mk (hb); have n3_ := Aside0.mk (ho); clear HO_9; clear BK102; clear HB; clear HO_10; have HO_9 := n0_; have BK102 := n1_; have HB := n2_; have HO118 := n3_; clear n0_ n1_ n2_ n3_; clear ho hb hg hat))
                                                  go_roundg kj33
                                                  case measure => have := HK1.out; have := HJ9.out; have := HJ17.out; have := HJ20.out; have := HJ23.out; have := HJ25.out; have := HJ29.out; have := HJ33.out; omega
                                                  case rel => exact ⟨(y116), (x11_1), (x12_1), (true), (x14_33), (x15_33), (wrap64 (x16_1 + 1)), (by first | rfl | (simp; done) | (simp [*]; done)), (by first | rfl | (simp; done) | (simp [*]; done)), (by first | rfl | (simp; done) | (simp [*]; done)), (by first | rfl | (simp; done) | (simp [*]; done)), (by first | rfl | (simp; done) | (simp [*]; done)), (by first | rfl | (simp; done) | (simp [*]; done)), H', ⟨by have := HK1.out; have := HJ9.out; have := HJ17.out; have := HJ20.out; have := HJ23.out; have := HJ25.out; have := HJ29.out; have := HJ33.out; omega⟩, ⟨by (with_reducible repeat (first | apply Kd.R_alloc | apply Kd.R_drewN | apply Kd.R_drew)); exact HO_9.out⟩, ⟨by (with_reducible repeat (first | apply Kd.R_alloc | apply Kd.R_drewN | apply Kd.R_drew)); exact HO118.out⟩, ⟨by (with_reducible repeat (first | refine blk_drewN ?_ _ | refine blk_drew ?_ | refine blk_alloc ?_ _)); exact BK102.out⟩, ⟨by repeat (first | (with_reducible first | exact HB.out | apply below_alloc | apply pw_below_drewN | apply below_drew1 | refine below_set ?_ GE102.out) | exact HB.out)⟩⟩
                                                · rw [if_neg c38] at H
                                                  have c38b0 : ((rd y103 (ji15)) == 2) = false := beq_eq_false_iff_ne.mpr c38
                                                  have c38b1 : ((rd y103 (ji15)) != 2) = true := bne_iff_ne.mpr c38
                                                  have HC40 := Aside0.mk H
                                                  clear H
                                                  go_upto_if 98 with (first | ((with_reducible refine gate_builtin (b := .append) (xs := #[.tmp 86, .tmp 93]) rfl ?_); at_builtin; refine Kd.R_append k42 (w0 := w) w.heap.size rfl (.tmp 86) (.tmp 93) 25 42 (.agg #[(.int .i64 0), (.int .i64 0), (.int .i64 0), (.int .i64 0), (.int .i64 0)]) 40 rfl Tryd.underlying25 info42 rfl (by decide) (by omega) v114 y113 (⟨(rd y103 (ji15)), 0, 0, x16_1, wrap64 ((wrap64 (2 * x16_1)) + 2)⟩ : S42) [.int .i64 (rd y103 (ji15)), .int .i64 0, .int .i64 0, .int .i64 x16_1, .int .i64 (wrap64 ((wrap64 (2 * x16_1)) + 2))] (fun _ => True) (fun _ => False) rfl rfl ?aP (fun _ hk => hk.elim) ?aF ?aO ?aB ?aS ?aL ?_; (case aP => exact k42_mkM _ _ _ (⟨(rd y103 (ji15)), 0, 0, x16_1, wrap64 ((wrap64 (2 * x16_1)) + 2)⟩ : S42)); (case aB => exact (by repeat (first | (with_reducible first | exact HB.out | apply below_alloc | apply pw_below_drewN | apply below_drew1 | refine below_set ?_ GE102.out) | exact HB.out))); (case aF => exact (fun _ _ => trivial)); (case aO => exact (by (with_reducible repeat (first | apply Kd.R_alloc | apply Kd.R_drewN | apply Kd.R_drew)); exact HO_10.out)); (case aS => exact (below_size (by repeat (first | (with_reducible first | exact HB.out | apply below_alloc | apply pw_below_drewN | apply below_drew1 | refine below_set ?_ GE102.out) | exact HB.out)))); (case aL => have := LMc37.out; omega); intro v117 w41 ho hb hg hat; rw [← Ny116.out] at ho; have n0_ := Aside0.mk (Kd.R_over' (by (with_reducible repeat (first | apply Kd.R_alloc | apply Kd.R_drewN | apply Kd.R_drew)); exact HO_9.out) (Kd.R_typed (by (with_reducible repeat (first | apply Kd.R_alloc | apply Kd.R_drewN | apply Kd.R_drew)); exact HO_10.out)) (by decide) hg); have n1_ := Aside0.mk (blk_grown (g := gb102) (o := .cells #[.int .i64 5, .int .i64 1, .int .i64 0, .int .i64 0, .int .i64 (wrap64 (1 + (Int.tmod (Go.bits .and .i64 a0 65535) 20))), .int .i64 (Int.tmod (Go.bits .and .i64 a1 65535) 21), .int .i64 2, .int .i64 0, .int .i64 0, .int .i64 0] 23 (0, 0)) (by (with_reducible repeat (first | refine blk_drewN ?_ _ | refine blk_drew ?_ | refine blk_alloc ?_ _)); exact BK102.out) hg (Kd.R_ne HO_10.out BK102.out (by decide))); have n2_ := Aside0.mk (hb); have n3_ := Aside0.mk (ho); clear HO_9; clear BK102; clear HB; clear HO_10; have HO_9 := n0_; have BK102 := n1_; have HB := n2_; have HO118 := n3_; clear n0_ n1_ n2_ n3_; clear ho hb hg hat))
                                                  (try simp only [Act.put, List.setIfInBounds_toArray, List.set_cons_zero, List.set_cons_succ])
                                                  go_cut [98] (fun v98 wc => ∃ (kq : Nat) (x98_39 : Bool), v98 = .bool x98_39 ∧ Aside0 (millwrightlaw19_TraceOne.j8 kq (wrap64 (1 + (Int.tmod (Go.bits .and .i64 a0 65535) 20))) (Int.tmod (Go.bits .and .i64 a1 65535) 21) l2 t101 y103 y116 x11_1 x12_1 x13_1 x14_33 x15_33 x16_1 (rd y103 (ji15)) x98_39 5 1 0 0 (wrap64 (1 + (Int.tmod (Go.bits .and .i64 a0 65535) 20))) (Int.tmod (Go.bits .and .i64 a1 65535) 21) 2 0 0 0 = some r) ∧ Aside0 (kq ≤ kj33) ∧ Aside0 (Kd.R (Kd.int .i64) 3 wc w.heap.size (fun _ => True) (.slice (some ad112) y103.length co19) y103) ∧ Aside0 (Kd.R k42 42 wc w.heap.size (fun _ => True) v117 y116) ∧ Aside0 (wc.heap[gb102]? = some (.cells #[.int .i64 5, .int .i64 1, .int .i64 0, .int .i64 0, .int .i64 (wrap64 (1 + (Int.tmod (Go.bits .and .i64 a0 65535) 20))), .int .i64 (Int.tmod (Go.bits .and .i64 a1 65535) 21), .int .i64 2, .int .i64 0, .int .i64 0, .int .i64 0] 23 (0, 0))) ∧ Aside0 (Below w.heap.size w wc))
                                                  case first =>
                                                    have H := HC40.out
                                                    clear HC40
                                                    by_cases c42 : (rd y103 (ji15)) = 3
                                                    · rw [if_pos c42] at H
                                                      have c42b0 : ((rd y103 (ji15)) == 3) = true := beq_iff_eq.mpr c42
                                                      have c42b1 : ((rd y103 (ji15)) != 3) = false := bne_eq_false_iff_eq.mpr c42
                                                      clear c42
                                                      (first | rw [c42b0] | (simp only [i64_w, i32_w]; rw [c42b0]) | skip)
                                                      have H' := Aside0.mk H
                                                      clear H
                                                      go_wp2
                                                      go_meet
                                                      case rel => exact ⟨_, (((rd y103 (ji15)) == 3)), (by first | rfl | (simp; done) | (simp only [← hji15] <;> (first | rfl | (simp; done))) | (have c9 := beq_iff_eq.1 c42b0; simp only [← hji15] at c9 ⊢; simp [c9]; done) | (simp [*]; done)), H', ⟨by have := HK1.out; have := HJ9.out; have := HJ17.out; have := HJ20.out; have := HJ23.out; have := HJ25.out; have := HJ29.out; have := HJ33.out; first | omega | exact Nat.le_refl _⟩, ⟨by (with_reducible repeat (first | apply Kd.R_alloc | apply Kd.R_drewN | apply Kd.R_drew)); exact HO_9.out⟩, ⟨by (with_reducible repeat (first | apply Kd.R_alloc | apply Kd.R_drewN | apply Kd.R_drew)); exact HO118.out⟩, ⟨by (with_reducible repeat (first | refine blk_drewN ?_ _ | refine blk_drew ?_ | refine blk_alloc ?_ _)); exact BK102.out⟩, ⟨by repeat (first | (with_reducible first | exact HB.out | apply below_alloc | apply pw_below_drewN | apply below_drew1 | refine below_set ?_ GE102.out) | exact HB.out)⟩⟩
                                                    · rw [if_neg c42] at H
                                                      have c42b0 : ((rd y103 (ji15)) == 3) = false := beq_eq_false_iff_ne.mpr c42
                                                      have c42b1 : ((rd y103 (ji15)) != 3) = true := bne_iff_ne.mpr c42
                                                      (first | rw [c42b0] | (simp only [i64_w, i32_w]; rw [c42b0]) | skip)
                                                      have H' := Aside0.mk H
                                                      clear H
                                                      go_wp2
                                                      go_meet
                                                      case rel => exact ⟨_, (((rd y103 (ji15)) == 5)), (by first | rfl | (simp; done) | (simp only [← hji15] <;> (first | rfl | simp)) | (simp [*]; done)), H', ⟨by have := HK1.out; have := HJ9.out; have := HJ17.out; have := HJ20.out; have := HJ23.out; have := HJ25.out; have := HJ29.out; have := HJ33.out; first | omega | exact Nat.le_refl _⟩, ⟨by (with_reducible repeat (first | apply Kd.R_alloc | apply Kd.R_drewN | apply Kd.R_drew)); exact HO_9.out⟩, ⟨by (with_reducible repeat (first | apply Kd.R_alloc | apply Kd.R_drewN | apply Kd.R_drew)); exact HO118.out⟩, ⟨by (with_reducible repeat (first | refine blk_drewN ?_ _ | refine blk_drew ?_ | refine blk_alloc ?_ _)); exact BK102.out⟩, ⟨by repeat (first | (with_reducible first | exact HB.out | apply below_alloc | apply pw_below_drewN | apply below_drew1 | refine below_set ?_ GE102.out) | exact HB.out)⟩⟩
                                                  case rest =>
                                                    clear HC40
                                                    try clear c1
                                                    try clear p1
                                                    try clear q1
                                                    try clear hx1
                                                    try clear c2
                                                    try clear p2
                                                    try clear c3
                                                    try clear c4
                                                    try clear p6
                                                    try clear c11
                                                    try clear c11b0
                                                    try clear p11
                                                    try clear q11
                                                    try clear hx11
                                                    try clear c12
                                                    try clear c13
                                                    try clear c13b0
                                                    try clear c14
                                                    try clear c14b0
                                                    try clear c16
                                                    try clear c16b0
                                                    try clear c17
                                                    try clear c17b0
                                                    try clear c20
                                                    try clear c20b0
                                                    try clear c22
                                                    try clear c25
                                                    try clear c25b0
                                                    try clear c27
                                                    try clear c29
                                                    try clear c32
                                                    try clear c32b0
                                                    try clear c33
                                                    try clear c33b0
                                                    try clear c33b1
                                                    try clear c35
                                                    try clear c37
                                                    try clear c38
                                                    try clear c38b0
                                                    try clear c38b1
                                                    try clear c42
                                                    try clear c42b0
                                                    try clear c42b1
                                                    try clear hcz7_0
                                                    try clear hcz7_1
                                                    try clear hcz7_2
                                                    try clear hcz7_3
                                                    try clear hcz7_4
                                                    try clear hcz7_5
                                                    try clear hcz7_6
                                                    try clear hcz7_7
                                                    try clear hcz7_8
                                                    try clear hcz7_9
                                                    try clear hfz7_0
                                                    try clear hfz7_1
                                                    try clear hfz7_2
                                                    try clear hfz7_3
                                                    try clear hfz7_4
                                                    try clear hfz7_5
                                                    try clear hfz7_6
                                                    try clear hfz7_7
                                                    try clear hfz7_8
                                                    try clear hfz7_9
                                                    try clear hx111_0
                                                    try clear hx112_0
                                                    try clear p1
                                                    try clear p11
                                                    try clear p111
                                                    try clear p112
                                                    try clear p2
                                                    try clear p6
                                                    try clear q1
                                                    try clear q11
                                                    try clear q111
                                                    try clear q112
                                                    obtain ⟨kq, x98_39, rfl, HA, HJ39, HO_9, HO_10, BK102, HB⟩ := hcut
                                                    cases kq with
                                                    | zero => exact absurd HA.out (by simp [millwrightlaw19_TraceOne.j8])
                                                    | succ kj39 =>
                                                      have H := HA.out
                                                      clear HA
                                                      simp only [millwrightlaw19_TraceOne.j8] at H
                                                      by_cases c43 : x98_39 = true
                                                      · subst c43
                                                        have H1 : (millwrightlaw19_TraceOne.l0 kj39 (wrap64 (1 + (Int.tmod (Go.bits .and .i64 a0 65535) 20))) (Int.tmod (Go.bits .and .i64 a1 65535) 21) l2 t101 y103 y116 (wrap64 (x11_1 + 1)) x12_1 x13_1 x14_33 x15_33 (wrap64 (x16_1 + 1)) 5 1 0 0 (wrap64 (1 + (Int.tmod (Go.bits .and .i64 a0 65535) 20))) (Int.tmod (Go.bits .and .i64 a1 65535) 21) 2 0 0 0) = some r := by rw [if_pos rfl] at H; exact H
                                                        clear H
                                                        have H := H1
                                                        clear H1
                                                        have H' := Aside0.mk H
                                                        clear H
                                                        go_wp2
                                                        go_roundg kj39
                                                        case measure => have := HK1.out; have := HJ9.out; have := HJ17.out; have := HJ20.out; have := HJ23.out; have := HJ25.out; have := HJ29.out; have := HJ33.out; have := HJ39.out; omega
                                                        case rel => exact ⟨(y116), (wrap64 (x11_1 + 1)), (x12_1), (x13_1), (x14_33), (x15_33), (wrap64 (x16_1 + 1)), (by first | rfl | (simp; done) | (simp [*]; done)), (by first | rfl | (simp; done) | (simp [*]; done)), (by first | rfl | (simp; done) | (simp [*]; done)), (by first | rfl | (simp; done) | (simp [*]; done)), (by first | rfl | (simp; done) | (simp [*]; done)), (by first | rfl | (simp; done) | (simp [*]; done)), H', ⟨by have := HK1.out; have := HJ9.out; have := HJ17.out; have := HJ20.out; have := HJ23.out; have := HJ25.out; have := HJ29.out; have := HJ33.out; have := HJ39.out; omega⟩, ⟨by (with_reducible repeat (first | apply Kd.R_alloc | apply Kd.R_drewN | apply Kd.R_drew)); exact HO_9.out⟩, ⟨by (with_reducible repeat (first | apply Kd.R_alloc | apply Kd.R_drewN | apply Kd.R_drew)); exact HO_10.out⟩, ⟨by (with_reducible repeat (first | refine blk_drewN ?_ _ | refine blk_drew ?_ | refine blk_alloc ?_ _)); exact BK102.out⟩, ⟨by repeat (first | (with_reducible first | exact HB.out | apply below_alloc | apply pw_below_drewN | apply below_drew1 | refine below_set ?_ GE102.out) | exact HB.out)⟩⟩
                                                      · replace c43 := Bool.eq_false_iff.mpr c43
                                                        subst c43
                                                        have H1 : (if (rd y103 (ji15)) = 6 then (millwrightlaw19_TraceOne.l0 kj39 (wrap64 (1 + (Int.tmod (Go.bits .and .i64 a0 65535) 20))) (Int.tmod (Go.bits .and .i64 a1 65535) 21) l2 t101 y103 y116 x11_1 (wrap64 (x12_1 + 1)) x13_1 x14_33 x15_33 (wrap64 (x16_1 + 1)) 5 1 0 0 (wrap64 (1 + (Int.tmod (Go.bits .and .i64 a0 65535) 20))) (Int.tmod (Go.bits .and .i64 a1 65535) 21) 2 0 0 0) else (millwrightlaw19_TraceOne.l0 kj39 (wrap64 (1 + (Int.tmod (Go.bits .and .i64 a0 65535) 20))) (Int.tmod (Go.bits .and .i64 a1 65535) 21) l2 t101 y103 y116 x11_1 x12_1 x13_1 x14_33 x15_33 (wrap64 (x16_1 + 1)) 5 1 0 0 (wrap64 (1 + (Int.tmod (Go.bits .and .i64 a0 65535) 20))) (Int.tmod (Go.bits .and .i64 a1 65535) 21) 2 0 0 0)) = some r := by rw [if_neg (show ¬ (false = true) by decide)] at H; exact H
                                                        clear H
                                                        have H := H1
                                                        clear H1
                                                        by_cases c44 : (rd y103 (ji15)) = 6
                                                        · rw [if_pos c44] at H
                                                          have c44b0 : ((rd y103 (ji15)) == 6) = true := beq_iff_eq.mpr c44
                                                          have c44b1 : ((rd y103 (ji15)) != 6) = false := bne_eq_false_iff_eq.mpr c44
                                                          clear c44
                                                          have H' := Aside0.mk H
                                                          clear H
                                                          go_wp2
                                                          go_roundg kj39
                                                          case measure => have := HK1.out; have := HJ9.out; have := HJ17.out; have := HJ20.out; have := HJ23.out; have := HJ25.out; have := HJ29.out; have := HJ33.out; have := HJ39.out; omega
                                                          case rel => exact ⟨(y116), (x11_1), (wrap64 (x12_1 + 1)), (x13_1), (x14_33), (x15_33), (wrap64 (x16_1 + 1)), (by first | rfl | (simp; done) | (simp [*]; done)), (by first | rfl | (simp; done) | (simp [*]; done)), (by first | rfl | (simp; done) | (simp [*]; done)), (by first | rfl | (simp; done) | (simp [*]; done)), (by first | rfl | (simp; done) | (simp [*]; done)), (by first | rfl | (simp; done) | (simp [*]; done)), H', ⟨by have := HK1.out; have := HJ9.out; have := HJ17.out; have := HJ20.out; have := HJ23.out; have := HJ25.out; have := HJ29.out; have := HJ33.out; have := HJ39.out; omega⟩, ⟨by (with_reducible repeat (first | apply Kd.R_alloc | apply Kd.R_drewN | apply Kd.R_drew)); exact HO_9.out⟩, ⟨by (with_reducible repeat (first | apply Kd.R_alloc | apply Kd.R_drewN | apply Kd.R_drew)); exact HO_10.out⟩, ⟨by (with_reducible repeat (first | refine blk_drewN ?_ _ | refine blk_drew ?_ | refine blk_alloc ?_ _)); exact BK102.out⟩, ⟨by repeat (first | (with_reducible first | exact HB.out | apply below_alloc | apply pw_below_drewN | apply below_drew1 | refine below_set ?_ GE102.out) | exact HB.out)⟩⟩
                                                        · rw [if_neg c44] at H
                                                          have c44b0 : ((rd y103 (ji15)) == 6) = false := beq_eq_false_iff_ne.mpr c44
                                                          have c44b1 : ((rd y103 (ji15)) != 6) = true := bne_iff_ne.mpr c44
                                                          have H' := Aside0.mk H
                                                          clear H
                                                          go_wp2
                                                          go_roundg kj39
                                                          case measure => have := HK1.out; have := HJ9.out; have := HJ17.out; have := HJ20.out; have := HJ23.out; have := HJ25.out; have := HJ29.out; have := HJ33.out; have := HJ39.out; omega
                                                          case rel => exact ⟨(y116), (x11_1), (x12_1), (x13_1), (x14_33), (x15_33), (wrap64 (x16_1 + 1)), (by first | rfl | (simp; done) | (simp [*]; done)), (by first | rfl | (simp; done) | (simp [*]; done)), (by first | rfl | (simp; done) | (simp [*]; done)), (by first | rfl | (simp; done) | (simp [*]; done)), (by first | rfl | (simp; done) | (simp [*]; done)), (by first | rfl | (simp; done) | (simp [*]; done)), H', ⟨by have := HK1.out; have := HJ9.out; have := HJ17.out; have := HJ20.out; have := HJ23.out; have := HJ25.out; have := HJ29.out; have := HJ33.out; have := HJ39.out; omega⟩, ⟨by (with_reducible repeat (first | apply Kd.R_alloc | apply Kd.R_drewN | apply Kd.R_drew)); exact HO_9.out⟩, ⟨by (with_reducible repeat (first | apply Kd.R_alloc | apply Kd.R_drewN | apply Kd.R_drew)); exact HO_10.out⟩, ⟨by (with_reducible repeat (first | refine blk_drewN ?_ _ | refine blk_drew ?_ | refine blk_alloc ?_ _)); exact BK102.out⟩, ⟨by repeat (first | (with_reducible first | exact HB.out | apply below_alloc | apply pw_below_drewN | apply below_drew1 | refine below_set ?_ GE102.out) | exact HB.out)⟩⟩
                                              · rw [if_neg c37] at H
                                                exact absurd H (by simp)
                                    · rw [if_neg c29] at H
                                      exact absurd H (by simp)
                  · rw [if_neg c17] at H
                    exact absurd H (by simp)
                · rw [if_neg c16] at H
                  exact absurd H (by simp)
              · rw [if_neg c14] at H
                exact absurd H (by simp)
            · rw [if_neg c13] at H
              exact absurd H (by simp)
          · replace c12 := Bool.eq_false_iff.mpr c12
            subst c12
            have H1 : ((trace_Audit.f 5 1 0 0 (wrap64 (1 + (Int.tmod (Go.bits .and .i64 a0 65535) 20))) (Int.tmod (Go.bits .and .i64 a1 65535) 21) 2 0 0 0 (([(⟨5, 1⟩ : S50)] : List (S50))) x10_1).bind fun bt109 => (if t101 = true then (if bt109.1 = x14_1 then (some (bt109.2 == x15_1)) else (some false)) else (some false))) = some r := by rw [if_neg (show ¬ (false = true) by decide)] at H; exact H
            clear H
            have H := H1
            clear H1
            obtain ⟨y106, hy106⟩ : ∃ y_ : List (S50), y_ = (([(⟨5, 1⟩ : S50)] : List (S50))) := ⟨_, rfl⟩
            replace H : ((trace_Audit.f 5 1 0 0 (wrap64 (1 + (Int.tmod (Go.bits .and .i64 a0 65535) 20))) (Int.tmod (Go.bits .and .i64 a1 65535) 21) 2 0 0 0 y106 x10_1).bind fun bt109 => (if t101 = true then (if bt109.1 = x14_1 then (some (bt109.2 == x15_1)) else (some false)) else (some false))) = some r := by first | (rw [hy106]; with_reducible exact H) | (have H2_ := (Option.bind_some _ _).symm.trans H; rw [hy106]; with_reducible exact H2_) | (have H2_ := (Option.bind_some _ _).symm.trans H; with_reducible exact H2_) | with_reducible exact H | (rw [hy106]; exact H) | exact H
            have Ny106 := Aside0.mk hy106
            clear hy106
            replace H := Option.bind_eq_some_iff.mp H
            obtain ⟨⟨t109, t110⟩, A450, H⟩ := H
            replace H : (if t101 = true then (if t109 = x14_1 then (some (t110 == x15_1)) else (some false)) else (some false)) = some r := H
            have A45 := Aside0.mk A450
            clear A450
            by_cases c46 : t101 = true
            · subst c46
              have H1 : (if t109 = x14_1 then (some (t110 == x15_1)) else (some false)) = some r := by rw [if_pos rfl] at H; exact H
              clear H
              have H := H1
              clear H1
              by_cases c47 : t109 = x14_1
              · rw [if_pos c47] at H
                have c47b0 : (t109 == x14_1) = true := beq_iff_eq.mpr c47
                have c47b1 : (t109 != x14_1) = false := bne_eq_false_iff_eq.mpr c47
                clear c47
                obtain rfl := Option.some.inj H
                have hcz48_0 : wc.cell? ⟨gb102, 0, none⟩ = some (.int .i64 5) := (blk_cell BK102.out 0).trans rfl
                have hcz48_1 : wc.cell? ⟨gb102, 1, none⟩ = some (.int .i64 1) := (blk_cell BK102.out 1).trans rfl
                have hcz48_2 : wc.cell? ⟨gb102, 2, none⟩ = some (.int .i64 0) := (blk_cell BK102.out 2).trans rfl
                have hcz48_3 : wc.cell? ⟨gb102, 3, none⟩ = some (.int .i64 0) := (blk_cell BK102.out 3).trans rfl
                have hcz48_4 : wc.cell? ⟨gb102, 4, none⟩ = some (.int .i64 (wrap64 (1 + (Int.tmod (Go.bits .and .i64 a0 65535) 20)))) := (blk_cell BK102.out 4).trans rfl
                have hcz48_5 : wc.cell? ⟨gb102, 5, none⟩ = some (.int .i64 (Int.tmod (Go.bits .and .i64 a1 65535) 21)) := (blk_cell BK102.out 5).trans rfl
                have hcz48_6 : wc.cell? ⟨gb102, 6, none⟩ = some (.int .i64 2) := (blk_cell BK102.out 6).trans rfl
                have hcz48_7 : wc.cell? ⟨gb102, 7, none⟩ = some (.int .i64 0) := (blk_cell BK102.out 7).trans rfl
                have hcz48_8 : wc.cell? ⟨gb102, 8, none⟩ = some (.int .i64 0) := (blk_cell BK102.out 8).trans rfl
                have hcz48_9 : wc.cell? ⟨gb102, 9, none⟩ = some (.int .i64 0) := (blk_cell BK102.out 9).trans rfl
                have hfz48_0 := blk_frozen BK102.out 0
                have hfz48_1 := blk_frozen BK102.out 1
                have hfz48_2 := blk_frozen BK102.out 2
                have hfz48_3 := blk_frozen BK102.out 3
                have hfz48_4 := blk_frozen BK102.out 4
                have hfz48_5 := blk_frozen BK102.out 5
                have hfz48_6 := blk_frozen BK102.out 6
                have hfz48_7 := blk_frozen BK102.out 7
                have hfz48_8 := blk_frozen BK102.out 8
                have hfz48_9 := blk_frozen BK102.out 9
                go_wp2_with (first | ((with_reducible refine gate_dst (N := 110) rfl ?_); refine Kd.R_lit k50 _ 50 ?hg (N := 110) ?hd (xs := ([(⟨5, 1⟩ : S50)] : List (S50))) (inner := [.int .i64 5, .int .i64 1]) (ok := fun _ => True) (okp := fun _ => True) ?hr ?hp (fun _ hk => hk) trivial (Below.refl _ _) (Nat.le_refl _) (by simp) ?_; (case hd => rfl); (case hg => rfl); (case hr => first | (go_simp; done) | (go_simp; rfl)); (case hp => exact (Reps.c2 (show Kd.M k50 _ _ _ (⟨5, 1⟩ : S50) [.int .i64 5, .int .i64 1] from (k50_mkM _ _ _ (⟨5, 1⟩ : S50) )) (Reps.none _ _))); intro v107 w49 ho50 hb hg_ hnew_; clear hg_ hnew_; (first | rw [← Ny106.out] at ho50 | (simp only [Int.reduceToNat] at ho50; rw [← Ny106.out] at ho50)); have n0_ := Aside0.mk (Kd.R_below (by (with_reducible repeat (first | apply Kd.R_alloc | apply Kd.R_drewN | apply Kd.R_drew)); exact HO_9.out) hb); have n1_ := Aside0.mk (Kd.R_below (by (with_reducible repeat (first | apply Kd.R_alloc | apply Kd.R_drewN | apply Kd.R_drew)); exact HO_10.out) hb); have n2_ := Aside0.mk (Kd.R_lower ho50 (below_size (by repeat (first | (with_reducible first | exact HB.out | apply below_alloc | apply pw_below_drewN | apply below_drew1 | refine below_set ?_ GE102.out) | exact HB.out)))); have n3_ := Aside0.mk (blk_below (g := gb102) (o := .cells #[.int .i64 5, .int .i64 1, .int .i64 0, .int .i64 0, .int .i64 (wrap64 (1 + (Int.tmod (Go.bits .and .i64 a0 65535) 20))), .int .i64 (Int.tmod (Go.bits .and .i64 a1 65535) 21), .int .i64 2, .int .i64 0, .int .i64 0, .int .i64 0] 23 (0, 0)) (by (with_reducible repeat (first | refine blk_drewN ?_ _ | refine blk_drew ?_ | refine blk_alloc ?_ _)); exact BK102.out) hb); have n4_ := Aside0.mk (below_step (by repeat (first | (with_reducible first | exact HB.out | apply below_alloc | apply pw_below_drewN | apply below_drew1 | refine below_set ?_ GE102.out) | exact HB.out)) hb); clear HO_9; clear HO_10; clear BK102; clear HB; have HO_9 := n0_; have HO_10 := n1_; have HO108 := n2_; have BK102 := n3_; have HB := n4_; clear n0_ n1_ n2_ n3_ n4_; clear hb ho50; obtain ⟨Ao51, co51, eo51⟩ := Kd.R_slice HO108.out; subst eo51; obtain ⟨Ao52, co52, eo52⟩ := Kd.R_slice HO_10.out; subst eo52) | ((with_reducible refine gate_callee (f := 15) rfl ?_); refine goesL_ (some 112) rfl rfl Tryd.func15 (by kernel_rfl) rfl #[.agg #[.int .i64 5, .int .i64 1, .int .i64 0, .int .i64 0, .int .i64 (wrap64 (1 + (Int.tmod (Go.bits .and .i64 a0 65535) 20))), .int .i64 (Int.tmod (Go.bits .and .i64 a1 65535) 21), .int .i64 2, .int .i64 0, .int .i64 0, .int .i64 0], .slice Ao51 y106.length co51, .slice Ao52 x10_1.length co52] rfl (by (try simp only [List.map_toArray, List.map_cons, List.map_nil]); first | done | rfl | (simp only [List.length_drop, List.length_take]; rfl)) ?_; (with_reducible refine (trace_Audit.calls 5 1 0 0 (wrap64 (1 + (Int.tmod (Go.bits .and .i64 a0 65535) 20))) (Int.tmod (Go.bits .and .i64 a1 65535) 21) 2 0 0 0 _ _ y106 _ _ x10_1 t109 t110 _ ?side1 ?side2 ?side3 ?side4 A45.out (TrL.Laid.below HT (by repeat (first | (with_reducible first | exact HB.out | apply below_alloc | apply pw_below_drewN | apply below_drew1) | exact HB.out)))).mono ?_); (case side1 => repeat (first | exact (Kd.R_reads' HO108.out).2.2 | (with_reducible refine Kd.C_alloc ?_ _) | (with_reducible refine Kd.C_drewN ?_ _) | (with_reducible refine Kd.C_drew ?_))); (case side2 => exact (Kd.R_reads' HO108.out).2.1); (case side3 => repeat (first | exact (Kd.R_reads' HO_10.out).2.2 | (with_reducible refine Kd.C_alloc ?_ _) | (with_reducible refine Kd.C_drewN ?_ _) | (with_reducible refine Kd.C_drew ?_))); (case side4 => exact (Kd.R_reads' HO_10.out).2.1); rintro e w53 ⟨rfl, hb⟩; refine ⟨_, rfl, ?_⟩; have n0_ := Aside0.mk (Kd.R_below (by (with_reducible repeat (first | apply Kd.R_alloc | apply Kd.R_drewN | apply Kd.R_drew)); exact HO_9.out) hb); have n1_ := Aside0.mk (Kd.R_below (by (with_reducible repeat (first | apply Kd.R_alloc | apply Kd.R_drewN | apply Kd.R_drew)); exact HO_10.out) hb); have n2_ := Aside0.mk (Kd.R_below (by (with_reducible repeat (first | apply Kd.R_alloc | apply Kd.R_drewN | apply Kd.R_drew)); exact HO108.out) hb); have n3_ := Aside0.mk (blk_below (g := gb102) (o := .cells #[.int .i64 5, .int .i64 1, .int .i64 0, .int .i64 0, .int .i64 (wrap64 (1 + (Int.tmod (Go.bits .and .i64 a0 65535) 20))), .int .i64 (Int.tmod (Go.bits .and .i64 a1 65535) 21), .int .i64 2, .int .i64 0, .int .i64 0, .int .i64 0] 23 (0, 0)) (by (with_reducible repeat (first | refine blk_drewN ?_ _ | refine blk_drew ?_ | refine blk_alloc ?_ _)); exact BK102.out) hb); have n4_ := Aside0.mk (below_step (by repeat (first | (with_reducible first | exact HB.out | apply below_alloc | apply pw_below_drewN | apply below_drew1 | refine below_set ?_ GE102.out) | exact HB.out)) hb); clear HO_9; clear HO_10; clear HO108; clear BK102; clear HB; have HO_9 := n0_; have HO_10 := n1_; have HO108 := n2_; have BK102 := n3_; have HB := n4_; clear n0_ n1_ n2_ n3_ n4_; (try clear hb); (try clear hb2); (try clear hk); (try clear hi)))
                go_ret
                exact ⟨by first | rfl | (simp [errW_none, errW_some] <;> rfl) | (simp [*, errW_none, errW_some] <;> rfl), by repeat (first | (with_reducible first | exact HB.out | apply below_alloc | apply pw_below_drewN | apply below_drew1 | refine below_set ?_ GE102.out) | exact HB.out)⟩
              · rw [if_neg c47] at H
                have c47b0 : (t109 == x14_1) = false := beq_eq_false_iff_ne.mpr c47
                have c47b1 : (t109 != x14_1) = true := bne_iff_ne.mpr c47
                obtain rfl := Option.some.inj H
                have hcz54_0 : wc.cell? ⟨gb102, 0, none⟩ = some (.int .i64 5) := (blk_cell BK102.out 0).trans rfl
                have hcz54_1 : wc.cell? ⟨gb102, 1, none⟩ = some (.int .i64 1) := (blk_cell BK102.out 1).trans rfl
                have hcz54_2 : wc.cell? ⟨gb102, 2, none⟩ = some (.int .i64 0) := (blk_cell BK102.out 2).trans rfl
                have hcz54_3 : wc.cell? ⟨gb102, 3, none⟩ = some (.int .i64 0) := (blk_cell BK102.out 3).trans rfl
                have hcz54_4 : wc.cell? ⟨gb102, 4, none⟩ = some (.int .i64 (wrap64 (1 + (Int.tmod (Go.bits .and .i64 a0 65535) 20)))) := (blk_cell BK102.out 4).trans rfl
                have hcz54_5 : wc.cell? ⟨gb102, 5, none⟩ = some (.int .i64 (Int.tmod (Go.bits .and .i64 a1 65535) 21)) := (blk_cell BK102.out 5).trans rfl
                have hcz54_6 : wc.cell? ⟨gb102, 6, none⟩ = some (.int .i64 2) := (blk_cell BK102.out 6).trans rfl
                have hcz54_7 : wc.cell? ⟨gb102, 7, none⟩ = some (.int .i64 0) := (blk_cell BK102.out 7).trans rfl
                have hcz54_8 : wc.cell? ⟨gb102, 8, none⟩ = some (.int .i64 0) := (blk_cell BK102.out 8).trans rfl
                have hcz54_9 : wc.cell? ⟨gb102, 9, none⟩ = some (.int .i64 0) := (blk_cell BK102.out 9).trans rfl
                have hfz54_0 := blk_frozen BK102.out 0
                have hfz54_1 := blk_frozen BK102.out 1
                have hfz54_2 := blk_frozen BK102.out 2
                have hfz54_3 := blk_frozen BK102.out 3
                have hfz54_4 := blk_frozen BK102.out 4
                have hfz54_5 := blk_frozen BK102.out 5
                have hfz54_6 := blk_frozen BK102.out 6
                have hfz54_7 := blk_frozen BK102.out 7
                have hfz54_8 := blk_frozen BK102.out 8
                have hfz54_9 := blk_frozen BK102.out 9
                go_wp2_with (first | ((with_reducible refine gate_dst (N := 110) rfl ?_); refine Kd.R_lit k50 _ 50 ?hg (N := 110) ?hd (xs := ([(⟨5, 1⟩ : S50)] : List (S50))) (inner := [.int .i64 5, .int .i64 1]) (ok := fun _ => True) (okp := fun _ => True) ?hr ?hp (fun _ hk => hk) trivial (Below.refl _ _) (Nat.le_refl _) (by simp) ?_; (case hd => rfl); (case hg => rfl); (case hr => first | (go_simp; done) | (go_simp; rfl)); (case hp => exact (Reps.c2 (show Kd.M k50 _ _ _ (⟨5, 1⟩ : S50) [.int .i64 5, .int .i64 1] from (k50_mkM _ _ _ (⟨5, 1⟩ : S50) )) (Reps.none _ _))); intro v107 w55 ho56 hb hg_ hnew_; clear hg_ hnew_; (first | rw [← Ny106.out] at ho56 | (simp only [Int.reduceToNat] at ho56; rw [← Ny106.out] at ho56)); have n0_ := Aside0.mk (Kd.R_below (by (with_reducible repeat (first | apply Kd.R_alloc | apply Kd.R_drewN | apply Kd.R_drew)); exact HO_9.out) hb); have n1_ := Aside0.mk (Kd.R_below (by (with_reducible repeat (first | apply Kd.R_alloc | apply Kd.R_drewN | apply Kd.R_drew)); exact HO_10.out) hb); have n2_ := Aside0.mk (Kd.R_lower ho56 (below_size (by repeat (first | (with_reducible first | exact HB.out | apply below_alloc | apply pw_below_drewN | apply below_drew1 | refine below_set ?_ GE102.out) | exact HB.out)))); have n3_ := Aside0.mk (blk_below (g := gb102) (o := .cells #[.int .i64 5, .int .i64 1, .int .i64 0, .int .i64 0, .int .i64 (wrap64 (1 + (Int.tmod (Go.bits .and .i64 a0 65535) 20))), .int .i64 (Int.tmod (Go.bits .and .i64 a1 65535) 21), .int .i64 2, .int .i64 0, .int .i64 0, .int .i64 0] 23 (0, 0)) (by (with_reducible repeat (first | refine blk_drewN ?_ _ | refine blk_drew ?_ | refine blk_alloc ?_ _)); exact BK102.out) hb); have n4_ := Aside0.mk (below_step (by repeat (first | (with_reducible first | exact HB.out | apply below_alloc | apply pw_below_drewN | apply below_drew1 | refine below_set ?_ GE102.out) | exact HB.out)) hb); clear HO_9; clear HO_10; clear BK102; clear HB; have HO_9 := n0_; have HO_10 := n1_; have HO108 := n2_; have BK102 := n3_; have HB := n4_; clear n0_ n1_ n2_ n3_ n4_; clear hb ho56; obtain ⟨Ao57, co57, eo57⟩ := Kd.R_slice HO108.out; subst eo57; obtain ⟨Ao58, co58, eo58⟩ := Kd.R_slice HO_10.out; subst eo58) | ((with_reducible refine gate_callee (f := 15) rfl ?_); refine goesL_ (some 112) rfl rfl Tryd.func15 (by kernel_rfl) rfl #[.agg #[.int .i64 5, .int .i64 1, .int .i64 0, .int .i64 0, .int .i64 (wrap64 (1 + (Int.tmod (Go.bits .and .i64 a0 65535) 20))), .int .i64 (Int.tmod (Go.bits .and .i64 a1 65535) 21), .int .i64 2, .int .i64 0, .int .i64 0, .int .i64 0], .slice Ao57 y106.length co57, .slice Ao58 x10_1.length co58] rfl (by (try simp only [List.map_toArray, List.map_cons, List.map_nil]); first | done | rfl | (simp only [List.length_drop, List.length_take]; rfl)) ?_; (with_reducible refine (trace_Audit.calls 5 1 0 0 (wrap64 (1 + (Int.tmod (Go.bits .and .i64 a0 65535) 20))) (Int.tmod (Go.bits .and .i64 a1 65535) 21) 2 0 0 0 _ _ y106 _ _ x10_1 t109 t110 _ ?side1 ?side2 ?side3 ?side4 A45.out (TrL.Laid.below HT (by repeat (first | (with_reducible first | exact HB.out | apply below_alloc | apply pw_below_drewN | apply below_drew1) | exact HB.out)))).mono ?_); (case side1 => repeat (first | exact (Kd.R_reads' HO108.out).2.2 | (with_reducible refine Kd.C_alloc ?_ _) | (with_reducible refine Kd.C_drewN ?_ _) | (with_reducible refine Kd.C_drew ?_))); (case side2 => exact (Kd.R_reads' HO108.out).2.1); (case side3 => repeat (first | exact (Kd.R_reads' HO_10.out).2.2 | (with_reducible refine Kd.C_alloc ?_ _) | (with_reducible refine Kd.C_drewN ?_ _) | (with_reducible refine Kd.C_drew ?_))); (case side4 => exact (Kd.R_reads' HO_10.out).2.1); rintro e w59 ⟨rfl, hb⟩; refine ⟨_, rfl, ?_⟩; have n0_ := Aside0.mk (Kd.R_below (by (with_reducible repeat (first | apply Kd.R_alloc | apply Kd.R_drewN | apply Kd.R_drew)); exact HO_9.out) hb); have n1_ := Aside0.mk (Kd.R_below (by (with_reducible repeat (first | apply Kd.R_alloc | apply Kd.R_drewN | apply Kd.R_drew)); exact HO_10.out) hb); have n2_ := Aside0.mk (Kd.R_below (by (with_reducible repeat (first | apply Kd.R_alloc | apply Kd.R_drewN | apply Kd.R_drew)); exact HO108.out) hb); have n3_ := Aside0.mk (blk_below (g := gb102) (o := .cells #[.int .i64 5, .int .i64 1, .int .i64 0, .int .i64 0, .int .i64 (wrap64 (1 + (Int.tmod (Go.bits .and .i64 a0 65535) 20))), .int .i64 (Int.tmod (Go.bits .and .i64 a1 65535) 21), .int .i64 2, .int .i64 0, .int .i64 0, .int .i64 0] 23 (0, 0)) (by (with_reducible repeat (first | refine blk_drewN ?_ _ | refine blk_drew ?_ | refine blk_alloc ?_ _)); exact BK102.out) hb); have n4_ := Aside0.mk (below_step (by repeat (first | (with_reducible first | exact HB.out | apply below_alloc | apply pw_below_drewN | apply below_drew1 | refine below_set ?_ GE102.out) | exact HB.out)) hb); clear HO_9; clear HO_10; clear HO108; clear BK102; clear HB; have HO_9 := n0_; have HO_10 := n1_; have HO108 := n2_; have BK102 := n3_; have HB := n4_; clear n0_ n1_ n2_ n3_ n4_; (try clear hb); (try clear hb2); (try clear hk); (try clear hi)))
                go_ret
                exact ⟨by first | rfl | (simp [errW_none, errW_some] <;> rfl) | (simp [*, errW_none, errW_some] <;> rfl), by repeat (first | (with_reducible first | exact HB.out | apply below_alloc | apply pw_below_drewN | apply below_drew1 | refine below_set ?_ GE102.out) | exact HB.out)⟩
            · replace c46 := Bool.eq_false_iff.mpr c46
              subst c46
              have H1 : (some false) = some r := by rw [if_neg (show ¬ (false = true) by decide)] at H; exact H
              clear H
              have H := H1
              clear H1
              obtain rfl := Option.some.inj H
              have hcz60_0 : wc.cell? ⟨gb102, 0, none⟩ = some (.int .i64 5) := (blk_cell BK102.out 0).trans rfl
              have hcz60_1 : wc.cell? ⟨gb102, 1, none⟩ = some (.int .i64 1) := (blk_cell BK102.out 1).trans rfl
              have hcz60_2 : wc.cell? ⟨gb102, 2, none⟩ = some (.int .i64 0) := (blk_cell BK102.out 2).trans rfl
              have hcz60_3 : wc.cell? ⟨gb102, 3, none⟩ = some (.int .i64 0) := (blk_cell BK102.out 3).trans rfl
              have hcz60_4 : wc.cell? ⟨gb102, 4, none⟩ = some (.int .i64 (wrap64 (1 + (Int.tmod (Go.bits .and .i64 a0 65535) 20)))) := (blk_cell BK102.out 4).trans rfl
              have hcz60_5 : wc.cell? ⟨gb102, 5, none⟩ = some (.int .i64 (Int.tmod (Go.bits .and .i64 a1 65535) 21)) := (blk_cell BK102.out 5).trans rfl
              have hcz60_6 : wc.cell? ⟨gb102, 6, none⟩ = some (.int .i64 2) := (blk_cell BK102.out 6).trans rfl
              have hcz60_7 : wc.cell? ⟨gb102, 7, none⟩ = some (.int .i64 0) := (blk_cell BK102.out 7).trans rfl
              have hcz60_8 : wc.cell? ⟨gb102, 8, none⟩ = some (.int .i64 0) := (blk_cell BK102.out 8).trans rfl
              have hcz60_9 : wc.cell? ⟨gb102, 9, none⟩ = some (.int .i64 0) := (blk_cell BK102.out 9).trans rfl
              have hfz60_0 := blk_frozen BK102.out 0
              have hfz60_1 := blk_frozen BK102.out 1
              have hfz60_2 := blk_frozen BK102.out 2
              have hfz60_3 := blk_frozen BK102.out 3
              have hfz60_4 := blk_frozen BK102.out 4
              have hfz60_5 := blk_frozen BK102.out 5
              have hfz60_6 := blk_frozen BK102.out 6
              have hfz60_7 := blk_frozen BK102.out 7
              have hfz60_8 := blk_frozen BK102.out 8
              have hfz60_9 := blk_frozen BK102.out 9
              go_wp2_with (first | ((with_reducible refine gate_dst (N := 110) rfl ?_); refine Kd.R_lit k50 _ 50 ?hg (N := 110) ?hd (xs := ([(⟨5, 1⟩ : S50)] : List (S50))) (inner := [.int .i64 5, .int .i64 1]) (ok := fun _ => True) (okp := fun _ => True) ?hr ?hp (fun _ hk => hk) trivial (Below.refl _ _) (Nat.le_refl _) (by simp) ?_; (case hd => rfl); (case hg => rfl); (case hr => first | (go_simp; done) | (go_simp; rfl)); (case hp => exact (Reps.c2 (show Kd.M k50 _ _ _ (⟨5, 1⟩ : S50) [.int .i64 5, .int .i64 1] from (k50_mkM _ _ _ (⟨5, 1⟩ : S50) )) (Reps.none _ _))); intro v107 w61 ho62 hb hg_ hnew_; clear hg_ hnew_; (first | rw [← Ny106.out] at ho62 | (simp only [Int.reduceToNat] at ho62; rw [← Ny106.out] at ho62)); have n0_ := Aside0.mk (Kd.R_below (by (with_reducible repeat (first | apply Kd.R_alloc | apply Kd.R_drewN | apply Kd.R_drew)); exact HO_9.out) hb); have n1_ := Aside0.mk (Kd.R_below (by (with_reducible repeat (first | apply Kd.R_alloc | apply Kd.R_drewN | apply Kd.R_drew)); exact HO_10.out) hb); have n2_ := Aside0.mk (Kd.R_lower ho62 (below_size (by repeat (first | (with_reducible first | exact HB.out | apply below_alloc | apply pw_below_drewN | apply below_drew1 | refine below_set ?_ GE102.out) | exact HB.out)))); have n3_ := Aside0.mk (blk_below (g := gb102) (o := .cells #[.int .i64 5, .int .i64 1, .int .i64 0, .int .i64 0, .int .i64 (wrap64 (1 + (Int.tmod (Go.bits .and .i64 a0 65535) 20))), .int .i64 (Int.tmod (Go.bits .and .i64 a1 65535) 21), .int .i64 2, .int .i64 0, .int .i64 0, .int .i64 0] 23 (0, 0)) (by (with_reducible repeat (first | refine blk_drewN ?_ _ | refine blk_drew ?_ | refine blk_alloc ?_ _)); exact BK102.out) hb); have n4_ := Aside0.mk (below_step (by repeat (first | (with_reducible first | exact HB.out | apply below_alloc | apply pw_below_drewN | apply below_drew1 | refine below_set ?_ GE102.out) | exact HB.out)) hb); clear HO_9; clear HO_10; clear BK102; clear HB; have HO_9 := n0_; have HO_10 := n1_; have HO108 := n2_; have BK102 := n3_; have HB := n4_; clear n0_ n1_ n2_ n3_ n4_; clear hb ho62; obtain ⟨Ao63, co63, eo63⟩ := Kd.R_slice HO108.out; subst eo63; obtain ⟨Ao64, co64, eo64⟩ := Kd.R_slice HO_10.out; subst eo64) | ((with_reducible refine gate_callee (f := 15) rfl ?_); refine goesL_ (some 112) rfl rfl Tryd.func15 (by kernel_rfl) rfl #[.agg #[.int .i64 5, .int .i64 1, .int .i64 0, .int .i64 0, .int .i64 (wrap64 (1 + (Int.tmod (Go.bits .and .i64 a0 65535) 20))), .int .i64 (Int.tmod (Go.bits .and .i64 a1 65535) 21), .int .i64 2, .int .i64 0, .int .i64 0, .int .i64 0], .slice Ao63 y106.length co63, .slice Ao64 x10_1.length co64] rfl (by (try simp only [List.map_toArray, List.map_cons, List.map_nil]); first | done | rfl | (simp only [List.length_drop, List.length_take]; rfl)) ?_; (with_reducible refine (trace_Audit.calls 5 1 0 0 (wrap64 (1 + (Int.tmod (Go.bits .and .i64 a0 65535) 20))) (Int.tmod (Go.bits .and .i64 a1 65535) 21) 2 0 0 0 _ _ y106 _ _ x10_1 t109 t110 _ ?side1 ?side2 ?side3 ?side4 A45.out (TrL.Laid.below HT (by repeat (first | (with_reducible first | exact HB.out | apply below_alloc | apply pw_below_drewN | apply below_drew1) | exact HB.out)))).mono ?_); (case side1 => repeat (first | exact (Kd.R_reads' HO108.out).2.2 | (with_reducible refine Kd.C_alloc ?_ _) | (with_reducible refine Kd.C_drewN ?_ _) | (with_reducible refine Kd.C_drew ?_))); (case side2 => exact (Kd.R_reads' HO108.out).2.1); (case side3 => repeat (first | exact (Kd.R_reads' HO_10.out).2.2 | (with_reducible refine Kd.C_alloc ?_ _) | (with_reducible refine Kd.C_drewN ?_ _) | (with_reducible refine Kd.C_drew ?_))); (case side4 => exact (Kd.R_reads' HO_10.out).2.1); rintro e w65 ⟨rfl, hb⟩; refine ⟨_, rfl, ?_⟩; have n0_ := Aside0.mk (Kd.R_below (by (with_reducible repeat (first | apply Kd.R_alloc | apply Kd.R_drewN | apply Kd.R_drew)); exact HO_9.out) hb); have n1_ := Aside0.mk (Kd.R_below (by (with_reducible repeat (first | apply Kd.R_alloc | apply Kd.R_drewN | apply Kd.R_drew)); exact HO_10.out) hb); have n2_ := Aside0.mk (Kd.R_below (by (with_reducible repeat (first | apply Kd.R_alloc | apply Kd.R_drewN | apply Kd.R_drew)); exact HO108.out) hb); have n3_ := Aside0.mk (blk_below (g := gb102) (o := .cells #[.int .i64 5, .int .i64 1, .int .i64 0, .int .i64 0, .int .i64 (wrap64 (1 + (Int.tmod (Go.bits .and .i64 a0 65535) 20))), .int .i64 (Int.tmod (Go.bits .and .i64 a1 65535) 21), .int .i64 2, .int .i64 0, .int .i64 0, .int .i64 0] 23 (0, 0)) (by (with_reducible repeat (first | refine blk_drewN ?_ _ | refine blk_drew ?_ | refine blk_alloc ?_ _)); exact BK102.out) hb); have n4_ := Aside0.mk (below_step (by repeat (first | (with_reducible first | exact HB.out | apply below_alloc | apply pw_below_drewN | apply below_drew1 | refine below_set ?_ GE102.out) | exact HB.out)) hb); clear HO_9; clear HO_10; clear HO108; clear BK102; clear HB; have HO_9 := n0_; have HO_10 := n1_; have HO108 := n2_; have BK102 := n3_; have HB := n4_; clear n0_ n1_ n2_ n3_ n4_; (try clear hb); (try clear hb2); (try clear hk); (try clear hi)))
              go_ret
              exact ⟨by first | rfl | (simp [errW_none, errW_some] <;> rfl) | (simp [*, errW_none, errW_some] <;> rfl), by repeat (first | (with_reducible first | exact HB.out | apply below_alloc | apply pw_below_drewN | apply below_drew1 | refine below_set ?_ GE102.out) | exact HB.out)⟩

/-- THE ONE PURE STATEMENT of millwrightlaw19_TraceOne: yours. -/
def millwrightlaw19_TraceOne.Pure : Prop := ∀ (a0 : Int) (a1 : Int) (l2 : List Int), (Lit.int .i64 a0).wf = true → (Lit.int .i64 a1).wf = true → l2.length ≤ maxLen → l2.length * 1 ≤ 140737488351232 → (∀ x ∈ l2, (Lit.int .u8 x).wf = true) → ∃ k, millwrightlaw19_TraceOne.f k a0 a1 l2 = some true
theorem millwrightlaw19_TraceOne.walk (P : millwrightlaw19_TraceOne.Pure) (a0 : Int) (a1 : Int) (a2 : Option Addr) (len2 cap2 : Nat) (z2 : List Int) (w : World) (w0 : (Lit.int .i64 a0).wf = true) (w1 : (Lit.int .i64 a1).wf = true) (w2 : (a2 = none ∧ len2 = 0 ∧ cap2 = 0 ∧ z2 = []) ∨ ∃ x, a2 = some x ∧ len2 ≤ cap2 ∧ cap2 ≤ maxLen ∧ z2.length = cap2 ∧ (∀ i, i < z2.length → w.cell? (x.add i) = some (.int .u8 (z2.getD i 0))) ∧ ∀ n ∈ z2, (Lit.int .u8 n).wf = true) (y2 : len2 * 1 ≤ 140737488351232) (HT : TrL.Laid w) :
    Calls Tryd.prog 12 #[.int .i64 a0, .int .i64 a1, .slice a2 len2 cap2] w fun e w' => e = .returned (.bool true) ∧ Below w.heap.size w w' := by
  obtain ⟨l2, rfl, hr2, hm2, hw2, hc2⟩ := ReadsInt.ofRowC w2
  obtain ⟨k, h⟩ := P a0 a1 l2 w0 w1 hm2 y2 hw2
  refine (millwrightlaw19_TraceOne.calls k a0 a1 _ _ l2 true w (Kd.C_of_reads (d := (0 : Int)) (h1 := fun _ => rfl) hr2) hc2 h HT).mono ?_
  rintro e w' ⟨rfl, hd⟩
  exact ⟨rfl, hd⟩

end Go.Proofs.YtckcepmkfegkiaaDoor.PTraceOne
