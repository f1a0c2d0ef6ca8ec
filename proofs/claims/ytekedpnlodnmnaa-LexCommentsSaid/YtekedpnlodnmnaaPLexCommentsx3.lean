-- Printed for this claim by a program of this project's own, over the kit's printer; some functions are told by hand.
import Derived.Test.YtekedpnlodnmnaaPLexCommentsx0
import Derived.Test.YtekedpnlodnmnaaPLexCommentsx1
import Derived.Test.YtekedpnlodnmnaaPLexCommentsx2
import Derived.Test.YtekedpnlodnmnaaLexG
import Derived.Lib.SlBytesConst
namespace Go.Proofs.Ytekedpnlodnmnaa.PLexComments
open Go.RowKit Go.Proofs.YtekedpnlodnmnaaW.PrintWords Go.Proofs.YtekedpnlodnmnaaW.PrintLast Go.Proofs.YtekedpnlodnmnaaW.PrintMore
attribute [local go_sem] max2_int min2_int max_two min_two max_three min_three max_four min_four   -- for this text's walks alone
set_option linter.unusedVariables false
set_option linter.unusedSimpArgs false

attribute [local go_sem high] eqA35
/-! ### millwrightlaw02_LexComments: function 7 -/
mutual
def millwrightlaw02_LexComments.l0 : Nat → List Int → List Int → Int → Bool → List (S35) → List Int → Int → Option (Bool)
  | 0, _, _, _, _, _, _, _ => none
  | k + 1, x0, x1, x2, x7, x8, x11, x12 => if x12 < (x1.length : Int) then (if 0 ≤ x12 then (if (rd x1 x12) = 10 then (millwrightlaw02_LexComments.l0 k x0 x1 x2 x7 x8 x11 (wrap64 (x12 + 1))) else (if x11.length < 140737488355328 then (millwrightlaw02_LexComments.l0 k x0 x1 x2 x7 x8 (x11 ++ [rd x1 x12]) (wrap64 (x12 + 1))) else (none))) else (none)) else (millwrightlaw02_LexComments.l1 k x0 x2 x7 x8 x11 1 0)
def millwrightlaw02_LexComments.l1 : Nat → List Int → Int → Bool → List (S35) → List Int → Int → Int → Option (Bool)
  | 0, _, _, _, _, _, _, _ => none
  | k + 1, x0, x2, x7, x8, x11, x13, x14 => if x14 < (x0.length : Int) then (if 0 ≤ x14 then (if (rd x0 x14) = 10 then (millwrightlaw02_LexComments.l1 k x0 x2 x7 x8 x11 (wrap64 (x13 + 1)) (wrap64 (x14 + 1))) else (millwrightlaw02_LexComments.l1 k x0 x2 x7 x8 x11 x13 (wrap64 (x14 + 1)))) else (none)) else (if x13 = 0 then (none) else (millwrightlaw02_LexComments.l2 k x0 (Int.tmod (Go.bits .and .i64 x2 65535) x13) x7 x8 x11 0 (([] : List Int)) 0))
def millwrightlaw02_LexComments.l2 : Nat → List Int → Int → Bool → List (S35) → List Int → Int → List Int → Int → Option (Bool)
  | 0, _, _, _, _, _, _, _, _ => none
  | k + 1, x0, x2, x7, x8, x11, x15, x16, x17 => if x17 ≤ (x0.length : Int) then (if x17 = (x0.length : Int) then (millwrightlaw02_LexComments.j3 k x0 x2 x7 x8 x11 x15 x16 x17 true) else (if 0 ≤ x17 then (if x17 < (x0.length : Int) then (millwrightlaw02_LexComments.j3 k x0 x2 x7 x8 x11 x15 x16 x17 ((rd x0 x17) == 10)) else (none)) else (none))) else ((lex_Lex.f x16).bind fun bt133 => (if bt133.2.2 = 0 then (millwrightlaw02_LexComments.j6 k x7 x8 bt133.1 ((bt133.1.length : Int) != (x8.length : Int))) else (millwrightlaw02_LexComments.j6 k x7 x8 bt133.1 true)))
def millwrightlaw02_LexComments.j3 : Nat → List Int → Int → Bool → List (S35) → List Int → Int → List Int → Int → Bool → Option (Bool)
  | 0, _, _, _, _, _, _, _, _, _ => none
  | k + 1, x0, x2, x7, x8, x11, x15, x16, x17, x18 => if x18 = true then (millwrightlaw02_LexComments.j4 k x0 x2 x7 x8 x11 x15 x16 x17 x18 (x15 == x2)) else (millwrightlaw02_LexComments.j4 k x0 x2 x7 x8 x11 x15 x16 x17 x18 false)
def millwrightlaw02_LexComments.j4 : Nat → List Int → Int → Bool → List (S35) → List Int → Int → List Int → Int → Bool → Bool → Option (Bool)
  | 0, _, _, _, _, _, _, _, _, _, _ => none
  | k + 1, x0, x2, x7, x8, x11, x15, x16, x17, x18, x103 => if x103 = true then (if x16.length + x11.length < 140737488355328 then (millwrightlaw02_LexComments.j5 k x0 x2 x7 x8 x11 x15 (x16 ++ x11) x17 x18) else (none)) else (millwrightlaw02_LexComments.j5 k x0 x2 x7 x8 x11 x15 x16 x17 x18)
def millwrightlaw02_LexComments.j5 : Nat → List Int → Int → Bool → List (S35) → List Int → Int → List Int → Int → Bool → Option (Bool)
  | 0, _, _, _, _, _, _, _, _, _ => none
  | k + 1, x0, x2, x7, x8, x11, x15, x16, x17, x18 => if x18 = true then (if x17 < (x0.length : Int) then (if 0 ≤ x17 then (if x16.length < 140737488355328 then (millwrightlaw02_LexComments.l2 k x0 x2 x7 x8 x11 (wrap64 (x15 + 1)) (x16 ++ [rd x0 x17]) (wrap64 (x17 + 1))) else (none)) else (none)) else (millwrightlaw02_LexComments.l2 k x0 x2 x7 x8 x11 (wrap64 (x15 + 1)) x16 (wrap64 (x17 + 1)))) else (if x17 < (x0.length : Int) then (if 0 ≤ x17 then (if x16.length < 140737488355328 then (millwrightlaw02_LexComments.l2 k x0 x2 x7 x8 x11 x15 (x16 ++ [rd x0 x17]) (wrap64 (x17 + 1))) else (none)) else (none)) else (millwrightlaw02_LexComments.l2 k x0 x2 x7 x8 x11 x15 x16 (wrap64 (x17 + 1))))
def millwrightlaw02_LexComments.j6 : Nat → Bool → List (S35) → List (S35) → Bool → Option (Bool)
  | 0, _, _, _, _ => none
  | k + 1, x7, x8, x19, x135 => if x135 = true then (some false) else (millwrightlaw02_LexComments.l3 k x7 x8 x19 0)
def millwrightlaw02_LexComments.l3 : Nat → Bool → List (S35) → List (S35) → Int → Option (Bool)
  | 0, _, _, _, _ => none
  | k + 1, x7, x8, x19, x22 => if x22 < (x19.length : Int) then (if 0 ≤ x22 then (if x22 < (x8.length : Int) then (if (!(((rd_T35 x19 x22).f0) == ((rd_T35 x8 x22).f0)) || (!((((rd_T35 x19 x22).f1).toList) == (((rd_T35 x8 x22).f1).toList)) || (!(((rd_T35 x19 x22).f2) == ((rd_T35 x8 x22).f2))))) = true then (some false) else (millwrightlaw02_LexComments.l3 k x7 x8 x19 (wrap64 (x22 + 1)))) else (none)) else (none)) else (some x7)
end
def millwrightlaw02_LexComments.f (k : Nat) (l0 : List Int) (l1 : List Int) (a2 : Int) : Option (Bool) := (millwrightlaw02_shown.f).bind fun t101 => (if 0 ≤ (mn (l0.length : Int) 1000) then (if (mn (l0.length : Int) 1000) ≤ (l0.length : Int) then (if 0 ≤ (mn (l1.length : Int) 100) then (if (mn (l1.length : Int) 100) ≤ (l1.length : Int) then ((lex_Lex.f (l0.take ((mn (l0.length : Int) 1000) : Int).toNat)).bind fun bt104 => (if bt104.2.2 = 0 then (millwrightlaw02_LexComments.l0 k (l0.take ((mn (l0.length : Int) 1000) : Int).toNat) (l1.take ((mn (l1.length : Int) 100) : Int).toNat) a2 t101 bt104.1 (([35] : List Int)) 0) else (some t101))) else (none)) else (none)) else (none)) else (none))
theorem millwrightlaw02_LexComments.mono_l : ∀ k, (∀ y0 y1 y2 y3 y4 y5 y6, LeO (millwrightlaw02_LexComments.l0 k y0 y1 y2 y3 y4 y5 y6) (millwrightlaw02_LexComments.l0 (k + 1) y0 y1 y2 y3 y4 y5 y6)) ∧ (∀ y0 y1 y2 y3 y4 y5 y6, LeO (millwrightlaw02_LexComments.l1 k y0 y1 y2 y3 y4 y5 y6) (millwrightlaw02_LexComments.l1 (k + 1) y0 y1 y2 y3 y4 y5 y6)) ∧ (∀ y0 y1 y2 y3 y4 y5 y6 y7, LeO (millwrightlaw02_LexComments.l2 k y0 y1 y2 y3 y4 y5 y6 y7) (millwrightlaw02_LexComments.l2 (k + 1) y0 y1 y2 y3 y4 y5 y6 y7)) ∧ (∀ y0 y1 y2 y3 y4 y5 y6 y7 y8, LeO (millwrightlaw02_LexComments.j3 k y0 y1 y2 y3 y4 y5 y6 y7 y8) (millwrightlaw02_LexComments.j3 (k + 1) y0 y1 y2 y3 y4 y5 y6 y7 y8)) ∧ (∀ y0 y1 y2 y3 y4 y5 y6 y7 y8 y9, LeO (millwrightlaw02_LexComments.j4 k y0 y1 y2 y3 y4 y5 y6 y7 y8 y9) (millwrightlaw02_LexComments.j4 (k + 1) y0 y1 y2 y3 y4 y5 y6 y7 y8 y9)) ∧ (∀ y0 y1 y2 y3 y4 y5 y6 y7 y8, LeO (millwrightlaw02_LexComments.j5 k y0 y1 y2 y3 y4 y5 y6 y7 y8) (millwrightlaw02_LexComments.j5 (k + 1) y0 y1 y2 y3 y4 y5 y6 y7 y8)) ∧ (∀ y0 y1 y2 y3, LeO (millwrightlaw02_LexComments.j6 k y0 y1 y2 y3) (millwrightlaw02_LexComments.j6 (k + 1) y0 y1 y2 y3)) ∧ (∀ y0 y1 y2 y3, LeO (millwrightlaw02_LexComments.l3 k y0 y1 y2 y3) (millwrightlaw02_LexComments.l3 (k + 1) y0 y1 y2 y3))
  | 0 => ⟨fun _ _ _ _ _ _ _ r h => by simp [millwrightlaw02_LexComments.l0] at h, fun _ _ _ _ _ _ _ r h => by simp [millwrightlaw02_LexComments.l1] at h, fun _ _ _ _ _ _ _ _ r h => by simp [millwrightlaw02_LexComments.l2] at h, fun _ _ _ _ _ _ _ _ _ r h => by simp [millwrightlaw02_LexComments.j3] at h, fun _ _ _ _ _ _ _ _ _ _ r h => by simp [millwrightlaw02_LexComments.j4] at h, fun _ _ _ _ _ _ _ _ _ r h => by simp [millwrightlaw02_LexComments.j5] at h, fun _ _ _ _ r h => by simp [millwrightlaw02_LexComments.j6] at h, fun _ _ _ _ r h => by simp [millwrightlaw02_LexComments.l3] at h⟩
  | k + 1 => by
    obtain ⟨ih0, ih1, ih2, ih3, ih4, ih5, ih6, ih7⟩ := millwrightlaw02_LexComments.mono_l k
    refine ⟨?_, ?_, ?_, ?_, ?_, ?_, ?_, ?_⟩
    · intro y0 y1 y2 y3 y4 y5 y6
      unfold millwrightlaw02_LexComments.l0
      repeat' first
      | (with_reducible exact ih0 _ _ _ _ _ _ _)
      | (with_reducible exact ih1 _ _ _ _ _ _ _)
      | (with_reducible exact ih2 _ _ _ _ _ _ _ _)
      | (with_reducible exact ih3 _ _ _ _ _ _ _ _ _)
      | (with_reducible exact ih4 _ _ _ _ _ _ _ _ _ _)
      | (with_reducible exact ih5 _ _ _ _ _ _ _ _ _)
      | (with_reducible exact ih6 _ _ _ _)
      | (with_reducible exact ih7 _ _ _ _)
      | (with_reducible exact LeO.refl _)
      | (with_reducible exact LeO.none _)
      | (with_reducible refine LeO.ite ?_ ?_)
      | (with_reducible refine LeO.bind ?_ (fun _ => ?_))
      | exact ih0 _ _ _ _ _ _ _
      | exact ih1 _ _ _ _ _ _ _
      | exact ih2 _ _ _ _ _ _ _ _
      | exact ih3 _ _ _ _ _ _ _ _ _
      | exact ih4 _ _ _ _ _ _ _ _ _ _
      | exact ih5 _ _ _ _ _ _ _ _ _
      | exact ih6 _ _ _ _
      | exact ih7 _ _ _ _
      | exact LeO.none _
      | refine LeO.ite ?_ ?_
      | refine LeO.bind ?_ (fun _ => ?_)
    · intro y0 y1 y2 y3 y4 y5 y6
      unfold millwrightlaw02_LexComments.l1
      repeat' first
      | (with_reducible exact ih0 _ _ _ _ _ _ _)
      | (with_reducible exact ih1 _ _ _ _ _ _ _)
      | (with_reducible exact ih2 _ _ _ _ _ _ _ _)
      | (with_reducible exact ih3 _ _ _ _ _ _ _ _ _)
      | (with_reducible exact ih4 _ _ _ _ _ _ _ _ _ _)
      | (with_reducible exact ih5 _ _ _ _ _ _ _ _ _)
      | (with_reducible exact ih6 _ _ _ _)
      | (with_reducible exact ih7 _ _ _ _)
      | (with_reducible exact LeO.refl _)
      | (with_reducible exact LeO.none _)
      | (with_reducible refine LeO.ite ?_ ?_)
      | (with_reducible refine LeO.bind ?_ (fun _ => ?_))
      | exact ih0 _ _ _ _ _ _ _
      | exact ih1 _ _ _ _ _ _ _
      | exact ih2 _ _ _ _ _ _ _ _
      | exact ih3 _ _ _ _ _ _ _ _ _
      | exact ih4 _ _ _ _ _ _ _ _ _ _
      | exact ih5 _ _ _ _ _ _ _ _ _
      | exact ih6 _ _ _ _
      | exact ih7 _ _ _ _
      | exact LeO.none _
      | refine LeO.ite ?_ ?_
      | refine LeO.bind ?_ (fun _ => ?_)
    · intro y0 y1 y2 y3 y4 y5 y6 y7
      unfold millwrightlaw02_LexComments.l2
      repeat' first
      | (with_reducible exact ih0 _ _ _ _ _ _ _)
      | (with_reducible exact ih1 _ _ _ _ _ _ _)
      | (with_reducible exact ih2 _ _ _ _ _ _ _ _)
      | (with_reducible exact ih3 _ _ _ _ _ _ _ _ _)
      | (with_reducible exact ih4 _ _ _ _ _ _ _ _ _ _)
      | (with_reducible exact ih5 _ _ _ _ _ _ _ _ _)
      | (with_reducible exact ih6 _ _ _ _)
      | (with_reducible exact ih7 _ _ _ _)
      | (with_reducible exact LeO.refl _)
      | (with_reducible exact LeO.none _)
      | (with_reducible refine LeO.ite ?_ ?_)
      | (with_reducible refine LeO.bind ?_ (fun _ => ?_))
      | exact ih0 _ _ _ _ _ _ _
      | exact ih1 _ _ _ _ _ _ _
      | exact ih2 _ _ _ _ _ _ _ _
      | exact ih3 _ _ _ _ _ _ _ _ _
      | exact ih4 _ _ _ _ _ _ _ _ _ _
      | exact ih5 _ _ _ _ _ _ _ _ _
      | exact ih6 _ _ _ _
      | exact ih7 _ _ _ _
      | exact LeO.none _
      | refine LeO.ite ?_ ?_
      | refine LeO.bind ?_ (fun _ => ?_)
    · intro y0 y1 y2 y3 y4 y5 y6 y7 y8
      unfold millwrightlaw02_LexComments.j3
      repeat' first
      | (with_reducible exact ih0 _ _ _ _ _ _ _)
      | (with_reducible exact ih1 _ _ _ _ _ _ _)
      | (with_reducible exact ih2 _ _ _ _ _ _ _ _)
      | (with_reducible exact ih3 _ _ _ _ _ _ _ _ _)
      | (with_reducible exact ih4 _ _ _ _ _ _ _ _ _ _)
      | (with_reducible exact ih5 _ _ _ _ _ _ _ _ _)
      | (with_reducible exact ih6 _ _ _ _)
      | (with_reducible exact ih7 _ _ _ _)
      | (with_reducible exact LeO.refl _)
      | (with_reducible exact LeO.none _)
      | (with_reducible refine LeO.ite ?_ ?_)
      | (with_reducible refine LeO.bind ?_ (fun _ => ?_))
      | exact ih0 _ _ _ _ _ _ _
      | exact ih1 _ _ _ _ _ _ _
      | exact ih2 _ _ _ _ _ _ _ _
      | exact ih3 _ _ _ _ _ _ _ _ _
      | exact ih4 _ _ _ _ _ _ _ _ _ _
      | exact ih5 _ _ _ _ _ _ _ _ _
      | exact ih6 _ _ _ _
      | exact ih7 _ _ _ _
      | exact LeO.none _
      | refine LeO.ite ?_ ?_
      | refine LeO.bind ?_ (fun _ => ?_)
    · intro y0 y1 y2 y3 y4 y5 y6 y7 y8 y9
      unfold millwrightlaw02_LexComments.j4
      repeat' first
      | (with_reducible exact ih0 _ _ _ _ _ _ _)
      | (with_reducible exact ih1 _ _ _ _ _ _ _)
      | (with_reducible exact ih2 _ _ _ _ _ _ _ _)
      | (with_reducible exact ih3 _ _ _ _ _ _ _ _ _)
      | (with_reducible exact ih4 _ _ _ _ _ _ _ _ _ _)
      | (with_reducible exact ih5 _ _ _ _ _ _ _ _ _)
      | (with_reducible exact ih6 _ _ _ _)
      | (with_reducible exact ih7 _ _ _ _)
      | (with_reducible exact LeO.refl _)
      | (with_reducible exact LeO.none _)
      | (with_reducible refine LeO.ite ?_ ?_)
      | (with_reducible refine LeO.bind ?_ (fun _ => ?_))
      | exact ih0 _ _ _ _ _ _ _
      | exact ih1 _ _ _ _ _ _ _
      | exact ih2 _ _ _ _ _ _ _ _
      | exact ih3 _ _ _ _ _ _ _ _ _
      | exact ih4 _ _ _ _ _ _ _ _ _ _
      | exact ih5 _ _ _ _ _ _ _ _ _
      | exact ih6 _ _ _ _
      | exact ih7 _ _ _ _
      | exact LeO.none _
      | refine LeO.ite ?_ ?_
      | refine LeO.bind ?_ (fun _ => ?_)
    · intro y0 y1 y2 y3 y4 y5 y6 y7 y8
      unfold millwrightlaw02_LexComments.j5
      repeat' first
      | (with_reducible exact ih0 _ _ _ _ _ _ _)
      | (with_reducible exact ih1 _ _ _ _ _ _ _)
      | (with_reducible exact ih2 _ _ _ _ _ _ _ _)
      | (with_reducible exact ih3 _ _ _ _ _ _ _ _ _)
      | (with_reducible exact ih4 _ _ _ _ _ _ _ _ _ _)
      | (with_reducible exact ih5 _ _ _ _ _ _ _ _ _)
      | (with_reducible exact ih6 _ _ _ _)
      | (with_reducible exact ih7 _ _ _ _)
      | (with_reducible exact LeO.refl _)
      | (with_reducible exact LeO.none _)
      | (with_reducible refine LeO.ite ?_ ?_)
      | (with_reducible refine LeO.bind ?_ (fun _ => ?_))
      | exact ih0 _ _ _ _ _ _ _
      | exact ih1 _ _ _ _ _ _ _
      | exact ih2 _ _ _ _ _ _ _ _
      | exact ih3 _ _ _ _ _ _ _ _ _
      | exact ih4 _ _ _ _ _ _ _ _ _ _
      | exact ih5 _ _ _ _ _ _ _ _ _
      | exact ih6 _ _ _ _
      | exact ih7 _ _ _ _
      | exact LeO.none _
      | refine LeO.ite ?_ ?_
      | refine LeO.bind ?_ (fun _ => ?_)
    · intro y0 y1 y2 y3
      unfold millwrightlaw02_LexComments.j6
      repeat' first
      | (with_reducible exact ih0 _ _ _ _ _ _ _)
      | (with_reducible exact ih1 _ _ _ _ _ _ _)
      | (with_reducible exact ih2 _ _ _ _ _ _ _ _)
      | (with_reducible exact ih3 _ _ _ _ _ _ _ _ _)
      | (with_reducible exact ih4 _ _ _ _ _ _ _ _ _ _)
      | (with_reducible exact ih5 _ _ _ _ _ _ _ _ _)
      | (with_reducible exact ih6 _ _ _ _)
      | (with_reducible exact ih7 _ _ _ _)
      | (with_reducible exact LeO.refl _)
      | (with_reducible exact LeO.none _)
      | (with_reducible refine LeO.ite ?_ ?_)
      | (with_reducible refine LeO.bind ?_ (fun _ => ?_))
      | exact ih0 _ _ _ _ _ _ _
      | exact ih1 _ _ _ _ _ _ _
      | exact ih2 _ _ _ _ _ _ _ _
      | exact ih3 _ _ _ _ _ _ _ _ _
      | exact ih4 _ _ _ _ _ _ _ _ _ _
      | exact ih5 _ _ _ _ _ _ _ _ _
      | exact ih6 _ _ _ _
      | exact ih7 _ _ _ _
      | exact LeO.none _
      | refine LeO.ite ?_ ?_
      | refine LeO.bind ?_ (fun _ => ?_)
    · intro y0 y1 y2 y3
      unfold millwrightlaw02_LexComments.l3
      repeat' first
      | (with_reducible exact ih0 _ _ _ _ _ _ _)
      | (with_reducible exact ih1 _ _ _ _ _ _ _)
      | (with_reducible exact ih2 _ _ _ _ _ _ _ _)
      | (with_reducible exact ih3 _ _ _ _ _ _ _ _ _)
      | (with_reducible exact ih4 _ _ _ _ _ _ _ _ _ _)
      | (with_reducible exact ih5 _ _ _ _ _ _ _ _ _)
      | (with_reducible exact ih6 _ _ _ _)
      | (with_reducible exact ih7 _ _ _ _)
      | (with_reducible exact LeO.refl _)
      | (with_reducible exact LeO.none _)
      | (with_reducible refine LeO.ite ?_ ?_)
      | (with_reducible refine LeO.bind ?_ (fun _ => ?_))
      | exact ih0 _ _ _ _ _ _ _
      | exact ih1 _ _ _ _ _ _ _
      | exact ih2 _ _ _ _ _ _ _ _
      | exact ih3 _ _ _ _ _ _ _ _ _
      | exact ih4 _ _ _ _ _ _ _ _ _ _
      | exact ih5 _ _ _ _ _ _ _ _ _
      | exact ih6 _ _ _ _
      | exact ih7 _ _ _ _
      | exact LeO.none _
      | refine LeO.ite ?_ ?_
      | refine LeO.bind ?_ (fun _ => ?_)
theorem millwrightlaw02_LexComments.mono : ∀ a0 a1 a2 k, LeO (millwrightlaw02_LexComments.f k a0 a1 a2) (millwrightlaw02_LexComments.f (k + 1) a0 a1 a2) := by
  intro a0 a1 a2 k
  obtain ⟨ih0, ih1, ih2, ih3, ih4, ih5, ih6, ih7⟩ := millwrightlaw02_LexComments.mono_l k
  unfold millwrightlaw02_LexComments.f
  repeat' first
      | (with_reducible exact ih0 _ _ _ _ _ _ _)
      | (with_reducible exact ih1 _ _ _ _ _ _ _)
      | (with_reducible exact ih2 _ _ _ _ _ _ _ _)
      | (with_reducible exact ih3 _ _ _ _ _ _ _ _ _)
      | (with_reducible exact ih4 _ _ _ _ _ _ _ _ _ _)
      | (with_reducible exact ih5 _ _ _ _ _ _ _ _ _)
      | (with_reducible exact ih6 _ _ _ _)
      | (with_reducible exact ih7 _ _ _ _)
      | (with_reducible exact LeO.refl _)
      | (with_reducible exact LeO.none _)
      | (with_reducible refine LeO.ite ?_ ?_)
      | (with_reducible refine LeO.bind ?_ (fun _ => ?_))
      | exact ih0 _ _ _ _ _ _ _
      | exact ih1 _ _ _ _ _ _ _
      | exact ih2 _ _ _ _ _ _ _ _
      | exact ih3 _ _ _ _ _ _ _ _ _
      | exact ih4 _ _ _ _ _ _ _ _ _ _
      | exact ih5 _ _ _ _ _ _ _ _ _
      | exact ih6 _ _ _ _
      | exact ih7 _ _ _ _
      | exact LeO.none _
      | refine LeO.ite ?_ ?_
      | refine LeO.bind ?_ (fun _ => ?_)
set_option maxHeartbeats 8000000 in
set_option maxRecDepth 100000 in
theorem millwrightlaw02_LexComments.calls (k : Nat) (A0 : Option Addr) (c0 : Nat) (l0 : List Int) (A1 : Option Addr) (c1 : Nat) (l1 : List Int) (a2 : Int) (r : Bool) (w : World) (hr0 : Kd.C (Kd.int .u8) w A0 l0.length l0) (hc0 : l0.length ≤ c0) (hr1 : Kd.C (Kd.int .u8) w A1 l1.length l1) (hc1 : l1.length ≤ c1) (h : millwrightlaw02_LexComments.f k l0 l1 a2 = some r) :
    Calls Try.prog 7 #[.slice A0 l0.length c0, .slice A1 l1.length c1, .int .i64 a2] w fun e w' => e = .returned (.bool r) ∧ Below w.heap.size w w' := by
  have hu35 := Try.underlying35
  have HR0 := Aside0.mk hr0
  have HC0 := Aside0.mk hc0
  clear hr0 hc0
  have HR1 := Aside0.mk hr1
  have HC1 := Aside0.mk hc1
  clear hr1 hc1
  have HB := Aside0.mk (Below.refl w.heap.size w)
  have H : ((millwrightlaw02_shown.f).bind fun t101 => (if 0 ≤ (mn (l0.length : Int) 1000) then (if (mn (l0.length : Int) 1000) ≤ (l0.length : Int) then (if 0 ≤ (mn (l1.length : Int) 100) then (if (mn (l1.length : Int) 100) ≤ (l1.length : Int) then ((lex_Lex.f (l0.take ((mn (l0.length : Int) 1000) : Int).toNat)).bind fun bt104 => (if bt104.2.2 = 0 then (millwrightlaw02_LexComments.l0 k (l0.take ((mn (l0.length : Int) 1000) : Int).toNat) (l1.take ((mn (l1.length : Int) 100) : Int).toNat) a2 t101 bt104.1 (([35] : List Int)) 0) else (some t101))) else (none)) else (none)) else (none)) else (none))) = some r := h
  clear h
  replace H := Option.bind_eq_some_iff.mp H
  obtain ⟨t101, A40, H⟩ := H
  replace H : (if 0 ≤ (mn (l0.length : Int) 1000) then (if (mn (l0.length : Int) 1000) ≤ (l0.length : Int) then (if 0 ≤ (mn (l1.length : Int) 100) then (if (mn (l1.length : Int) 100) ≤ (l1.length : Int) then ((lex_Lex.f (l0.take ((mn (l0.length : Int) 1000) : Int).toNat)).bind fun bt104 => (if bt104.2.2 = 0 then (millwrightlaw02_LexComments.l0 k (l0.take ((mn (l0.length : Int) 1000) : Int).toNat) (l1.take ((mn (l1.length : Int) 100) : Int).toNat) a2 t101 bt104.1 (([35] : List Int)) 0) else (some t101))) else (none)) else (none)) else (none)) else (none)) = some r := H
  have A4 := Aside0.mk A40
  clear A40
  obtain ⟨ji5, hji5⟩ : ∃ j_ : Int, (mn (l0.length : Int) 1000) = j_ := ⟨_, rfl⟩
  replace H : (if 0 ≤ (ji5) then (if (ji5) ≤ (l0.length : Int) then (if 0 ≤ (mn (l1.length : Int) 100) then (if (mn (l1.length : Int) 100) ≤ (l1.length : Int) then ((lex_Lex.f (l0.take ((ji5) : Int).toNat)).bind fun bt104 => (if bt104.2.2 = 0 then (millwrightlaw02_LexComments.l0 k (l0.take ((ji5) : Int).toNat) (l1.take ((mn (l1.length : Int) 100) : Int).toNat) a2 t101 bt104.1 (([35] : List Int)) 0) else (some t101))) else (none)) else (none)) else (none)) else (none)) = some r := by first | (rw [hji5] at H; exact H) | (simp only [hji5] at H ⊢; exact H)
  (try rw [hji5] at A4)
  (try (have hji5h : ji5 ≤ 1000 := by (rw [← hji5]; unfold mn; (repeat' split) <;> omega)))
  (try (have hji5g : ji5 ≤ 64 := by omega))
  (try (have hji5l : 0 ≤ ji5 := by (rw [← hji5]; unfold mn; (repeat' split) <;> omega)))
  (try (have hji5m : 0 ≤ ji5 := by omega))
  have hji5_ : (if 1000 < (l0.length : Int) then 1000 else (l0.length : Int)) = ji5 := hji5
  obtain ⟨tk5_l0, htk5_l0⟩ : ∃ L_ : List Int, L_ = l0.take ((ji5) : Int).toNat := ⟨_, rfl⟩
  rw [← htk5_l0] at H
  have Htk5_l0 := Aside0.mk htk5_l0
  clear htk5_l0
  by_cases c6 : 0 ≤ (ji5)
  · rw [if_pos c6] at H
    have c6b0 := eq_true c6
    have c6b1 : decide (0 ≤ (ji5)) = true := decide_eq_true c6
    clear c6
    by_cases c7 : (ji5) ≤ (l0.length : Int)
    · rw [if_pos c7] at H
      have c7b0 := eq_true c7
      have c7b1 : decide ((ji5) ≤ (l0.length : Int)) = true := decide_eq_true c7
      clear c7
      obtain ⟨ji8, hji8⟩ : ∃ j_ : Int, (mn (l1.length : Int) 100) = j_ := ⟨_, rfl⟩
      replace H : (if 0 ≤ (ji8) then (if (ji8) ≤ (l1.length : Int) then ((lex_Lex.f tk5_l0).bind fun bt104 => (if bt104.2.2 = 0 then (millwrightlaw02_LexComments.l0 k tk5_l0 (l1.take ((ji8) : Int).toNat) a2 t101 bt104.1 (([35] : List Int)) 0) else (some t101))) else (none)) else (none)) = some r := by first | (rw [hji8] at H; exact H) | (simp only [hji8] at H ⊢; exact H)
      (try rw [hji8] at A4)
      (try (have hji8h : ji8 ≤ 100 := by (rw [← hji8]; unfold mn; (repeat' split) <;> omega)))
      (try (have hji8g : ji8 ≤ 64 := by omega))
      (try (have hji8l : 0 ≤ ji8 := by (rw [← hji8]; unfold mn; (repeat' split) <;> omega)))
      (try (have hji8m : 0 ≤ ji8 := by omega))
      have hji8_ : (if 100 < (l1.length : Int) then 100 else (l1.length : Int)) = ji8 := hji8
      obtain ⟨tk8_l1, htk8_l1⟩ : ∃ L_ : List Int, L_ = l1.take ((ji8) : Int).toNat := ⟨_, rfl⟩
      rw [← htk8_l1] at H
      have Htk8_l1 := Aside0.mk htk8_l1
      clear htk8_l1
      by_cases c9 : 0 ≤ (ji8)
      · rw [if_pos c9] at H
        have c9b0 := eq_true c9
        have c9b1 : decide (0 ≤ (ji8)) = true := decide_eq_true c9
        clear c9
        by_cases c10 : (ji8) ≤ (l1.length : Int)
        · rw [if_pos c10] at H
          have c10b0 := eq_true c10
          have c10b1 : decide ((ji8) ≤ (l1.length : Int)) = true := decide_eq_true c10
          clear c10
          replace H := Option.bind_eq_some_iff.mp H
          obtain ⟨⟨t104, t105, t106⟩, A110, H⟩ := H
          replace H : (if t106 = 0 then (millwrightlaw02_LexComments.l0 k tk5_l0 tk8_l1 a2 t101 t104 (([35] : List Int)) 0) else (some t101)) = some r := H
          have A11 := Aside0.mk A110
          clear A110
          by_cases c12 : t106 = 0
          · rw [if_pos c12] at H
            have c12b0 : (t106 == 0) = true := beq_iff_eq.mpr c12
            have c12b1 : (t106 != 0) = false := bne_eq_false_iff_eq.mpr c12
            clear c12
            obtain ⟨y109, hy109⟩ : ∃ y_ : List Int, y_ = (([35] : List Int)) := ⟨_, rfl⟩
            replace H : (millwrightlaw02_LexComments.l0 k tk5_l0 tk8_l1 a2 t101 t104 y109 0) = some r := by first | (rw [hy109]; with_reducible exact H) | (have H2_ := (Option.bind_some _ _).symm.trans H; rw [hy109]; with_reducible exact H2_) | (have H2_ := (Option.bind_some _ _).symm.trans H; with_reducible exact H2_) | with_reducible exact H | (rw [hy109]; exact H) | exact H
            have Ny109 := Aside0.mk hy109
            clear hy109
            have H' := Aside0.mk H
            clear H
            have kc := fun (w : World) (C : Array Value) (n c : Nat) => Lib.run_convert_bytes_const (P := Try.prog) w 22 5 C n c Try.underlying22 Try.underlying5
            go_enter Try.func7, Try.ntmps7
            go_wp2_with (first | (go_at_call 10; (with_reducible refine (millwrightlaw02_shown.calls  t101 _ A4.out).mono ?_); rintro e w13 ⟨rfl, hb⟩; have n0_ := Aside0.mk (below_step (by repeat (first | (with_reducible first | exact HB.out | apply below_alloc | apply pw_below_drewN | apply below_drew1) | exact HB.out)) hb); clear HB; have HB := n0_; clear n0_; (try clear hb); (try clear hb2); (try clear hk); (try clear hi); obtain ⟨i014, hi014, _, hsz14, _⟩ := info_parts info5; obtain ⟨hcut14, hA14, hC14⟩ := print_take_of (P := Try.prog) (Value.int .u8) 0 22 5 .i64 Try.underlying22 hi014 hsz14 A0 c0 l0 (ji5) (of_decide_eq_true (by first | (with_reducible assumption) | assumption)) (of_decide_eq_true (by first | (with_reducible assumption) | assumption)) HC0.out; rw [← Htk5_l0.out] at hcut14 hA14 hC14; have HR102 := Aside0.mk (Kd.C_of_reads (h1 := fun _ => rfl) (hA14 _ (Kd.reads_of_C HR0.out))); have HC102 := Aside0.mk hC14; clear hA14 hC14 hi014 hsz14; obtain ⟨i015, hi015, _, hsz15, _⟩ := info_parts info5; obtain ⟨hcut15, hA15, hC15⟩ := print_take_of (P := Try.prog) (Value.int .u8) 0 22 5 .i64 Try.underlying22 hi015 hsz15 A1 c1 l1 (ji8) (of_decide_eq_true (by first | (with_reducible assumption) | assumption)) (of_decide_eq_true (by first | (with_reducible assumption) | assumption)) HC1.out; rw [← Htk8_l1.out] at hcut15 hA15 hC15; have HR103 := Aside0.mk (Kd.C_of_reads (h1 := fun _ => rfl) (hA15 _ (Kd.reads_of_C HR1.out))); have HC103 := Aside0.mk hC15; clear hA15 hC15 hi015 hsz15) | (go_at_call 11; (with_reducible refine (lex_Lex.calls _ _ tk5_l0 t104 t105 t106 _ ?side1 ?side2 A11.out).mono ?_); (case side1 => repeat (first | exact (Kd.C_below HR102.out HB.out) | (with_reducible refine Kd.C_alloc ?_ _) | (with_reducible refine Kd.C_drewN ?_ _) | (with_reducible refine Kd.C_drew ?_))); (case side2 => exact HC102.out); rintro e w16 ⟨v107, rfl, ho0, hb⟩; have n0_ := Aside0.mk (Kd.R_lower ho0 (below_size (by repeat (first | (with_reducible first | exact HB.out | apply below_alloc | apply pw_below_drewN | apply below_drew1) | exact HB.out)))); have n1_ := Aside0.mk (below_step (by repeat (first | (with_reducible first | exact HB.out | apply below_alloc | apply pw_below_drewN | apply below_drew1) | exact HB.out)) hb); clear HB; have HO108 := n0_; have HB := n1_; clear n0_ n1_; (try clear hb); (try clear hb2); (try clear hk); (try clear hi); (try clear ho0)))
            repeat (go_quiet (first | (go_at_call 10; (with_reducible refine (millwrightlaw02_shown.calls  t101 _ A4.out).mono ?_); rintro e w13 ⟨rfl, hb⟩; have n0_ := Aside0.mk (below_step (by repeat (first | (with_reducible first | exact HB.out | apply below_alloc | apply pw_below_drewN | apply below_drew1) | exact HB.out)) hb); clear HB; have HB := n0_; clear n0_; (try clear hb); (try clear hb2); (try clear hk); (try clear hi); obtain ⟨i014, hi014, _, hsz14, _⟩ := info_parts info5; obtain ⟨hcut14, hA14, hC14⟩ := print_take_of (P := Try.prog) (Value.int .u8) 0 22 5 .i64 Try.underlying22 hi014 hsz14 A0 c0 l0 (ji5) (of_decide_eq_true (by first | (with_reducible assumption) | assumption)) (of_decide_eq_true (by first | (with_reducible assumption) | assumption)) HC0.out; rw [← Htk5_l0.out] at hcut14 hA14 hC14; have HR102 := Aside0.mk (Kd.C_of_reads (h1 := fun _ => rfl) (hA14 _ (Kd.reads_of_C HR0.out))); have HC102 := Aside0.mk hC14; clear hA14 hC14 hi014 hsz14; obtain ⟨i015, hi015, _, hsz15, _⟩ := info_parts info5; obtain ⟨hcut15, hA15, hC15⟩ := print_take_of (P := Try.prog) (Value.int .u8) 0 22 5 .i64 Try.underlying22 hi015 hsz15 A1 c1 l1 (ji8) (of_decide_eq_true (by first | (with_reducible assumption) | assumption)) (of_decide_eq_true (by first | (with_reducible assumption) | assumption)) HC1.out; rw [← Htk8_l1.out] at hcut15 hA15 hC15; have HR103 := Aside0.mk (Kd.C_of_reads (h1 := fun _ => rfl) (hA15 _ (Kd.reads_of_C HR1.out))); have HC103 := Aside0.mk hC15; clear hA15 hC15 hi015 hsz15) | (go_at_call 11; (with_reducible refine (lex_Lex.calls _ _ tk5_l0 t104 t105 t106 _ ?side1 ?side2 A11.out).mono ?_); (case side1 => repeat (first | exact (Kd.C_below HR102.out HB.out) | (with_reducible refine Kd.C_alloc ?_ _) | (with_reducible refine Kd.C_drewN ?_ _) | (with_reducible refine Kd.C_drew ?_))); (case side2 => exact HC102.out); rintro e w16 ⟨v107, rfl, ho0, hb⟩; have n0_ := Aside0.mk (Kd.R_lower ho0 (below_size (by repeat (first | (with_reducible first | exact HB.out | apply below_alloc | apply pw_below_drewN | apply below_drew1) | exact HB.out)))); have n1_ := Aside0.mk (below_step (by repeat (first | (with_reducible first | exact HB.out | apply below_alloc | apply pw_below_drewN | apply below_drew1) | exact HB.out)) hb); clear HB; have HO108 := n0_; have HB := n1_; clear n0_ n1_; (try clear hb); (try clear hb2); (try clear hk); (try clear hi); (try clear ho0))); try go_wp2_with (first | (go_at_call 10; (with_reducible refine (millwrightlaw02_shown.calls  t101 _ A4.out).mono ?_); rintro e w13 ⟨rfl, hb⟩; have n0_ := Aside0.mk (below_step (by repeat (first | (with_reducible first | exact HB.out | apply below_alloc | apply pw_below_drewN | apply below_drew1) | exact HB.out)) hb); clear HB; have HB := n0_; clear n0_; (try clear hb); (try clear hb2); (try clear hk); (try clear hi); obtain ⟨i014, hi014, _, hsz14, _⟩ := info_parts info5; obtain ⟨hcut14, hA14, hC14⟩ := print_take_of (P := Try.prog) (Value.int .u8) 0 22 5 .i64 Try.underlying22 hi014 hsz14 A0 c0 l0 (ji5) (of_decide_eq_true (by first | (with_reducible assumption) | assumption)) (of_decide_eq_true (by first | (with_reducible assumption) | assumption)) HC0.out; rw [← Htk5_l0.out] at hcut14 hA14 hC14; have HR102 := Aside0.mk (Kd.C_of_reads (h1 := fun _ => rfl) (hA14 _ (Kd.reads_of_C HR0.out))); have HC102 := Aside0.mk hC14; clear hA14 hC14 hi014 hsz14; obtain ⟨i015, hi015, _, hsz15, _⟩ := info_parts info5; obtain ⟨hcut15, hA15, hC15⟩ := print_take_of (P := Try.prog) (Value.int .u8) 0 22 5 .i64 Try.underlying22 hi015 hsz15 A1 c1 l1 (ji8) (of_decide_eq_true (by first | (with_reducible assumption) | assumption)) (of_decide_eq_true (by first | (with_reducible assumption) | assumption)) HC1.out; rw [← Htk8_l1.out] at hcut15 hA15 hC15; have HR103 := Aside0.mk (Kd.C_of_reads (h1 := fun _ => rfl) (hA15 _ (Kd.reads_of_C HR1.out))); have HC103 := Aside0.mk hC15; clear hA15 hC15 hi015 hsz15) | (go_at_call 11; (with_reducible refine (lex_Lex.calls _ _ tk5_l0 t104 t105 t106 _ ?side1 ?side2 A11.out).mono ?_); (case side1 => repeat (first | exact (Kd.C_below HR102.out HB.out) | (with_reducible refine Kd.C_alloc ?_ _) | (with_reducible refine Kd.C_drewN ?_ _) | (with_reducible refine Kd.C_drew ?_))); (case side2 => exact HC102.out); rintro e w16 ⟨v107, rfl, ho0, hb⟩; have n0_ := Aside0.mk (Kd.R_lower ho0 (below_size (by repeat (first | (with_reducible first | exact HB.out | apply below_alloc | apply pw_below_drewN | apply below_drew1) | exact HB.out)))); have n1_ := Aside0.mk (below_step (by repeat (first | (with_reducible first | exact HB.out | apply below_alloc | apply pw_below_drewN | apply below_drew1) | exact HB.out)) hb); clear HB; have HO108 := n0_; have HB := n1_; clear n0_ n1_; (try clear hb); (try clear hb2); (try clear hk); (try clear hi); (try clear ho0))))
            clear kc
            go_loopg [11, 12] k (fun kq v11 v12 w' => ∃ (x11_1 : List Int) (x12_1 : Int), v12 = .int .i64 x12_1 ∧ Aside0 (millwrightlaw02_LexComments.l0 kq tk5_l0 tk8_l1 a2 t101 t104 x11_1 x12_1 = some r) ∧ Aside0 (kq ≤ k) ∧ Aside0 (Kd.R k35 35 w' w.heap.size (fun _ => True) v107 t104) ∧ Aside0 (LexG.G 5 w' w.heap.size (fun _ => True) v11 x11_1) ∧ Aside0 (Below w.heap.size w w'))
            case atStart => exact ⟨(y109), (0), (by first | rfl | (simp; done) | (simp [*]; done)), H', ⟨Nat.le_refl _⟩, ⟨by (with_reducible repeat (first | apply Kd.R_alloc | apply Kd.R_drewN | apply Kd.R_drew)); exact HO108.out⟩, ⟨.inr ⟨_, _, rfl, trivial, below_size HB.out, by first | exact heap_alloc_new _ _ | simp, Ny109.out⟩⟩, ⟨by repeat (first | (with_reducible first | exact HB.out | apply below_alloc | apply pw_below_drewN | apply below_drew1) | exact HB.out)⟩⟩
            case round =>
              clear H'
              try clear c1
              try clear p2
              try clear c6
              try clear c6b0
              try clear c6b1
              try clear c7
              try clear c7b0
              try clear c7b1
              try clear c9
              try clear c9b0
              try clear c9b1
              try clear c10
              try clear c10b0
              try clear c10b1
              try clear c12
              try clear c12b0
              try clear c12b1
              obtain ⟨x11_1, x12_1, rfl, HA, HK1, HO_8, HO_11, HB⟩ := hrel
              cases gk with
              | zero => exact absurd HA.out (by simp [millwrightlaw02_LexComments.l0])
              | succ k1 =>
                have H := HA.out
                clear HA
                simp only [millwrightlaw02_LexComments.l0] at H
                by_cases c19 : x12_1 < (tk8_l1.length : Int)
                · rw [if_pos c19] at H
                  have c19b0 : decide (x12_1 < (tk8_l1.length : Int)) = true := decide_eq_true c19
                  clear c19
                  by_cases c20 : 0 ≤ x12_1
                  · rw [if_pos c20] at H
                    have c20b0 : decide (0 ≤ x12_1) = true := decide_eq_true c20
                    clear c20
                    by_cases c21 : (rd tk8_l1 x12_1) = 10
                    · rw [if_pos c21] at H
                      have c21b0 : ((rd tk8_l1 x12_1) == 10) = true := beq_iff_eq.mpr c21
                      have c21b1 : ((rd tk8_l1 x12_1) != 10) = false := bne_eq_false_iff_eq.mpr c21
                      clear c21
                      have H' := Aside0.mk H
                      clear H
                      have p112 : 0 ≤ (x12_1 : Int) := of_decide_eq_true (by first | (with_reducible assumption) | assumption)
                      have q112 : x12_1 < (tk8_l1.length : Int) := of_decide_eq_true (by first | (with_reducible assumption) | assumption)
                      obtain ⟨ad112, e112, hx112_0⟩ := Kd.at_int HR103.out x12_1 p112 q112
                      cases e112
                      replace hx112_0 := (HB.out.cell (World.block_lt_of_cell? w _ hx112_0)).trans hx112_0
                      replace p112 := eq_true p112
                      replace q112 := eq_true q112
                      go_wp2
                      repeat (go_quiet (fail); try go_wp2)
                      go_roundg k1
                      case measure => have := HK1.out; omega
                      case rel => exact ⟨(x11_1), (wrap64 (x12_1 + 1)), (by first | rfl | (simp; done) | (simp [*]; done)), H', ⟨by have := HK1.out; omega⟩, ⟨by (with_reducible repeat (first | apply Kd.R_alloc | apply Kd.R_drewN | apply Kd.R_drew)); exact HO_8.out⟩, ⟨by (with_reducible repeat (first | apply LexG.G_alloc | apply LexG.G_drewN | apply LexG.G_drew)); exact HO_11.out⟩, ⟨by repeat (first | (with_reducible first | exact HB.out | apply below_alloc | apply pw_below_drewN | apply below_drew1) | exact HB.out)⟩⟩
                    · rw [if_neg c21] at H
                      have c21b0 : ((rd tk8_l1 x12_1) == 10) = false := beq_eq_false_iff_ne.mpr c21
                      have c21b1 : ((rd tk8_l1 x12_1) != 10) = true := bne_iff_ne.mpr c21
                      by_cases c22 : x11_1.length < 140737488355328
                      · rw [if_pos c22] at H
                        have LMc22 := Aside0.mk c22
                        clear c22
                        obtain ⟨y114, hy114⟩ : ∃ y_ : List Int, y_ = (x11_1 ++ [rd tk8_l1 x12_1]) := ⟨_, rfl⟩
                        replace H : (millwrightlaw02_LexComments.l0 k1 tk5_l0 tk8_l1 a2 t101 t104 y114 (wrap64 (x12_1 + 1))) = some r := by first | (rw [hy114]; with_reducible exact H) | (have H2_ := (Option.bind_some _ _).symm.trans H; rw [hy114]; with_reducible exact H2_) | (have H2_ := (Option.bind_some _ _).symm.trans H; with_reducible exact H2_) | with_reducible exact H | (rw [hy114]; exact H) | exact H
                        have Ny114 := Aside0.mk hy114
                        clear hy114
                        have H' := Aside0.mk H
                        clear H
                        have p112 : 0 ≤ (x12_1 : Int) := of_decide_eq_true (by first | (with_reducible assumption) | assumption)
                        have q112 : x12_1 < (tk8_l1.length : Int) := of_decide_eq_true (by first | (with_reducible assumption) | assumption)
                        obtain ⟨ad112, e112, hx112_0⟩ := Kd.at_int HR103.out x12_1 p112 q112
                        cases e112
                        replace hx112_0 := (HB.out.cell (World.block_lt_of_cell? w _ hx112_0)).trans hx112_0
                        replace p112 := eq_true p112
                        replace q112 := eq_true q112
                        have p113 : 0 ≤ (x12_1 : Int) := of_decide_eq_true (by first | (with_reducible assumption) | assumption)
                        have q113 : x12_1 < (tk8_l1.length : Int) := of_decide_eq_true (by first | (with_reducible assumption) | assumption)
                        obtain ⟨ad113, e113, hx113_0⟩ := Kd.at_int HR103.out x12_1 p113 q113
                        obtain rfl : ad112 = ad113 := (by injection e113)
                        replace hx113_0 := (HB.out.cell (World.block_lt_of_cell? w _ hx113_0)).trans hx113_0
                        replace p113 := eq_true p113
                        replace q113 := eq_true q113
                        go_wp2_with (first | ((with_reducible refine gate_builtin (b := .append) (xs := #[.tmp 56, .tmp 61]) rfl ?_); (try (refine gate_guard (by rfl) ?_; dsimp only)); at_builtin; refine LexG.G_append (w0 := w) w.heap.size rfl (.tmp 56) (.tmp 61) 22 5 (.int .u8 0) 1 rfl Try.underlying22 info5 rfl (by decide) (by omega) u11 x11_1 (rd tk8_l1 x12_1) [.int .u8 (rd tk8_l1 x12_1)] (fun _ => True) (fun _ => False) rfl rfl ?aP (fun _ hk => hk.elim) ?aF ?aO ?aB ?aS ?aL ?_; (case aP => exact rfl); (case aB => exact (by repeat (first | (with_reducible first | exact HB.out | apply below_alloc | apply pw_below_drewN | apply below_drew1) | exact HB.out))); (case aF => exact (fun _ _ => trivial)); (case aO => exact (by (with_reducible repeat (first | apply LexG.G_alloc | apply LexG.G_drewN | apply LexG.G_drew)); exact HO_11.out)); (case aS => exact (below_size (by repeat (first | (with_reducible first | exact HB.out | apply below_alloc | apply pw_below_drewN | apply below_drew1) | exact HB.out)))); (case aL => have := LMc22.out; omega); intro v115 w23 ho hb hg hat; rw [← Ny114.out] at ho; have n0_ := Aside0.mk (LexG.R_over_G (by (with_reducible repeat (first | apply Kd.R_alloc | apply Kd.R_drewN | apply Kd.R_drew)); exact HO_8.out) (LexG.G_typed (by (with_reducible repeat (first | apply LexG.G_alloc | apply LexG.G_drewN | apply LexG.G_drew)); exact HO_11.out)) (by decide) hg); have n1_ := Aside0.mk (hb); have n2_ := Aside0.mk (ho); clear HO_8; clear HB; clear HO_11; have HO_8 := n0_; have HB := n1_; have HO116 := n2_; clear n0_ n1_ n2_; clear ho hb hg hat))
                        repeat (go_quiet (first | ((with_reducible refine gate_builtin (b := .append) (xs := #[.tmp 56, .tmp 61]) rfl ?_); (try (refine gate_guard (by rfl) ?_; dsimp only)); at_builtin; refine LexG.G_append (w0 := w) w.heap.size rfl (.tmp 56) (.tmp 61) 22 5 (.int .u8 0) 1 rfl Try.underlying22 info5 rfl (by decide) (by omega) u11 x11_1 (rd tk8_l1 x12_1) [.int .u8 (rd tk8_l1 x12_1)] (fun _ => True) (fun _ => False) rfl rfl ?aP (fun _ hk => hk.elim) ?aF ?aO ?aB ?aS ?aL ?_; (case aP => exact rfl); (case aB => exact (by repeat (first | (with_reducible first | exact HB.out | apply below_alloc | apply pw_below_drewN | apply below_drew1) | exact HB.out))); (case aF => exact (fun _ _ => trivial)); (case aO => exact (by (with_reducible repeat (first | apply LexG.G_alloc | apply LexG.G_drewN | apply LexG.G_drew)); exact HO_11.out)); (case aS => exact (below_size (by repeat (first | (with_reducible first | exact HB.out | apply below_alloc | apply pw_below_drewN | apply below_drew1) | exact HB.out)))); (case aL => have := LMc22.out; omega); intro v115 w23 ho hb hg hat; rw [← Ny114.out] at ho; have n0_ := Aside0.mk (LexG.R_over_G (by (with_reducible repeat (first | apply Kd.R_alloc | apply Kd.R_drewN | apply Kd.R_drew)); exact HO_8.out) (LexG.G_typed (by (with_reducible repeat (first | apply LexG.G_alloc | apply LexG.G_drewN | apply LexG.G_drew)); exact HO_11.out)) (by decide) hg); have n1_ := Aside0.mk (hb); have n2_ := Aside0.mk (ho); clear HO_8; clear HB; clear HO_11; have HO_8 := n0_; have HB := n1_; have HO116 := n2_; clear n0_ n1_ n2_; clear ho hb hg hat)); try go_wp2_with (first | ((with_reducible refine gate_builtin (b := .append) (xs := #[.tmp 56, .tmp 61]) rfl ?_); (try (refine gate_guard (by rfl) ?_; dsimp only)); at_builtin; refine LexG.G_append (w0 := w) w.heap.size rfl (.tmp 56) (.tmp 61) 22 5 (.int .u8 0) 1 rfl Try.underlying22 info5 rfl (by decide) (by omega) u11 x11_1 (rd tk8_l1 x12_1) [.int .u8 (rd tk8_l1 x12_1)] (fun _ => True) (fun _ => False) rfl rfl ?aP (fun _ hk => hk.elim) ?aF ?aO ?aB ?aS ?aL ?_; (case aP => exact rfl); (case aB => exact (by repeat (first | (with_reducible first | exact HB.out | apply below_alloc | apply pw_below_drewN | apply below_drew1) | exact HB.out))); (case aF => exact (fun _ _ => trivial)); (case aO => exact (by (with_reducible repeat (first | apply LexG.G_alloc | apply LexG.G_drewN | apply LexG.G_drew)); exact HO_11.out)); (case aS => exact (below_size (by repeat (first | (with_reducible first | exact HB.out | apply below_alloc | apply pw_below_drewN | apply below_drew1) | exact HB.out)))); (case aL => have := LMc22.out; omega); intro v115 w23 ho hb hg hat; rw [← Ny114.out] at ho; have n0_ := Aside0.mk (LexG.R_over_G (by (with_reducible repeat (first | apply Kd.R_alloc | apply Kd.R_drewN | apply Kd.R_drew)); exact HO_8.out) (LexG.G_typed (by (with_reducible repeat (first | apply LexG.G_alloc | apply LexG.G_drewN | apply LexG.G_drew)); exact HO_11.out)) (by decide) hg); have n1_ := Aside0.mk (hb); have n2_ := Aside0.mk (ho); clear HO_8; clear HB; clear HO_11; have HO_8 := n0_; have HB := n1_; have HO116 := n2_; clear n0_ n1_ n2_; clear ho hb hg hat)))
                        go_roundg k1
                        case measure => have := HK1.out; omega
                        case rel => exact ⟨(y114), (wrap64 (x12_1 + 1)), (by first | rfl | (simp; done) | (simp [*]; done)), H', ⟨by have := HK1.out; omega⟩, ⟨by (with_reducible repeat (first | apply Kd.R_alloc | apply Kd.R_drewN | apply Kd.R_drew)); exact HO_8.out⟩, ⟨by (with_reducible repeat (first | apply LexG.G_alloc | apply LexG.G_drewN | apply LexG.G_drew)); exact HO116.out⟩, ⟨by repeat (first | (with_reducible first | exact HB.out | apply below_alloc | apply pw_below_drewN | apply below_drew1) | exact HB.out)⟩⟩
                      · rw [if_neg c22] at H
                        exact absurd H (by simp)
                  · rw [if_neg c20] at H
                    exact absurd H (by simp)
                · rw [if_neg c19] at H
                  have c19b0 : decide (x12_1 < (tk8_l1.length : Int)) = false := decide_eq_false c19
                  clear c19
                  have H' := Aside0.mk H
                  clear H
                  go_wp2
                  repeat (go_quiet (fail); try go_wp2)
                  go_loopg [13, 14] k1 (fun kq v13 v14 w' => ∃ (x13_2 : Int) (x14_2 : Int), v13 = .int .i64 x13_2 ∧ v14 = .int .i64 x14_2 ∧ Aside0 (millwrightlaw02_LexComments.l1 kq tk5_l0 a2 t101 t104 x11_1 x13_2 x14_2 = some r) ∧ Aside0 (kq ≤ k1) ∧ Aside0 (Kd.R k35 35 w' w.heap.size (fun _ => True) v107 t104) ∧ Aside0 (LexG.G 5 w' w.heap.size (fun _ => True) u11 x11_1) ∧ Aside0 (Below w.heap.size w w'))
                  case atStart => exact ⟨(1), (0), (by first | rfl | (simp; done) | (simp [*]; done)), (by first | rfl | (simp; done) | (simp [*]; done)), H', ⟨Nat.le_refl _⟩, ⟨by (with_reducible repeat (first | apply Kd.R_alloc | apply Kd.R_drewN | apply Kd.R_drew)); exact HO_8.out⟩, ⟨by (with_reducible repeat (first | apply LexG.G_alloc | apply LexG.G_drewN | apply LexG.G_drew)); exact HO_11.out⟩, ⟨by repeat (first | (with_reducible first | exact HB.out | apply below_alloc | apply pw_below_drewN | apply below_drew1) | exact HB.out)⟩⟩
                  case round =>
                    clear H'
                    try clear c1
                    try clear p1
                    try clear q1
                    try clear hx1
                    try clear c2
                    try clear p2
                    try clear c6
                    try clear c6b0
                    try clear c6b1
                    try clear p6
                    try clear c7
                    try clear c7b0
                    try clear c7b1
                    try clear c9
                    try clear c9b0
                    try clear c9b1
                    try clear c10
                    try clear c10b0
                    try clear c10b1
                    try clear p11
                    try clear q11
                    try clear hx11
                    try clear c12
                    try clear c12b0
                    try clear c12b1
                    try clear c19
                    try clear c19b0
                    try clear c20
                    try clear c20b0
                    try clear c21
                    try clear c21b0
                    try clear c21b1
                    try clear c22
                    try clear hx112_0
                    try clear hx113_0
                    try clear p112
                    try clear p113
                    try clear p2
                    try clear q112
                    try clear q113
                    obtain ⟨x13_2, x14_2, rfl, rfl, HA, HK2, HO_8, HO_11, HB⟩ := hrel
                    cases gk with
                    | zero => exact absurd HA.out (by simp [millwrightlaw02_LexComments.l1])
                    | succ k2 =>
                      have H := HA.out
                      clear HA
                      simp only [millwrightlaw02_LexComments.l1] at H
                      by_cases c24 : x14_2 < (tk5_l0.length : Int)
                      · rw [if_pos c24] at H
                        have c24b0 : decide (x14_2 < (tk5_l0.length : Int)) = true := decide_eq_true c24
                        clear c24
                        by_cases c25 : 0 ≤ x14_2
                        · rw [if_pos c25] at H
                          have c25b0 : decide (0 ≤ x14_2) = true := decide_eq_true c25
                          clear c25
                          by_cases c26 : (rd tk5_l0 x14_2) = 10
                          · rw [if_pos c26] at H
                            have c26b0 : ((rd tk5_l0 x14_2) == 10) = true := beq_iff_eq.mpr c26
                            have c26b1 : ((rd tk5_l0 x14_2) != 10) = false := bne_eq_false_iff_eq.mpr c26
                            clear c26
                            have H' := Aside0.mk H
                            clear H
                            have p117 : 0 ≤ (x14_2 : Int) := of_decide_eq_true (by first | (with_reducible assumption) | assumption)
                            have q117 : x14_2 < (tk5_l0.length : Int) := of_decide_eq_true (by first | (with_reducible assumption) | assumption)
                            obtain ⟨ad117, e117, hx117_0⟩ := Kd.at_int HR102.out x14_2 p117 q117
                            cases e117
                            replace hx117_0 := (HB.out.cell (World.block_lt_of_cell? w _ hx117_0)).trans hx117_0
                            replace p117 := eq_true p117
                            replace q117 := eq_true q117
                            go_wp2
                            repeat (go_quiet (fail); try go_wp2)
                            go_roundg k2
                            case measure => have := HK1.out; have := HK2.out; omega
                            case rel => exact ⟨(wrap64 (x13_2 + 1)), (wrap64 (x14_2 + 1)), (by first | rfl | (simp; done) | (simp [*]; done)), (by first | rfl | (simp; done) | (simp [*]; done)), H', ⟨by have := HK1.out; have := HK2.out; omega⟩, ⟨by (with_reducible repeat (first | apply Kd.R_alloc | apply Kd.R_drewN | apply Kd.R_drew)); exact HO_8.out⟩, ⟨by (with_reducible repeat (first | apply LexG.G_alloc | apply LexG.G_drewN | apply LexG.G_drew)); exact HO_11.out⟩, ⟨by repeat (first | (with_reducible first | exact HB.out | apply below_alloc | apply pw_below_drewN | apply below_drew1) | exact HB.out)⟩⟩
                          · rw [if_neg c26] at H
                            have c26b0 : ((rd tk5_l0 x14_2) == 10) = false := beq_eq_false_iff_ne.mpr c26
                            have c26b1 : ((rd tk5_l0 x14_2) != 10) = true := bne_iff_ne.mpr c26
                            have H' := Aside0.mk H
                            clear H
                            have p117 : 0 ≤ (x14_2 : Int) := of_decide_eq_true (by first | (with_reducible assumption) | assumption)
                            have q117 : x14_2 < (tk5_l0.length : Int) := of_decide_eq_true (by first | (with_reducible assumption) | assumption)
                            obtain ⟨ad117, e117, hx117_0⟩ := Kd.at_int HR102.out x14_2 p117 q117
                            cases e117
                            replace hx117_0 := (HB.out.cell (World.block_lt_of_cell? w _ hx117_0)).trans hx117_0
                            replace p117 := eq_true p117
                            replace q117 := eq_true q117
                            go_wp2
                            repeat (go_quiet (fail); try go_wp2)
                            go_roundg k2
                            case measure => have := HK1.out; have := HK2.out; omega
                            case rel => exact ⟨(x13_2), (wrap64 (x14_2 + 1)), (by first | rfl | (simp; done) | (simp [*]; done)), (by first | rfl | (simp; done) | (simp [*]; done)), H', ⟨by have := HK1.out; have := HK2.out; omega⟩, ⟨by (with_reducible repeat (first | apply Kd.R_alloc | apply Kd.R_drewN | apply Kd.R_drew)); exact HO_8.out⟩, ⟨by (with_reducible repeat (first | apply LexG.G_alloc | apply LexG.G_drewN | apply LexG.G_drew)); exact HO_11.out⟩, ⟨by repeat (first | (with_reducible first | exact HB.out | apply below_alloc | apply pw_below_drewN | apply below_drew1) | exact HB.out)⟩⟩
                        · rw [if_neg c25] at H
                          exact absurd H (by simp)
                      · rw [if_neg c24] at H
                        have c24b0 : decide (x14_2 < (tk5_l0.length : Int)) = false := decide_eq_false c24
                        clear c24
                        by_cases c27 : x13_2 = 0
                        · rw [if_pos c27] at H
                          exact absurd H (by simp)
                        · rw [if_neg c27] at H
                          have c27b0 : (x13_2 == 0) = false := beq_eq_false_iff_ne.mpr c27
                          have c27b1 : (x13_2 != 0) = true := bne_iff_ne.mpr c27
                          obtain ⟨y118, hy118⟩ : ∃ y_ : List Int, y_ = (([] : List Int)) := ⟨_, rfl⟩
                          replace H : (millwrightlaw02_LexComments.l2 k2 tk5_l0 (Int.tmod (Go.bits .and .i64 a2 65535) x13_2) t101 t104 x11_1 0 y118 0) = some r := by first | (rw [hy118]; with_reducible exact H) | (have H2_ := (Option.bind_some _ _).symm.trans H; rw [hy118]; with_reducible exact H2_) | (have H2_ := (Option.bind_some _ _).symm.trans H; with_reducible exact H2_) | with_reducible exact H | (rw [hy118]; exact H) | exact H
                          have Ny118 := Aside0.mk hy118
                          clear hy118
                          have H' := Aside0.mk H
                          clear H
                          go_wp2_with (first | ((with_reducible refine gate_dst (N := 80) rfl ?_); (try (refine gate_guard (by rfl) ?_; dsimp only)); refine Kd.R_lit (Kd.int .u8) _ 5 ?hg (N := 80) ?hd (xs := ([] : List Int)) (inner := []) (ok := fun _ => True) (okp := fun _ => True) ?hr ?hp (fun _ hk => hk) trivial (Below.refl _ _) (Nat.le_refl _) (by simp) ?_; (case hd => rfl); (case hg => rfl); (case hr => first | (go_simp; done) | (go_simp; rfl)); (case hp => exact (Reps.none _ _)); intro v119 w28 ho29 hb hg_ hnew_; clear hg_ hnew_; (first | rw [← Ny118.out] at ho29 | (simp only [Int.reduceToNat] at ho29; rw [← Ny118.out] at ho29)); have n0_ := Aside0.mk (Kd.R_below (by (with_reducible repeat (first | apply Kd.R_alloc | apply Kd.R_drewN | apply Kd.R_drew)); exact HO_8.out) hb); have n1_ := Aside0.mk (LexG.G_elder' (by (with_reducible repeat (first | apply LexG.G_alloc | apply LexG.G_drewN | apply LexG.G_drew)); exact HO_11.out) (Kd.R_base ho29) hb); have n2_ := Aside0.mk (Kd.R_lower (Kd.R_new' ho29 (LexG.G_lt (by (with_reducible repeat (first | apply LexG.G_alloc | apply LexG.G_drewN | apply LexG.G_drew)); exact HO_11.out))) (below_size (by repeat (first | (with_reducible first | exact HB.out | apply below_alloc | apply pw_below_drewN | apply below_drew1) | exact HB.out)))); have n3_ := Aside0.mk (below_step (by repeat (first | (with_reducible first | exact HB.out | apply below_alloc | apply pw_below_drewN | apply below_drew1) | exact HB.out)) hb); clear HO_8; clear HO_11; clear HB; have HO_8 := n0_; have HO_11 := n1_; have HO120 := n2_; have HB := n3_; clear n0_ n1_ n2_ n3_; clear hb ho29))
                          repeat (go_quiet (first | ((with_reducible refine gate_dst (N := 80) rfl ?_); (try (refine gate_guard (by rfl) ?_; dsimp only)); refine Kd.R_lit (Kd.int .u8) _ 5 ?hg (N := 80) ?hd (xs := ([] : List Int)) (inner := []) (ok := fun _ => True) (okp := fun _ => True) ?hr ?hp (fun _ hk => hk) trivial (Below.refl _ _) (Nat.le_refl _) (by simp) ?_; (case hd => rfl); (case hg => rfl); (case hr => first | (go_simp; done) | (go_simp; rfl)); (case hp => exact (Reps.none _ _)); intro v119 w28 ho29 hb hg_ hnew_; clear hg_ hnew_; (first | rw [← Ny118.out] at ho29 | (simp only [Int.reduceToNat] at ho29; rw [← Ny118.out] at ho29)); have n0_ := Aside0.mk (Kd.R_below (by (with_reducible repeat (first | apply Kd.R_alloc | apply Kd.R_drewN | apply Kd.R_drew)); exact HO_8.out) hb); have n1_ := Aside0.mk (LexG.G_elder' (by (with_reducible repeat (first | apply LexG.G_alloc | apply LexG.G_drewN | apply LexG.G_drew)); exact HO_11.out) (Kd.R_base ho29) hb); have n2_ := Aside0.mk (Kd.R_lower (Kd.R_new' ho29 (LexG.G_lt (by (with_reducible repeat (first | apply LexG.G_alloc | apply LexG.G_drewN | apply LexG.G_drew)); exact HO_11.out))) (below_size (by repeat (first | (with_reducible first | exact HB.out | apply below_alloc | apply pw_below_drewN | apply below_drew1) | exact HB.out)))); have n3_ := Aside0.mk (below_step (by repeat (first | (with_reducible first | exact HB.out | apply below_alloc | apply pw_below_drewN | apply below_drew1) | exact HB.out)) hb); clear HO_8; clear HO_11; clear HB; have HO_8 := n0_; have HO_11 := n1_; have HO120 := n2_; have HB := n3_; clear n0_ n1_ n2_ n3_; clear hb ho29)); try go_wp2_with (first | ((with_reducible refine gate_dst (N := 80) rfl ?_); (try (refine gate_guard (by rfl) ?_; dsimp only)); refine Kd.R_lit (Kd.int .u8) _ 5 ?hg (N := 80) ?hd (xs := ([] : List Int)) (inner := []) (ok := fun _ => True) (okp := fun _ => True) ?hr ?hp (fun _ hk => hk) trivial (Below.refl _ _) (Nat.le_refl _) (by simp) ?_; (case hd => rfl); (case hg => rfl); (case hr => first | (go_simp; done) | (go_simp; rfl)); (case hp => exact (Reps.none _ _)); intro v119 w28 ho29 hb hg_ hnew_; clear hg_ hnew_; (first | rw [← Ny118.out] at ho29 | (simp only [Int.reduceToNat] at ho29; rw [← Ny118.out] at ho29)); have n0_ := Aside0.mk (Kd.R_below (by (with_reducible repeat (first | apply Kd.R_alloc | apply Kd.R_drewN | apply Kd.R_drew)); exact HO_8.out) hb); have n1_ := Aside0.mk (LexG.G_elder' (by (with_reducible repeat (first | apply LexG.G_alloc | apply LexG.G_drewN | apply LexG.G_drew)); exact HO_11.out) (Kd.R_base ho29) hb); have n2_ := Aside0.mk (Kd.R_lower (Kd.R_new' ho29 (LexG.G_lt (by (with_reducible repeat (first | apply LexG.G_alloc | apply LexG.G_drewN | apply LexG.G_drew)); exact HO_11.out))) (below_size (by repeat (first | (with_reducible first | exact HB.out | apply below_alloc | apply pw_below_drewN | apply below_drew1) | exact HB.out)))); have n3_ := Aside0.mk (below_step (by repeat (first | (with_reducible first | exact HB.out | apply below_alloc | apply pw_below_drewN | apply below_drew1) | exact HB.out)) hb); clear HO_8; clear HO_11; clear HB; have HO_8 := n0_; have HO_11 := n1_; have HO120 := n2_; have HB := n3_; clear n0_ n1_ n2_ n3_; clear hb ho29)))
                          go_loopg [15, 16, 17] k2 (fun kq v15 v16 v17 w' => ∃ (x15_3 : Int) (x16_3 : List Int) (x17_3 : Int), v15 = .int .i64 x15_3 ∧ v17 = .int .i64 x17_3 ∧ Aside0 (millwrightlaw02_LexComments.l2 kq tk5_l0 (Int.tmod (Go.bits .and .i64 a2 65535) x13_2) t101 t104 x11_1 x15_3 x16_3 x17_3 = some r) ∧ Aside0 (kq ≤ k2) ∧ Aside0 (Kd.R k35 35 w' w.heap.size (fun _ => True) v107 t104) ∧ Aside0 (LexG.G 5 w' w.heap.size (fun k_ => some k_ ≠ (v16 : Value).ownBlock) u11 x11_1) ∧ Aside0 (Kd.R (Kd.int .u8) 5 w' w.heap.size (fun k_ => some k_ ≠ (u11 : Value).ownBlock) v16 x16_3) ∧ Aside0 (Below w.heap.size w w'))
                          case atStart => exact ⟨(0), (y118), (0), (by first | rfl | (simp; done) | (simp [*]; done)), (by first | rfl | (simp; done) | (simp [*]; done)), H', ⟨Nat.le_refl _⟩, ⟨by (with_reducible repeat (first | apply Kd.R_alloc | apply Kd.R_drewN | apply Kd.R_drew)); exact HO_8.out⟩, ⟨by (with_reducible repeat (first | apply LexG.G_alloc | apply LexG.G_drewN | apply LexG.G_drew)); exact LexG.G_mono HO_11.out (fun _ hk => hk.2)⟩, ⟨by (with_reducible repeat (first | apply Kd.R_alloc | apply Kd.R_drewN | apply Kd.R_drew)); exact Kd.R_mono HO120.out (fun _ hk => hk.2)⟩, ⟨by repeat (first | (with_reducible first | exact HB.out | apply below_alloc | apply pw_below_drewN | apply below_drew1) | exact HB.out)⟩⟩
                          case round =>
                            clear H'
                            try clear c1
                            try clear p1
                            try clear q1
                            try clear hx1
                            try clear c2
                            try clear p2
                            try clear c6
                            try clear c6b0
                            try clear c6b1
                            try clear p6
                            try clear c7
                            try clear c7b0
                            try clear c7b1
                            try clear c9
                            try clear c9b0
                            try clear c9b1
                            try clear c10
                            try clear c10b0
                            try clear c10b1
                            try clear p11
                            try clear q11
                            try clear hx11
                            try clear c12
                            try clear c12b0
                            try clear c12b1
                            try clear c19
                            try clear c19b0
                            try clear c20
                            try clear c20b0
                            try clear c21
                            try clear c21b0
                            try clear c21b1
                            try clear c22
                            try clear c24
                            try clear c24b0
                            try clear c25
                            try clear c25b0
                            try clear c26
                            try clear c26b0
                            try clear c26b1
                            try clear c27
                            try clear c27b0
                            try clear c27b1
                            try clear hx112_0
                            try clear hx113_0
                            try clear hx117_0
                            try clear p1
                            try clear p11
                            try clear p112
                            try clear p113
                            try clear p117
                            try clear p2
                            try clear p6
                            try clear q1
                            try clear q11
                            try clear q112
                            try clear q113
                            try clear q117
                            obtain ⟨x15_3, x16_3, x17_3, rfl, rfl, HA, HK3, HO_8, HO_11, HO_16, HB⟩ := hrel
                            cases gk with
                            | zero => exact absurd HA.out (by simp [millwrightlaw02_LexComments.l2])
                            | succ k3 =>
                              have H := HA.out
                              clear HA
                              simp only [millwrightlaw02_LexComments.l2] at H
                              by_cases c30 : x17_3 ≤ (tk5_l0.length : Int)
                              · rw [if_pos c30] at H
                                have c30b0 : decide (x17_3 ≤ (tk5_l0.length : Int)) = true := decide_eq_true c30
                                clear c30
                                have HC31 := Aside0.mk H
                                clear H
                                go_upto_region 25 with (fail)
                                repeat (go_quiet (fail); go_upto_region 25 with (fail))
                                go_cut [18] (fun v18 wc => ∃ (kq : Nat) (x18_30 : Bool), v18 = .bool x18_30 ∧ Aside0 (millwrightlaw02_LexComments.j3 kq tk5_l0 (Int.tmod (Go.bits .and .i64 a2 65535) x13_2) t101 t104 x11_1 x15_3 x16_3 x17_3 x18_30 = some r) ∧ Aside0 (kq ≤ k3) ∧ Aside0 (Kd.R k35 35 wc w.heap.size (fun _ => True) v107 t104) ∧ Aside0 (LexG.G 5 wc w.heap.size (fun k_ => some k_ ≠ (u16 : Value).ownBlock) u11 x11_1) ∧ Aside0 (Kd.R (Kd.int .u8) 5 wc w.heap.size (fun k_ => some k_ ≠ (u11 : Value).ownBlock) u16 x16_3) ∧ Aside0 (Below w.heap.size w wc))
                                case first =>
                                  have H := HC31.out
                                  clear HC31
                                  by_cases c32 : x17_3 = (tk5_l0.length : Int)
                                  · rw [if_pos c32] at H
                                    have c32b0 : (x17_3 == (tk5_l0.length : Int)) = true := beq_iff_eq.mpr c32
                                    have c32b1 : (x17_3 != (tk5_l0.length : Int)) = false := bne_eq_false_iff_eq.mpr c32
                                    clear c32
                                    (first | rw [c32b0] | (simp only [i64_w, i32_w]; rw [c32b0]) | skip)
                                    have H' := Aside0.mk H
                                    clear H
                                    go_wp2
                                    repeat (go_quiet (fail); try go_wp2)
                                    go_meet
                                    case rel => exact ⟨_, (true), (by first | rfl | (simp; done) | (simp [*]; done)), H', ⟨by have := HK1.out; have := HK2.out; have := HK3.out; first | omega | exact Nat.le_refl _⟩, ⟨by (with_reducible repeat (first | apply Kd.R_alloc | apply Kd.R_drewN | apply Kd.R_drew)); exact HO_8.out⟩, ⟨by (with_reducible repeat (first | apply LexG.G_alloc | apply LexG.G_drewN | apply LexG.G_drew)); exact HO_11.out⟩, ⟨by (with_reducible repeat (first | apply Kd.R_alloc | apply Kd.R_drewN | apply Kd.R_drew)); exact HO_16.out⟩, ⟨by repeat (first | (with_reducible first | exact HB.out | apply below_alloc | apply pw_below_drewN | apply below_drew1) | exact HB.out)⟩⟩
                                  · rw [if_neg c32] at H
                                    have c32b0 : (x17_3 == (tk5_l0.length : Int)) = false := beq_eq_false_iff_ne.mpr c32
                                    have c32b1 : (x17_3 != (tk5_l0.length : Int)) = true := bne_iff_ne.mpr c32
                                    (first | rw [c32b0] | (simp only [i64_w, i32_w]; rw [c32b0]) | skip)
                                    by_cases c33 : 0 ≤ x17_3
                                    · rw [if_pos c33] at H
                                      have c33b0 : decide (0 ≤ x17_3) = true := decide_eq_true c33
                                      clear c33
                                      by_cases c34 : x17_3 < (tk5_l0.length : Int)
                                      · rw [if_pos c34] at H
                                        have c34b0 : decide (x17_3 < (tk5_l0.length : Int)) = true := decide_eq_true c34
                                        clear c34
                                        have H' := Aside0.mk H
                                        clear H
                                        have p121 : 0 ≤ (x17_3 : Int) := of_decide_eq_true (by first | (with_reducible assumption) | assumption)
                                        have q121 : x17_3 < (tk5_l0.length : Int) := of_decide_eq_true (by first | (with_reducible assumption) | assumption)
                                        obtain ⟨ad121, e121, hx121_0⟩ := Kd.at_int HR102.out x17_3 p121 q121
                                        cases e121
                                        replace hx121_0 := (HB.out.cell (World.block_lt_of_cell? w _ hx121_0)).trans hx121_0
                                        replace p121 := eq_true p121
                                        replace q121 := eq_true q121
                                        go_wp2
                                        repeat (go_quiet (fail); try go_wp2)
                                        go_meet
                                        case rel => exact ⟨_, (((rd tk5_l0 x17_3) == 10)), (by first | rfl | (simp; done) | (simp only [← hji5] <;> (first | rfl | simp)) | (simp [*]; done)), H', ⟨by have := HK1.out; have := HK2.out; have := HK3.out; first | omega | exact Nat.le_refl _⟩, ⟨by (with_reducible repeat (first | apply Kd.R_alloc | apply Kd.R_drewN | apply Kd.R_drew)); exact HO_8.out⟩, ⟨by (with_reducible repeat (first | apply LexG.G_alloc | apply LexG.G_drewN | apply LexG.G_drew)); exact HO_11.out⟩, ⟨by (with_reducible repeat (first | apply Kd.R_alloc | apply Kd.R_drewN | apply Kd.R_drew)); exact HO_16.out⟩, ⟨by repeat (first | (with_reducible first | exact HB.out | apply below_alloc | apply pw_below_drewN | apply below_drew1) | exact HB.out)⟩⟩
                                      · rw [if_neg c34] at H
                                        exact absurd H (by simp)
                                    · rw [if_neg c33] at H
                                      exact absurd H (by simp)
                                case rest =>
                                  clear HC31
                                  try clear c1
                                  try clear p1
                                  try clear q1
                                  try clear hx1
                                  try clear c2
                                  try clear p2
                                  try clear c3
                                  try clear c6
                                  try clear c6b0
                                  try clear c6b1
                                  try clear p6
                                  try clear c7
                                  try clear c7b0
                                  try clear c7b1
                                  try clear c9
                                  try clear c9b0
                                  try clear c9b1
                                  try clear c10
                                  try clear c10b0
                                  try clear c10b1
                                  try clear p11
                                  try clear q11
                                  try clear hx11
                                  try clear c12
                                  try clear c12b0
                                  try clear c12b1
                                  try clear p12
                                  try clear q12
                                  try clear hx12
                                  try clear c19
                                  try clear c19b0
                                  try clear c20
                                  try clear c20b0
                                  try clear c21
                                  try clear c21b0
                                  try clear c21b1
                                  try clear c22
                                  try clear c24
                                  try clear c24b0
                                  try clear c25
                                  try clear c25b0
                                  try clear c26
                                  try clear c26b0
                                  try clear c26b1
                                  try clear c27
                                  try clear c27b0
                                  try clear c27b1
                                  try clear c30
                                  try clear c30b0
                                  try clear c32
                                  try clear c32b0
                                  try clear c32b1
                                  try clear c33
                                  try clear c33b0
                                  try clear c34
                                  try clear c34b0
                                  try clear hx112_0
                                  try clear hx113_0
                                  try clear hx117_0
                                  try clear hx121_0
                                  try clear p1
                                  try clear p11
                                  try clear p112
                                  try clear p113
                                  try clear p117
                                  try clear p121
                                  try clear p2
                                  try clear p6
                                  try clear q1
                                  try clear q11
                                  try clear q112
                                  try clear q113
                                  try clear q117
                                  try clear q121
                                  obtain ⟨kq, x18_30, rfl, HA, HJ30, HO_8, HO_11, HO_16, HB⟩ := hcut
                                  cases kq with
                                  | zero => exact absurd HA.out (by simp [millwrightlaw02_LexComments.j3])
                                  | succ kj30 =>
                                    have H := HA.out
                                    clear HA
                                    simp only [millwrightlaw02_LexComments.j3] at H
                                    have HC35 := Aside0.mk H
                                    clear H
                                    go_upto_region 26 with (fail)
                                    repeat (go_quiet (fail); go_upto_region 26 with (fail))
                                    go_cut [103] (fun v103 wc => ∃ (kq : Nat) (x103_34 : Bool), v103 = .bool x103_34 ∧ Aside0 (millwrightlaw02_LexComments.j4 kq tk5_l0 (Int.tmod (Go.bits .and .i64 a2 65535) x13_2) t101 t104 x11_1 x15_3 x16_3 x17_3 x18_30 x103_34 = some r) ∧ Aside0 (kq ≤ kj30) ∧ Aside0 (Kd.R k35 35 wc w.heap.size (fun _ => True) v107 t104) ∧ Aside0 (LexG.G 5 wc w.heap.size (fun k_ => some k_ ≠ (u16 : Value).ownBlock) u11 x11_1) ∧ Aside0 (Kd.R (Kd.int .u8) 5 wc w.heap.size (fun k_ => some k_ ≠ (u11 : Value).ownBlock) u16 x16_3) ∧ Aside0 (Below w.heap.size w wc))
                                    case first =>
                                      have H := HC35.out
                                      clear HC35
                                      by_cases c36 : x18_30 = true
                                      · subst c36
                                        have H1 : (millwrightlaw02_LexComments.j4 kj30 tk5_l0 (Int.tmod (Go.bits .and .i64 a2 65535) x13_2) t101 t104 x11_1 x15_3 x16_3 x17_3 true (x15_3 == (Int.tmod (Go.bits .and .i64 a2 65535) x13_2))) = some r := by rw [if_pos rfl] at H; exact H
                                        clear H
                                        have H := H1
                                        clear H1
                                        have H' := Aside0.mk H
                                        clear H
                                        go_wp2
                                        repeat (go_quiet (fail); try go_wp2)
                                        go_meet
                                        case rel => exact ⟨_, ((x15_3 == (Int.tmod (Go.bits .and .i64 a2 65535) x13_2))), (by first | rfl | (simp; done) | (simp [*]; done)), H', ⟨by have := HK1.out; have := HK2.out; have := HK3.out; have := HJ30.out; first | omega | exact Nat.le_refl _⟩, ⟨by (with_reducible repeat (first | apply Kd.R_alloc | apply Kd.R_drewN | apply Kd.R_drew)); exact HO_8.out⟩, ⟨by (with_reducible repeat (first | apply LexG.G_alloc | apply LexG.G_drewN | apply LexG.G_drew)); exact HO_11.out⟩, ⟨by (with_reducible repeat (first | apply Kd.R_alloc | apply Kd.R_drewN | apply Kd.R_drew)); exact HO_16.out⟩, ⟨by repeat (first | (with_reducible first | exact HB.out | apply below_alloc | apply pw_below_drewN | apply below_drew1) | exact HB.out)⟩⟩
                                      · replace c36 := Bool.eq_false_iff.mpr c36
                                        subst c36
                                        have H1 : (millwrightlaw02_LexComments.j4 kj30 tk5_l0 (Int.tmod (Go.bits .and .i64 a2 65535) x13_2) t101 t104 x11_1 x15_3 x16_3 x17_3 false false) = some r := by rw [if_neg (show ¬ (false = true) by decide)] at H; exact H
                                        clear H
                                        have H := H1
                                        clear H1
                                        have H' := Aside0.mk H
                                        clear H
                                        go_wp2
                                        repeat (go_quiet (fail); try go_wp2)
                                        go_meet
                                        case rel => exact ⟨_, (false), (by first | rfl | (simp; done) | (simp [*]; done)), H', ⟨by have := HK1.out; have := HK2.out; have := HK3.out; have := HJ30.out; first | omega | exact Nat.le_refl _⟩, ⟨by (with_reducible repeat (first | apply Kd.R_alloc | apply Kd.R_drewN | apply Kd.R_drew)); exact HO_8.out⟩, ⟨by (with_reducible repeat (first | apply LexG.G_alloc | apply LexG.G_drewN | apply LexG.G_drew)); exact HO_11.out⟩, ⟨by (with_reducible repeat (first | apply Kd.R_alloc | apply Kd.R_drewN | apply Kd.R_drew)); exact HO_16.out⟩, ⟨by repeat (first | (with_reducible first | exact HB.out | apply below_alloc | apply pw_below_drewN | apply below_drew1) | exact HB.out)⟩⟩
                                    case rest =>
                                      clear HC35
                                      try clear c1
                                      try clear p1
                                      try clear q1
                                      try clear hx1
                                      try clear c2
                                      try clear p2
                                      try clear c3
                                      try clear c6
                                      try clear c6b0
                                      try clear c6b1
                                      try clear p6
                                      try clear c7
                                      try clear c7b0
                                      try clear c7b1
                                      try clear c9
                                      try clear c9b0
                                      try clear c9b1
                                      try clear c10
                                      try clear c10b0
                                      try clear c10b1
                                      try clear p11
                                      try clear q11
                                      try clear hx11
                                      try clear c12
                                      try clear c12b0
                                      try clear c12b1
                                      try clear p12
                                      try clear q12
                                      try clear hx12
                                      try clear c19
                                      try clear c19b0
                                      try clear c20
                                      try clear c20b0
                                      try clear c21
                                      try clear c21b0
                                      try clear c21b1
                                      try clear c22
                                      try clear c24
                                      try clear c24b0
                                      try clear c25
                                      try clear c25b0
                                      try clear c26
                                      try clear c26b0
                                      try clear c26b1
                                      try clear c27
                                      try clear c27b0
                                      try clear c27b1
                                      try clear c30
                                      try clear c30b0
                                      try clear c32
                                      try clear c32b0
                                      try clear c32b1
                                      try clear c33
                                      try clear c33b0
                                      try clear c34
                                      try clear c34b0
                                      try clear c36
                                      try clear hx112_0
                                      try clear hx113_0
                                      try clear hx117_0
                                      try clear hx121_0
                                      try clear p1
                                      try clear p11
                                      try clear p112
                                      try clear p113
                                      try clear p117
                                      try clear p12
                                      try clear p121
                                      try clear p2
                                      try clear p6
                                      try clear q1
                                      try clear q11
                                      try clear q112
                                      try clear q113
                                      try clear q117
                                      try clear q12
                                      try clear q121
                                      obtain ⟨kq, x103_34, rfl, HA, HJ34, HO_8, HO_11, HO_16, HB⟩ := hcut
                                      cases kq with
                                      | zero => exact absurd HA.out (by simp [millwrightlaw02_LexComments.j4])
                                      | succ kj34 =>
                                        have H := HA.out
                                        clear HA
                                        simp only [millwrightlaw02_LexComments.j4] at H
                                        have HC37 := Aside0.mk H
                                        clear H
                                        go_upto_if 103 with (fail)
                                        repeat (go_quiet (fail); go_upto_if 103 with (fail))
                                        go_cut [16] (fun v16 wc => ∃ (kq : Nat) (x16_36 : List Int), Aside0 (millwrightlaw02_LexComments.j5 kq tk5_l0 (Int.tmod (Go.bits .and .i64 a2 65535) x13_2) t101 t104 x11_1 x15_3 x16_36 x17_3 x18_30 = some r) ∧ Aside0 (kq ≤ kj34) ∧ Aside0 (Kd.R k35 35 wc w.heap.size (fun _ => True) v107 t104) ∧ Aside0 (LexG.G 5 wc w.heap.size (fun k_ => some k_ ≠ (v16 : Value).ownBlock) u11 x11_1) ∧ Aside0 (Kd.R (Kd.int .u8) 5 wc w.heap.size (fun k_ => some k_ ≠ (u11 : Value).ownBlock) v16 x16_36) ∧ Aside0 (Below w.heap.size w wc))
                                        case first =>
                                          have H := HC37.out
                                          clear HC37
                                          by_cases c38 : x103_34 = true
                                          · subst c38
                                            have H1 : (if x16_3.length + x11_1.length < 140737488355328 then (millwrightlaw02_LexComments.j5 kj34 tk5_l0 (Int.tmod (Go.bits .and .i64 a2 65535) x13_2) t101 t104 x11_1 x15_3 (x16_3 ++ x11_1) x17_3 x18_30) else (none)) = some r := by rw [if_pos rfl] at H; exact H
                                            clear H
                                            have H := H1
                                            clear H1
                                            by_cases c39 : x16_3.length + x11_1.length < 140737488355328
                                            · rw [if_pos c39] at H
                                              have LMc39 := Aside0.mk c39
                                              clear c39
                                              obtain ⟨y122, hy122⟩ : ∃ y_ : List Int, y_ = (x16_3 ++ x11_1) := ⟨_, rfl⟩
                                              replace H : (millwrightlaw02_LexComments.j5 kj34 tk5_l0 (Int.tmod (Go.bits .and .i64 a2 65535) x13_2) t101 t104 x11_1 x15_3 y122 x17_3 x18_30) = some r := by first | (rw [hy122]; with_reducible exact H) | (have H2_ := (Option.bind_some _ _).symm.trans H; rw [hy122]; with_reducible exact H2_) | (have H2_ := (Option.bind_some _ _).symm.trans H; with_reducible exact H2_) | with_reducible exact H | (rw [hy122]; exact H) | exact H
                                              have Ny122 := Aside0.mk hy122
                                              clear hy122
                                              have H' := Aside0.mk H
                                              clear H
                                              obtain ⟨Ao41, co41, eo41⟩ := LexG.G_slice HO_11.out
                                              subst eo41
                                              go_wp2_with (first | ((with_reducible refine gate_builtin (b := .append) (xs := #[.tmp 104, .tmp 105]) rfl ?_); (try (refine gate_guard (by rfl) ?_; dsimp only)); at_builtin; refine Kd.R_append_rows (Kd.int .u8) (w0 := w) w.heap.size rfl (.tmp 104) (.tmp 105) 22 5 (.int .u8 0) 1 rfl Try.underlying22 info5 rfl (by decide) (by omega) u16 x16_3 x11_1 _ _ _ (fun k_ => some k_ ≠ (.slice Ao41 x11_1.length co41 : Value).ownBlock) (fun _ => False) rfl rfl ?aO ?aR (fun _ _ h => h) (fun _ h => h.elim) ?aF ?aB ?aS ?aL ?_; (case aR => repeat (first | exact (LexG.G_reads' HO_11.out).2.2 | (with_reducible refine Kd.C_alloc ?_ _) | (with_reducible refine Kd.C_drewN ?_ _) | (with_reducible refine Kd.C_drew ?_))); (case aB => exact (by repeat (first | (with_reducible first | exact HB.out | apply below_alloc | apply pw_below_drewN | apply below_drew1) | exact HB.out))); (case aF => exact (fun k_ hk => Kd.fresh' (LexG.G_lt (by (with_reducible repeat (first | apply LexG.G_alloc | apply LexG.G_drewN | apply LexG.G_drew)); exact HO_11.out)) k_ hk)); (case aO => exact (by (with_reducible repeat (first | apply Kd.R_alloc | apply Kd.R_drewN | apply Kd.R_drew)); exact HO_16.out)); (case aS => exact (below_size (by repeat (first | (with_reducible first | exact HB.out | apply below_alloc | apply pw_below_drewN | apply below_drew1) | exact HB.out)))); (case aL => have := LMc39.out; omega); intro v123 w40 ho hb hg hat; rw [← Ny122.out] at ho; have n0_ := Aside0.mk (Kd.R_over' (by (with_reducible repeat (first | apply Kd.R_alloc | apply Kd.R_drewN | apply Kd.R_drew)); exact HO_8.out) (Kd.R_typed (by (with_reducible repeat (first | apply Kd.R_alloc | apply Kd.R_drewN | apply Kd.R_drew)); exact HO_16.out)) (by decide) hg); have n1_ := Aside0.mk (LexG.G_after (ok := (fun _ => True)) (by (with_reducible repeat (first | apply LexG.G_alloc | apply LexG.G_drewN | apply LexG.G_drew)); exact LexG.G_mono HO_11.out (fun _ hk => ⟨trivial, hk⟩)) hg hat); have n2_ := Aside0.mk (hb); have n3_ := Aside0.mk (ho); clear HO_8; clear HO_11; clear HB; clear HO_16; have HO_8 := n0_; have HO_11 := n1_; have HB := n2_; have HO124 := n3_; clear n0_ n1_ n2_ n3_; clear ho hb hg hat))
                                              repeat (go_quiet (first | ((with_reducible refine gate_builtin (b := .append) (xs := #[.tmp 104, .tmp 105]) rfl ?_); (try (refine gate_guard (by rfl) ?_; dsimp only)); at_builtin; refine Kd.R_append_rows (Kd.int .u8) (w0 := w) w.heap.size rfl (.tmp 104) (.tmp 105) 22 5 (.int .u8 0) 1 rfl Try.underlying22 info5 rfl (by decide) (by omega) u16 x16_3 x11_1 _ _ _ (fun k_ => some k_ ≠ (.slice Ao41 x11_1.length co41 : Value).ownBlock) (fun _ => False) rfl rfl ?aO ?aR (fun _ _ h => h) (fun _ h => h.elim) ?aF ?aB ?aS ?aL ?_; (case aR => repeat (first | exact (LexG.G_reads' HO_11.out).2.2 | (with_reducible refine Kd.C_alloc ?_ _) | (with_reducible refine Kd.C_drewN ?_ _) | (with_reducible refine Kd.C_drew ?_))); (case aB => exact (by repeat (first | (with_reducible first | exact HB.out | apply below_alloc | apply pw_below_drewN | apply below_drew1) | exact HB.out))); (case aF => exact (fun k_ hk => Kd.fresh' (LexG.G_lt (by (with_reducible repeat (first | apply LexG.G_alloc | apply LexG.G_drewN | apply LexG.G_drew)); exact HO_11.out)) k_ hk)); (case aO => exact (by (with_reducible repeat (first | apply Kd.R_alloc | apply Kd.R_drewN | apply Kd.R_drew)); exact HO_16.out)); (case aS => exact (below_size (by repeat (first | (with_reducible first | exact HB.out | apply below_alloc | apply pw_below_drewN | apply below_drew1) | exact HB.out)))); (case aL => have := LMc39.out; omega); intro v123 w40 ho hb hg hat; rw [← Ny122.out] at ho; have n0_ := Aside0.mk (Kd.R_over' (by (with_reducible repeat (first | apply Kd.R_alloc | apply Kd.R_drewN | apply Kd.R_drew)); exact HO_8.out) (Kd.R_typed (by (with_reducible repeat (first | apply Kd.R_alloc | apply Kd.R_drewN | apply Kd.R_drew)); exact HO_16.out)) (by decide) hg); have n1_ := Aside0.mk (LexG.G_after (ok := (fun _ => True)) (by (with_reducible repeat (first | apply LexG.G_alloc | apply LexG.G_drewN | apply LexG.G_drew)); exact LexG.G_mono HO_11.out (fun _ hk => ⟨trivial, hk⟩)) hg hat); have n2_ := Aside0.mk (hb); have n3_ := Aside0.mk (ho); clear HO_8; clear HO_11; clear HB; clear HO_16; have HO_8 := n0_; have HO_11 := n1_; have HB := n2_; have HO124 := n3_; clear n0_ n1_ n2_ n3_; clear ho hb hg hat)); try go_wp2_with (first | ((with_reducible refine gate_builtin (b := .append) (xs := #[.tmp 104, .tmp 105]) rfl ?_); (try (refine gate_guard (by rfl) ?_; dsimp only)); at_builtin; refine Kd.R_append_rows (Kd.int .u8) (w0 := w) w.heap.size rfl (.tmp 104) (.tmp 105) 22 5 (.int .u8 0) 1 rfl Try.underlying22 info5 rfl (by decide) (by omega) u16 x16_3 x11_1 _ _ _ (fun k_ => some k_ ≠ (.slice Ao41 x11_1.length co41 : Value).ownBlock) (fun _ => False) rfl rfl ?aO ?aR (fun _ _ h => h) (fun _ h => h.elim) ?aF ?aB ?aS ?aL ?_; (case aR => repeat (first | exact (LexG.G_reads' HO_11.out).2.2 | (with_reducible refine Kd.C_alloc ?_ _) | (with_reducible refine Kd.C_drewN ?_ _) | (with_reducible refine Kd.C_drew ?_))); (case aB => exact (by repeat (first | (with_reducible first | exact HB.out | apply below_alloc | apply pw_below_drewN | apply below_drew1) | exact HB.out))); (case aF => exact (fun k_ hk => Kd.fresh' (LexG.G_lt (by (with_reducible repeat (first | apply LexG.G_alloc | apply LexG.G_drewN | apply LexG.G_drew)); exact HO_11.out)) k_ hk)); (case aO => exact (by (with_reducible repeat (first | apply Kd.R_alloc | apply Kd.R_drewN | apply Kd.R_drew)); exact HO_16.out)); (case aS => exact (below_size (by repeat (first | (with_reducible first | exact HB.out | apply below_alloc | apply pw_below_drewN | apply below_drew1) | exact HB.out)))); (case aL => have := LMc39.out; omega); intro v123 w40 ho hb hg hat; rw [← Ny122.out] at ho; have n0_ := Aside0.mk (Kd.R_over' (by (with_reducible repeat (first | apply Kd.R_alloc | apply Kd.R_drewN | apply Kd.R_drew)); exact HO_8.out) (Kd.R_typed (by (with_reducible repeat (first | apply Kd.R_alloc | apply Kd.R_drewN | apply Kd.R_drew)); exact HO_16.out)) (by decide) hg); have n1_ := Aside0.mk (LexG.G_after (ok := (fun _ => True)) (by (with_reducible repeat (first | apply LexG.G_alloc | apply LexG.G_drewN | apply LexG.G_drew)); exact LexG.G_mono HO_11.out (fun _ hk => ⟨trivial, hk⟩)) hg hat); have n2_ := Aside0.mk (hb); have n3_ := Aside0.mk (ho); clear HO_8; clear HO_11; clear HB; clear HO_16; have HO_8 := n0_; have HO_11 := n1_; have HB := n2_; have HO124 := n3_; clear n0_ n1_ n2_ n3_; clear ho hb hg hat)))
                                              go_meet
                                              case rel => exact ⟨_, (y122), H', ⟨by have := HK1.out; have := HK2.out; have := HK3.out; have := HJ30.out; have := HJ34.out; first | omega | exact Nat.le_refl _⟩, ⟨by (with_reducible repeat (first | apply Kd.R_alloc | apply Kd.R_drewN | apply Kd.R_drew)); exact HO_8.out⟩, ⟨by (with_reducible repeat (first | apply LexG.G_alloc | apply LexG.G_drewN | apply LexG.G_drew)); exact LexG.G_mono HO_11.out (fun _ hk => hk.2)⟩, ⟨by (with_reducible repeat (first | apply Kd.R_alloc | apply Kd.R_drewN | apply Kd.R_drew)); exact HO124.out⟩, ⟨by repeat (first | (with_reducible first | exact HB.out | apply below_alloc | apply pw_below_drewN | apply below_drew1) | exact HB.out)⟩⟩
                                            · rw [if_neg c39] at H
                                              exact absurd H (by simp)
                                          · replace c38 := Bool.eq_false_iff.mpr c38
                                            subst c38
                                            have H1 : (millwrightlaw02_LexComments.j5 kj34 tk5_l0 (Int.tmod (Go.bits .and .i64 a2 65535) x13_2) t101 t104 x11_1 x15_3 x16_3 x17_3 x18_30) = some r := by rw [if_neg (show ¬ (false = true) by decide)] at H; exact H
                                            clear H
                                            have H := H1
                                            clear H1
                                            have H' := Aside0.mk H
                                            clear H
                                            go_wp2
                                            repeat (go_quiet (fail); try go_wp2)
                                            go_meet
                                            case rel => exact ⟨_, (x16_3), H', ⟨by have := HK1.out; have := HK2.out; have := HK3.out; have := HJ30.out; have := HJ34.out; first | omega | exact Nat.le_refl _⟩, ⟨by (with_reducible repeat (first | apply Kd.R_alloc | apply Kd.R_drewN | apply Kd.R_drew)); exact HO_8.out⟩, ⟨by (with_reducible repeat (first | apply LexG.G_alloc | apply LexG.G_drewN | apply LexG.G_drew)); exact HO_11.out⟩, ⟨by (with_reducible repeat (first | apply Kd.R_alloc | apply Kd.R_drewN | apply Kd.R_drew)); exact HO_16.out⟩, ⟨by repeat (first | (with_reducible first | exact HB.out | apply below_alloc | apply pw_below_drewN | apply below_drew1) | exact HB.out)⟩⟩
                                        case rest =>
                                          clear HC37
                                          try clear c1
                                          try clear p1
                                          try clear q1
                                          try clear hx1
                                          try clear c2
                                          try clear p2
                                          try clear c3
                                          try clear c6
                                          try clear c6b0
                                          try clear c6b1
                                          try clear p6
                                          try clear c7
                                          try clear c7b0
                                          try clear c7b1
                                          try clear c9
                                          try clear c9b0
                                          try clear c9b1
                                          try clear c10
                                          try clear c10b0
                                          try clear c10b1
                                          try clear p11
                                          try clear q11
                                          try clear hx11
                                          try clear c12
                                          try clear c12b0
                                          try clear c12b1
                                          try clear p12
                                          try clear q12
                                          try clear hx12
                                          try clear c19
                                          try clear c19b0
                                          try clear c20
                                          try clear c20b0
                                          try clear c21
                                          try clear c21b0
                                          try clear c21b1
                                          try clear c22
                                          try clear c24
                                          try clear c24b0
                                          try clear c25
                                          try clear c25b0
                                          try clear c26
                                          try clear c26b0
                                          try clear c26b1
                                          try clear c27
                                          try clear c27b0
                                          try clear c27b1
                                          try clear c30
                                          try clear c30b0
                                          try clear c32
                                          try clear c32b0
                                          try clear c32b1
                                          try clear c33
                                          try clear c33b0
                                          try clear c34
                                          try clear c34b0
                                          try clear c36
                                          try clear c38
                                          try clear c39
                                          try clear hx112_0
                                          try clear hx113_0
                                          try clear hx117_0
                                          try clear hx121_0
                                          try clear p1
                                          try clear p11
                                          try clear p112
                                          try clear p113
                                          try clear p117
                                          try clear p12
                                          try clear p121
                                          try clear p2
                                          try clear p6
                                          try clear q1
                                          try clear q11
                                          try clear q112
                                          try clear q113
                                          try clear q117
                                          try clear q12
                                          try clear q121
                                          obtain ⟨kq, x16_36, HA, HJ36, HO_8, HO_11, HO_16, HB⟩ := hcut
                                          cases kq with
                                          | zero => exact absurd HA.out (by simp [millwrightlaw02_LexComments.j5])
                                          | succ kj36 =>
                                            have H := HA.out
                                            clear HA
                                            simp only [millwrightlaw02_LexComments.j5] at H
                                            by_cases c42 : x18_30 = true
                                            · subst c42
                                              have H1 : (if x17_3 < (tk5_l0.length : Int) then (if 0 ≤ x17_3 then (if x16_36.length < 140737488355328 then (millwrightlaw02_LexComments.l2 kj36 tk5_l0 (Int.tmod (Go.bits .and .i64 a2 65535) x13_2) t101 t104 x11_1 (wrap64 (x15_3 + 1)) (x16_36 ++ [rd tk5_l0 x17_3]) (wrap64 (x17_3 + 1))) else (none)) else (none)) else (millwrightlaw02_LexComments.l2 kj36 tk5_l0 (Int.tmod (Go.bits .and .i64 a2 65535) x13_2) t101 t104 x11_1 (wrap64 (x15_3 + 1)) x16_36 (wrap64 (x17_3 + 1)))) = some r := by rw [if_pos rfl] at H; exact H
                                              clear H
                                              have H := H1
                                              clear H1
                                              by_cases c43 : x17_3 < (tk5_l0.length : Int)
                                              · rw [if_pos c43] at H
                                                have c43b0 : decide (x17_3 < (tk5_l0.length : Int)) = true := decide_eq_true c43
                                                clear c43
                                                by_cases c44 : 0 ≤ x17_3
                                                · rw [if_pos c44] at H
                                                  have c44b0 : decide (0 ≤ x17_3) = true := decide_eq_true c44
                                                  clear c44
                                                  by_cases c45 : x16_36.length < 140737488355328
                                                  · rw [if_pos c45] at H
                                                    have LMc45 := Aside0.mk c45
                                                    clear c45
                                                    obtain ⟨y126, hy126⟩ : ∃ y_ : List Int, y_ = (x16_36 ++ [rd tk5_l0 x17_3]) := ⟨_, rfl⟩
                                                    replace H : (millwrightlaw02_LexComments.l2 kj36 tk5_l0 (Int.tmod (Go.bits .and .i64 a2 65535) x13_2) t101 t104 x11_1 (wrap64 (x15_3 + 1)) y126 (wrap64 (x17_3 + 1))) = some r := by first | (rw [hy126]; with_reducible exact H) | (have H2_ := (Option.bind_some _ _).symm.trans H; rw [hy126]; with_reducible exact H2_) | (have H2_ := (Option.bind_some _ _).symm.trans H; with_reducible exact H2_) | with_reducible exact H | (rw [hy126]; exact H) | exact H
                                                    have Ny126 := Aside0.mk hy126
                                                    clear hy126
                                                    have H' := Aside0.mk H
                                                    clear H
                                                    have p125 : 0 ≤ (x17_3 : Int) := of_decide_eq_true (by first | (with_reducible assumption) | assumption)
                                                    have q125 : x17_3 < (tk5_l0.length : Int) := of_decide_eq_true (by first | (with_reducible assumption) | assumption)
                                                    obtain ⟨ad125, e125, hx125_0⟩ := Kd.at_int HR102.out x17_3 p125 q125
                                                    cases e125
                                                    replace hx125_0 := (HB.out.cell (World.block_lt_of_cell? w _ hx125_0)).trans hx125_0
                                                    replace p125 := eq_true p125
                                                    replace q125 := eq_true q125
                                                    go_wp2_with (first | ((with_reducible refine gate_builtin (b := .append) (xs := #[.tmp 114, .tmp 119]) rfl ?_); (try (refine gate_guard (by rfl) ?_; dsimp only)); at_builtin; refine Kd.R_append (Kd.int .u8) (w0 := w) w.heap.size rfl (.tmp 114) (.tmp 119) 22 5 (.int .u8 0) 1 rfl Try.underlying22 info5 rfl (by decide) (by omega) u16 x16_36 (rd tk5_l0 x17_3) [.int .u8 (rd tk5_l0 x17_3)] (fun k_ => some k_ ≠ (u11 : Value).ownBlock) (fun _ => False) rfl rfl ?aP (fun _ hk => hk.elim) ?aF ?aO ?aB ?aS ?aL ?_; (case aP => exact rfl); (case aB => exact (by repeat (first | (with_reducible first | exact HB.out | apply below_alloc | apply pw_below_drewN | apply below_drew1) | exact HB.out))); (case aF => exact (fun k_ hk => Kd.fresh' (LexG.G_lt (by (with_reducible repeat (first | apply LexG.G_alloc | apply LexG.G_drewN | apply LexG.G_drew)); exact HO_11.out)) k_ hk)); (case aO => exact (by (with_reducible repeat (first | apply Kd.R_alloc | apply Kd.R_drewN | apply Kd.R_drew)); exact HO_16.out)); (case aS => exact (below_size (by repeat (first | (with_reducible first | exact HB.out | apply below_alloc | apply pw_below_drewN | apply below_drew1) | exact HB.out)))); (case aL => have := LMc45.out; omega); intro v127 w46 ho hb hg hat; rw [← Ny126.out] at ho; have n0_ := Aside0.mk (Kd.R_over' (by (with_reducible repeat (first | apply Kd.R_alloc | apply Kd.R_drewN | apply Kd.R_drew)); exact HO_8.out) (Kd.R_typed (by (with_reducible repeat (first | apply Kd.R_alloc | apply Kd.R_drewN | apply Kd.R_drew)); exact HO_16.out)) (by decide) hg); have n1_ := Aside0.mk (LexG.G_after (ok := (fun _ => True)) (by (with_reducible repeat (first | apply LexG.G_alloc | apply LexG.G_drewN | apply LexG.G_drew)); exact LexG.G_mono HO_11.out (fun _ hk => ⟨trivial, hk⟩)) hg hat); have n2_ := Aside0.mk (hb); have n3_ := Aside0.mk (ho); clear HO_8; clear HO_11; clear HB; clear HO_16; have HO_8 := n0_; have HO_11 := n1_; have HB := n2_; have HO128 := n3_; clear n0_ n1_ n2_ n3_; clear ho hb hg hat))
                                                    repeat (go_quiet (first | ((with_reducible refine gate_builtin (b := .append) (xs := #[.tmp 114, .tmp 119]) rfl ?_); (try (refine gate_guard (by rfl) ?_; dsimp only)); at_builtin; refine Kd.R_append (Kd.int .u8) (w0 := w) w.heap.size rfl (.tmp 114) (.tmp 119) 22 5 (.int .u8 0) 1 rfl Try.underlying22 info5 rfl (by decide) (by omega) u16 x16_36 (rd tk5_l0 x17_3) [.int .u8 (rd tk5_l0 x17_3)] (fun k_ => some k_ ≠ (u11 : Value).ownBlock) (fun _ => False) rfl rfl ?aP (fun _ hk => hk.elim) ?aF ?aO ?aB ?aS ?aL ?_; (case aP => exact rfl); (case aB => exact (by repeat (first | (with_reducible first | exact HB.out | apply below_alloc | apply pw_below_drewN | apply below_drew1) | exact HB.out))); (case aF => exact (fun k_ hk => Kd.fresh' (LexG.G_lt (by (with_reducible repeat (first | apply LexG.G_alloc | apply LexG.G_drewN | apply LexG.G_drew)); exact HO_11.out)) k_ hk)); (case aO => exact (by (with_reducible repeat (first | apply Kd.R_alloc | apply Kd.R_drewN | apply Kd.R_drew)); exact HO_16.out)); (case aS => exact (below_size (by repeat (first | (with_reducible first | exact HB.out | apply below_alloc | apply pw_below_drewN | apply below_drew1) | exact HB.out)))); (case aL => have := LMc45.out; omega); intro v127 w46 ho hb hg hat; rw [← Ny126.out] at ho; have n0_ := Aside0.mk (Kd.R_over' (by (with_reducible repeat (first | apply Kd.R_alloc | apply Kd.R_drewN | apply Kd.R_drew)); exact HO_8.out) (Kd.R_typed (by (with_reducible repeat (first | apply Kd.R_alloc | apply Kd.R_drewN | apply Kd.R_drew)); exact HO_16.out)) (by decide) hg); have n1_ := Aside0.mk (LexG.G_after (ok := (fun _ => True)) (by (with_reducible repeat (first | apply LexG.G_alloc | apply LexG.G_drewN | apply LexG.G_drew)); exact LexG.G_mono HO_11.out (fun _ hk => ⟨trivial, hk⟩)) hg hat); have n2_ := Aside0.mk (hb); have n3_ := Aside0.mk (ho); clear HO_8; clear HO_11; clear HB; clear HO_16; have HO_8 := n0_; have HO_11 := n1_; have HB := n2_; have HO128 := n3_; clear n0_ n1_ n2_ n3_; clear ho hb hg hat)); try go_wp2_with (first | ((with_reducible refine gate_builtin (b := .append) (xs := #[.tmp 114, .tmp 119]) rfl ?_); (try (refine gate_guard (by rfl) ?_; dsimp only)); at_builtin; refine Kd.R_append (Kd.int .u8) (w0 := w) w.heap.size rfl (.tmp 114) (.tmp 119) 22 5 (.int .u8 0) 1 rfl Try.underlying22 info5 rfl (by decide) (by omega) u16 x16_36 (rd tk5_l0 x17_3) [.int .u8 (rd tk5_l0 x17_3)] (fun k_ => some k_ ≠ (u11 : Value).ownBlock) (fun _ => False) rfl rfl ?aP (fun _ hk => hk.elim) ?aF ?aO ?aB ?aS ?aL ?_; (case aP => exact rfl); (case aB => exact (by repeat (first | (with_reducible first | exact HB.out | apply below_alloc | apply pw_below_drewN | apply below_drew1) | exact HB.out))); (case aF => exact (fun k_ hk => Kd.fresh' (LexG.G_lt (by (with_reducible repeat (first | apply LexG.G_alloc | apply LexG.G_drewN | apply LexG.G_drew)); exact HO_11.out)) k_ hk)); (case aO => exact (by (with_reducible repeat (first | apply Kd.R_alloc | apply Kd.R_drewN | apply Kd.R_drew)); exact HO_16.out)); (case aS => exact (below_size (by repeat (first | (with_reducible first | exact HB.out | apply below_alloc | apply pw_below_drewN | apply below_drew1) | exact HB.out)))); (case aL => have := LMc45.out; omega); intro v127 w46 ho hb hg hat; rw [← Ny126.out] at ho; have n0_ := Aside0.mk (Kd.R_over' (by (with_reducible repeat (first | apply Kd.R_alloc | apply Kd.R_drewN | apply Kd.R_drew)); exact HO_8.out) (Kd.R_typed (by (with_reducible repeat (first | apply Kd.R_alloc | apply Kd.R_drewN | apply Kd.R_drew)); exact HO_16.out)) (by decide) hg); have n1_ := Aside0.mk (LexG.G_after (ok := (fun _ => True)) (by (with_reducible repeat (first | apply LexG.G_alloc | apply LexG.G_drewN | apply LexG.G_drew)); exact LexG.G_mono HO_11.out (fun _ hk => ⟨trivial, hk⟩)) hg hat); have n2_ := Aside0.mk (hb); have n3_ := Aside0.mk (ho); clear HO_8; clear HO_11; clear HB; clear HO_16; have HO_8 := n0_; have HO_11 := n1_; have HB := n2_; have HO128 := n3_; clear n0_ n1_ n2_ n3_; clear ho hb hg hat)))
                                                    go_roundg kj36
                                                    case measure => have := HK1.out; have := HK2.out; have := HK3.out; have := HJ30.out; have := HJ34.out; have := HJ36.out; omega
                                                    case rel => exact ⟨(wrap64 (x15_3 + 1)), (y126), (wrap64 (x17_3 + 1)), (by first | rfl | (simp; done) | (simp [*]; done)), (by first | rfl | (simp; done) | (simp [*]; done)), H', ⟨by have := HK1.out; have := HK2.out; have := HK3.out; have := HJ30.out; have := HJ34.out; have := HJ36.out; omega⟩, ⟨by (with_reducible repeat (first | apply Kd.R_alloc | apply Kd.R_drewN | apply Kd.R_drew)); exact HO_8.out⟩, ⟨by (with_reducible repeat (first | apply LexG.G_alloc | apply LexG.G_drewN | apply LexG.G_drew)); exact LexG.G_mono HO_11.out (fun _ hk => hk.2)⟩, ⟨by (with_reducible repeat (first | apply Kd.R_alloc | apply Kd.R_drewN | apply Kd.R_drew)); exact HO128.out⟩, ⟨by repeat (first | (with_reducible first | exact HB.out | apply below_alloc | apply pw_below_drewN | apply below_drew1) | exact HB.out)⟩⟩
                                                  · rw [if_neg c45] at H
                                                    exact absurd H (by simp)
                                                · rw [if_neg c44] at H
                                                  exact absurd H (by simp)
                                              · rw [if_neg c43] at H
                                                have c43b0 : decide (x17_3 < (tk5_l0.length : Int)) = false := decide_eq_false c43
                                                clear c43
                                                have H' := Aside0.mk H
                                                clear H
                                                go_wp2
                                                repeat (go_quiet (fail); try go_wp2)
                                                go_roundg kj36
                                                case measure => have := HK1.out; have := HK2.out; have := HK3.out; have := HJ30.out; have := HJ34.out; have := HJ36.out; omega
                                                case rel => exact ⟨(wrap64 (x15_3 + 1)), (x16_36), (wrap64 (x17_3 + 1)), (by first | rfl | (simp; done) | (simp [*]; done)), (by first | rfl | (simp; done) | (simp [*]; done)), H', ⟨by have := HK1.out; have := HK2.out; have := HK3.out; have := HJ30.out; have := HJ34.out; have := HJ36.out; omega⟩, ⟨by (with_reducible repeat (first | apply Kd.R_alloc | apply Kd.R_drewN | apply Kd.R_drew)); exact HO_8.out⟩, ⟨by (with_reducible repeat (first | apply LexG.G_alloc | apply LexG.G_drewN | apply LexG.G_drew)); exact HO_11.out⟩, ⟨by (with_reducible repeat (first | apply Kd.R_alloc | apply Kd.R_drewN | apply Kd.R_drew)); exact HO_16.out⟩, ⟨by repeat (first | (with_reducible first | exact HB.out | apply below_alloc | apply pw_below_drewN | apply below_drew1) | exact HB.out)⟩⟩
                                            · replace c42 := Bool.eq_false_iff.mpr c42
                                              subst c42
                                              have H1 : (if x17_3 < (tk5_l0.length : Int) then (if 0 ≤ x17_3 then (if x16_36.length < 140737488355328 then (millwrightlaw02_LexComments.l2 kj36 tk5_l0 (Int.tmod (Go.bits .and .i64 a2 65535) x13_2) t101 t104 x11_1 x15_3 (x16_36 ++ [rd tk5_l0 x17_3]) (wrap64 (x17_3 + 1))) else (none)) else (none)) else (millwrightlaw02_LexComments.l2 kj36 tk5_l0 (Int.tmod (Go.bits .and .i64 a2 65535) x13_2) t101 t104 x11_1 x15_3 x16_36 (wrap64 (x17_3 + 1)))) = some r := by rw [if_neg (show ¬ (false = true) by decide)] at H; exact H
                                              clear H
                                              have H := H1
                                              clear H1
                                              by_cases c47 : x17_3 < (tk5_l0.length : Int)
                                              · rw [if_pos c47] at H
                                                have c47b0 : decide (x17_3 < (tk5_l0.length : Int)) = true := decide_eq_true c47
                                                clear c47
                                                by_cases c48 : 0 ≤ x17_3
                                                · rw [if_pos c48] at H
                                                  have c48b0 : decide (0 ≤ x17_3) = true := decide_eq_true c48
                                                  clear c48
                                                  by_cases c49 : x16_36.length < 140737488355328
                                                  · rw [if_pos c49] at H
                                                    have LMc49 := Aside0.mk c49
                                                    clear c49
                                                    obtain ⟨y130, hy130⟩ : ∃ y_ : List Int, y_ = (x16_36 ++ [rd tk5_l0 x17_3]) := ⟨_, rfl⟩
                                                    replace H : (millwrightlaw02_LexComments.l2 kj36 tk5_l0 (Int.tmod (Go.bits .and .i64 a2 65535) x13_2) t101 t104 x11_1 x15_3 y130 (wrap64 (x17_3 + 1))) = some r := by first | (rw [hy130]; with_reducible exact H) | (have H2_ := (Option.bind_some _ _).symm.trans H; rw [hy130]; with_reducible exact H2_) | (have H2_ := (Option.bind_some _ _).symm.trans H; with_reducible exact H2_) | with_reducible exact H | (rw [hy130]; exact H) | exact H
                                                    have Ny130 := Aside0.mk hy130
                                                    clear hy130
                                                    have H' := Aside0.mk H
                                                    clear H
                                                    have p129 : 0 ≤ (x17_3 : Int) := of_decide_eq_true (by first | (with_reducible assumption) | assumption)
                                                    have q129 : x17_3 < (tk5_l0.length : Int) := of_decide_eq_true (by first | (with_reducible assumption) | assumption)
                                                    obtain ⟨ad129, e129, hx129_0⟩ := Kd.at_int HR102.out x17_3 p129 q129
                                                    cases e129
                                                    replace hx129_0 := (HB.out.cell (World.block_lt_of_cell? w _ hx129_0)).trans hx129_0
                                                    replace p129 := eq_true p129
                                                    replace q129 := eq_true q129
                                                    go_wp2_with (first | ((with_reducible refine gate_builtin (b := .append) (xs := #[.tmp 114, .tmp 119]) rfl ?_); (try (refine gate_guard (by rfl) ?_; dsimp only)); at_builtin; refine Kd.R_append (Kd.int .u8) (w0 := w) w.heap.size rfl (.tmp 114) (.tmp 119) 22 5 (.int .u8 0) 1 rfl Try.underlying22 info5 rfl (by decide) (by omega) u16 x16_36 (rd tk5_l0 x17_3) [.int .u8 (rd tk5_l0 x17_3)] (fun k_ => some k_ ≠ (u11 : Value).ownBlock) (fun _ => False) rfl rfl ?aP (fun _ hk => hk.elim) ?aF ?aO ?aB ?aS ?aL ?_; (case aP => exact rfl); (case aB => exact (by repeat (first | (with_reducible first | exact HB.out | apply below_alloc | apply pw_below_drewN | apply below_drew1) | exact HB.out))); (case aF => exact (fun k_ hk => Kd.fresh' (LexG.G_lt (by (with_reducible repeat (first | apply LexG.G_alloc | apply LexG.G_drewN | apply LexG.G_drew)); exact HO_11.out)) k_ hk)); (case aO => exact (by (with_reducible repeat (first | apply Kd.R_alloc | apply Kd.R_drewN | apply Kd.R_drew)); exact HO_16.out)); (case aS => exact (below_size (by repeat (first | (with_reducible first | exact HB.out | apply below_alloc | apply pw_below_drewN | apply below_drew1) | exact HB.out)))); (case aL => have := LMc49.out; omega); intro v131 w50 ho hb hg hat; rw [← Ny130.out] at ho; have n0_ := Aside0.mk (Kd.R_over' (by (with_reducible repeat (first | apply Kd.R_alloc | apply Kd.R_drewN | apply Kd.R_drew)); exact HO_8.out) (Kd.R_typed (by (with_reducible repeat (first | apply Kd.R_alloc | apply Kd.R_drewN | apply Kd.R_drew)); exact HO_16.out)) (by decide) hg); have n1_ := Aside0.mk (LexG.G_after (ok := (fun _ => True)) (by (with_reducible repeat (first | apply LexG.G_alloc | apply LexG.G_drewN | apply LexG.G_drew)); exact LexG.G_mono HO_11.out (fun _ hk => ⟨trivial, hk⟩)) hg hat); have n2_ := Aside0.mk (hb); have n3_ := Aside0.mk (ho); clear HO_8; clear HO_11; clear HB; clear HO_16; have HO_8 := n0_; have HO_11 := n1_; have HB := n2_; have HO132 := n3_; clear n0_ n1_ n2_ n3_; clear ho hb hg hat))
                                                    repeat (go_quiet (first | ((with_reducible refine gate_builtin (b := .append) (xs := #[.tmp 114, .tmp 119]) rfl ?_); (try (refine gate_guard (by rfl) ?_; dsimp only)); at_builtin; refine Kd.R_append (Kd.int .u8) (w0 := w) w.heap.size rfl (.tmp 114) (.tmp 119) 22 5 (.int .u8 0) 1 rfl Try.underlying22 info5 rfl (by decide) (by omega) u16 x16_36 (rd tk5_l0 x17_3) [.int .u8 (rd tk5_l0 x17_3)] (fun k_ => some k_ ≠ (u11 : Value).ownBlock) (fun _ => False) rfl rfl ?aP (fun _ hk => hk.elim) ?aF ?aO ?aB ?aS ?aL ?_; (case aP => exact rfl); (case aB => exact (by repeat (first | (with_reducible first | exact HB.out | apply below_alloc | apply pw_below_drewN | apply below_drew1) | exact HB.out))); (case aF => exact (fun k_ hk => Kd.fresh' (LexG.G_lt (by (with_reducible repeat (first | apply LexG.G_alloc | apply LexG.G_drewN | apply LexG.G_drew)); exact HO_11.out)) k_ hk)); (case aO => exact (by (with_reducible repeat (first | apply Kd.R_alloc | apply Kd.R_drewN | apply Kd.R_drew)); exact HO_16.out)); (case aS => exact (below_size (by repeat (first | (with_reducible first | exact HB.out | apply below_alloc | apply pw_below_drewN | apply below_drew1) | exact HB.out)))); (case aL => have := LMc49.out; omega); intro v131 w50 ho hb hg hat; rw [← Ny130.out] at ho; have n0_ := Aside0.mk (Kd.R_over' (by (with_reducible repeat (first | apply Kd.R_alloc | apply Kd.R_drewN | apply Kd.R_drew)); exact HO_8.out) (Kd.R_typed (by (with_reducible repeat (first | apply Kd.R_alloc | apply Kd.R_drewN | apply Kd.R_drew)); exact HO_16.out)) (by decide) hg); have n1_ := Aside0.mk (LexG.G_after (ok := (fun _ => True)) (by (with_reducible repeat (first | apply LexG.G_alloc | apply LexG.G_drewN | apply LexG.G_drew)); exact LexG.G_mono HO_11.out (fun _ hk => ⟨trivial, hk⟩)) hg hat); have n2_ := Aside0.mk (hb); have n3_ := Aside0.mk (ho); clear HO_8; clear HO_11; clear HB; clear HO_16; have HO_8 := n0_; have HO_11 := n1_; have HB := n2_; have HO132 := n3_; clear n0_ n1_ n2_ n3_; clear ho hb hg hat)); try go_wp2_with (first | ((with_reducible refine gate_builtin (b := .append) (xs := #[.tmp 114, .tmp 119]) rfl ?_); (try (refine gate_guard (by rfl) ?_; dsimp only)); at_builtin; refine Kd.R_append (Kd.int .u8) (w0 := w) w.heap.size rfl (.tmp 114) (.tmp 119) 22 5 (.int .u8 0) 1 rfl Try.underlying22 info5 rfl (by decide) (by omega) u16 x16_36 (rd tk5_l0 x17_3) [.int .u8 (rd tk5_l0 x17_3)] (fun k_ => some k_ ≠ (u11 : Value).ownBlock) (fun _ => False) rfl rfl ?aP (fun _ hk => hk.elim) ?aF ?aO ?aB ?aS ?aL ?_; (case aP => exact rfl); (case aB => exact (by repeat (first | (with_reducible first | exact HB.out | apply below_alloc | apply pw_below_drewN | apply below_drew1) | exact HB.out))); (case aF => exact (fun k_ hk => Kd.fresh' (LexG.G_lt (by (with_reducible repeat (first | apply LexG.G_alloc | apply LexG.G_drewN | apply LexG.G_drew)); exact HO_11.out)) k_ hk)); (case aO => exact (by (with_reducible repeat (first | apply Kd.R_alloc | apply Kd.R_drewN | apply Kd.R_drew)); exact HO_16.out)); (case aS => exact (below_size (by repeat (first | (with_reducible first | exact HB.out | apply below_alloc | apply pw_below_drewN | apply below_drew1) | exact HB.out)))); (case aL => have := LMc49.out; omega); intro v131 w50 ho hb hg hat; rw [← Ny130.out] at ho; have n0_ := Aside0.mk (Kd.R_over' (by (with_reducible repeat (first | apply Kd.R_alloc | apply Kd.R_drewN | apply Kd.R_drew)); exact HO_8.out) (Kd.R_typed (by (with_reducible repeat (first | apply Kd.R_alloc | apply Kd.R_drewN | apply Kd.R_drew)); exact HO_16.out)) (by decide) hg); have n1_ := Aside0.mk (LexG.G_after (ok := (fun _ => True)) (by (with_reducible repeat (first | apply LexG.G_alloc | apply LexG.G_drewN | apply LexG.G_drew)); exact LexG.G_mono HO_11.out (fun _ hk => ⟨trivial, hk⟩)) hg hat); have n2_ := Aside0.mk (hb); have n3_ := Aside0.mk (ho); clear HO_8; clear HO_11; clear HB; clear HO_16; have HO_8 := n0_; have HO_11 := n1_; have HB := n2_; have HO132 := n3_; clear n0_ n1_ n2_ n3_; clear ho hb hg hat)))
                                                    go_roundg kj36
                                                    case measure => have := HK1.out; have := HK2.out; have := HK3.out; have := HJ30.out; have := HJ34.out; have := HJ36.out; omega
                                                    case rel => exact ⟨(x15_3), (y130), (wrap64 (x17_3 + 1)), (by first | rfl | (simp; done) | (simp [*]; done)), (by first | rfl | (simp; done) | (simp [*]; done)), H', ⟨by have := HK1.out; have := HK2.out; have := HK3.out; have := HJ30.out; have := HJ34.out; have := HJ36.out; omega⟩, ⟨by (with_reducible repeat (first | apply Kd.R_alloc | apply Kd.R_drewN | apply Kd.R_drew)); exact HO_8.out⟩, ⟨by (with_reducible repeat (first | apply LexG.G_alloc | apply LexG.G_drewN | apply LexG.G_drew)); exact LexG.G_mono HO_11.out (fun _ hk => hk.2)⟩, ⟨by (with_reducible repeat (first | apply Kd.R_alloc | apply Kd.R_drewN | apply Kd.R_drew)); exact HO132.out⟩, ⟨by repeat (first | (with_reducible first | exact HB.out | apply below_alloc | apply pw_below_drewN | apply below_drew1) | exact HB.out)⟩⟩
                                                  · rw [if_neg c49] at H
                                                    exact absurd H (by simp)
                                                · rw [if_neg c48] at H
                                                  exact absurd H (by simp)
                                              · rw [if_neg c47] at H
                                                have c47b0 : decide (x17_3 < (tk5_l0.length : Int)) = false := decide_eq_false c47
                                                clear c47
                                                have H' := Aside0.mk H
                                                clear H
                                                go_wp2
                                                repeat (go_quiet (fail); try go_wp2)
                                                go_roundg kj36
                                                case measure => have := HK1.out; have := HK2.out; have := HK3.out; have := HJ30.out; have := HJ34.out; have := HJ36.out; omega
                                                case rel => exact ⟨(x15_3), (x16_36), (wrap64 (x17_3 + 1)), (by first | rfl | (simp; done) | (simp [*]; done)), (by first | rfl | (simp; done) | (simp [*]; done)), H', ⟨by have := HK1.out; have := HK2.out; have := HK3.out; have := HJ30.out; have := HJ34.out; have := HJ36.out; omega⟩, ⟨by (with_reducible repeat (first | apply Kd.R_alloc | apply Kd.R_drewN | apply Kd.R_drew)); exact HO_8.out⟩, ⟨by (with_reducible repeat (first | apply LexG.G_alloc | apply LexG.G_drewN | apply LexG.G_drew)); exact HO_11.out⟩, ⟨by (with_reducible repeat (first | apply Kd.R_alloc | apply Kd.R_drewN | apply Kd.R_drew)); exact HO_16.out⟩, ⟨by repeat (first | (with_reducible first | exact HB.out | apply below_alloc | apply pw_below_drewN | apply below_drew1) | exact HB.out)⟩⟩
                              · rw [if_neg c30] at H
                                have c30b0 : decide (x17_3 ≤ (tk5_l0.length : Int)) = false := decide_eq_false c30
                                clear c30
                                replace H := Option.bind_eq_some_iff.mp H
                                obtain ⟨⟨t133, t134, t135⟩, A510, H⟩ := H
                                replace H : (if t135 = 0 then (millwrightlaw02_LexComments.j6 k3 t101 t104 t133 ((t133.length : Int) != (t104.length : Int))) else (millwrightlaw02_LexComments.j6 k3 t101 t104 t133 true)) = some r := H
                                have A51 := Aside0.mk A510
                                clear A510
                                have HC52 := Aside0.mk H
                                clear H
                                obtain ⟨Ao53, co53, eo53⟩ := Kd.R_slice HO_16.out
                                subst eo53
                                go_upto_region 33 with (first | (go_at_call 11; (with_reducible refine (lex_Lex.calls _ _ x16_3 t133 t134 t135 _ ?side1 ?side2 A51.out).mono ?_); (case side1 => repeat (first | exact (Kd.R_reads' HO_16.out).2.2 | (with_reducible refine Kd.C_alloc ?_ _) | (with_reducible refine Kd.C_drewN ?_ _) | (with_reducible refine Kd.C_drew ?_))); (case side2 => exact (Kd.R_reads' HO_16.out).2.1); rintro e w54 ⟨v136, rfl, ho0, hb⟩; have n0_ := Aside0.mk (Kd.R_elder' (by (with_reducible repeat (first | apply Kd.R_alloc | apply Kd.R_drewN | apply Kd.R_drew)); exact HO_8.out) (Kd.R_base ho0) hb); have n1_ := Aside0.mk (LexG.G_below (by (with_reducible repeat (first | apply LexG.G_alloc | apply LexG.G_drewN | apply LexG.G_drew)); exact HO_11.out) hb); have n2_ := Aside0.mk (Kd.R_below (by (with_reducible repeat (first | apply Kd.R_alloc | apply Kd.R_drewN | apply Kd.R_drew)); exact HO_16.out) hb); have n3_ := Aside0.mk (Kd.R_lower (Kd.R_new' ho0 (Kd.R_lt (by (with_reducible repeat (first | apply Kd.R_alloc | apply Kd.R_drewN | apply Kd.R_drew)); exact HO_8.out))) (below_size (by repeat (first | (with_reducible first | exact HB.out | apply below_alloc | apply pw_below_drewN | apply below_drew1) | exact HB.out)))); have n4_ := Aside0.mk (below_step (by repeat (first | (with_reducible first | exact HB.out | apply below_alloc | apply pw_below_drewN | apply below_drew1) | exact HB.out)) hb); clear HO_8; clear HO_11; clear HO_16; clear HB; have HO_8 := n0_; have HO_11 := n1_; have HO_16 := n2_; have HO137 := n3_; have HB := n4_; clear n0_ n1_ n2_ n3_ n4_; (try clear hb); (try clear hb2); (try clear hk); (try clear hi); (try clear ho0)))
                                repeat (go_quiet (first | (go_at_call 11; (with_reducible refine (lex_Lex.calls _ _ x16_3 t133 t134 t135 _ ?side1 ?side2 A51.out).mono ?_); (case side1 => repeat (first | exact (Kd.R_reads' HO_16.out).2.2 | (with_reducible refine Kd.C_alloc ?_ _) | (with_reducible refine Kd.C_drewN ?_ _) | (with_reducible refine Kd.C_drew ?_))); (case side2 => exact (Kd.R_reads' HO_16.out).2.1); rintro e w54 ⟨v136, rfl, ho0, hb⟩; have n0_ := Aside0.mk (Kd.R_elder' (by (with_reducible repeat (first | apply Kd.R_alloc | apply Kd.R_drewN | apply Kd.R_drew)); exact HO_8.out) (Kd.R_base ho0) hb); have n1_ := Aside0.mk (LexG.G_below (by (with_reducible repeat (first | apply LexG.G_alloc | apply LexG.G_drewN | apply LexG.G_drew)); exact HO_11.out) hb); have n2_ := Aside0.mk (Kd.R_below (by (with_reducible repeat (first | apply Kd.R_alloc | apply Kd.R_drewN | apply Kd.R_drew)); exact HO_16.out) hb); have n3_ := Aside0.mk (Kd.R_lower (Kd.R_new' ho0 (Kd.R_lt (by (with_reducible repeat (first | apply Kd.R_alloc | apply Kd.R_drewN | apply Kd.R_drew)); exact HO_8.out))) (below_size (by repeat (first | (with_reducible first | exact HB.out | apply below_alloc | apply pw_below_drewN | apply below_drew1) | exact HB.out)))); have n4_ := Aside0.mk (below_step (by repeat (first | (with_reducible first | exact HB.out | apply below_alloc | apply pw_below_drewN | apply below_drew1) | exact HB.out)) hb); clear HO_8; clear HO_11; clear HO_16; clear HB; have HO_8 := n0_; have HO_11 := n1_; have HO_16 := n2_; have HO137 := n3_; have HB := n4_; clear n0_ n1_ n2_ n3_ n4_; (try clear hb); (try clear hb2); (try clear hk); (try clear hi); (try clear ho0))); go_upto_region 33 with (first | (go_at_call 11; (with_reducible refine (lex_Lex.calls _ _ x16_3 t133 t134 t135 _ ?side1 ?side2 A51.out).mono ?_); (case side1 => repeat (first | exact (Kd.R_reads' HO_16.out).2.2 | (with_reducible refine Kd.C_alloc ?_ _) | (with_reducible refine Kd.C_drewN ?_ _) | (with_reducible refine Kd.C_drew ?_))); (case side2 => exact (Kd.R_reads' HO_16.out).2.1); rintro e w54 ⟨v136, rfl, ho0, hb⟩; have n0_ := Aside0.mk (Kd.R_elder' (by (with_reducible repeat (first | apply Kd.R_alloc | apply Kd.R_drewN | apply Kd.R_drew)); exact HO_8.out) (Kd.R_base ho0) hb); have n1_ := Aside0.mk (LexG.G_below (by (with_reducible repeat (first | apply LexG.G_alloc | apply LexG.G_drewN | apply LexG.G_drew)); exact HO_11.out) hb); have n2_ := Aside0.mk (Kd.R_below (by (with_reducible repeat (first | apply Kd.R_alloc | apply Kd.R_drewN | apply Kd.R_drew)); exact HO_16.out) hb); have n3_ := Aside0.mk (Kd.R_lower (Kd.R_new' ho0 (Kd.R_lt (by (with_reducible repeat (first | apply Kd.R_alloc | apply Kd.R_drewN | apply Kd.R_drew)); exact HO_8.out))) (below_size (by repeat (first | (with_reducible first | exact HB.out | apply below_alloc | apply pw_below_drewN | apply below_drew1) | exact HB.out)))); have n4_ := Aside0.mk (below_step (by repeat (first | (with_reducible first | exact HB.out | apply below_alloc | apply pw_below_drewN | apply below_drew1) | exact HB.out)) hb); clear HO_8; clear HO_11; clear HO_16; clear HB; have HO_8 := n0_; have HO_11 := n1_; have HO_16 := n2_; have HO137 := n3_; have HB := n4_; clear n0_ n1_ n2_ n3_ n4_; (try clear hb); (try clear hb2); (try clear hk); (try clear hi); (try clear ho0))))
                                (try simp only [Act.put, List.setIfInBounds_toArray, List.set_cons_zero, List.set_cons_succ])
                                go_cut [135] (fun v135 wc => ∃ (kq : Nat) (x135_51 : Bool), v135 = .bool x135_51 ∧ Aside0 (millwrightlaw02_LexComments.j6 kq t101 t104 t133 x135_51 = some r) ∧ Aside0 (kq ≤ k3) ∧ Aside0 (Kd.R k35 35 wc w.heap.size (fun k_ => some k_ ≠ (v136 : Value).ownBlock) v107 t104) ∧ Aside0 (Kd.R k35 35 wc w.heap.size (fun k_ => some k_ ≠ (v107 : Value).ownBlock) v136 t133) ∧ Aside0 (Below w.heap.size w wc))
                                case first =>
                                  have H := HC52.out
                                  clear HC52
                                  by_cases c55 : t135 = 0
                                  · rw [if_pos c55] at H
                                    have c55b0 : (t135 == 0) = true := beq_iff_eq.mpr c55
                                    have c55b1 : (t135 != 0) = false := bne_eq_false_iff_eq.mpr c55
                                    clear c55
                                    (first | rw [c55b0] | (simp only [i64_w, i32_w]; rw [c55b0]) | skip)
                                    have H' := Aside0.mk H
                                    clear H
                                    obtain ⟨Ao56, co56, eo56⟩ := Kd.R_slice HO137.out
                                    subst eo56
                                    obtain ⟨Ao57, co57, eo57⟩ := Kd.R_slice HO_8.out
                                    subst eo57
                                    go_wp2
                                    repeat (go_quiet (fail); try go_wp2)
                                    go_meet
                                    case rel => exact ⟨_, (((t133.length : Int) != (t104.length : Int))), (by first | rfl | (simp; done) | (simp [*]; done)), H', ⟨by have := HK1.out; have := HK2.out; have := HK3.out; first | omega | exact Nat.le_refl _⟩, ⟨by (with_reducible repeat (first | apply Kd.R_alloc | apply Kd.R_drewN | apply Kd.R_drew)); exact Kd.R_mono HO_8.out (fun _ hk => hk.2)⟩, ⟨by (with_reducible repeat (first | apply Kd.R_alloc | apply Kd.R_drewN | apply Kd.R_drew)); exact Kd.R_mono HO137.out (fun _ hk => hk.2)⟩, ⟨by repeat (first | (with_reducible first | exact HB.out | apply below_alloc | apply pw_below_drewN | apply below_drew1) | exact HB.out)⟩⟩
                                  · rw [if_neg c55] at H
                                    have c55b0 : (t135 == 0) = false := beq_eq_false_iff_ne.mpr c55
                                    have c55b1 : (t135 != 0) = true := bne_iff_ne.mpr c55
                                    (first | rw [c55b0] | (simp only [i64_w, i32_w]; rw [c55b0]) | skip)
                                    have H' := Aside0.mk H
                                    clear H
                                    go_wp2
                                    repeat (go_quiet (fail); try go_wp2)
                                    go_meet
                                    case rel => exact ⟨_, (true), (by first | rfl | (simp; done) | (simp [*]; done)), H', ⟨by have := HK1.out; have := HK2.out; have := HK3.out; first | omega | exact Nat.le_refl _⟩, ⟨by (with_reducible repeat (first | apply Kd.R_alloc | apply Kd.R_drewN | apply Kd.R_drew)); exact Kd.R_mono HO_8.out (fun _ hk => hk.2)⟩, ⟨by (with_reducible repeat (first | apply Kd.R_alloc | apply Kd.R_drewN | apply Kd.R_drew)); exact Kd.R_mono HO137.out (fun _ hk => hk.2)⟩, ⟨by repeat (first | (with_reducible first | exact HB.out | apply below_alloc | apply pw_below_drewN | apply below_drew1) | exact HB.out)⟩⟩
                                case rest =>
                                  clear HC52
                                  try clear c1
                                  try clear p1
                                  try clear q1
                                  try clear hx1
                                  try clear c2
                                  try clear p2
                                  try clear c3
                                  try clear c4
                                  try clear c5
                                  try clear c6
                                  try clear c6b0
                                  try clear c6b1
                                  try clear p6
                                  try clear c7
                                  try clear c7b0
                                  try clear c7b1
                                  try clear c9
                                  try clear c9b0
                                  try clear c9b1
                                  try clear c10
                                  try clear c10b0
                                  try clear c10b1
                                  try clear p11
                                  try clear q11
                                  try clear hx11
                                  try clear c12
                                  try clear c12b0
                                  try clear c12b1
                                  try clear p12
                                  try clear q12
                                  try clear hx12
                                  try clear c19
                                  try clear c19b0
                                  try clear c20
                                  try clear c20b0
                                  try clear c21
                                  try clear c21b0
                                  try clear c21b1
                                  try clear c22
                                  try clear c24
                                  try clear c24b0
                                  try clear c25
                                  try clear c25b0
                                  try clear c26
                                  try clear c26b0
                                  try clear c26b1
                                  try clear c27
                                  try clear c27b0
                                  try clear c27b1
                                  try clear c30
                                  try clear c30b0
                                  try clear c32
                                  try clear c32b0
                                  try clear c32b1
                                  try clear c33
                                  try clear c33b0
                                  try clear c34
                                  try clear c34b0
                                  try clear c36
                                  try clear c38
                                  try clear c39
                                  try clear c42
                                  try clear c43
                                  try clear c43b0
                                  try clear c44
                                  try clear c44b0
                                  try clear c45
                                  try clear c47
                                  try clear c47b0
                                  try clear c48
                                  try clear c48b0
                                  try clear c49
                                  try clear c55
                                  try clear c55b0
                                  try clear c55b1
                                  try clear hx112_0
                                  try clear hx113_0
                                  try clear hx117_0
                                  try clear hx121_0
                                  try clear hx125_0
                                  try clear hx129_0
                                  try clear p1
                                  try clear p11
                                  try clear p112
                                  try clear p113
                                  try clear p117
                                  try clear p12
                                  try clear p121
                                  try clear p125
                                  try clear p129
                                  try clear p2
                                  try clear p6
                                  try clear q1
                                  try clear q11
                                  try clear q112
                                  try clear q113
                                  try clear q117
                                  try clear q12
                                  try clear q121
                                  try clear q125
                                  try clear q129
                                  obtain ⟨kq, x135_51, rfl, HA, HJ51, HO_8, HO_19, HB⟩ := hcut
                                  cases kq with
                                  | zero => exact absurd HA.out (by simp [millwrightlaw02_LexComments.j6])
                                  | succ kj51 =>
                                    have H := HA.out
                                    clear HA
                                    simp only [millwrightlaw02_LexComments.j6] at H
                                    by_cases c58 : x135_51 = true
                                    · subst c58
                                      have H1 : (some false) = some r := by rw [if_pos rfl] at H; exact H
                                      clear H
                                      have H := H1
                                      clear H1
                                      obtain rfl := Option.some.inj H
                                      go_wp2
                                      repeat (go_quiet (fail); try go_wp2)
                                      go_ret
                                      exact ⟨by first | rfl | (simp [errW_none, errW_some] <;> rfl) | (simp only [← hji5, ← hji8]; first | rfl | (simp [errW_none, errW_some] <;> rfl)) | (simp [*, errW_none, errW_some] <;> rfl), by repeat (first | (with_reducible first | exact HB.out | apply below_alloc | apply pw_below_drewN | apply below_drew1) | exact HB.out)⟩
                                    · replace c58 := Bool.eq_false_iff.mpr c58
                                      subst c58
                                      have H1 : (millwrightlaw02_LexComments.l3 kj51 t101 t104 t133 0) = some r := by rw [if_neg (show ¬ (false = true) by decide)] at H; exact H
                                      clear H
                                      have H := H1
                                      clear H1
                                      have H' := Aside0.mk H
                                      clear H
                                      go_wp2
                                      repeat (go_quiet (fail); try go_wp2)
                                      go_loopg [22] kj51 (fun kq v22 w' => ∃ (x22_5 : Int), v22 = .int .i64 x22_5 ∧ Aside0 (millwrightlaw02_LexComments.l3 kq t101 t104 t133 x22_5 = some r) ∧ Aside0 (kq ≤ kj51) ∧ Aside0 (Kd.R k35 35 w' w.heap.size (fun k_ => some k_ ≠ (v136 : Value).ownBlock) v107 t104) ∧ Aside0 (Kd.R k35 35 w' w.heap.size (fun k_ => some k_ ≠ (v107 : Value).ownBlock) v136 t133) ∧ Aside0 (Below w.heap.size w w'))
                                      case atStart => exact ⟨(0), (by first | rfl | (simp; done) | (simp [*]; done)), H', ⟨Nat.le_refl _⟩, ⟨by (with_reducible repeat (first | apply Kd.R_alloc | apply Kd.R_drewN | apply Kd.R_drew)); exact HO_8.out⟩, ⟨by (with_reducible repeat (first | apply Kd.R_alloc | apply Kd.R_drewN | apply Kd.R_drew)); exact HO_19.out⟩, ⟨by repeat (first | (with_reducible first | exact HB.out | apply below_alloc | apply pw_below_drewN | apply below_drew1) | exact HB.out)⟩⟩
                                      case round =>
                                        clear H'
                                        try clear c1
                                        try clear p1
                                        try clear q1
                                        try clear hx1
                                        try clear c2
                                        try clear p2
                                        try clear c3
                                        try clear c4
                                        try clear c5
                                        try clear c6
                                        try clear c6b0
                                        try clear c6b1
                                        try clear p6
                                        try clear c7
                                        try clear c7b0
                                        try clear c7b1
                                        try clear c9
                                        try clear c9b0
                                        try clear c9b1
                                        try clear c10
                                        try clear c10b0
                                        try clear c10b1
                                        try clear p11
                                        try clear q11
                                        try clear hx11
                                        try clear c12
                                        try clear c12b0
                                        try clear c12b1
                                        try clear p12
                                        try clear q12
                                        try clear hx12
                                        try clear c19
                                        try clear c19b0
                                        try clear c20
                                        try clear c20b0
                                        try clear c21
                                        try clear c21b0
                                        try clear c21b1
                                        try clear c22
                                        try clear c24
                                        try clear c24b0
                                        try clear c25
                                        try clear c25b0
                                        try clear c26
                                        try clear c26b0
                                        try clear c26b1
                                        try clear c27
                                        try clear c27b0
                                        try clear c27b1
                                        try clear c30
                                        try clear c30b0
                                        try clear c32
                                        try clear c32b0
                                        try clear c32b1
                                        try clear c33
                                        try clear c33b0
                                        try clear c34
                                        try clear c34b0
                                        try clear c36
                                        try clear c38
                                        try clear c39
                                        try clear c42
                                        try clear c43
                                        try clear c43b0
                                        try clear c44
                                        try clear c44b0
                                        try clear c45
                                        try clear c47
                                        try clear c47b0
                                        try clear c48
                                        try clear c48b0
                                        try clear c49
                                        try clear c55
                                        try clear c55b0
                                        try clear c55b1
                                        try clear c58
                                        try clear hx112_0
                                        try clear hx113_0
                                        try clear hx117_0
                                        try clear hx121_0
                                        try clear hx125_0
                                        try clear hx129_0
                                        try clear p1
                                        try clear p11
                                        try clear p112
                                        try clear p113
                                        try clear p117
                                        try clear p12
                                        try clear p121
                                        try clear p125
                                        try clear p129
                                        try clear p2
                                        try clear p6
                                        try clear q1
                                        try clear q11
                                        try clear q112
                                        try clear q113
                                        try clear q117
                                        try clear q12
                                        try clear q121
                                        try clear q125
                                        try clear q129
                                        obtain ⟨x22_5, rfl, HA, HK5, HO_8, HO_19, HB⟩ := hrel
                                        cases gk with
                                        | zero => exact absurd HA.out (by simp [millwrightlaw02_LexComments.l3])
                                        | succ k5 =>
                                          have H := HA.out
                                          clear HA
                                          simp only [millwrightlaw02_LexComments.l3] at H
                                          by_cases c59 : x22_5 < (t133.length : Int)
                                          · rw [if_pos c59] at H
                                            have c59b0 : decide (x22_5 < (t133.length : Int)) = true := decide_eq_true c59
                                            clear c59
                                            by_cases c60 : 0 ≤ x22_5
                                            · rw [if_pos c60] at H
                                              have c60b0 : decide (0 ≤ x22_5) = true := decide_eq_true c60
                                              clear c60
                                              by_cases c61 : x22_5 < (t104.length : Int)
                                              · rw [if_pos c61] at H
                                                have c61b0 : decide (x22_5 < (t104.length : Int)) = true := decide_eq_true c61
                                                clear c61
                                                by_cases c62 : (!(((rd_T35 t133 x22_5).f0) == ((rd_T35 t104 x22_5).f0)) || (!((((rd_T35 t133 x22_5).f1).toList) == (((rd_T35 t104 x22_5).f1).toList)) || (!(((rd_T35 t133 x22_5).f2) == ((rd_T35 t104 x22_5).f2))))) = true
                                                · rw [if_pos c62] at H
                                                  have c62b0 : (!(((rd_T35 t133 x22_5).f0) == ((rd_T35 t104 x22_5).f0)) || (!((((rd_T35 t133 x22_5).f1).toList) == (((rd_T35 t104 x22_5).f1).toList)) || (!(((rd_T35 t133 x22_5).f2) == ((rd_T35 t104 x22_5).f2))))) = true := c62
                                                  clear c62
                                                  obtain rfl := Option.some.inj H
                                                  obtain ⟨Ao63, co63, eo63⟩ := Kd.R_slice HO_19.out
                                                  subst eo63
                                                  have p138 : 0 ≤ (x22_5 : Int) := of_decide_eq_true (by first | (with_reducible assumption) | assumption)
                                                  have q138 : x22_5 < (t133.length : Int) := of_decide_eq_true (by first | (with_reducible assumption) | assumption)
                                                  obtain ⟨ad138, e138, hx138_0, hx138_1, hx138_2⟩ := at_T35 (Kd.R_reads' HO_19.out).2.2 x22_5 p138 q138
                                                  cases e138
                                                  replace p138 := eq_true p138
                                                  replace q138 := eq_true q138
                                                  obtain ⟨Ao64, co64, eo64⟩ := Kd.R_slice HO_8.out
                                                  subst eo64
                                                  have p139 : 0 ≤ (x22_5 : Int) := of_decide_eq_true (by first | (with_reducible assumption) | assumption)
                                                  have q139 : x22_5 < (t104.length : Int) := of_decide_eq_true (by first | (with_reducible assumption) | assumption)
                                                  obtain ⟨ad139, e139, hx139_0, hx139_1, hx139_2⟩ := at_T35 (Kd.R_reads' HO_8.out).2.2 x22_5 p139 q139
                                                  cases e139
                                                  replace p139 := eq_true p139
                                                  replace q139 := eq_true q139
                                                  go_wp2
                                                  repeat (go_quiet (fail); try go_wp2)
                                                  go_ret
                                                  exact ⟨by first | rfl | (simp [errW_none, errW_some] <;> rfl) | (simp only [← hji5, ← hji8]; first | rfl | (simp [errW_none, errW_some] <;> rfl)) | (simp [*, errW_none, errW_some] <;> rfl), by repeat (first | (with_reducible first | exact HB.out | apply below_alloc | apply pw_below_drewN | apply below_drew1) | exact HB.out)⟩
                                                · rw [if_neg c62] at H
                                                  have c62b0 : (!(((rd_T35 t133 x22_5).f0) == ((rd_T35 t104 x22_5).f0)) || (!((((rd_T35 t133 x22_5).f1).toList) == (((rd_T35 t104 x22_5).f1).toList)) || (!(((rd_T35 t133 x22_5).f2) == ((rd_T35 t104 x22_5).f2))))) = false := by simpa using c62
                                                  clear c62
                                                  have H' := Aside0.mk H
                                                  clear H
                                                  obtain ⟨Ao65, co65, eo65⟩ := Kd.R_slice HO_19.out
                                                  subst eo65
                                                  have p138 : 0 ≤ (x22_5 : Int) := of_decide_eq_true (by first | (with_reducible assumption) | assumption)
                                                  have q138 : x22_5 < (t133.length : Int) := of_decide_eq_true (by first | (with_reducible assumption) | assumption)
                                                  obtain ⟨ad138, e138, hx138_0, hx138_1, hx138_2⟩ := at_T35 (Kd.R_reads' HO_19.out).2.2 x22_5 p138 q138
                                                  cases e138
                                                  replace p138 := eq_true p138
                                                  replace q138 := eq_true q138
                                                  obtain ⟨Ao66, co66, eo66⟩ := Kd.R_slice HO_8.out
                                                  subst eo66
                                                  have p139 : 0 ≤ (x22_5 : Int) := of_decide_eq_true (by first | (with_reducible assumption) | assumption)
                                                  have q139 : x22_5 < (t104.length : Int) := of_decide_eq_true (by first | (with_reducible assumption) | assumption)
                                                  obtain ⟨ad139, e139, hx139_0, hx139_1, hx139_2⟩ := at_T35 (Kd.R_reads' HO_8.out).2.2 x22_5 p139 q139
                                                  cases e139
                                                  replace p139 := eq_true p139
                                                  replace q139 := eq_true q139
                                                  go_wp2
                                                  repeat (go_quiet (fail); try go_wp2)
                                                  go_roundg k5
                                                  case measure => have := HK1.out; have := HK2.out; have := HK3.out; have := HJ51.out; have := HK5.out; omega
                                                  case rel => exact ⟨(wrap64 (x22_5 + 1)), (by first | rfl | (simp; done) | (simp [*]; done)), H', ⟨by have := HK1.out; have := HK2.out; have := HK3.out; have := HJ51.out; have := HK5.out; omega⟩, ⟨by (with_reducible repeat (first | apply Kd.R_alloc | apply Kd.R_drewN | apply Kd.R_drew)); exact HO_8.out⟩, ⟨by (with_reducible repeat (first | apply Kd.R_alloc | apply Kd.R_drewN | apply Kd.R_drew)); exact HO_19.out⟩, ⟨by repeat (first | (with_reducible first | exact HB.out | apply below_alloc | apply pw_below_drewN | apply below_drew1) | exact HB.out)⟩⟩
                                              · rw [if_neg c61] at H
                                                exact absurd H (by simp)
                                            · rw [if_neg c60] at H
                                              exact absurd H (by simp)
                                          · rw [if_neg c59] at H
                                            have c59b0 : decide (x22_5 < (t133.length : Int)) = false := decide_eq_false c59
                                            clear c59
                                            obtain rfl := Option.some.inj H
                                            obtain ⟨Ao67, co67, eo67⟩ := Kd.R_slice HO_19.out
                                            subst eo67
                                            go_wp2
                                            repeat (go_quiet (fail); try go_wp2)
                                            go_ret
                                            exact ⟨by first | rfl | (simp [errW_none, errW_some] <;> rfl) | (simp only [← hji5, ← hji8]; first | rfl | (simp [errW_none, errW_some] <;> rfl)) | (simp [*, errW_none, errW_some] <;> rfl), by repeat (first | (with_reducible first | exact HB.out | apply below_alloc | apply pw_below_drewN | apply below_drew1) | exact HB.out)⟩
          · rw [if_neg c12] at H
            have c12b0 : (t106 == 0) = false := beq_eq_false_iff_ne.mpr c12
            have c12b1 : (t106 != 0) = true := bne_iff_ne.mpr c12
            obtain rfl := Option.some.inj H
            have kc := fun (w : World) (C : Array Value) (n c : Nat) => Lib.run_convert_bytes_const (P := Try.prog) w 22 5 C n c Try.underlying22 Try.underlying5
            go_enter Try.func7, Try.ntmps7
            go_wp2_with (first | (go_at_call 10; (with_reducible refine (millwrightlaw02_shown.calls  t101 _ A4.out).mono ?_); rintro e w68 ⟨rfl, hb⟩; have n0_ := Aside0.mk (below_step (by repeat (first | (with_reducible first | exact HB.out | apply below_alloc | apply pw_below_drewN | apply below_drew1) | exact HB.out)) hb); clear HB; have HB := n0_; clear n0_; (try clear hb); (try clear hb2); (try clear hk); (try clear hi); obtain ⟨i069, hi069, _, hsz69, _⟩ := info_parts info5; obtain ⟨hcut69, hA69, hC69⟩ := print_take_of (P := Try.prog) (Value.int .u8) 0 22 5 .i64 Try.underlying22 hi069 hsz69 A0 c0 l0 (ji5) (of_decide_eq_true (by first | (with_reducible assumption) | assumption)) (of_decide_eq_true (by first | (with_reducible assumption) | assumption)) HC0.out; rw [← Htk5_l0.out] at hcut69 hA69 hC69; have HR102 := Aside0.mk (Kd.C_of_reads (h1 := fun _ => rfl) (hA69 _ (Kd.reads_of_C HR0.out))); have HC102 := Aside0.mk hC69; clear hA69 hC69 hi069 hsz69; obtain ⟨i070, hi070, _, hsz70, _⟩ := info_parts info5; obtain ⟨hcut70, hA70, hC70⟩ := print_take_of (P := Try.prog) (Value.int .u8) 0 22 5 .i64 Try.underlying22 hi070 hsz70 A1 c1 l1 (ji8) (of_decide_eq_true (by first | (with_reducible assumption) | assumption)) (of_decide_eq_true (by first | (with_reducible assumption) | assumption)) HC1.out; rw [← Htk8_l1.out] at hcut70 hA70 hC70; have HR103 := Aside0.mk (Kd.C_of_reads (h1 := fun _ => rfl) (hA70 _ (Kd.reads_of_C HR1.out))); have HC103 := Aside0.mk hC70; clear hA70 hC70 hi070 hsz70) | (go_at_call 11; (with_reducible refine (lex_Lex.calls _ _ tk5_l0 t104 t105 t106 _ ?side1 ?side2 A11.out).mono ?_); (case side1 => repeat (first | exact (Kd.C_below HR102.out HB.out) | (with_reducible refine Kd.C_alloc ?_ _) | (with_reducible refine Kd.C_drewN ?_ _) | (with_reducible refine Kd.C_drew ?_))); (case side2 => exact HC102.out); rintro e w71 ⟨v107, rfl, ho0, hb⟩; have n0_ := Aside0.mk (Kd.R_lower ho0 (below_size (by repeat (first | (with_reducible first | exact HB.out | apply below_alloc | apply pw_below_drewN | apply below_drew1) | exact HB.out)))); have n1_ := Aside0.mk (below_step (by repeat (first | (with_reducible first | exact HB.out | apply below_alloc | apply pw_below_drewN | apply below_drew1) | exact HB.out)) hb); clear HB; have HO108 := n0_; have HB := n1_; clear n0_ n1_; (try clear hb); (try clear hb2); (try clear hk); (try clear hi); (try clear ho0)))
            repeat (go_quiet (first | (go_at_call 10; (with_reducible refine (millwrightlaw02_shown.calls  t101 _ A4.out).mono ?_); rintro e w68 ⟨rfl, hb⟩; have n0_ := Aside0.mk (below_step (by repeat (first | (with_reducible first | exact HB.out | apply below_alloc | apply pw_below_drewN | apply below_drew1) | exact HB.out)) hb); clear HB; have HB := n0_; clear n0_; (try clear hb); (try clear hb2); (try clear hk); (try clear hi); obtain ⟨i069, hi069, _, hsz69, _⟩ := info_parts info5; obtain ⟨hcut69, hA69, hC69⟩ := print_take_of (P := Try.prog) (Value.int .u8) 0 22 5 .i64 Try.underlying22 hi069 hsz69 A0 c0 l0 (ji5) (of_decide_eq_true (by first | (with_reducible assumption) | assumption)) (of_decide_eq_true (by first | (with_reducible assumption) | assumption)) HC0.out; rw [← Htk5_l0.out] at hcut69 hA69 hC69; have HR102 := Aside0.mk (Kd.C_of_reads (h1 := fun _ => rfl) (hA69 _ (Kd.reads_of_C HR0.out))); have HC102 := Aside0.mk hC69; clear hA69 hC69 hi069 hsz69; obtain ⟨i070, hi070, _, hsz70, _⟩ := info_parts info5; obtain ⟨hcut70, hA70, hC70⟩ := print_take_of (P := Try.prog) (Value.int .u8) 0 22 5 .i64 Try.underlying22 hi070 hsz70 A1 c1 l1 (ji8) (of_decide_eq_true (by first | (with_reducible assumption) | assumption)) (of_decide_eq_true (by first | (with_reducible assumption) | assumption)) HC1.out; rw [← Htk8_l1.out] at hcut70 hA70 hC70; have HR103 := Aside0.mk (Kd.C_of_reads (h1 := fun _ => rfl) (hA70 _ (Kd.reads_of_C HR1.out))); have HC103 := Aside0.mk hC70; clear hA70 hC70 hi070 hsz70) | (go_at_call 11; (with_reducible refine (lex_Lex.calls _ _ tk5_l0 t104 t105 t106 _ ?side1 ?side2 A11.out).mono ?_); (case side1 => repeat (first | exact (Kd.C_below HR102.out HB.out) | (with_reducible refine Kd.C_alloc ?_ _) | (with_reducible refine Kd.C_drewN ?_ _) | (with_reducible refine Kd.C_drew ?_))); (case side2 => exact HC102.out); rintro e w71 ⟨v107, rfl, ho0, hb⟩; have n0_ := Aside0.mk (Kd.R_lower ho0 (below_size (by repeat (first | (with_reducible first | exact HB.out | apply below_alloc | apply pw_below_drewN | apply below_drew1) | exact HB.out)))); have n1_ := Aside0.mk (below_step (by repeat (first | (with_reducible first | exact HB.out | apply below_alloc | apply pw_below_drewN | apply below_drew1) | exact HB.out)) hb); clear HB; have HO108 := n0_; have HB := n1_; clear n0_ n1_; (try clear hb); (try clear hb2); (try clear hk); (try clear hi); (try clear ho0))); try go_wp2_with (first | (go_at_call 10; (with_reducible refine (millwrightlaw02_shown.calls  t101 _ A4.out).mono ?_); rintro e w68 ⟨rfl, hb⟩; have n0_ := Aside0.mk (below_step (by repeat (first | (with_reducible first | exact HB.out | apply below_alloc | apply pw_below_drewN | apply below_drew1) | exact HB.out)) hb); clear HB; have HB := n0_; clear n0_; (try clear hb); (try clear hb2); (try clear hk); (try clear hi); obtain ⟨i069, hi069, _, hsz69, _⟩ := info_parts info5; obtain ⟨hcut69, hA69, hC69⟩ := print_take_of (P := Try.prog) (Value.int .u8) 0 22 5 .i64 Try.underlying22 hi069 hsz69 A0 c0 l0 (ji5) (of_decide_eq_true (by first | (with_reducible assumption) | assumption)) (of_decide_eq_true (by first | (with_reducible assumption) | assumption)) HC0.out; rw [← Htk5_l0.out] at hcut69 hA69 hC69; have HR102 := Aside0.mk (Kd.C_of_reads (h1 := fun _ => rfl) (hA69 _ (Kd.reads_of_C HR0.out))); have HC102 := Aside0.mk hC69; clear hA69 hC69 hi069 hsz69; obtain ⟨i070, hi070, _, hsz70, _⟩ := info_parts info5; obtain ⟨hcut70, hA70, hC70⟩ := print_take_of (P := Try.prog) (Value.int .u8) 0 22 5 .i64 Try.underlying22 hi070 hsz70 A1 c1 l1 (ji8) (of_decide_eq_true (by first | (with_reducible assumption) | assumption)) (of_decide_eq_true (by first | (with_reducible assumption) | assumption)) HC1.out; rw [← Htk8_l1.out] at hcut70 hA70 hC70; have HR103 := Aside0.mk (Kd.C_of_reads (h1 := fun _ => rfl) (hA70 _ (Kd.reads_of_C HR1.out))); have HC103 := Aside0.mk hC70; clear hA70 hC70 hi070 hsz70) | (go_at_call 11; (with_reducible refine (lex_Lex.calls _ _ tk5_l0 t104 t105 t106 _ ?side1 ?side2 A11.out).mono ?_); (case side1 => repeat (first | exact (Kd.C_below HR102.out HB.out) | (with_reducible refine Kd.C_alloc ?_ _) | (with_reducible refine Kd.C_drewN ?_ _) | (with_reducible refine Kd.C_drew ?_))); (case side2 => exact HC102.out); rintro e w71 ⟨v107, rfl, ho0, hb⟩; have n0_ := Aside0.mk (Kd.R_lower ho0 (below_size (by repeat (first | (with_reducible first | exact HB.out | apply below_alloc | apply pw_below_drewN | apply below_drew1) | exact HB.out)))); have n1_ := Aside0.mk (below_step (by repeat (first | (with_reducible first | exact HB.out | apply below_alloc | apply pw_below_drewN | apply below_drew1) | exact HB.out)) hb); clear HB; have HO108 := n0_; have HB := n1_; clear n0_ n1_; (try clear hb); (try clear hb2); (try clear hk); (try clear hi); (try clear ho0))))
            go_ret
            exact ⟨by first | rfl | (simp [errW_none, errW_some] <;> rfl) | (simp only [← hji5, ← hji8]; first | rfl | (simp [errW_none, errW_some] <;> rfl)) | (simp [*, errW_none, errW_some] <;> rfl), by repeat (first | (with_reducible first | exact HB.out | apply below_alloc | apply pw_below_drewN | apply below_drew1) | exact HB.out)⟩
        · rw [if_neg c10] at H
          exact absurd H (by simp)
      · rw [if_neg c9] at H
        exact absurd H (by simp)
    · rw [if_neg c7] at H
      exact absurd H (by simp)
  · rw [if_neg c6] at H
    exact absurd H (by simp)

/-- THE ONE PURE STATEMENT of millwrightlaw02_LexComments: yours. -/
def millwrightlaw02_LexComments.Pure : Prop := ∀ (l0 : List Int) (l1 : List Int) (a2 : Int), l0.length ≤ maxLen → l0.length * 1 ≤ 140737488351232 → (∀ x ∈ l0, (Lit.int .u8 x).wf = true) → l1.length ≤ maxLen → l1.length * 1 ≤ 140737488351232 → (∀ x ∈ l1, (Lit.int .u8 x).wf = true) → (Lit.int .i64 a2).wf = true → ∃ k, millwrightlaw02_LexComments.f k l0 l1 a2 = some true
theorem millwrightlaw02_LexComments.walk (P : millwrightlaw02_LexComments.Pure) (a0 : Option Addr) (len0 cap0 : Nat) (z0 : List Int) (a1 : Option Addr) (len1 cap1 : Nat) (z1 : List Int) (a2 : Int) (w : World) (w0 : (a0 = none ∧ len0 = 0 ∧ cap0 = 0 ∧ z0 = []) ∨ ∃ x, a0 = some x ∧ len0 ≤ cap0 ∧ cap0 ≤ maxLen ∧ z0.length = cap0 ∧ (∀ i, i < z0.length → w.cell? (x.add i) = some (.int .u8 (z0.getD i 0))) ∧ ∀ n ∈ z0, (Lit.int .u8 n).wf = true) (y0 : len0 * 1 ≤ 140737488351232) (w1 : (a1 = none ∧ len1 = 0 ∧ cap1 = 0 ∧ z1 = []) ∨ ∃ x, a1 = some x ∧ len1 ≤ cap1 ∧ cap1 ≤ maxLen ∧ z1.length = cap1 ∧ (∀ i, i < z1.length → w.cell? (x.add i) = some (.int .u8 (z1.getD i 0))) ∧ ∀ n ∈ z1, (Lit.int .u8 n).wf = true) (y1 : len1 * 1 ≤ 140737488351232) (w2 : (Lit.int .i64 a2).wf = true) :
    Calls Try.prog 7 #[.slice a0 len0 cap0, .slice a1 len1 cap1, .int .i64 a2] w fun e w' => e = .returned (.bool true) ∧ Below w.heap.size w w' := by
  obtain ⟨l0, rfl, hr0, hm0, hw0, hc0⟩ := ReadsInt.ofRowC w0
  obtain ⟨l1, rfl, hr1, hm1, hw1, hc1⟩ := ReadsInt.ofRowC w1
  obtain ⟨k, h⟩ := P l0 l1 a2 hm0 y0 hw0 hm1 y1 hw1 w2
  refine (millwrightlaw02_LexComments.calls k _ _ l0 _ _ l1 a2 true w (Kd.C_of_reads (d := (0 : Int)) (h1 := fun _ => rfl) hr0) hc0 (Kd.C_of_reads (d := (0 : Int)) (h1 := fun _ => rfl) hr1) hc1 h).mono ?_
  rintro e w' ⟨rfl, hd⟩
  exact ⟨rfl, hd⟩

end Go.Proofs.Ytekedpnlodnmnaa.PLexComments
