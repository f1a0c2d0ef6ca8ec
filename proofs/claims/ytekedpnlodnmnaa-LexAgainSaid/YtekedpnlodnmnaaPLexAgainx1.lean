-- Printed for this claim by a program of this project's own, over the kit's printer; some functions are told by hand.
import Derived.Test.YtekedpnlodnmnaaPLexAgainx0
import Derived.Test.YtekedpnlodnmnaaLexK
namespace Go.Proofs.Ytekedpnlodnmnaa.PLexAgain
open Go.RowKit Go.Proofs.YtekedpnlodnmnaaW.PrintWords Go.Proofs.YtekedpnlodnmnaaW.PrintLast Go.Proofs.YtekedpnlodnmnaaW.PrintMore
attribute [local go_sem] max2_int min2_int max_two min_two max_three min_three max_four min_four   -- for this text's walks alone
set_option linter.unusedVariables false
set_option linter.unusedSimpArgs false

-- NOT PRINTED: function 20 (lex_kind)

-- NOT PRINTED: function 15 (lex_scan_next)

-- NOT PRINTED: function 16 (lex_scan_take)

-- NOT PRINTED: function 17 (lex_scan_end)


/-! ### lex_Lex: function 11 -/
def lex_Lex.f (l0 : List Int) : Option ((List (S35)) × Int × Int) := some ((LexS.lexF l0).1.map (fun t : LexS.Tok => (⟨t.kind, strOfNums t.text, t.line⟩ : S35)), (LexS.lexF l0).2.1, (LexS.lexF l0).2.2)
theorem lex_Lex.calls (A0 : Option Addr) (c0 : Nat) (l0 : List Int) (r1 : List (S35)) (r2 : Int) (r3 : Int) (w : World) (hr0 : Kd.C (Kd.int .u8) w A0 l0.length l0) (hc0 : l0.length ≤ c0) (h : lex_Lex.f l0 = some (r1, r2, r3)) {n : Nat} (hn : l0.length = n := by first | rfl | exact LexE.take_len (of_decide_eq_true (by assumption)) (of_decide_eq_true (by assumption))) :
    Calls Try.prog 11 #[.slice A0 n c0] w fun e w' => ∃ v0_ : Value, e = .returned (.tuple #[v0_, .int .i64 r2, .int .i64 r3]) ∧ Kd.R k35 35 w' w.heap.size (fun _ => True) v0_ r1 ∧ Below w.heap.size w w' := by
  simp only [lex_Lex.f, Option.some.injEq, Prod.mk.injEq] at h
  obtain ⟨rfl, rfl, rfl⟩ := h
  subst hn
  refine (LexD.lex_calls A0 c0 l0 w hr0 hc0).mono fun e w' hp => ?_
  exact LexE.lex_out (d' := k35) (fun t : LexS.Tok => (⟨t.kind, strOfNums t.text, t.line⟩ : S35)) rfl (fun _ _ _ _ _ h => h) hp



/-! ### millwrightlaw02_shown: function 10 -/
def millwrightlaw02_shown.f : Option Bool := some true
theorem millwrightlaw02_shown.calls (r : Bool) (w : World) (h : millwrightlaw02_shown.f = some r) :
    Calls Try.prog 10 #[] w fun e w' => e = .returned (.bool r) ∧ Below w.heap.size w w' := by
  simp only [millwrightlaw02_shown.f, Option.some.injEq] at h
  subst h
  exact LexSh.shown_calls w


/-! ### millwrightlaw02_joined: function 14 -/
def millwrightlaw02_joined.l0 : Nat → List (S35) → ByteArray → Int → Option (ByteArray)
  | 0, _, _, _ => none
  | k + 1, x0, x3, x4 => if x4 < (x0.length : Int) then (if 0 ≤ x4 then (if ((rd_T35 x0 x4).f0) = 3 then (if x3.size + 1 ≤ 9223372036854775807 then (millwrightlaw02_joined.l0 k x0 (x3 ++ (⟨#[10]⟩ : ByteArray)) (wrap64 (x4 + 1))) else (none)) else (if x3.size + ((rd_T35 x0 x4).f1).size ≤ 9223372036854775807 then (if (x3 ++ ((rd_T35 x0 x4).f1)).size + 1 ≤ 9223372036854775807 then (millwrightlaw02_joined.l0 k x0 ((x3 ++ ((rd_T35 x0 x4).f1)) ++ (⟨#[32]⟩ : ByteArray)) (wrap64 (x4 + 1))) else (none)) else (none))) else (none)) else (some x3)
def millwrightlaw02_joined.f (k : Nat) (l0 : List (S35)) : Option (ByteArray) := millwrightlaw02_joined.l0 k l0 (⟨#[]⟩ : ByteArray) 0
theorem millwrightlaw02_joined.mono_l : ∀ k, (∀ y0 y1 y2, LeO (millwrightlaw02_joined.l0 k y0 y1 y2) (millwrightlaw02_joined.l0 (k + 1) y0 y1 y2))
  | 0 => fun _ _ _ r h => by simp [millwrightlaw02_joined.l0] at h
  | k + 1 => by
    have ih0 := millwrightlaw02_joined.mono_l k
    · intro y0 y1 y2
      unfold millwrightlaw02_joined.l0
      repeat' first
      | (with_reducible exact ih0 _ _ _)
      | (with_reducible exact LeO.refl _)
      | (with_reducible exact LeO.none _)
      | (with_reducible refine LeO.ite ?_ ?_)
      | (with_reducible refine LeO.bind ?_ (fun _ => ?_))
      | exact ih0 _ _ _
      | exact LeO.none _
      | refine LeO.ite ?_ ?_
      | refine LeO.bind ?_ (fun _ => ?_)
theorem millwrightlaw02_joined.mono : ∀ a0 k, LeO (millwrightlaw02_joined.f k a0) (millwrightlaw02_joined.f (k + 1) a0) := by
  intro a0 k
  have ih0 := millwrightlaw02_joined.mono_l k
  unfold millwrightlaw02_joined.f
  repeat' first
      | (with_reducible exact ih0 _ _ _)
      | (with_reducible exact LeO.refl _)
      | (with_reducible exact LeO.none _)
      | (with_reducible refine LeO.ite ?_ ?_)
      | (with_reducible refine LeO.bind ?_ (fun _ => ?_))
      | exact ih0 _ _ _
      | exact LeO.none _
      | refine LeO.ite ?_ ?_
      | refine LeO.bind ?_ (fun _ => ?_)
set_option maxHeartbeats 8000000 in
set_option maxRecDepth 100000 in
theorem millwrightlaw02_joined.calls (k : Nat) (A0 : Option Addr) (c0 : Nat) (l0 : List (S35)) (r : ByteArray) (w : World) (hr0 : Kd.C k35 w A0 l0.length l0) (hc0 : l0.length ≤ c0) (h : millwrightlaw02_joined.f k l0 = some r) :
    Calls Try.prog 14 #[.slice A0 l0.length c0] w fun e w' => e = .returned (.string r) ∧ Drawn0 w w' := by
  have HR0 := Aside0.mk hr0
  have HC0 := Aside0.mk hc0
  clear hr0 hc0
  have H : (millwrightlaw02_joined.l0 k l0 (⟨#[]⟩ : ByteArray) 0) = some r := h
  clear h
  have H' := Aside0.mk H
  clear H
  go_enter Try.func14, Try.ntmps14
  go_wp2
  go_loopg [3, 4] k (fun kq v3 v4 w' => ∃ (x3_1 : ByteArray) (x4_1 : Int), v3 = .string x3_1 ∧ v4 = .int .i64 x4_1 ∧ Aside0 (millwrightlaw02_joined.l0 kq l0 x3_1 x4_1 = some r) ∧ Aside0 (kq ≤ k) ∧ Drawn0 w w')
  case atStart => exact ⟨((⟨#[]⟩ : ByteArray)), (0), (by first | rfl | (simp; done) | (simp [*]; done)), (by first | rfl | (simp; done) | (simp [*]; done)), H', ⟨Nat.le_refl _⟩, by repeat (first | exact Drawn0.refl _ | apply Drawn0.step)⟩
  case round =>
    clear H'
    try clear c1
    obtain ⟨x3_1, x4_1, rfl, rfl, HA, HK1, ⟨m1, rfl⟩⟩ := hrel
    cases gk with
    | zero => exact absurd HA.out (by simp [millwrightlaw02_joined.l0])
    | succ k1 =>
      have H := HA.out
      clear HA
      simp only [millwrightlaw02_joined.l0] at H
      by_cases c2 : x4_1 < (l0.length : Int)
      · rw [if_pos c2] at H
        have c2b0 : decide (x4_1 < (l0.length : Int)) = true := decide_eq_true c2
        clear c2
        by_cases c3 : 0 ≤ x4_1
        · rw [if_pos c3] at H
          have c3b0 : decide (0 ≤ x4_1) = true := decide_eq_true c3
          clear c3
          by_cases c4 : ((rd_T35 l0 x4_1).f0) = 3
          · rw [if_pos c4] at H
            have c4b0 : (((rd_T35 l0 x4_1).f0) == 3) = true := beq_iff_eq.mpr c4
            have c4b1 : (((rd_T35 l0 x4_1).f0) != 3) = false := bne_eq_false_iff_eq.mpr c4
            clear c4
            by_cases c5 : x3_1.size + 1 ≤ 9223372036854775807
            · rw [if_pos c5] at H
              have c5b0 := eq_true c5
              have c5b1 : decide (x3_1.size + 1 ≤ 9223372036854775807) = true := decide_eq_true c5
              try have c5b2 : (9223372036854775807 < x3_1.size + 1) = False := eq_false (Nat.not_lt.2 c5)
              have H' := Aside0.mk H
              clear H
              have p101 : 0 ≤ (x4_1 : Int) := of_decide_eq_true (by first | (with_reducible assumption) | assumption)
              have q101 : x4_1 < (l0.length : Int) := of_decide_eq_true (by first | (with_reducible assumption) | assumption)
              obtain ⟨ad101, e101, hx101_0, hx101_1, hx101_2⟩ := at_T35 HR0.out x4_1 p101 q101
              cases e101
              replace p101 := eq_true p101
              replace q101 := eq_true q101
              go_wp2
              go_roundg k1
              case measure => have := HK1.out; omega
              case rel => exact ⟨(x3_1 ++ (⟨#[10]⟩ : ByteArray)), (wrap64 (x4_1 + 1)), (by first | rfl | (simp; done) | (simp [*]; done)), (by first | rfl | (simp; done) | (simp [*]; done)), H', ⟨by have := HK1.out; omega⟩, by repeat (first | exact Drawn0.refl _ | apply Drawn0.step)⟩
            · rw [if_neg c5] at H
              exact absurd H (by simp)
          · rw [if_neg c4] at H
            have c4b0 : (((rd_T35 l0 x4_1).f0) == 3) = false := beq_eq_false_iff_ne.mpr c4
            have c4b1 : (((rd_T35 l0 x4_1).f0) != 3) = true := bne_iff_ne.mpr c4
            by_cases c6 : x3_1.size + ((rd_T35 l0 x4_1).f1).size ≤ 9223372036854775807
            · rw [if_pos c6] at H
              have c6b0 := eq_true c6
              have c6b1 : decide (x3_1.size + ((rd_T35 l0 x4_1).f1).size ≤ 9223372036854775807) = true := decide_eq_true c6
              try have c6b2 : (9223372036854775807 < x3_1.size + ((rd_T35 l0 x4_1).f1).size) = False := eq_false (Nat.not_lt.2 c6)
              by_cases c7 : (x3_1 ++ ((rd_T35 l0 x4_1).f1)).size + 1 ≤ 9223372036854775807
              · rw [if_pos c7] at H
                have c7b0 := eq_true c7
                have c7b1 : decide ((x3_1 ++ ((rd_T35 l0 x4_1).f1)).size + 1 ≤ 9223372036854775807) = true := decide_eq_true c7
                have c7s : x3_1.size + ((rd_T35 l0 x4_1).f1).size + 1 ≤ 9223372036854775807 := by rw [ByteArray.size_append] at c7; exact c7
                have c7b2 := eq_true c7s
                have c7b3 : (9223372036854775807 < x3_1.size + ((rd_T35 l0 x4_1).f1).size + 1) = False := eq_false (Nat.not_lt.2 c7s)
                have c7b4 : (9223372036854775807 ≤ x3_1.size + ((rd_T35 l0 x4_1).f1).size) = False := eq_false (by omega)
                have c7b5 : (x3_1.size + ((rd_T35 l0 x4_1).f1).size < 9223372036854775807) = True := eq_true (by omega)
                have H' := Aside0.mk H
                clear H
                have p101 : 0 ≤ (x4_1 : Int) := of_decide_eq_true (by first | (with_reducible assumption) | assumption)
                have q101 : x4_1 < (l0.length : Int) := of_decide_eq_true (by first | (with_reducible assumption) | assumption)
                obtain ⟨ad101, e101, hx101_0, hx101_1, hx101_2⟩ := at_T35 HR0.out x4_1 p101 q101
                cases e101
                replace p101 := eq_true p101
                replace q101 := eq_true q101
                have p102 : 0 ≤ (x4_1 : Int) := of_decide_eq_true (by first | (with_reducible assumption) | assumption)
                have q102 : x4_1 < (l0.length : Int) := of_decide_eq_true (by first | (with_reducible assumption) | assumption)
                obtain ⟨ad102, e102, hx102_0, hx102_1, hx102_2⟩ := at_T35 HR0.out x4_1 p102 q102
                obtain rfl : ad101 = ad102 := (by injection e102)
                replace p102 := eq_true p102
                replace q102 := eq_true q102
                go_wp2
                go_roundg k1
                case measure => have := HK1.out; omega
                case rel => exact ⟨((x3_1 ++ ((rd_T35 l0 x4_1).f1)) ++ (⟨#[32]⟩ : ByteArray)), (wrap64 (x4_1 + 1)), (by first | rfl | (simp; done) | (simp [*]; done)), (by first | rfl | (simp; done) | (simp [*]; done)), H', ⟨by have := HK1.out; omega⟩, by repeat (first | exact Drawn0.refl _ | apply Drawn0.step)⟩
              · rw [if_neg c7] at H
                exact absurd H (by simp)
            · rw [if_neg c6] at H
              exact absurd H (by simp)
        · rw [if_neg c3] at H
          exact absurd H (by simp)
      · rw [if_neg c2] at H
        have c2b0 : decide (x4_1 < (l0.length : Int)) = false := decide_eq_false c2
        clear c2
        obtain rfl := Option.some.inj H
        go_wp2
        go_ret
        exact ⟨by first | rfl | (simp; done) | (simp [*]; done), by repeat (first | exact Drawn0.refl _ | apply Drawn0.step)⟩

/-! ### millwrightlaw02_LexAgain: function 4 -/
mutual
def millwrightlaw02_LexAgain.j0 : Nat → Bool → List (S35) → List (S35) → Bool → Option (Bool)
  | 0, _, _, _, _ => none
  | k + 1, x3, x4, x7, x64 => if x64 = true then (some false) else (millwrightlaw02_LexAgain.l0 k x3 x4 x7 1 0)
def millwrightlaw02_LexAgain.l0 : Nat → Bool → List (S35) → List (S35) → Int → Int → Option (Bool)
  | 0, _, _, _, _, _ => none
  | k + 1, x3, x4, x7, x10, x11 => if x11 < (x7.length : Int) then (if 0 ≤ x11 then (if x11 < (x4.length : Int) then (if ((rd_T35 x7 x11).f0) = ((rd_T35 x4 x11).f0) then (if ((rd_T35 x7 x11).f1).toList = ((rd_T35 x4 x11).f1).toList then (millwrightlaw02_LexAgain.j2 k x3 x4 x7 x10 x11 (((rd_T35 x7 x11).f2) != x10)) else (millwrightlaw02_LexAgain.j2 k x3 x4 x7 x10 x11 true)) else (millwrightlaw02_LexAgain.j2 k x3 x4 x7 x10 x11 true)) else (none)) else (none)) else (some x3)
def millwrightlaw02_LexAgain.j2 : Nat → Bool → List (S35) → List (S35) → Int → Int → Bool → Option (Bool)
  | 0, _, _, _, _, _, _ => none
  | k + 1, x3, x4, x7, x10, x11, x103 => if x103 = true then (some false) else (if 0 ≤ x11 then (if x11 < (x7.length : Int) then (if ((rd_T35 x7 x11).f0) = 3 then (millwrightlaw02_LexAgain.l0 k x3 x4 x7 (wrap64 (x10 + 1)) (wrap64 (x11 + 1))) else (millwrightlaw02_LexAgain.l0 k x3 x4 x7 x10 (wrap64 (x11 + 1)))) else (none)) else (none))
end
def millwrightlaw02_LexAgain.f (k : Nat) (l0 : List Int) : Option (Bool) := (millwrightlaw02_shown.f).bind fun t103 => (if 0 ≤ (mn (l0.length : Int) 3000) then (if (mn (l0.length : Int) 3000) ≤ (l0.length : Int) then ((lex_Lex.f (l0.take ((mn (l0.length : Int) 3000) : Int).toNat)).bind fun bt105 => (if bt105.2.2 = 0 then ((millwrightlaw02_joined.f k bt105.1).bind fun t110 => (if t110.size ≤ 9223372036854775807 then ((lex_Lex.f (bytesOf t110)).bind fun bt114 => (if bt114.2.2 = 0 then (if bt114.2.1 = 0 then (if bt105.2.1 = 0 then (millwrightlaw02_LexAgain.j0 k t103 bt105.1 bt114.1 ((bt114.1.length : Int) != (bt105.1.length : Int))) else (millwrightlaw02_LexAgain.j0 k t103 bt105.1 bt114.1 true)) else (millwrightlaw02_LexAgain.j0 k t103 bt105.1 bt114.1 true)) else (millwrightlaw02_LexAgain.j0 k t103 bt105.1 bt114.1 true))) else (none))) else (if t103 = true then (if bt105.2.2 = 2 then (if bt105.2.1 ≥ 1 then (some ((bt105.1.length : Int) == 0)) else (some false)) else (some false)) else (some false)))) else (none)) else (none))
theorem millwrightlaw02_LexAgain.mono_l : ∀ k, (∀ y0 y1 y2 y3, LeO (millwrightlaw02_LexAgain.j0 k y0 y1 y2 y3) (millwrightlaw02_LexAgain.j0 (k + 1) y0 y1 y2 y3)) ∧ (∀ y0 y1 y2 y3 y4, LeO (millwrightlaw02_LexAgain.l0 k y0 y1 y2 y3 y4) (millwrightlaw02_LexAgain.l0 (k + 1) y0 y1 y2 y3 y4)) ∧ (∀ y0 y1 y2 y3 y4 y5, LeO (millwrightlaw02_LexAgain.j2 k y0 y1 y2 y3 y4 y5) (millwrightlaw02_LexAgain.j2 (k + 1) y0 y1 y2 y3 y4 y5))
  | 0 => ⟨fun _ _ _ _ r h => by simp [millwrightlaw02_LexAgain.j0] at h, fun _ _ _ _ _ r h => by simp [millwrightlaw02_LexAgain.l0] at h, fun _ _ _ _ _ _ r h => by simp [millwrightlaw02_LexAgain.j2] at h⟩
  | k + 1 => by
    obtain ⟨ih0, ih1, ih2⟩ := millwrightlaw02_LexAgain.mono_l k
    refine ⟨?_, ?_, ?_⟩
    · intro y0 y1 y2 y3
      unfold millwrightlaw02_LexAgain.j0
      repeat' first
      | (with_reducible exact ih0 _ _ _ _)
      | (with_reducible exact ih1 _ _ _ _ _)
      | (with_reducible exact ih2 _ _ _ _ _ _)
      | (with_reducible exact millwrightlaw02_joined.mono _ _)
      | (with_reducible exact LeO.refl _)
      | (with_reducible exact LeO.none _)
      | (with_reducible refine LeO.ite ?_ ?_)
      | (with_reducible refine LeO.bind ?_ (fun _ => ?_))
      | exact ih0 _ _ _ _
      | exact ih1 _ _ _ _ _
      | exact ih2 _ _ _ _ _ _
      | exact millwrightlaw02_joined.mono _ _
      | exact LeO.none _
      | refine LeO.ite ?_ ?_
      | refine LeO.bind ?_ (fun _ => ?_)
    · intro y0 y1 y2 y3 y4
      unfold millwrightlaw02_LexAgain.l0
      repeat' first
      | (with_reducible exact ih0 _ _ _ _)
      | (with_reducible exact ih1 _ _ _ _ _)
      | (with_reducible exact ih2 _ _ _ _ _ _)
      | (with_reducible exact millwrightlaw02_joined.mono _ _)
      | (with_reducible exact LeO.refl _)
      | (with_reducible exact LeO.none _)
      | (with_reducible refine LeO.ite ?_ ?_)
      | (with_reducible refine LeO.bind ?_ (fun _ => ?_))
      | exact ih0 _ _ _ _
      | exact ih1 _ _ _ _ _
      | exact ih2 _ _ _ _ _ _
      | exact millwrightlaw02_joined.mono _ _
      | exact LeO.none _
      | refine LeO.ite ?_ ?_
      | refine LeO.bind ?_ (fun _ => ?_)
    · intro y0 y1 y2 y3 y4 y5
      unfold millwrightlaw02_LexAgain.j2
      repeat' first
      | (with_reducible exact ih0 _ _ _ _)
      | (with_reducible exact ih1 _ _ _ _ _)
      | (with_reducible exact ih2 _ _ _ _ _ _)
      | (with_reducible exact millwrightlaw02_joined.mono _ _)
      | (with_reducible exact LeO.refl _)
      | (with_reducible exact LeO.none _)
      | (with_reducible refine LeO.ite ?_ ?_)
      | (with_reducible refine LeO.bind ?_ (fun _ => ?_))
      | exact ih0 _ _ _ _
      | exact ih1 _ _ _ _ _
      | exact ih2 _ _ _ _ _ _
      | exact millwrightlaw02_joined.mono _ _
      | exact LeO.none _
      | refine LeO.ite ?_ ?_
      | refine LeO.bind ?_ (fun _ => ?_)
theorem millwrightlaw02_LexAgain.mono : ∀ a0 k, LeO (millwrightlaw02_LexAgain.f k a0) (millwrightlaw02_LexAgain.f (k + 1) a0) := by
  intro a0 k
  obtain ⟨ih0, ih1, ih2⟩ := millwrightlaw02_LexAgain.mono_l k
  unfold millwrightlaw02_LexAgain.f
  repeat' first
      | (with_reducible exact ih0 _ _ _ _)
      | (with_reducible exact ih1 _ _ _ _ _)
      | (with_reducible exact ih2 _ _ _ _ _ _)
      | (with_reducible exact millwrightlaw02_joined.mono _ _)
      | (with_reducible exact LeO.refl _)
      | (with_reducible exact LeO.none _)
      | (with_reducible refine LeO.ite ?_ ?_)
      | (with_reducible refine LeO.bind ?_ (fun _ => ?_))
      | exact ih0 _ _ _ _
      | exact ih1 _ _ _ _ _
      | exact ih2 _ _ _ _ _ _
      | exact millwrightlaw02_joined.mono _ _
      | exact LeO.none _
      | refine LeO.ite ?_ ?_
      | refine LeO.bind ?_ (fun _ => ?_)
set_option maxHeartbeats 8000000 in
set_option maxRecDepth 100000 in
theorem millwrightlaw02_LexAgain.calls (k : Nat) (A0 : Option Addr) (c0 : Nat) (l0 : List Int) (r : Bool) (w : World) (hr0 : Kd.C (Kd.int .u8) w A0 l0.length l0) (hc0 : l0.length ≤ c0) (h : millwrightlaw02_LexAgain.f k l0 = some r) :
    Calls Try.prog 4 #[.slice A0 l0.length c0] w fun e w' => e = .returned (.bool r) ∧ Below w.heap.size w w' := by
  have HR0 := Aside0.mk hr0
  have HC0 := Aside0.mk hc0
  clear hr0 hc0
  have HB := Aside0.mk (Below.refl w.heap.size w)
  have H : ((millwrightlaw02_shown.f).bind fun t103 => (if 0 ≤ (mn (l0.length : Int) 3000) then (if (mn (l0.length : Int) 3000) ≤ (l0.length : Int) then ((lex_Lex.f (l0.take ((mn (l0.length : Int) 3000) : Int).toNat)).bind fun bt105 => (if bt105.2.2 = 0 then ((millwrightlaw02_joined.f k bt105.1).bind fun t110 => (if t110.size ≤ 9223372036854775807 then ((lex_Lex.f (bytesOf t110)).bind fun bt114 => (if bt114.2.2 = 0 then (if bt114.2.1 = 0 then (if bt105.2.1 = 0 then (millwrightlaw02_LexAgain.j0 k t103 bt105.1 bt114.1 ((bt114.1.length : Int) != (bt105.1.length : Int))) else (millwrightlaw02_LexAgain.j0 k t103 bt105.1 bt114.1 true)) else (millwrightlaw02_LexAgain.j0 k t103 bt105.1 bt114.1 true)) else (millwrightlaw02_LexAgain.j0 k t103 bt105.1 bt114.1 true))) else (none))) else (if t103 = true then (if bt105.2.2 = 2 then (if bt105.2.1 ≥ 1 then (some ((bt105.1.length : Int) == 0)) else (some false)) else (some false)) else (some false)))) else (none)) else (none))) = some r := h
  clear h
  replace H := Option.bind_eq_some_iff.mp H
  obtain ⟨t103, A20, H⟩ := H
  replace H : (if 0 ≤ (mn (l0.length : Int) 3000) then (if (mn (l0.length : Int) 3000) ≤ (l0.length : Int) then ((lex_Lex.f (l0.take ((mn (l0.length : Int) 3000) : Int).toNat)).bind fun bt105 => (if bt105.2.2 = 0 then ((millwrightlaw02_joined.f k bt105.1).bind fun t110 => (if t110.size ≤ 9223372036854775807 then ((lex_Lex.f (bytesOf t110)).bind fun bt114 => (if bt114.2.2 = 0 then (if bt114.2.1 = 0 then (if bt105.2.1 = 0 then (millwrightlaw02_LexAgain.j0 k t103 bt105.1 bt114.1 ((bt114.1.length : Int) != (bt105.1.length : Int))) else (millwrightlaw02_LexAgain.j0 k t103 bt105.1 bt114.1 true)) else (millwrightlaw02_LexAgain.j0 k t103 bt105.1 bt114.1 true)) else (millwrightlaw02_LexAgain.j0 k t103 bt105.1 bt114.1 true))) else (none))) else (if t103 = true then (if bt105.2.2 = 2 then (if bt105.2.1 ≥ 1 then (some ((bt105.1.length : Int) == 0)) else (some false)) else (some false)) else (some false)))) else (none)) else (none)) = some r := H
  have A2 := Aside0.mk A20
  clear A20
  obtain ⟨ji3, hji3⟩ : ∃ j_ : Int, (mn (l0.length : Int) 3000) = j_ := ⟨_, rfl⟩
  replace H : (if 0 ≤ (ji3) then (if (ji3) ≤ (l0.length : Int) then ((lex_Lex.f (l0.take ((ji3) : Int).toNat)).bind fun bt105 => (if bt105.2.2 = 0 then ((millwrightlaw02_joined.f k bt105.1).bind fun t110 => (if t110.size ≤ 9223372036854775807 then ((lex_Lex.f (bytesOf t110)).bind fun bt114 => (if bt114.2.2 = 0 then (if bt114.2.1 = 0 then (if bt105.2.1 = 0 then (millwrightlaw02_LexAgain.j0 k t103 bt105.1 bt114.1 ((bt114.1.length : Int) != (bt105.1.length : Int))) else (millwrightlaw02_LexAgain.j0 k t103 bt105.1 bt114.1 true)) else (millwrightlaw02_LexAgain.j0 k t103 bt105.1 bt114.1 true)) else (millwrightlaw02_LexAgain.j0 k t103 bt105.1 bt114.1 true))) else (none))) else (if t103 = true then (if bt105.2.2 = 2 then (if bt105.2.1 ≥ 1 then (some ((bt105.1.length : Int) == 0)) else (some false)) else (some false)) else (some false)))) else (none)) else (none)) = some r := by first | (rw [hji3] at H; exact H) | (simp only [hji3] at H ⊢; exact H)
  (try rw [hji3] at A2)
  (try (have hji3h : ji3 ≤ 3000 := by (rw [← hji3]; unfold mn; (repeat' split) <;> omega)))
  (try (have hji3g : ji3 ≤ 64 := by omega))
  (try (have hji3l : 0 ≤ ji3 := by (rw [← hji3]; unfold mn; (repeat' split) <;> omega)))
  (try (have hji3m : 0 ≤ ji3 := by omega))
  have hji3_ : (if 3000 < (l0.length : Int) then 3000 else (l0.length : Int)) = ji3 := hji3
  obtain ⟨tk3_l0, htk3_l0⟩ : ∃ L_ : List Int, L_ = l0.take ((ji3) : Int).toNat := ⟨_, rfl⟩
  rw [← htk3_l0] at H
  have Htk3_l0 := Aside0.mk htk3_l0
  clear htk3_l0
  by_cases c4 : 0 ≤ (ji3)
  · rw [if_pos c4] at H
    have c4b0 := eq_true c4
    have c4b1 : decide (0 ≤ (ji3)) = true := decide_eq_true c4
    clear c4
    by_cases c5 : (ji3) ≤ (l0.length : Int)
    · rw [if_pos c5] at H
      have c5b0 := eq_true c5
      have c5b1 : decide ((ji3) ≤ (l0.length : Int)) = true := decide_eq_true c5
      clear c5
      replace H := Option.bind_eq_some_iff.mp H
      obtain ⟨⟨t105, t106, t107⟩, A60, H⟩ := H
      replace H : (if t107 = 0 then ((millwrightlaw02_joined.f k t105).bind fun t110 => (if t110.size ≤ 9223372036854775807 then ((lex_Lex.f (bytesOf t110)).bind fun bt114 => (if bt114.2.2 = 0 then (if bt114.2.1 = 0 then (if t106 = 0 then (millwrightlaw02_LexAgain.j0 k t103 t105 bt114.1 ((bt114.1.length : Int) != (t105.length : Int))) else (millwrightlaw02_LexAgain.j0 k t103 t105 bt114.1 true)) else (millwrightlaw02_LexAgain.j0 k t103 t105 bt114.1 true)) else (millwrightlaw02_LexAgain.j0 k t103 t105 bt114.1 true))) else (none))) else (if t103 = true then (if t107 = 2 then (if t106 ≥ 1 then (some ((t105.length : Int) == 0)) else (some false)) else (some false)) else (some false))) = some r := H
      have A6 := Aside0.mk A60
      clear A60
      by_cases c7 : t107 = 0
      · rw [if_pos c7] at H
        have c7b0 : (t107 == 0) = true := beq_iff_eq.mpr c7
        have c7b1 : (t107 != 0) = false := bne_eq_false_iff_eq.mpr c7
        clear c7
        replace H := Option.bind_eq_some_iff.mp H
        obtain ⟨t110, A80, H⟩ := H
        replace H : (if t110.size ≤ 9223372036854775807 then ((lex_Lex.f (bytesOf t110)).bind fun bt114 => (if bt114.2.2 = 0 then (if bt114.2.1 = 0 then (if t106 = 0 then (millwrightlaw02_LexAgain.j0 k t103 t105 bt114.1 ((bt114.1.length : Int) != (t105.length : Int))) else (millwrightlaw02_LexAgain.j0 k t103 t105 bt114.1 true)) else (millwrightlaw02_LexAgain.j0 k t103 t105 bt114.1 true)) else (millwrightlaw02_LexAgain.j0 k t103 t105 bt114.1 true))) else (none)) = some r := H
        have A8 := Aside0.mk A80
        clear A80
        by_cases c9 : t110.size ≤ 9223372036854775807
        · rw [if_pos c9] at H
          have c9b0 := eq_true c9
          have c9b1 : decide (t110.size ≤ 9223372036854775807) = true := decide_eq_true c9
          try have c9b2 : (9223372036854775807 < t110.size) = False := eq_false (Nat.not_lt.2 c9)
          clear c9
          obtain ⟨y111, hy111⟩ : ∃ y_ : List Int, y_ = (bytesOf t110) := ⟨_, rfl⟩
          replace H : ((lex_Lex.f y111).bind fun bt114 => (if bt114.2.2 = 0 then (if bt114.2.1 = 0 then (if t106 = 0 then (millwrightlaw02_LexAgain.j0 k t103 t105 bt114.1 ((bt114.1.length : Int) != (t105.length : Int))) else (millwrightlaw02_LexAgain.j0 k t103 t105 bt114.1 true)) else (millwrightlaw02_LexAgain.j0 k t103 t105 bt114.1 true)) else (millwrightlaw02_LexAgain.j0 k t103 t105 bt114.1 true))) = some r := by first | (rw [hy111]; with_reducible exact H) | (have H2_ := (Option.bind_some _ _).symm.trans H; rw [hy111]; with_reducible exact H2_) | (have H2_ := (Option.bind_some _ _).symm.trans H; with_reducible exact H2_) | with_reducible exact H | (rw [hy111]; exact H) | exact H
          have Ny111 := Aside0.mk hy111
          clear hy111
          replace H := Option.bind_eq_some_iff.mp H
          obtain ⟨⟨t114, t115, t116⟩, A100, H⟩ := H
          replace H : (if t116 = 0 then (if t115 = 0 then (if t106 = 0 then (millwrightlaw02_LexAgain.j0 k t103 t105 t114 ((t114.length : Int) != (t105.length : Int))) else (millwrightlaw02_LexAgain.j0 k t103 t105 t114 true)) else (millwrightlaw02_LexAgain.j0 k t103 t105 t114 true)) else (millwrightlaw02_LexAgain.j0 k t103 t105 t114 true)) = some r := H
          have A10 := Aside0.mk A100
          clear A100
          have HC11 := Aside0.mk H
          clear H
          go_enter Try.func4, Try.ntmps4
          go_upto_region 7 with (first | (go_at_call 10; (with_reducible refine (millwrightlaw02_shown.calls  t103 _ A2.out).mono ?_); rintro e w12 ⟨rfl, hb⟩; have n0_ := Aside0.mk (below_step (by repeat (first | (with_reducible first | exact HB.out | apply below_alloc | apply pw_below_drewN | apply below_drew1) | exact HB.out)) hb); clear HB; have HB := n0_; clear n0_; (try clear hb); (try clear hb2); (try clear hk); (try clear hi); obtain ⟨i013, hi013, _, hsz13, _⟩ := info_parts info5; obtain ⟨hcut13, hA13, hC13⟩ := print_take_of (P := Try.prog) (Value.int .u8) 0 22 5 .i64 Try.underlying22 hi013 hsz13 A0 c0 l0 (ji3) (of_decide_eq_true (by first | (with_reducible assumption) | assumption)) (of_decide_eq_true (by first | (with_reducible assumption) | assumption)) HC0.out; rw [← Htk3_l0.out] at hcut13 hA13 hC13; have HR104 := Aside0.mk (Kd.C_of_reads (h1 := fun _ => rfl) (hA13 _ (Kd.reads_of_C HR0.out))); have HC104 := Aside0.mk hC13; clear hA13 hC13 hi013 hsz13) | (go_at_call 11; (with_reducible refine (lex_Lex.calls _ _ tk3_l0 t105 t106 t107 _ ?side1 ?side2 A6.out).mono ?_); (case side1 => repeat (first | exact (Kd.C_below HR104.out HB.out) | (with_reducible refine Kd.C_alloc ?_ _) | (with_reducible refine Kd.C_drewN ?_ _) | (with_reducible refine Kd.C_drew ?_))); (case side2 => exact HC104.out); rintro e w14 ⟨v108, rfl, ho0, hb⟩; have n0_ := Aside0.mk (Kd.R_lower ho0 (below_size (by repeat (first | (with_reducible first | exact HB.out | apply below_alloc | apply pw_below_drewN | apply below_drew1) | exact HB.out)))); have n1_ := Aside0.mk (below_step (by repeat (first | (with_reducible first | exact HB.out | apply below_alloc | apply pw_below_drewN | apply below_drew1) | exact HB.out)) hb); clear HB; have HO109 := n0_; have HB := n1_; clear n0_ n1_; (try clear hb); (try clear hb2); (try clear hk); (try clear hi); (try clear ho0); obtain ⟨Ao15, co15, eo15⟩ := Kd.R_slice HO109.out; subst eo15) | (go_at_call 14; (with_reducible refine (millwrightlaw02_joined.calls k _ _ t105 t110 _ ?side1 ?side2 A8.out).mono ?_); (case side1 => repeat (first | exact (Kd.R_reads' HO109.out).2.2 | (with_reducible refine Kd.C_alloc ?_ _) | (with_reducible refine Kd.C_drewN ?_ _) | (with_reducible refine Kd.C_drew ?_))); (case side2 => exact (Kd.R_reads' HO109.out).2.1); rintro e w' ⟨rfl, ⟨nd, rfl⟩⟩; (try first | exact ⟨rfl, _, World.drewN_drewN _ _ _⟩ | exact ⟨rfl, _, Eq.trans (World.drewN_drewN _ _ _) (congrArg (World.drewN _) (Nat.add_assoc _ _ _))⟩)) | ((with_reducible refine gate_dst (N := 43) rfl ?_); (try (refine gate_guard (by rfl) ?_; dsimp only)); refine LexK.CO_conv _ ?hg (N := 43) ?hd 9 22 5 (.tmp 42) rfl Try.underlying9 Try.underlying22 Try.underlying5 _ rfl (fun _ => True) trivial (Below.refl _ _) (Nat.le_refl _) (of_decide_eq_true (by first | (with_reducible assumption) | assumption)) ?_; (case hd => rfl); (case hg => rfl); intro v112 w16 ho17 hb hg_ hnew_; clear hg_ hnew_; (first | rw [← Ny111.out] at ho17 | (simp only [Int.reduceToNat] at ho17; rw [← Ny111.out] at ho17)); have n0_ := Aside0.mk (Kd.R_below (by (with_reducible repeat (first | apply Kd.R_alloc | apply Kd.R_drewN | apply Kd.R_drew)); exact HO109.out) hb); have n1_ := Aside0.mk (LexK.CO_lower ho17 (below_size (by repeat (first | (with_reducible first | exact HB.out | apply below_alloc | apply pw_below_drewN | apply below_drew1) | exact HB.out)))); have n2_ := Aside0.mk (below_step (by repeat (first | (with_reducible first | exact HB.out | apply below_alloc | apply pw_below_drewN | apply below_drew1) | exact HB.out)) hb); clear HO109; clear HB; have HO109 := n0_; have HO113 := n1_; have HB := n2_; clear n0_ n1_ n2_; clear hb ho17; obtain ⟨Ao18, co18, eo18⟩ := LexK.CO_slice HO113.out; subst eo18) | (go_at_call 11; (with_reducible refine (lex_Lex.calls _ _ y111 t114 t115 t116 _ ?side1 ?side2 A10.out).mono ?_); (case side1 => repeat (first | exact (LexK.CO_reads' HO113.out).2.2 | (with_reducible refine Kd.C_alloc ?_ _) | (with_reducible refine Kd.C_drewN ?_ _) | (with_reducible refine Kd.C_drew ?_))); (case side2 => exact (LexK.CO_reads' HO113.out).2.1); rintro e w19 ⟨v117, rfl, ho0, hb⟩; have n0_ := Aside0.mk (Kd.R_elder' (by (with_reducible repeat (first | apply Kd.R_alloc | apply Kd.R_drewN | apply Kd.R_drew)); exact HO109.out) (Kd.R_base ho0) hb); have n1_ := Aside0.mk (LexK.CO_below (by (with_reducible repeat (first | apply LexK.CO_alloc | apply LexK.CO_drewN | apply LexK.CO_drew)); exact HO113.out) hb); have n2_ := Aside0.mk (Kd.R_lower (Kd.R_new' ho0 (Kd.R_lt (by (with_reducible repeat (first | apply Kd.R_alloc | apply Kd.R_drewN | apply Kd.R_drew)); exact HO109.out))) (below_size (by repeat (first | (with_reducible first | exact HB.out | apply below_alloc | apply pw_below_drewN | apply below_drew1) | exact HB.out)))); have n3_ := Aside0.mk (below_step (by repeat (first | (with_reducible first | exact HB.out | apply below_alloc | apply pw_below_drewN | apply below_drew1) | exact HB.out)) hb); clear HO109; clear HO113; clear HB; have HO109 := n0_; have HO113 := n1_; have HO118 := n2_; have HB := n3_; clear n0_ n1_ n2_ n3_; (try clear hb); (try clear hb2); (try clear hk); (try clear hi); (try clear ho0)))
          repeat (go_quiet (first | (go_at_call 10; (with_reducible refine (millwrightlaw02_shown.calls  t103 _ A2.out).mono ?_); rintro e w12 ⟨rfl, hb⟩; have n0_ := Aside0.mk (below_step (by repeat (first | (with_reducible first | exact HB.out | apply below_alloc | apply pw_below_drewN | apply below_drew1) | exact HB.out)) hb); clear HB; have HB := n0_; clear n0_; (try clear hb); (try clear hb2); (try clear hk); (try clear hi); obtain ⟨i013, hi013, _, hsz13, _⟩ := info_parts info5; obtain ⟨hcut13, hA13, hC13⟩ := print_take_of (P := Try.prog) (Value.int .u8) 0 22 5 .i64 Try.underlying22 hi013 hsz13 A0 c0 l0 (ji3) (of_decide_eq_true (by first | (with_reducible assumption) | assumption)) (of_decide_eq_true (by first | (with_reducible assumption) | assumption)) HC0.out; rw [← Htk3_l0.out] at hcut13 hA13 hC13; have HR104 := Aside0.mk (Kd.C_of_reads (h1 := fun _ => rfl) (hA13 _ (Kd.reads_of_C HR0.out))); have HC104 := Aside0.mk hC13; clear hA13 hC13 hi013 hsz13) | (go_at_call 11; (with_reducible refine (lex_Lex.calls _ _ tk3_l0 t105 t106 t107 _ ?side1 ?side2 A6.out).mono ?_); (case side1 => repeat (first | exact (Kd.C_below HR104.out HB.out) | (with_reducible refine Kd.C_alloc ?_ _) | (with_reducible refine Kd.C_drewN ?_ _) | (with_reducible refine Kd.C_drew ?_))); (case side2 => exact HC104.out); rintro e w14 ⟨v108, rfl, ho0, hb⟩; have n0_ := Aside0.mk (Kd.R_lower ho0 (below_size (by repeat (first | (with_reducible first | exact HB.out | apply below_alloc | apply pw_below_drewN | apply below_drew1) | exact HB.out)))); have n1_ := Aside0.mk (below_step (by repeat (first | (with_reducible first | exact HB.out | apply below_alloc | apply pw_below_drewN | apply below_drew1) | exact HB.out)) hb); clear HB; have HO109 := n0_; have HB := n1_; clear n0_ n1_; (try clear hb); (try clear hb2); (try clear hk); (try clear hi); (try clear ho0); obtain ⟨Ao15, co15, eo15⟩ := Kd.R_slice HO109.out; subst eo15) | (go_at_call 14; (with_reducible refine (millwrightlaw02_joined.calls k _ _ t105 t110 _ ?side1 ?side2 A8.out).mono ?_); (case side1 => repeat (first | exact (Kd.R_reads' HO109.out).2.2 | (with_reducible refine Kd.C_alloc ?_ _) | (with_reducible refine Kd.C_drewN ?_ _) | (with_reducible refine Kd.C_drew ?_))); (case side2 => exact (Kd.R_reads' HO109.out).2.1); rintro e w' ⟨rfl, ⟨nd, rfl⟩⟩; (try first | exact ⟨rfl, _, World.drewN_drewN _ _ _⟩ | exact ⟨rfl, _, Eq.trans (World.drewN_drewN _ _ _) (congrArg (World.drewN _) (Nat.add_assoc _ _ _))⟩)) | ((with_reducible refine gate_dst (N := 43) rfl ?_); (try (refine gate_guard (by rfl) ?_; dsimp only)); refine LexK.CO_conv _ ?hg (N := 43) ?hd 9 22 5 (.tmp 42) rfl Try.underlying9 Try.underlying22 Try.underlying5 _ rfl (fun _ => True) trivial (Below.refl _ _) (Nat.le_refl _) (of_decide_eq_true (by first | (with_reducible assumption) | assumption)) ?_; (case hd => rfl); (case hg => rfl); intro v112 w16 ho17 hb hg_ hnew_; clear hg_ hnew_; (first | rw [← Ny111.out] at ho17 | (simp only [Int.reduceToNat] at ho17; rw [← Ny111.out] at ho17)); have n0_ := Aside0.mk (Kd.R_below (by (with_reducible repeat (first | apply Kd.R_alloc | apply Kd.R_drewN | apply Kd.R_drew)); exact HO109.out) hb); have n1_ := Aside0.mk (LexK.CO_lower ho17 (below_size (by repeat (first | (with_reducible first | exact HB.out | apply below_alloc | apply pw_below_drewN | apply below_drew1) | exact HB.out)))); have n2_ := Aside0.mk (below_step (by repeat (first | (with_reducible first | exact HB.out | apply below_alloc | apply pw_below_drewN | apply below_drew1) | exact HB.out)) hb); clear HO109; clear HB; have HO109 := n0_; have HO113 := n1_; have HB := n2_; clear n0_ n1_ n2_; clear hb ho17; obtain ⟨Ao18, co18, eo18⟩ := LexK.CO_slice HO113.out; subst eo18) | (go_at_call 11; (with_reducible refine (lex_Lex.calls _ _ y111 t114 t115 t116 _ ?side1 ?side2 A10.out).mono ?_); (case side1 => repeat (first | exact (LexK.CO_reads' HO113.out).2.2 | (with_reducible refine Kd.C_alloc ?_ _) | (with_reducible refine Kd.C_drewN ?_ _) | (with_reducible refine Kd.C_drew ?_))); (case side2 => exact (LexK.CO_reads' HO113.out).2.1); rintro e w19 ⟨v117, rfl, ho0, hb⟩; have n0_ := Aside0.mk (Kd.R_elder' (by (with_reducible repeat (first | apply Kd.R_alloc | apply Kd.R_drewN | apply Kd.R_drew)); exact HO109.out) (Kd.R_base ho0) hb); have n1_ := Aside0.mk (LexK.CO_below (by (with_reducible repeat (first | apply LexK.CO_alloc | apply LexK.CO_drewN | apply LexK.CO_drew)); exact HO113.out) hb); have n2_ := Aside0.mk (Kd.R_lower (Kd.R_new' ho0 (Kd.R_lt (by (with_reducible repeat (first | apply Kd.R_alloc | apply Kd.R_drewN | apply Kd.R_drew)); exact HO109.out))) (below_size (by repeat (first | (with_reducible first | exact HB.out | apply below_alloc | apply pw_below_drewN | apply below_drew1) | exact HB.out)))); have n3_ := Aside0.mk (below_step (by repeat (first | (with_reducible first | exact HB.out | apply below_alloc | apply pw_below_drewN | apply below_drew1) | exact HB.out)) hb); clear HO109; clear HO113; clear HB; have HO109 := n0_; have HO113 := n1_; have HO118 := n2_; have HB := n3_; clear n0_ n1_ n2_ n3_; (try clear hb); (try clear hb2); (try clear hk); (try clear hi); (try clear ho0))); go_upto_region 7 with (first | (go_at_call 10; (with_reducible refine (millwrightlaw02_shown.calls  t103 _ A2.out).mono ?_); rintro e w12 ⟨rfl, hb⟩; have n0_ := Aside0.mk (below_step (by repeat (first | (with_reducible first | exact HB.out | apply below_alloc | apply pw_below_drewN | apply below_drew1) | exact HB.out)) hb); clear HB; have HB := n0_; clear n0_; (try clear hb); (try clear hb2); (try clear hk); (try clear hi); obtain ⟨i013, hi013, _, hsz13, _⟩ := info_parts info5; obtain ⟨hcut13, hA13, hC13⟩ := print_take_of (P := Try.prog) (Value.int .u8) 0 22 5 .i64 Try.underlying22 hi013 hsz13 A0 c0 l0 (ji3) (of_decide_eq_true (by first | (with_reducible assumption) | assumption)) (of_decide_eq_true (by first | (with_reducible assumption) | assumption)) HC0.out; rw [← Htk3_l0.out] at hcut13 hA13 hC13; have HR104 := Aside0.mk (Kd.C_of_reads (h1 := fun _ => rfl) (hA13 _ (Kd.reads_of_C HR0.out))); have HC104 := Aside0.mk hC13; clear hA13 hC13 hi013 hsz13) | (go_at_call 11; (with_reducible refine (lex_Lex.calls _ _ tk3_l0 t105 t106 t107 _ ?side1 ?side2 A6.out).mono ?_); (case side1 => repeat (first | exact (Kd.C_below HR104.out HB.out) | (with_reducible refine Kd.C_alloc ?_ _) | (with_reducible refine Kd.C_drewN ?_ _) | (with_reducible refine Kd.C_drew ?_))); (case side2 => exact HC104.out); rintro e w14 ⟨v108, rfl, ho0, hb⟩; have n0_ := Aside0.mk (Kd.R_lower ho0 (below_size (by repeat (first | (with_reducible first | exact HB.out | apply below_alloc | apply pw_below_drewN | apply below_drew1) | exact HB.out)))); have n1_ := Aside0.mk (below_step (by repeat (first | (with_reducible first | exact HB.out | apply below_alloc | apply pw_below_drewN | apply below_drew1) | exact HB.out)) hb); clear HB; have HO109 := n0_; have HB := n1_; clear n0_ n1_; (try clear hb); (try clear hb2); (try clear hk); (try clear hi); (try clear ho0); obtain ⟨Ao15, co15, eo15⟩ := Kd.R_slice HO109.out; subst eo15) | (go_at_call 14; (with_reducible refine (millwrightlaw02_joined.calls k _ _ t105 t110 _ ?side1 ?side2 A8.out).mono ?_); (case side1 => repeat (first | exact (Kd.R_reads' HO109.out).2.2 | (with_reducible refine Kd.C_alloc ?_ _) | (with_reducible refine Kd.C_drewN ?_ _) | (with_reducible refine Kd.C_drew ?_))); (case side2 => exact (Kd.R_reads' HO109.out).2.1); rintro e w' ⟨rfl, ⟨nd, rfl⟩⟩; (try first | exact ⟨rfl, _, World.drewN_drewN _ _ _⟩ | exact ⟨rfl, _, Eq.trans (World.drewN_drewN _ _ _) (congrArg (World.drewN _) (Nat.add_assoc _ _ _))⟩)) | ((with_reducible refine gate_dst (N := 43) rfl ?_); (try (refine gate_guard (by rfl) ?_; dsimp only)); refine LexK.CO_conv _ ?hg (N := 43) ?hd 9 22 5 (.tmp 42) rfl Try.underlying9 Try.underlying22 Try.underlying5 _ rfl (fun _ => True) trivial (Below.refl _ _) (Nat.le_refl _) (of_decide_eq_true (by first | (with_reducible assumption) | assumption)) ?_; (case hd => rfl); (case hg => rfl); intro v112 w16 ho17 hb hg_ hnew_; clear hg_ hnew_; (first | rw [← Ny111.out] at ho17 | (simp only [Int.reduceToNat] at ho17; rw [← Ny111.out] at ho17)); have n0_ := Aside0.mk (Kd.R_below (by (with_reducible repeat (first | apply Kd.R_alloc | apply Kd.R_drewN | apply Kd.R_drew)); exact HO109.out) hb); have n1_ := Aside0.mk (LexK.CO_lower ho17 (below_size (by repeat (first | (with_reducible first | exact HB.out | apply below_alloc | apply pw_below_drewN | apply below_drew1) | exact HB.out)))); have n2_ := Aside0.mk (below_step (by repeat (first | (with_reducible first | exact HB.out | apply below_alloc | apply pw_below_drewN | apply below_drew1) | exact HB.out)) hb); clear HO109; clear HB; have HO109 := n0_; have HO113 := n1_; have HB := n2_; clear n0_ n1_ n2_; clear hb ho17; obtain ⟨Ao18, co18, eo18⟩ := LexK.CO_slice HO113.out; subst eo18) | (go_at_call 11; (with_reducible refine (lex_Lex.calls _ _ y111 t114 t115 t116 _ ?side1 ?side2 A10.out).mono ?_); (case side1 => repeat (first | exact (LexK.CO_reads' HO113.out).2.2 | (with_reducible refine Kd.C_alloc ?_ _) | (with_reducible refine Kd.C_drewN ?_ _) | (with_reducible refine Kd.C_drew ?_))); (case side2 => exact (LexK.CO_reads' HO113.out).2.1); rintro e w19 ⟨v117, rfl, ho0, hb⟩; have n0_ := Aside0.mk (Kd.R_elder' (by (with_reducible repeat (first | apply Kd.R_alloc | apply Kd.R_drewN | apply Kd.R_drew)); exact HO109.out) (Kd.R_base ho0) hb); have n1_ := Aside0.mk (LexK.CO_below (by (with_reducible repeat (first | apply LexK.CO_alloc | apply LexK.CO_drewN | apply LexK.CO_drew)); exact HO113.out) hb); have n2_ := Aside0.mk (Kd.R_lower (Kd.R_new' ho0 (Kd.R_lt (by (with_reducible repeat (first | apply Kd.R_alloc | apply Kd.R_drewN | apply Kd.R_drew)); exact HO109.out))) (below_size (by repeat (first | (with_reducible first | exact HB.out | apply below_alloc | apply pw_below_drewN | apply below_drew1) | exact HB.out)))); have n3_ := Aside0.mk (below_step (by repeat (first | (with_reducible first | exact HB.out | apply below_alloc | apply pw_below_drewN | apply below_drew1) | exact HB.out)) hb); clear HO109; clear HO113; clear HB; have HO109 := n0_; have HO113 := n1_; have HO118 := n2_; have HB := n3_; clear n0_ n1_ n2_ n3_; (try clear hb); (try clear hb2); (try clear hk); (try clear hi); (try clear ho0))))
          (try simp only [Act.put, List.setIfInBounds_toArray, List.set_cons_zero, List.set_cons_succ])
          go_cut [64] (fun v64 wc => ∃ (kq : Nat) (x64_10 : Bool), v64 = .bool x64_10 ∧ Aside0 (millwrightlaw02_LexAgain.j0 kq t103 t105 t114 x64_10 = some r) ∧ Aside0 (kq ≤ k) ∧ Aside0 (Kd.R k35 35 wc w.heap.size (fun k_ => some k_ ≠ (v117 : Value).ownBlock) (.slice Ao15 t105.length co15) t105) ∧ Aside0 (Kd.R k35 35 wc w.heap.size (fun k_ => some k_ ≠ ((.slice Ao15 t105.length co15) : Value).ownBlock) v117 t114) ∧ Aside0 (Below w.heap.size w wc))
          case first =>
            have H := HC11.out
            clear HC11
            by_cases c20 : t116 = 0
            · rw [if_pos c20] at H
              have c20b0 : (t116 == 0) = true := beq_iff_eq.mpr c20
              have c20b1 : (t116 != 0) = false := bne_eq_false_iff_eq.mpr c20
              clear c20
              (first | rw [c20b0] | (simp only [i64_w, i32_w]; rw [c20b0]) | skip)
              by_cases c21 : t115 = 0
              · rw [if_pos c21] at H
                have c21b0 : (t115 == 0) = true := beq_iff_eq.mpr c21
                have c21b1 : (t115 != 0) = false := bne_eq_false_iff_eq.mpr c21
                clear c21
                by_cases c22 : t106 = 0
                · rw [if_pos c22] at H
                  have c22b0 : (t106 == 0) = true := beq_iff_eq.mpr c22
                  have c22b1 : (t106 != 0) = false := bne_eq_false_iff_eq.mpr c22
                  clear c22
                  have H' := Aside0.mk H
                  clear H
                  obtain ⟨Ao23, co23, eo23⟩ := Kd.R_slice HO118.out
                  subst eo23
                  go_wp2
                  repeat (go_quiet (fail); try go_wp2)
                  go_meet
                  case rel => exact ⟨_, (((t114.length : Int) != (t105.length : Int))), (by first | rfl | (simp; done) | (simp [*]; done)), H', ⟨by first | omega | exact Nat.le_refl _⟩, ⟨by (with_reducible repeat (first | apply Kd.R_alloc | apply Kd.R_drewN | apply Kd.R_drew)); exact Kd.R_mono HO109.out (fun _ hk => hk.2)⟩, ⟨by (with_reducible repeat (first | apply Kd.R_alloc | apply Kd.R_drewN | apply Kd.R_drew)); exact Kd.R_mono HO118.out (fun _ hk => hk.2)⟩, ⟨by repeat (first | (with_reducible first | exact HB.out | apply below_alloc | apply pw_below_drewN | apply below_drew1) | exact HB.out)⟩⟩
                · rw [if_neg c22] at H
                  have c22b0 : (t106 == 0) = false := beq_eq_false_iff_ne.mpr c22
                  have c22b1 : (t106 != 0) = true := bne_iff_ne.mpr c22
                  have H' := Aside0.mk H
                  clear H
                  go_wp2
                  repeat (go_quiet (fail); try go_wp2)
                  go_meet
                  case rel => exact ⟨_, (true), (by first | rfl | (simp; done) | (simp [*]; done)), H', ⟨by first | omega | exact Nat.le_refl _⟩, ⟨by (with_reducible repeat (first | apply Kd.R_alloc | apply Kd.R_drewN | apply Kd.R_drew)); exact Kd.R_mono HO109.out (fun _ hk => hk.2)⟩, ⟨by (with_reducible repeat (first | apply Kd.R_alloc | apply Kd.R_drewN | apply Kd.R_drew)); exact Kd.R_mono HO118.out (fun _ hk => hk.2)⟩, ⟨by repeat (first | (with_reducible first | exact HB.out | apply below_alloc | apply pw_below_drewN | apply below_drew1) | exact HB.out)⟩⟩
              · rw [if_neg c21] at H
                have c21b0 : (t115 == 0) = false := beq_eq_false_iff_ne.mpr c21
                have c21b1 : (t115 != 0) = true := bne_iff_ne.mpr c21
                have H' := Aside0.mk H
                clear H
                go_wp2
                repeat (go_quiet (fail); try go_wp2)
                go_meet
                case rel => exact ⟨_, (true), (by first | rfl | (simp; done) | (simp [*]; done)), H', ⟨by first | omega | exact Nat.le_refl _⟩, ⟨by (with_reducible repeat (first | apply Kd.R_alloc | apply Kd.R_drewN | apply Kd.R_drew)); exact Kd.R_mono HO109.out (fun _ hk => hk.2)⟩, ⟨by (with_reducible repeat (first | apply Kd.R_alloc | apply Kd.R_drewN | apply Kd.R_drew)); exact Kd.R_mono HO118.out (fun _ hk => hk.2)⟩, ⟨by repeat (first | (with_reducible first | exact HB.out | apply below_alloc | apply pw_below_drewN | apply below_drew1) | exact HB.out)⟩⟩
            · rw [if_neg c20] at H
              have c20b0 : (t116 == 0) = false := beq_eq_false_iff_ne.mpr c20
              have c20b1 : (t116 != 0) = true := bne_iff_ne.mpr c20
              (first | rw [c20b0] | (simp only [i64_w, i32_w]; rw [c20b0]) | skip)
              have H' := Aside0.mk H
              clear H
              go_wp2
              repeat (go_quiet (fail); try go_wp2)
              go_meet
              case rel => exact ⟨_, (true), (by first | rfl | (simp; done) | (simp [*]; done)), H', ⟨by first | omega | exact Nat.le_refl _⟩, ⟨by (with_reducible repeat (first | apply Kd.R_alloc | apply Kd.R_drewN | apply Kd.R_drew)); exact Kd.R_mono HO109.out (fun _ hk => hk.2)⟩, ⟨by (with_reducible repeat (first | apply Kd.R_alloc | apply Kd.R_drewN | apply Kd.R_drew)); exact Kd.R_mono HO118.out (fun _ hk => hk.2)⟩, ⟨by repeat (first | (with_reducible first | exact HB.out | apply below_alloc | apply pw_below_drewN | apply below_drew1) | exact HB.out)⟩⟩
          case rest =>
            clear HC11
            try clear c2
            try clear p2
            try clear c4
            try clear c4b0
            try clear c4b1
            try clear c5
            try clear c5b0
            try clear c5b1
            try clear c7
            try clear c7b0
            try clear c7b1
            try clear c9
            try clear c9b0
            try clear c9b1
            try clear c9b2
            try clear c20
            try clear c20b0
            try clear c20b1
            try clear c21
            try clear c21b0
            try clear c21b1
            try clear c22
            try clear c22b0
            try clear c22b1
            obtain ⟨kq, x64_10, rfl, HA, HJ10, HO_4, HO_7, HB⟩ := hcut
            cases kq with
            | zero => exact absurd HA.out (by simp [millwrightlaw02_LexAgain.j0])
            | succ kj10 =>
              have H := HA.out
              clear HA
              simp only [millwrightlaw02_LexAgain.j0] at H
              by_cases c24 : x64_10 = true
              · subst c24
                have H1 : (some false) = some r := by rw [if_pos rfl] at H; exact H
                clear H
                have H := H1
                clear H1
                obtain rfl := Option.some.inj H
                go_wp2
                repeat (go_quiet (fail); try go_wp2)
                go_ret
                exact ⟨by first | rfl | (simp [errW_none, errW_some] <;> rfl) | (simp only [← hji3]; first | rfl | (simp [errW_none, errW_some] <;> rfl)) | (simp [*, errW_none, errW_some] <;> rfl), by repeat (first | (with_reducible first | exact HB.out | apply below_alloc | apply pw_below_drewN | apply below_drew1) | exact HB.out)⟩
              · replace c24 := Bool.eq_false_iff.mpr c24
                subst c24
                have H1 : (millwrightlaw02_LexAgain.l0 kj10 t103 t105 t114 1 0) = some r := by rw [if_neg (show ¬ (false = true) by decide)] at H; exact H
                clear H
                have H := H1
                clear H1
                have H' := Aside0.mk H
                clear H
                go_wp2
                repeat (go_quiet (fail); try go_wp2)
                go_loopg [10, 11] kj10 (fun kq v10 v11 w' => ∃ (x10_2 : Int) (x11_2 : Int), v10 = .int .i64 x10_2 ∧ v11 = .int .i64 x11_2 ∧ Aside0 (millwrightlaw02_LexAgain.l0 kq t103 t105 t114 x10_2 x11_2 = some r) ∧ Aside0 (kq ≤ kj10) ∧ Aside0 (Kd.R k35 35 w' w.heap.size (fun k_ => some k_ ≠ (v117 : Value).ownBlock) (.slice Ao15 t105.length co15) t105) ∧ Aside0 (Kd.R k35 35 w' w.heap.size (fun k_ => some k_ ≠ ((.slice Ao15 t105.length co15) : Value).ownBlock) v117 t114) ∧ Aside0 (Below w.heap.size w w'))
                case atStart => exact ⟨(1), (0), (by first | rfl | (simp; done) | (simp [*]; done)), (by first | rfl | (simp; done) | (simp [*]; done)), H', ⟨Nat.le_refl _⟩, ⟨by (with_reducible repeat (first | apply Kd.R_alloc | apply Kd.R_drewN | apply Kd.R_drew)); exact HO_4.out⟩, ⟨by (with_reducible repeat (first | apply Kd.R_alloc | apply Kd.R_drewN | apply Kd.R_drew)); exact HO_7.out⟩, ⟨by repeat (first | (with_reducible first | exact HB.out | apply below_alloc | apply pw_below_drewN | apply below_drew1) | exact HB.out)⟩⟩
                case round =>
                  clear H'
                  try clear c2
                  try clear p2
                  try clear c4
                  try clear c4b0
                  try clear c4b1
                  try clear c5
                  try clear c5b0
                  try clear c5b1
                  try clear c7
                  try clear c7b0
                  try clear c7b1
                  try clear c9
                  try clear c9b0
                  try clear c9b1
                  try clear c9b2
                  try clear c20
                  try clear c20b0
                  try clear c20b1
                  try clear c21
                  try clear c21b0
                  try clear c21b1
                  try clear c22
                  try clear c22b0
                  try clear c22b1
                  try clear c24
                  try clear p2
                  obtain ⟨x10_2, x11_2, rfl, rfl, HA, HK2, HO_4, HO_7, HB⟩ := hrel
                  cases gk with
                  | zero => exact absurd HA.out (by simp [millwrightlaw02_LexAgain.l0])
                  | succ k2 =>
                    have H := HA.out
                    clear HA
                    simp only [millwrightlaw02_LexAgain.l0] at H
                    by_cases c25 : x11_2 < (t114.length : Int)
                    · rw [if_pos c25] at H
                      have c25b0 : decide (x11_2 < (t114.length : Int)) = true := decide_eq_true c25
                      clear c25
                      have HC26 := Aside0.mk H
                      clear H
                      obtain ⟨Ao27, co27, eo27⟩ := Kd.R_slice HO_7.out
                      subst eo27
                      go_upto_region 13 with (fail)
                      repeat (go_quiet (fail); go_upto_region 13 with (fail))
                      go_cut [103] (fun v103 wc => ∃ (kq : Nat) (x103_25 : Bool), v103 = .bool x103_25 ∧ Aside0 (millwrightlaw02_LexAgain.j2 kq t103 t105 t114 x10_2 x11_2 x103_25 = some r) ∧ Aside0 (kq ≤ k2) ∧ Aside0 (Kd.R k35 35 wc w.heap.size (fun k_ => some k_ ≠ ((.slice Ao27 t114.length co27) : Value).ownBlock) (.slice Ao15 t105.length co15) t105) ∧ Aside0 (Kd.R k35 35 wc w.heap.size (fun k_ => some k_ ≠ ((.slice Ao15 t105.length co15) : Value).ownBlock) (.slice Ao27 t114.length co27) t114) ∧ Aside0 (Below w.heap.size w wc))
                      case first =>
                        have H := HC26.out
                        clear HC26
                        by_cases c28 : 0 ≤ x11_2
                        · rw [if_pos c28] at H
                          have c28b0 : decide (0 ≤ x11_2) = true := decide_eq_true c28
                          clear c28
                          (first | rw [c28b0] | (simp only [i64_w, i32_w]; rw [c28b0]) | skip)
                          by_cases c29 : x11_2 < (t105.length : Int)
                          · rw [if_pos c29] at H
                            have c29b0 : decide (x11_2 < (t105.length : Int)) = true := decide_eq_true c29
                            clear c29
                            by_cases c30 : ((rd_T35 t114 x11_2).f0) = ((rd_T35 t105 x11_2).f0)
                            · rw [if_pos c30] at H
                              have c30b0 : (((rd_T35 t114 x11_2).f0) == ((rd_T35 t105 x11_2).f0)) = true := beq_iff_eq.mpr c30
                              have c30b1 : (((rd_T35 t114 x11_2).f0) != ((rd_T35 t105 x11_2).f0)) = false := bne_eq_false_iff_eq.mpr c30
                              clear c30
                              by_cases c31 : ((rd_T35 t114 x11_2).f1).toList = ((rd_T35 t105 x11_2).f1).toList
                              · rw [if_pos c31] at H
                                have c31b0 : (((rd_T35 t114 x11_2).f1).toList == ((rd_T35 t105 x11_2).f1).toList) = true := beq_iff_eq.mpr c31
                                have c31b1 : (((rd_T35 t114 x11_2).f1).toList != ((rd_T35 t105 x11_2).f1).toList) = false := bne_eq_false_iff_eq.mpr c31
                                clear c31
                                have H' := Aside0.mk H
                                clear H
                                have p119 : 0 ≤ (x11_2 : Int) := of_decide_eq_true (by first | (with_reducible assumption) | assumption)
                                have q119 : x11_2 < (t114.length : Int) := of_decide_eq_true (by first | (with_reducible assumption) | assumption)
                                obtain ⟨ad119, e119, hx119_0, hx119_1, hx119_2⟩ := at_T35 (Kd.R_reads' HO_7.out).2.2 x11_2 p119 q119
                                cases e119
                                replace p119 := eq_true p119
                                replace q119 := eq_true q119
                                have p120 : 0 ≤ (x11_2 : Int) := of_decide_eq_true (by first | (with_reducible assumption) | assumption)
                                have q120 : x11_2 < (t105.length : Int) := of_decide_eq_true (by first | (with_reducible assumption) | assumption)
                                obtain ⟨ad120, e120, hx120_0, hx120_1, hx120_2⟩ := at_T35 (Kd.R_reads' HO_4.out).2.2 x11_2 p120 q120
                                cases e120
                                replace p120 := eq_true p120
                                replace q120 := eq_true q120
                                have p121 : 0 ≤ (x11_2 : Int) := of_decide_eq_true (by first | (with_reducible assumption) | assumption)
                                have q121 : x11_2 < (t114.length : Int) := of_decide_eq_true (by first | (with_reducible assumption) | assumption)
                                obtain ⟨ad121, e121, hx121_0, hx121_1, hx121_2⟩ := at_T35 (Kd.R_reads' HO_7.out).2.2 x11_2 p121 q121
                                obtain rfl : ad119 = ad121 := (by injection e121)
                                replace p121 := eq_true p121
                                replace q121 := eq_true q121
                                have p122 : 0 ≤ (x11_2 : Int) := of_decide_eq_true (by first | (with_reducible assumption) | assumption)
                                have q122 : x11_2 < (t105.length : Int) := of_decide_eq_true (by first | (with_reducible assumption) | assumption)
                                obtain ⟨ad122, e122, hx122_0, hx122_1, hx122_2⟩ := at_T35 (Kd.R_reads' HO_4.out).2.2 x11_2 p122 q122
                                obtain rfl : ad120 = ad122 := (by injection e122)
                                replace p122 := eq_true p122
                                replace q122 := eq_true q122
                                have p123 : 0 ≤ (x11_2 : Int) := of_decide_eq_true (by first | (with_reducible assumption) | assumption)
                                have q123 : x11_2 < (t114.length : Int) := of_decide_eq_true (by first | (with_reducible assumption) | assumption)
                                obtain ⟨ad123, e123, hx123_0, hx123_1, hx123_2⟩ := at_T35 (Kd.R_reads' HO_7.out).2.2 x11_2 p123 q123
                                obtain rfl : ad119 = ad123 := (by injection e123)
                                replace p123 := eq_true p123
                                replace q123 := eq_true q123
                                go_wp2
                                repeat (go_quiet (fail); try go_wp2)
                                go_meet
                                case rel => exact ⟨_, ((((rd_T35 t114 x11_2).f2) != x10_2)), (by first | rfl | (simp; done) | (simp [*]; done)), H', ⟨by have := HJ10.out; have := HK2.out; first | omega | exact Nat.le_refl _⟩, ⟨by (with_reducible repeat (first | apply Kd.R_alloc | apply Kd.R_drewN | apply Kd.R_drew)); exact HO_4.out⟩, ⟨by (with_reducible repeat (first | apply Kd.R_alloc | apply Kd.R_drewN | apply Kd.R_drew)); exact HO_7.out⟩, ⟨by repeat (first | (with_reducible first | exact HB.out | apply below_alloc | apply pw_below_drewN | apply below_drew1) | exact HB.out)⟩⟩
                              · rw [if_neg c31] at H
                                have c31b0 : (((rd_T35 t114 x11_2).f1).toList == ((rd_T35 t105 x11_2).f1).toList) = false := beq_eq_false_iff_ne.mpr c31
                                have c31b1 : (((rd_T35 t114 x11_2).f1).toList != ((rd_T35 t105 x11_2).f1).toList) = true := bne_iff_ne.mpr c31
                                have H' := Aside0.mk H
                                clear H
                                have p119 : 0 ≤ (x11_2 : Int) := of_decide_eq_true (by first | (with_reducible assumption) | assumption)
                                have q119 : x11_2 < (t114.length : Int) := of_decide_eq_true (by first | (with_reducible assumption) | assumption)
                                obtain ⟨ad119, e119, hx119_0, hx119_1, hx119_2⟩ := at_T35 (Kd.R_reads' HO_7.out).2.2 x11_2 p119 q119
                                cases e119
                                replace p119 := eq_true p119
                                replace q119 := eq_true q119
                                have p120 : 0 ≤ (x11_2 : Int) := of_decide_eq_true (by first | (with_reducible assumption) | assumption)
                                have q120 : x11_2 < (t105.length : Int) := of_decide_eq_true (by first | (with_reducible assumption) | assumption)
                                obtain ⟨ad120, e120, hx120_0, hx120_1, hx120_2⟩ := at_T35 (Kd.R_reads' HO_4.out).2.2 x11_2 p120 q120
                                cases e120
                                replace p120 := eq_true p120
                                replace q120 := eq_true q120
                                have p121 : 0 ≤ (x11_2 : Int) := of_decide_eq_true (by first | (with_reducible assumption) | assumption)
                                have q121 : x11_2 < (t114.length : Int) := of_decide_eq_true (by first | (with_reducible assumption) | assumption)
                                obtain ⟨ad121, e121, hx121_0, hx121_1, hx121_2⟩ := at_T35 (Kd.R_reads' HO_7.out).2.2 x11_2 p121 q121
                                obtain rfl : ad119 = ad121 := (by injection e121)
                                replace p121 := eq_true p121
                                replace q121 := eq_true q121
                                have p122 : 0 ≤ (x11_2 : Int) := of_decide_eq_true (by first | (with_reducible assumption) | assumption)
                                have q122 : x11_2 < (t105.length : Int) := of_decide_eq_true (by first | (with_reducible assumption) | assumption)
                                obtain ⟨ad122, e122, hx122_0, hx122_1, hx122_2⟩ := at_T35 (Kd.R_reads' HO_4.out).2.2 x11_2 p122 q122
                                obtain rfl : ad120 = ad122 := (by injection e122)
                                replace p122 := eq_true p122
                                replace q122 := eq_true q122
                                go_wp2
                                repeat (go_quiet (fail); try go_wp2)
                                go_meet
                                case rel => exact ⟨_, (true), (by first | rfl | (simp; done) | (simp [*]; done)), H', ⟨by have := HJ10.out; have := HK2.out; first | omega | exact Nat.le_refl _⟩, ⟨by (with_reducible repeat (first | apply Kd.R_alloc | apply Kd.R_drewN | apply Kd.R_drew)); exact HO_4.out⟩, ⟨by (with_reducible repeat (first | apply Kd.R_alloc | apply Kd.R_drewN | apply Kd.R_drew)); exact HO_7.out⟩, ⟨by repeat (first | (with_reducible first | exact HB.out | apply below_alloc | apply pw_below_drewN | apply below_drew1) | exact HB.out)⟩⟩
                            · rw [if_neg c30] at H
                              have c30b0 : (((rd_T35 t114 x11_2).f0) == ((rd_T35 t105 x11_2).f0)) = false := beq_eq_false_iff_ne.mpr c30
                              have c30b1 : (((rd_T35 t114 x11_2).f0) != ((rd_T35 t105 x11_2).f0)) = true := bne_iff_ne.mpr c30
                              have H' := Aside0.mk H
                              clear H
                              have p119 : 0 ≤ (x11_2 : Int) := of_decide_eq_true (by first | (with_reducible assumption) | assumption)
                              have q119 : x11_2 < (t114.length : Int) := of_decide_eq_true (by first | (with_reducible assumption) | assumption)
                              obtain ⟨ad119, e119, hx119_0, hx119_1, hx119_2⟩ := at_T35 (Kd.R_reads' HO_7.out).2.2 x11_2 p119 q119
                              cases e119
                              replace p119 := eq_true p119
                              replace q119 := eq_true q119
                              have p120 : 0 ≤ (x11_2 : Int) := of_decide_eq_true (by first | (with_reducible assumption) | assumption)
                              have q120 : x11_2 < (t105.length : Int) := of_decide_eq_true (by first | (with_reducible assumption) | assumption)
                              obtain ⟨ad120, e120, hx120_0, hx120_1, hx120_2⟩ := at_T35 (Kd.R_reads' HO_4.out).2.2 x11_2 p120 q120
                              cases e120
                              replace p120 := eq_true p120
                              replace q120 := eq_true q120
                              go_wp2
                              repeat (go_quiet (fail); try go_wp2)
                              go_meet
                              case rel => exact ⟨_, (true), (by first | rfl | (simp; done) | (simp [*]; done)), H', ⟨by have := HJ10.out; have := HK2.out; first | omega | exact Nat.le_refl _⟩, ⟨by (with_reducible repeat (first | apply Kd.R_alloc | apply Kd.R_drewN | apply Kd.R_drew)); exact HO_4.out⟩, ⟨by (with_reducible repeat (first | apply Kd.R_alloc | apply Kd.R_drewN | apply Kd.R_drew)); exact HO_7.out⟩, ⟨by repeat (first | (with_reducible first | exact HB.out | apply below_alloc | apply pw_below_drewN | apply below_drew1) | exact HB.out)⟩⟩
                          · rw [if_neg c29] at H
                            exact absurd H (by simp)
                        · rw [if_neg c28] at H
                          exact absurd H (by simp)
                      case rest =>
                        clear HC26
                        try clear p1
                        try clear q1
                        try clear hx1
                        try clear c2
                        try clear p2
                        try clear c3
                        try clear c4
                        try clear c4b0
                        try clear c4b1
                        try clear c5
                        try clear c5b0
                        try clear c5b1
                        try clear c7
                        try clear c7b0
                        try clear c7b1
                        try clear c9
                        try clear c9b0
                        try clear c9b1
                        try clear c9b2
                        try clear p11
                        try clear q11
                        try clear hx11
                        try clear p12
                        try clear q12
                        try clear hx12
                        try clear c20
                        try clear c20b0
                        try clear c20b1
                        try clear c21
                        try clear c21b0
                        try clear c21b1
                        try clear c22
                        try clear c22b0
                        try clear c22b1
                        try clear c24
                        try clear c25
                        try clear c25b0
                        try clear c28
                        try clear c28b0
                        try clear c29
                        try clear c29b0
                        try clear c30
                        try clear c30b0
                        try clear c30b1
                        try clear c31
                        try clear c31b0
                        try clear c31b1
                        try clear hx119_0
                        try clear hx119_1
                        try clear hx119_2
                        try clear hx120_0
                        try clear hx120_1
                        try clear hx120_2
                        try clear hx121_0
                        try clear hx121_1
                        try clear hx121_2
                        try clear hx122_0
                        try clear hx122_1
                        try clear hx122_2
                        try clear hx123_0
                        try clear hx123_1
                        try clear hx123_2
                        try clear p119
                        try clear p120
                        try clear p121
                        try clear p122
                        try clear p123
                        try clear p2
                        try clear q119
                        try clear q120
                        try clear q121
                        try clear q122
                        try clear q123
                        obtain ⟨kq, x103_25, rfl, HA, HJ25, HO_4, HO_7, HB⟩ := hcut
                        cases kq with
                        | zero => exact absurd HA.out (by simp [millwrightlaw02_LexAgain.j2])
                        | succ kj25 =>
                          have H := HA.out
                          clear HA
                          simp only [millwrightlaw02_LexAgain.j2] at H
                          by_cases c32 : x103_25 = true
                          · subst c32
                            have H1 : (some false) = some r := by rw [if_pos rfl] at H; exact H
                            clear H
                            have H := H1
                            clear H1
                            obtain rfl := Option.some.inj H
                            go_wp2
                            repeat (go_quiet (fail); try go_wp2)
                            go_ret
                            exact ⟨by first | rfl | (simp [errW_none, errW_some] <;> rfl) | (simp only [← hji3]; first | rfl | (simp [errW_none, errW_some] <;> rfl)) | (simp [*, errW_none, errW_some] <;> rfl), by repeat (first | (with_reducible first | exact HB.out | apply below_alloc | apply pw_below_drewN | apply below_drew1) | exact HB.out)⟩
                          · replace c32 := Bool.eq_false_iff.mpr c32
                            subst c32
                            have H1 : (if 0 ≤ x11_2 then (if x11_2 < (t114.length : Int) then (if ((rd_T35 t114 x11_2).f0) = 3 then (millwrightlaw02_LexAgain.l0 kj25 t103 t105 t114 (wrap64 (x10_2 + 1)) (wrap64 (x11_2 + 1))) else (millwrightlaw02_LexAgain.l0 kj25 t103 t105 t114 x10_2 (wrap64 (x11_2 + 1)))) else (none)) else (none)) = some r := by rw [if_neg (show ¬ (false = true) by decide)] at H; exact H
                            clear H
                            have H := H1
                            clear H1
                            by_cases c33 : 0 ≤ x11_2
                            · rw [if_pos c33] at H
                              have c33b0 : decide (0 ≤ x11_2) = true := decide_eq_true c33
                              clear c33
                              by_cases c34 : x11_2 < (t114.length : Int)
                              · rw [if_pos c34] at H
                                have c34b0 : decide (x11_2 < (t114.length : Int)) = true := decide_eq_true c34
                                clear c34
                                by_cases c35 : ((rd_T35 t114 x11_2).f0) = 3
                                · rw [if_pos c35] at H
                                  have c35b0 : (((rd_T35 t114 x11_2).f0) == 3) = true := beq_iff_eq.mpr c35
                                  have c35b1 : (((rd_T35 t114 x11_2).f0) != 3) = false := bne_eq_false_iff_eq.mpr c35
                                  clear c35
                                  have H' := Aside0.mk H
                                  clear H
                                  have p124 : 0 ≤ (x11_2 : Int) := of_decide_eq_true (by first | (with_reducible assumption) | assumption)
                                  have q124 : x11_2 < (t114.length : Int) := of_decide_eq_true (by first | (with_reducible assumption) | assumption)
                                  obtain ⟨ad124, e124, hx124_0, hx124_1, hx124_2⟩ := at_T35 (Kd.R_reads' HO_7.out).2.2 x11_2 p124 q124
                                  cases e124
                                  replace p124 := eq_true p124
                                  replace q124 := eq_true q124
                                  go_wp2
                                  repeat (go_quiet (fail); try go_wp2)
                                  go_roundg kj25
                                  case measure => have := HJ10.out; have := HK2.out; have := HJ25.out; omega
                                  case rel => exact ⟨(wrap64 (x10_2 + 1)), (wrap64 (x11_2 + 1)), (by first | rfl | (simp; done) | (simp [*]; done)), (by first | rfl | (simp; done) | (simp [*]; done)), H', ⟨by have := HJ10.out; have := HK2.out; have := HJ25.out; omega⟩, ⟨by (with_reducible repeat (first | apply Kd.R_alloc | apply Kd.R_drewN | apply Kd.R_drew)); exact HO_4.out⟩, ⟨by (with_reducible repeat (first | apply Kd.R_alloc | apply Kd.R_drewN | apply Kd.R_drew)); exact HO_7.out⟩, ⟨by repeat (first | (with_reducible first | exact HB.out | apply below_alloc | apply pw_below_drewN | apply below_drew1) | exact HB.out)⟩⟩
                                · rw [if_neg c35] at H
                                  have c35b0 : (((rd_T35 t114 x11_2).f0) == 3) = false := beq_eq_false_iff_ne.mpr c35
                                  have c35b1 : (((rd_T35 t114 x11_2).f0) != 3) = true := bne_iff_ne.mpr c35
                                  have H' := Aside0.mk H
                                  clear H
                                  have p124 : 0 ≤ (x11_2 : Int) := of_decide_eq_true (by first | (with_reducible assumption) | assumption)
                                  have q124 : x11_2 < (t114.length : Int) := of_decide_eq_true (by first | (with_reducible assumption) | assumption)
                                  obtain ⟨ad124, e124, hx124_0, hx124_1, hx124_2⟩ := at_T35 (Kd.R_reads' HO_7.out).2.2 x11_2 p124 q124
                                  cases e124
                                  replace p124 := eq_true p124
                                  replace q124 := eq_true q124
                                  go_wp2
                                  repeat (go_quiet (fail); try go_wp2)
                                  go_roundg kj25
                                  case measure => have := HJ10.out; have := HK2.out; have := HJ25.out; omega
                                  case rel => exact ⟨(x10_2), (wrap64 (x11_2 + 1)), (by first | rfl | (simp; done) | (simp [*]; done)), (by first | rfl | (simp; done) | (simp [*]; done)), H', ⟨by have := HJ10.out; have := HK2.out; have := HJ25.out; omega⟩, ⟨by (with_reducible repeat (first | apply Kd.R_alloc | apply Kd.R_drewN | apply Kd.R_drew)); exact HO_4.out⟩, ⟨by (with_reducible repeat (first | apply Kd.R_alloc | apply Kd.R_drewN | apply Kd.R_drew)); exact HO_7.out⟩, ⟨by repeat (first | (with_reducible first | exact HB.out | apply below_alloc | apply pw_below_drewN | apply below_drew1) | exact HB.out)⟩⟩
                              · rw [if_neg c34] at H
                                exact absurd H (by simp)
                            · rw [if_neg c33] at H
                              exact absurd H (by simp)
                    · rw [if_neg c25] at H
                      have c25b0 : decide (x11_2 < (t114.length : Int)) = false := decide_eq_false c25
                      clear c25
                      obtain rfl := Option.some.inj H
                      obtain ⟨Ao36, co36, eo36⟩ := Kd.R_slice HO_7.out
                      subst eo36
                      go_wp2
                      repeat (go_quiet (fail); try go_wp2)
                      go_ret
                      exact ⟨by first | rfl | (simp [errW_none, errW_some] <;> rfl) | (simp only [← hji3]; first | rfl | (simp [errW_none, errW_some] <;> rfl)) | (simp [*, errW_none, errW_some] <;> rfl), by repeat (first | (with_reducible first | exact HB.out | apply below_alloc | apply pw_below_drewN | apply below_drew1) | exact HB.out)⟩
        · rw [if_neg c9] at H
          exact absurd H (by simp)
      · rw [if_neg c7] at H
        have c7b0 : (t107 == 0) = false := beq_eq_false_iff_ne.mpr c7
        have c7b1 : (t107 != 0) = true := bne_iff_ne.mpr c7
        by_cases c37 : t103 = true
        · subst c37
          have H1 : (if t107 = 2 then (if t106 ≥ 1 then (some ((t105.length : Int) == 0)) else (some false)) else (some false)) = some r := by rw [if_pos rfl] at H; exact H
          clear H
          have H := H1
          clear H1
          by_cases c38 : t107 = 2
          · rw [if_pos c38] at H
            have c38b0 : (t107 == 2) = true := beq_iff_eq.mpr c38
            have c38b1 : (t107 != 2) = false := bne_eq_false_iff_eq.mpr c38
            clear c38
            by_cases c39 : t106 ≥ 1
            · rw [if_pos c39] at H
              have c39b0 : decide (1 ≤ t106) = true := decide_eq_true c39
              clear c39
              obtain rfl := Option.some.inj H
              go_enter Try.func4, Try.ntmps4
              go_wp2_with (first | (go_at_call 10; (with_reducible refine (millwrightlaw02_shown.calls  true _ A2.out).mono ?_); rintro e w40 ⟨rfl, hb⟩; have n0_ := Aside0.mk (below_step (by repeat (first | (with_reducible first | exact HB.out | apply below_alloc | apply pw_below_drewN | apply below_drew1) | exact HB.out)) hb); clear HB; have HB := n0_; clear n0_; (try clear hb); (try clear hb2); (try clear hk); (try clear hi); obtain ⟨i041, hi041, _, hsz41, _⟩ := info_parts info5; obtain ⟨hcut41, hA41, hC41⟩ := print_take_of (P := Try.prog) (Value.int .u8) 0 22 5 .i64 Try.underlying22 hi041 hsz41 A0 c0 l0 (ji3) (of_decide_eq_true (by first | (with_reducible assumption) | assumption)) (of_decide_eq_true (by first | (with_reducible assumption) | assumption)) HC0.out; rw [← Htk3_l0.out] at hcut41 hA41 hC41; have HR104 := Aside0.mk (Kd.C_of_reads (h1 := fun _ => rfl) (hA41 _ (Kd.reads_of_C HR0.out))); have HC104 := Aside0.mk hC41; clear hA41 hC41 hi041 hsz41) | (go_at_call 11; (with_reducible refine (lex_Lex.calls _ _ tk3_l0 t105 t106 t107 _ ?side1 ?side2 A6.out).mono ?_); (case side1 => repeat (first | exact (Kd.C_below HR104.out HB.out) | (with_reducible refine Kd.C_alloc ?_ _) | (with_reducible refine Kd.C_drewN ?_ _) | (with_reducible refine Kd.C_drew ?_))); (case side2 => exact HC104.out); rintro e w42 ⟨v108, rfl, ho0, hb⟩; have n0_ := Aside0.mk (Kd.R_lower ho0 (below_size (by repeat (first | (with_reducible first | exact HB.out | apply below_alloc | apply pw_below_drewN | apply below_drew1) | exact HB.out)))); have n1_ := Aside0.mk (below_step (by repeat (first | (with_reducible first | exact HB.out | apply below_alloc | apply pw_below_drewN | apply below_drew1) | exact HB.out)) hb); clear HB; have HO109 := n0_; have HB := n1_; clear n0_ n1_; (try clear hb); (try clear hb2); (try clear hk); (try clear hi); (try clear ho0); obtain ⟨Ao43, co43, eo43⟩ := Kd.R_slice HO109.out; subst eo43))
              repeat (go_quiet (first | (go_at_call 10; (with_reducible refine (millwrightlaw02_shown.calls  true _ A2.out).mono ?_); rintro e w40 ⟨rfl, hb⟩; have n0_ := Aside0.mk (below_step (by repeat (first | (with_reducible first | exact HB.out | apply below_alloc | apply pw_below_drewN | apply below_drew1) | exact HB.out)) hb); clear HB; have HB := n0_; clear n0_; (try clear hb); (try clear hb2); (try clear hk); (try clear hi); obtain ⟨i041, hi041, _, hsz41, _⟩ := info_parts info5; obtain ⟨hcut41, hA41, hC41⟩ := print_take_of (P := Try.prog) (Value.int .u8) 0 22 5 .i64 Try.underlying22 hi041 hsz41 A0 c0 l0 (ji3) (of_decide_eq_true (by first | (with_reducible assumption) | assumption)) (of_decide_eq_true (by first | (with_reducible assumption) | assumption)) HC0.out; rw [← Htk3_l0.out] at hcut41 hA41 hC41; have HR104 := Aside0.mk (Kd.C_of_reads (h1 := fun _ => rfl) (hA41 _ (Kd.reads_of_C HR0.out))); have HC104 := Aside0.mk hC41; clear hA41 hC41 hi041 hsz41) | (go_at_call 11; (with_reducible refine (lex_Lex.calls _ _ tk3_l0 t105 t106 t107 _ ?side1 ?side2 A6.out).mono ?_); (case side1 => repeat (first | exact (Kd.C_below HR104.out HB.out) | (with_reducible refine Kd.C_alloc ?_ _) | (with_reducible refine Kd.C_drewN ?_ _) | (with_reducible refine Kd.C_drew ?_))); (case side2 => exact HC104.out); rintro e w42 ⟨v108, rfl, ho0, hb⟩; have n0_ := Aside0.mk (Kd.R_lower ho0 (below_size (by repeat (first | (with_reducible first | exact HB.out | apply below_alloc | apply pw_below_drewN | apply below_drew1) | exact HB.out)))); have n1_ := Aside0.mk (below_step (by repeat (first | (with_reducible first | exact HB.out | apply below_alloc | apply pw_below_drewN | apply below_drew1) | exact HB.out)) hb); clear HB; have HO109 := n0_; have HB := n1_; clear n0_ n1_; (try clear hb); (try clear hb2); (try clear hk); (try clear hi); (try clear ho0); obtain ⟨Ao43, co43, eo43⟩ := Kd.R_slice HO109.out; subst eo43)); try go_wp2_with (first | (go_at_call 10; (with_reducible refine (millwrightlaw02_shown.calls  true _ A2.out).mono ?_); rintro e w40 ⟨rfl, hb⟩; have n0_ := Aside0.mk (below_step (by repeat (first | (with_reducible first | exact HB.out | apply below_alloc | apply pw_below_drewN | apply below_drew1) | exact HB.out)) hb); clear HB; have HB := n0_; clear n0_; (try clear hb); (try clear hb2); (try clear hk); (try clear hi); obtain ⟨i041, hi041, _, hsz41, _⟩ := info_parts info5; obtain ⟨hcut41, hA41, hC41⟩ := print_take_of (P := Try.prog) (Value.int .u8) 0 22 5 .i64 Try.underlying22 hi041 hsz41 A0 c0 l0 (ji3) (of_decide_eq_true (by first | (with_reducible assumption) | assumption)) (of_decide_eq_true (by first | (with_reducible assumption) | assumption)) HC0.out; rw [← Htk3_l0.out] at hcut41 hA41 hC41; have HR104 := Aside0.mk (Kd.C_of_reads (h1 := fun _ => rfl) (hA41 _ (Kd.reads_of_C HR0.out))); have HC104 := Aside0.mk hC41; clear hA41 hC41 hi041 hsz41) | (go_at_call 11; (with_reducible refine (lex_Lex.calls _ _ tk3_l0 t105 t106 t107 _ ?side1 ?side2 A6.out).mono ?_); (case side1 => repeat (first | exact (Kd.C_below HR104.out HB.out) | (with_reducible refine Kd.C_alloc ?_ _) | (with_reducible refine Kd.C_drewN ?_ _) | (with_reducible refine Kd.C_drew ?_))); (case side2 => exact HC104.out); rintro e w42 ⟨v108, rfl, ho0, hb⟩; have n0_ := Aside0.mk (Kd.R_lower ho0 (below_size (by repeat (first | (with_reducible first | exact HB.out | apply below_alloc | apply pw_below_drewN | apply below_drew1) | exact HB.out)))); have n1_ := Aside0.mk (below_step (by repeat (first | (with_reducible first | exact HB.out | apply below_alloc | apply pw_below_drewN | apply below_drew1) | exact HB.out)) hb); clear HB; have HO109 := n0_; have HB := n1_; clear n0_ n1_; (try clear hb); (try clear hb2); (try clear hk); (try clear hi); (try clear ho0); obtain ⟨Ao43, co43, eo43⟩ := Kd.R_slice HO109.out; subst eo43)))
              go_ret
              exact ⟨by first | rfl | (simp [errW_none, errW_some] <;> rfl) | (simp only [← hji3]; first | rfl | (simp [errW_none, errW_some] <;> rfl)) | (simp [*, errW_none, errW_some] <;> rfl), by repeat (first | (with_reducible first | exact HB.out | apply below_alloc | apply pw_below_drewN | apply below_drew1) | exact HB.out)⟩
            · rw [if_neg c39] at H
              have c39b0 : decide (1 ≤ t106) = false := decide_eq_false c39
              clear c39
              obtain rfl := Option.some.inj H
              go_enter Try.func4, Try.ntmps4
              go_wp2_with (first | (go_at_call 10; (with_reducible refine (millwrightlaw02_shown.calls  true _ A2.out).mono ?_); rintro e w44 ⟨rfl, hb⟩; have n0_ := Aside0.mk (below_step (by repeat (first | (with_reducible first | exact HB.out | apply below_alloc | apply pw_below_drewN | apply below_drew1) | exact HB.out)) hb); clear HB; have HB := n0_; clear n0_; (try clear hb); (try clear hb2); (try clear hk); (try clear hi); obtain ⟨i045, hi045, _, hsz45, _⟩ := info_parts info5; obtain ⟨hcut45, hA45, hC45⟩ := print_take_of (P := Try.prog) (Value.int .u8) 0 22 5 .i64 Try.underlying22 hi045 hsz45 A0 c0 l0 (ji3) (of_decide_eq_true (by first | (with_reducible assumption) | assumption)) (of_decide_eq_true (by first | (with_reducible assumption) | assumption)) HC0.out; rw [← Htk3_l0.out] at hcut45 hA45 hC45; have HR104 := Aside0.mk (Kd.C_of_reads (h1 := fun _ => rfl) (hA45 _ (Kd.reads_of_C HR0.out))); have HC104 := Aside0.mk hC45; clear hA45 hC45 hi045 hsz45) | (go_at_call 11; (with_reducible refine (lex_Lex.calls _ _ tk3_l0 t105 t106 t107 _ ?side1 ?side2 A6.out).mono ?_); (case side1 => repeat (first | exact (Kd.C_below HR104.out HB.out) | (with_reducible refine Kd.C_alloc ?_ _) | (with_reducible refine Kd.C_drewN ?_ _) | (with_reducible refine Kd.C_drew ?_))); (case side2 => exact HC104.out); rintro e w46 ⟨v108, rfl, ho0, hb⟩; have n0_ := Aside0.mk (Kd.R_lower ho0 (below_size (by repeat (first | (with_reducible first | exact HB.out | apply below_alloc | apply pw_below_drewN | apply below_drew1) | exact HB.out)))); have n1_ := Aside0.mk (below_step (by repeat (first | (with_reducible first | exact HB.out | apply below_alloc | apply pw_below_drewN | apply below_drew1) | exact HB.out)) hb); clear HB; have HO109 := n0_; have HB := n1_; clear n0_ n1_; (try clear hb); (try clear hb2); (try clear hk); (try clear hi); (try clear ho0)))
              repeat (go_quiet (first | (go_at_call 10; (with_reducible refine (millwrightlaw02_shown.calls  true _ A2.out).mono ?_); rintro e w44 ⟨rfl, hb⟩; have n0_ := Aside0.mk (below_step (by repeat (first | (with_reducible first | exact HB.out | apply below_alloc | apply pw_below_drewN | apply below_drew1) | exact HB.out)) hb); clear HB; have HB := n0_; clear n0_; (try clear hb); (try clear hb2); (try clear hk); (try clear hi); obtain ⟨i045, hi045, _, hsz45, _⟩ := info_parts info5; obtain ⟨hcut45, hA45, hC45⟩ := print_take_of (P := Try.prog) (Value.int .u8) 0 22 5 .i64 Try.underlying22 hi045 hsz45 A0 c0 l0 (ji3) (of_decide_eq_true (by first | (with_reducible assumption) | assumption)) (of_decide_eq_true (by first | (with_reducible assumption) | assumption)) HC0.out; rw [← Htk3_l0.out] at hcut45 hA45 hC45; have HR104 := Aside0.mk (Kd.C_of_reads (h1 := fun _ => rfl) (hA45 _ (Kd.reads_of_C HR0.out))); have HC104 := Aside0.mk hC45; clear hA45 hC45 hi045 hsz45) | (go_at_call 11; (with_reducible refine (lex_Lex.calls _ _ tk3_l0 t105 t106 t107 _ ?side1 ?side2 A6.out).mono ?_); (case side1 => repeat (first | exact (Kd.C_below HR104.out HB.out) | (with_reducible refine Kd.C_alloc ?_ _) | (with_reducible refine Kd.C_drewN ?_ _) | (with_reducible refine Kd.C_drew ?_))); (case side2 => exact HC104.out); rintro e w46 ⟨v108, rfl, ho0, hb⟩; have n0_ := Aside0.mk (Kd.R_lower ho0 (below_size (by repeat (first | (with_reducible first | exact HB.out | apply below_alloc | apply pw_below_drewN | apply below_drew1) | exact HB.out)))); have n1_ := Aside0.mk (below_step (by repeat (first | (with_reducible first | exact HB.out | apply below_alloc | apply pw_below_drewN | apply below_drew1) | exact HB.out)) hb); clear HB; have HO109 := n0_; have HB := n1_; clear n0_ n1_; (try clear hb); (try clear hb2); (try clear hk); (try clear hi); (try clear ho0))); try go_wp2_with (first | (go_at_call 10; (with_reducible refine (millwrightlaw02_shown.calls  true _ A2.out).mono ?_); rintro e w44 ⟨rfl, hb⟩; have n0_ := Aside0.mk (below_step (by repeat (first | (with_reducible first | exact HB.out | apply below_alloc | apply pw_below_drewN | apply below_drew1) | exact HB.out)) hb); clear HB; have HB := n0_; clear n0_; (try clear hb); (try clear hb2); (try clear hk); (try clear hi); obtain ⟨i045, hi045, _, hsz45, _⟩ := info_parts info5; obtain ⟨hcut45, hA45, hC45⟩ := print_take_of (P := Try.prog) (Value.int .u8) 0 22 5 .i64 Try.underlying22 hi045 hsz45 A0 c0 l0 (ji3) (of_decide_eq_true (by first | (with_reducible assumption) | assumption)) (of_decide_eq_true (by first | (with_reducible assumption) | assumption)) HC0.out; rw [← Htk3_l0.out] at hcut45 hA45 hC45; have HR104 := Aside0.mk (Kd.C_of_reads (h1 := fun _ => rfl) (hA45 _ (Kd.reads_of_C HR0.out))); have HC104 := Aside0.mk hC45; clear hA45 hC45 hi045 hsz45) | (go_at_call 11; (with_reducible refine (lex_Lex.calls _ _ tk3_l0 t105 t106 t107 _ ?side1 ?side2 A6.out).mono ?_); (case side1 => repeat (first | exact (Kd.C_below HR104.out HB.out) | (with_reducible refine Kd.C_alloc ?_ _) | (with_reducible refine Kd.C_drewN ?_ _) | (with_reducible refine Kd.C_drew ?_))); (case side2 => exact HC104.out); rintro e w46 ⟨v108, rfl, ho0, hb⟩; have n0_ := Aside0.mk (Kd.R_lower ho0 (below_size (by repeat (first | (with_reducible first | exact HB.out | apply below_alloc | apply pw_below_drewN | apply below_drew1) | exact HB.out)))); have n1_ := Aside0.mk (below_step (by repeat (first | (with_reducible first | exact HB.out | apply below_alloc | apply pw_below_drewN | apply below_drew1) | exact HB.out)) hb); clear HB; have HO109 := n0_; have HB := n1_; clear n0_ n1_; (try clear hb); (try clear hb2); (try clear hk); (try clear hi); (try clear ho0))))
              go_ret
              exact ⟨by first | rfl | (simp [errW_none, errW_some] <;> rfl) | (simp only [← hji3]; first | rfl | (simp [errW_none, errW_some] <;> rfl)) | (simp [*, errW_none, errW_some] <;> rfl), by repeat (first | (with_reducible first | exact HB.out | apply below_alloc | apply pw_below_drewN | apply below_drew1) | exact HB.out)⟩
          · rw [if_neg c38] at H
            have c38b0 : (t107 == 2) = false := beq_eq_false_iff_ne.mpr c38
            have c38b1 : (t107 != 2) = true := bne_iff_ne.mpr c38
            obtain rfl := Option.some.inj H
            go_enter Try.func4, Try.ntmps4
            go_wp2_with (first | (go_at_call 10; (with_reducible refine (millwrightlaw02_shown.calls  true _ A2.out).mono ?_); rintro e w47 ⟨rfl, hb⟩; have n0_ := Aside0.mk (below_step (by repeat (first | (with_reducible first | exact HB.out | apply below_alloc | apply pw_below_drewN | apply below_drew1) | exact HB.out)) hb); clear HB; have HB := n0_; clear n0_; (try clear hb); (try clear hb2); (try clear hk); (try clear hi); obtain ⟨i048, hi048, _, hsz48, _⟩ := info_parts info5; obtain ⟨hcut48, hA48, hC48⟩ := print_take_of (P := Try.prog) (Value.int .u8) 0 22 5 .i64 Try.underlying22 hi048 hsz48 A0 c0 l0 (ji3) (of_decide_eq_true (by first | (with_reducible assumption) | assumption)) (of_decide_eq_true (by first | (with_reducible assumption) | assumption)) HC0.out; rw [← Htk3_l0.out] at hcut48 hA48 hC48; have HR104 := Aside0.mk (Kd.C_of_reads (h1 := fun _ => rfl) (hA48 _ (Kd.reads_of_C HR0.out))); have HC104 := Aside0.mk hC48; clear hA48 hC48 hi048 hsz48) | (go_at_call 11; (with_reducible refine (lex_Lex.calls _ _ tk3_l0 t105 t106 t107 _ ?side1 ?side2 A6.out).mono ?_); (case side1 => repeat (first | exact (Kd.C_below HR104.out HB.out) | (with_reducible refine Kd.C_alloc ?_ _) | (with_reducible refine Kd.C_drewN ?_ _) | (with_reducible refine Kd.C_drew ?_))); (case side2 => exact HC104.out); rintro e w49 ⟨v108, rfl, ho0, hb⟩; have n0_ := Aside0.mk (Kd.R_lower ho0 (below_size (by repeat (first | (with_reducible first | exact HB.out | apply below_alloc | apply pw_below_drewN | apply below_drew1) | exact HB.out)))); have n1_ := Aside0.mk (below_step (by repeat (first | (with_reducible first | exact HB.out | apply below_alloc | apply pw_below_drewN | apply below_drew1) | exact HB.out)) hb); clear HB; have HO109 := n0_; have HB := n1_; clear n0_ n1_; (try clear hb); (try clear hb2); (try clear hk); (try clear hi); (try clear ho0)))
            repeat (go_quiet (first | (go_at_call 10; (with_reducible refine (millwrightlaw02_shown.calls  true _ A2.out).mono ?_); rintro e w47 ⟨rfl, hb⟩; have n0_ := Aside0.mk (below_step (by repeat (first | (with_reducible first | exact HB.out | apply below_alloc | apply pw_below_drewN | apply below_drew1) | exact HB.out)) hb); clear HB; have HB := n0_; clear n0_; (try clear hb); (try clear hb2); (try clear hk); (try clear hi); obtain ⟨i048, hi048, _, hsz48, _⟩ := info_parts info5; obtain ⟨hcut48, hA48, hC48⟩ := print_take_of (P := Try.prog) (Value.int .u8) 0 22 5 .i64 Try.underlying22 hi048 hsz48 A0 c0 l0 (ji3) (of_decide_eq_true (by first | (with_reducible assumption) | assumption)) (of_decide_eq_true (by first | (with_reducible assumption) | assumption)) HC0.out; rw [← Htk3_l0.out] at hcut48 hA48 hC48; have HR104 := Aside0.mk (Kd.C_of_reads (h1 := fun _ => rfl) (hA48 _ (Kd.reads_of_C HR0.out))); have HC104 := Aside0.mk hC48; clear hA48 hC48 hi048 hsz48) | (go_at_call 11; (with_reducible refine (lex_Lex.calls _ _ tk3_l0 t105 t106 t107 _ ?side1 ?side2 A6.out).mono ?_); (case side1 => repeat (first | exact (Kd.C_below HR104.out HB.out) | (with_reducible refine Kd.C_alloc ?_ _) | (with_reducible refine Kd.C_drewN ?_ _) | (with_reducible refine Kd.C_drew ?_))); (case side2 => exact HC104.out); rintro e w49 ⟨v108, rfl, ho0, hb⟩; have n0_ := Aside0.mk (Kd.R_lower ho0 (below_size (by repeat (first | (with_reducible first | exact HB.out | apply below_alloc | apply pw_below_drewN | apply below_drew1) | exact HB.out)))); have n1_ := Aside0.mk (below_step (by repeat (first | (with_reducible first | exact HB.out | apply below_alloc | apply pw_below_drewN | apply below_drew1) | exact HB.out)) hb); clear HB; have HO109 := n0_; have HB := n1_; clear n0_ n1_; (try clear hb); (try clear hb2); (try clear hk); (try clear hi); (try clear ho0))); try go_wp2_with (first | (go_at_call 10; (with_reducible refine (millwrightlaw02_shown.calls  true _ A2.out).mono ?_); rintro e w47 ⟨rfl, hb⟩; have n0_ := Aside0.mk (below_step (by repeat (first | (with_reducible first | exact HB.out | apply below_alloc | apply pw_below_drewN | apply below_drew1) | exact HB.out)) hb); clear HB; have HB := n0_; clear n0_; (try clear hb); (try clear hb2); (try clear hk); (try clear hi); obtain ⟨i048, hi048, _, hsz48, _⟩ := info_parts info5; obtain ⟨hcut48, hA48, hC48⟩ := print_take_of (P := Try.prog) (Value.int .u8) 0 22 5 .i64 Try.underlying22 hi048 hsz48 A0 c0 l0 (ji3) (of_decide_eq_true (by first | (with_reducible assumption) | assumption)) (of_decide_eq_true (by first | (with_reducible assumption) | assumption)) HC0.out; rw [← Htk3_l0.out] at hcut48 hA48 hC48; have HR104 := Aside0.mk (Kd.C_of_reads (h1 := fun _ => rfl) (hA48 _ (Kd.reads_of_C HR0.out))); have HC104 := Aside0.mk hC48; clear hA48 hC48 hi048 hsz48) | (go_at_call 11; (with_reducible refine (lex_Lex.calls _ _ tk3_l0 t105 t106 t107 _ ?side1 ?side2 A6.out).mono ?_); (case side1 => repeat (first | exact (Kd.C_below HR104.out HB.out) | (with_reducible refine Kd.C_alloc ?_ _) | (with_reducible refine Kd.C_drewN ?_ _) | (with_reducible refine Kd.C_drew ?_))); (case side2 => exact HC104.out); rintro e w49 ⟨v108, rfl, ho0, hb⟩; have n0_ := Aside0.mk (Kd.R_lower ho0 (below_size (by repeat (first | (with_reducible first | exact HB.out | apply below_alloc | apply pw_below_drewN | apply below_drew1) | exact HB.out)))); have n1_ := Aside0.mk (below_step (by repeat (first | (with_reducible first | exact HB.out | apply below_alloc | apply pw_below_drewN | apply below_drew1) | exact HB.out)) hb); clear HB; have HO109 := n0_; have HB := n1_; clear n0_ n1_; (try clear hb); (try clear hb2); (try clear hk); (try clear hi); (try clear ho0))))
            go_ret
            exact ⟨by first | rfl | (simp [errW_none, errW_some] <;> rfl) | (simp only [← hji3]; first | rfl | (simp [errW_none, errW_some] <;> rfl)) | (simp [*, errW_none, errW_some] <;> rfl), by repeat (first | (with_reducible first | exact HB.out | apply below_alloc | apply pw_below_drewN | apply below_drew1) | exact HB.out)⟩
        · replace c37 := Bool.eq_false_iff.mpr c37
          subst c37
          have H1 : (some false) = some r := by rw [if_neg (show ¬ (false = true) by decide)] at H; exact H
          clear H
          have H := H1
          clear H1
          obtain rfl := Option.some.inj H
          go_enter Try.func4, Try.ntmps4
          go_wp2_with (first | (go_at_call 10; (with_reducible refine (millwrightlaw02_shown.calls  false _ A2.out).mono ?_); rintro e w50 ⟨rfl, hb⟩; have n0_ := Aside0.mk (below_step (by repeat (first | (with_reducible first | exact HB.out | apply below_alloc | apply pw_below_drewN | apply below_drew1) | exact HB.out)) hb); clear HB; have HB := n0_; clear n0_; (try clear hb); (try clear hb2); (try clear hk); (try clear hi); obtain ⟨i051, hi051, _, hsz51, _⟩ := info_parts info5; obtain ⟨hcut51, hA51, hC51⟩ := print_take_of (P := Try.prog) (Value.int .u8) 0 22 5 .i64 Try.underlying22 hi051 hsz51 A0 c0 l0 (ji3) (of_decide_eq_true (by first | (with_reducible assumption) | assumption)) (of_decide_eq_true (by first | (with_reducible assumption) | assumption)) HC0.out; rw [← Htk3_l0.out] at hcut51 hA51 hC51; have HR104 := Aside0.mk (Kd.C_of_reads (h1 := fun _ => rfl) (hA51 _ (Kd.reads_of_C HR0.out))); have HC104 := Aside0.mk hC51; clear hA51 hC51 hi051 hsz51) | (go_at_call 11; (with_reducible refine (lex_Lex.calls _ _ tk3_l0 t105 t106 t107 _ ?side1 ?side2 A6.out).mono ?_); (case side1 => repeat (first | exact (Kd.C_below HR104.out HB.out) | (with_reducible refine Kd.C_alloc ?_ _) | (with_reducible refine Kd.C_drewN ?_ _) | (with_reducible refine Kd.C_drew ?_))); (case side2 => exact HC104.out); rintro e w52 ⟨v108, rfl, ho0, hb⟩; have n0_ := Aside0.mk (Kd.R_lower ho0 (below_size (by repeat (first | (with_reducible first | exact HB.out | apply below_alloc | apply pw_below_drewN | apply below_drew1) | exact HB.out)))); have n1_ := Aside0.mk (below_step (by repeat (first | (with_reducible first | exact HB.out | apply below_alloc | apply pw_below_drewN | apply below_drew1) | exact HB.out)) hb); clear HB; have HO109 := n0_; have HB := n1_; clear n0_ n1_; (try clear hb); (try clear hb2); (try clear hk); (try clear hi); (try clear ho0)))
          repeat (go_quiet (first | (go_at_call 10; (with_reducible refine (millwrightlaw02_shown.calls  false _ A2.out).mono ?_); rintro e w50 ⟨rfl, hb⟩; have n0_ := Aside0.mk (below_step (by repeat (first | (with_reducible first | exact HB.out | apply below_alloc | apply pw_below_drewN | apply below_drew1) | exact HB.out)) hb); clear HB; have HB := n0_; clear n0_; (try clear hb); (try clear hb2); (try clear hk); (try clear hi); obtain ⟨i051, hi051, _, hsz51, _⟩ := info_parts info5; obtain ⟨hcut51, hA51, hC51⟩ := print_take_of (P := Try.prog) (Value.int .u8) 0 22 5 .i64 Try.underlying22 hi051 hsz51 A0 c0 l0 (ji3) (of_decide_eq_true (by first | (with_reducible assumption) | assumption)) (of_decide_eq_true (by first | (with_reducible assumption) | assumption)) HC0.out; rw [← Htk3_l0.out] at hcut51 hA51 hC51; have HR104 := Aside0.mk (Kd.C_of_reads (h1 := fun _ => rfl) (hA51 _ (Kd.reads_of_C HR0.out))); have HC104 := Aside0.mk hC51; clear hA51 hC51 hi051 hsz51) | (go_at_call 11; (with_reducible refine (lex_Lex.calls _ _ tk3_l0 t105 t106 t107 _ ?side1 ?side2 A6.out).mono ?_); (case side1 => repeat (first | exact (Kd.C_below HR104.out HB.out) | (with_reducible refine Kd.C_alloc ?_ _) | (with_reducible refine Kd.C_drewN ?_ _) | (with_reducible refine Kd.C_drew ?_))); (case side2 => exact HC104.out); rintro e w52 ⟨v108, rfl, ho0, hb⟩; have n0_ := Aside0.mk (Kd.R_lower ho0 (below_size (by repeat (first | (with_reducible first | exact HB.out | apply below_alloc | apply pw_below_drewN | apply below_drew1) | exact HB.out)))); have n1_ := Aside0.mk (below_step (by repeat (first | (with_reducible first | exact HB.out | apply below_alloc | apply pw_below_drewN | apply below_drew1) | exact HB.out)) hb); clear HB; have HO109 := n0_; have HB := n1_; clear n0_ n1_; (try clear hb); (try clear hb2); (try clear hk); (try clear hi); (try clear ho0))); try go_wp2_with (first | (go_at_call 10; (with_reducible refine (millwrightlaw02_shown.calls  false _ A2.out).mono ?_); rintro e w50 ⟨rfl, hb⟩; have n0_ := Aside0.mk (below_step (by repeat (first | (with_reducible first | exact HB.out | apply below_alloc | apply pw_below_drewN | apply below_drew1) | exact HB.out)) hb); clear HB; have HB := n0_; clear n0_; (try clear hb); (try clear hb2); (try clear hk); (try clear hi); obtain ⟨i051, hi051, _, hsz51, _⟩ := info_parts info5; obtain ⟨hcut51, hA51, hC51⟩ := print_take_of (P := Try.prog) (Value.int .u8) 0 22 5 .i64 Try.underlying22 hi051 hsz51 A0 c0 l0 (ji3) (of_decide_eq_true (by first | (with_reducible assumption) | assumption)) (of_decide_eq_true (by first | (with_reducible assumption) | assumption)) HC0.out; rw [← Htk3_l0.out] at hcut51 hA51 hC51; have HR104 := Aside0.mk (Kd.C_of_reads (h1 := fun _ => rfl) (hA51 _ (Kd.reads_of_C HR0.out))); have HC104 := Aside0.mk hC51; clear hA51 hC51 hi051 hsz51) | (go_at_call 11; (with_reducible refine (lex_Lex.calls _ _ tk3_l0 t105 t106 t107 _ ?side1 ?side2 A6.out).mono ?_); (case side1 => repeat (first | exact (Kd.C_below HR104.out HB.out) | (with_reducible refine Kd.C_alloc ?_ _) | (with_reducible refine Kd.C_drewN ?_ _) | (with_reducible refine Kd.C_drew ?_))); (case side2 => exact HC104.out); rintro e w52 ⟨v108, rfl, ho0, hb⟩; have n0_ := Aside0.mk (Kd.R_lower ho0 (below_size (by repeat (first | (with_reducible first | exact HB.out | apply below_alloc | apply pw_below_drewN | apply below_drew1) | exact HB.out)))); have n1_ := Aside0.mk (below_step (by repeat (first | (with_reducible first | exact HB.out | apply below_alloc | apply pw_below_drewN | apply below_drew1) | exact HB.out)) hb); clear HB; have HO109 := n0_; have HB := n1_; clear n0_ n1_; (try clear hb); (try clear hb2); (try clear hk); (try clear hi); (try clear ho0))))
          go_ret
          exact ⟨by first | rfl | (simp [errW_none, errW_some] <;> rfl) | (simp only [← hji3]; first | rfl | (simp [errW_none, errW_some] <;> rfl)) | (simp [*, errW_none, errW_some] <;> rfl), by repeat (first | (with_reducible first | exact HB.out | apply below_alloc | apply pw_below_drewN | apply below_drew1) | exact HB.out)⟩
    · rw [if_neg c5] at H
      exact absurd H (by simp)
  · rw [if_neg c4] at H
    exact absurd H (by simp)

/-- THE ONE PURE STATEMENT of millwrightlaw02_LexAgain: yours. -/
def millwrightlaw02_LexAgain.Pure : Prop := ∀ (l0 : List Int), l0.length ≤ maxLen → l0.length * 1 ≤ 140737488351232 → (∀ x ∈ l0, (Lit.int .u8 x).wf = true) → ∃ k, millwrightlaw02_LexAgain.f k l0 = some true
theorem millwrightlaw02_LexAgain.walk (P : millwrightlaw02_LexAgain.Pure) (a0 : Option Addr) (len0 cap0 : Nat) (z0 : List Int) (w : World) (w0 : (a0 = none ∧ len0 = 0 ∧ cap0 = 0 ∧ z0 = []) ∨ ∃ x, a0 = some x ∧ len0 ≤ cap0 ∧ cap0 ≤ maxLen ∧ z0.length = cap0 ∧ (∀ i, i < z0.length → w.cell? (x.add i) = some (.int .u8 (z0.getD i 0))) ∧ ∀ n ∈ z0, (Lit.int .u8 n).wf = true) (y0 : len0 * 1 ≤ 140737488351232) :
    Calls Try.prog 4 #[.slice a0 len0 cap0] w fun e w' => e = .returned (.bool true) ∧ Below w.heap.size w w' := by
  obtain ⟨l0, rfl, hr0, hm0, hw0, hc0⟩ := ReadsInt.ofRowC w0
  obtain ⟨k, h⟩ := P l0 hm0 y0 hw0
  refine (millwrightlaw02_LexAgain.calls k _ _ l0 true w (Kd.C_of_reads (d := (0 : Int)) (h1 := fun _ => rfl) hr0) hc0 h).mono ?_
  rintro e w' ⟨rfl, hd⟩
  exact ⟨rfl, hd⟩

end Go.Proofs.Ytekedpnlodnmnaa.PLexAgain
