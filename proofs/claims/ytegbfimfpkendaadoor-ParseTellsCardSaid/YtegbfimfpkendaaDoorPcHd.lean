/- The walk of the reference's take: PcHd. No condition but lengths. -/
import Derived.Test.YtegbfimfpkendaaDoorPcHa
namespace Go.Proofs.YtegbfimfpkendaaDoor.PcHd
open Go.RowKit Go.Proofs.YtegbfimfpkendaaDoor.PParseTells Go.Proofs.YtegbfimfpkendaaDoorW.PrintWords Go.Proofs.YtegbfimfpkendaaDoorW.PrintLast Go.Proofs.YtegbfimfpkendaaDoorW.PrintMore LexS LexB PaA LexBox PaC PaD PaE PaF PaG PaL PcA PcB PcC PcD PcE PcF PcG PcHa
set_option linter.unusedVariables false
set_option linter.unusedSimpArgs false
set_option maxHeartbeats 4000000 in
set_option maxRecDepth 100000 in
theorem take_op (F : Nat) (st : FileS) (ts : List Tok) (A : Option Addr) (m c : Nat) (ahead : Int) (a0 : Bool) (w0 w : World) (ha : (ahead == 0) = a0) (hm : ts.length = m) (hC : k68.C w A ts.length (ts.map f48)) (hc : ts.length ≤ c) (hne : ts ≠ []) (hl : ts.length ≤ 100000 ∧ ∀ t ∈ ts, t.text.length ≤ 100000) (hF : FilAt w0 w F st) (hol : st.ops.length ≤ 4398046511104) (htl : st.tasks.length ≤ 4398046511104) (hsel : ∀ t0 r_, ts = t0 :: r_ → ¬ (strOfNums t0.text).toList = configB ∧ ¬ (strOfNums t0.text).toList = taskB) (r : Rt) (hr : takeR st a0 ts = r) :
    Calls Tryd.prog 23 #[.pointer (some ⟨F, 0, none⟩), .slice A m c, .int .i64 ahead] w (TPost w0 F st r) := by
  subst hm
  cases ts with
  | nil => exact absurd rfl hne
  | cons t0 rs =>
  clear hne
  have HSEL := Aside0.mk (hsel t0 rs rfl)
  clear hsel
  obtain ⟨cfg, tasks, ops⟩ := st
  obtain ⟨vT, vO, hV⟩ := hF.vals
  obtain ⟨AT, cT, rfl⟩ := Kd.R_slice hV.rT
  obtain ⟨AO, cO, rfl⟩ := Kd.R_slice hV.rO
  have HC := Aside0.mk hC
  have HCC := Aside0.mk hc
  have HL := Aside0.mk hl
  have HF := Aside0.mk hV
  have HOL := Aside0.mk hol
  have HTL := Aside0.mk htl
  have HR := Aside0.mk hr
  have HA := Aside0.mk ha
  obtain ⟨ad, ea, k0, k1, -⟩ := at_T68 hC 0 (by decide) (by simp)
  subst ea
  have e0 : rd_T68 ((t0 :: rs).map f48) 0 = f48 t0 := rd_f48 (t0 :: rs) 0 t0 rfl
  rw [e0] at k0 k1
  simp only [Int.toNat_zero, Nat.zero_mul, Addr.add_zero'] at k0 k1
  replace k0 : w.cell? ad = some (.int .i64 t0.kind) := k0
  obtain ⟨S, hS⟩ : ∃ S, strOfNums t0.text = S := ⟨_, rfl⟩
  replace k1 : w.cell? ⟨ad.block, ad.off + 1, none⟩ = some (.string S) := by rw [← hS]; exact k1
  obtain ⟨b, hb⟩ : ∃ b, fourth (t0 :: rs) = b := ⟨_, rfl⟩
  have HS := Aside0.mk hS
  have HBB := Aside0.mk hb
  have K0 := Aside0.mk k0
  have LT := Aside0.mk (cell_lt k0)
  obtain ⟨N, hN⟩ : ∃ N, (t0 :: rs).length = N := ⟨_, rfl⟩
  have HNN := Aside0.mk hN
  have pN := eq_true (show (0 : Int) < (N : Int) by rw [← hN]; simp)
  have pN2 := eq_true (show 0 < N by rw [← hN]; simp)
  rw [hN]
  have K3 := Aside0.mk (show 3 < N → ∃ t3 : Tok, w.cell? ⟨ad.block, ad.off + 9, none⟩ = some (.int .i64 t3.kind) ∧ w.cell? ⟨ad.block, ad.off + 9 + 1, none⟩ = some (.string (strOfNums t3.text)) ∧ b = if t3.kind = 1 then strOfNums t3.text else ⟨#[]⟩ by
    intro h3
    match rs, hN, hb, hC with
    | [], hN, _, _ => simp at hN; omega
    | [_], hN, _, _ => simp at hN; omega
    | [_, _], hN, _, _ => simp at hN; omega
    | x :: y :: t3 :: rs', hN, hb, hC =>
      obtain ⟨ad', ea', j0, j1, -⟩ := at_T68 hC 3 (by decide) (by simp; omega)
      obtain rfl := Option.some.inj ea'
      have e3 : rd_T68 ((t0 :: x :: y :: t3 :: rs').map f48) 3 = f48 t3 := rd_f48 (t0 :: x :: y :: t3 :: rs') 3 t3 rfl
      rw [e3] at j0 j1
      exact ⟨t3, j0, j1, hb.symm⟩)
  have K3N := Aside0.mk (show ¬ 3 < N → b = ⟨#[]⟩ by
    intro h3
    match rs, hN, hb with
    | [], hN, hb => exact hb.symm
    | [_], hN, hb => exact hb.symm
    | [_, _], hN, hb => exact hb.symm
    | x :: y :: t3 :: rs', hN, hb => simp at hN; omega)
  clear hC hc hl hF hV hol htl hr ha hS hb hN e0
  go_enter Tryd.func23, Tryd.ntmps23
  obtain ⟨q, HQ, HQ1, HQ2⟩ : ∃ q : Bool, Aside0 (3 < N → ∃ t3 : Tok, w.cell? ⟨ad.block, ad.off + 9, none⟩ = some (.int .i64 t3.kind) ∧ q = (t3.kind == 1)) ∧ Aside0 (¬ 3 < N → q = false) ∧ Aside0 ((q = true → 3 < N ∧ w.cell? ⟨ad.block, ad.off + 9 + 1, none⟩ = some (.string b)) ∧ (q = false → b = ⟨#[]⟩)) := by
    by_cases h3 : 3 < N
    · obtain ⟨t3, j0, j1, hb⟩ := K3.out h3
      refine ⟨t3.kind == 1, ⟨fun _ => ⟨t3, j0, rfl⟩⟩, ⟨fun h => absurd h3 h⟩, ⟨fun h => ⟨h3, ?_⟩, fun h => ?_⟩⟩
      · rw [hb, if_pos (by simpa using h)]
        exact j1
      · rw [hb, if_neg (by simpa using h)]
    · exact ⟨false, ⟨fun h => absurd h h3⟩, ⟨fun _ => rfl⟩, ⟨fun h => (by cases h), fun _ => K3N.out h3⟩⟩
  clear K3 K3N
  go_upto_region 3 with (fail)
  clear k1
  go_cut [25] (fun v25 wc => v25 = .bool q ∧ w = wc)
  case first =>
    by_cases h3 : 3 < N
    · obtain ⟨t3, j0, hq⟩ := HQ.out h3
      have q3 := eq_true (show (3 : Int) < (N : Int) by omega)
      have q32 := eq_true h3
      have q3b : decide (3 < N) = true := decide_eq_true h3
      have q3c : decide ((3 : Int) < (N : Int)) = true := decide_eq_true (by omega)
      clear h3
      go_wp2
      go_meet
      case rel => exact ⟨by rw [hq], rfl⟩
    · have hq := HQ1.out h3
      have q3b : decide (3 < N) = false := decide_eq_false h3
      have q3c : decide ((3 : Int) < (N : Int)) = false := decide_eq_false (by omega)
      clear h3
      go_wp2
      go_meet
      case rel => exact ⟨by rw [hq], rfl⟩
  case rest =>
  obtain ⟨rfl, rfl⟩ := hcut
  go_upto_if 25 with (fail)
  go_cut [8] (fun v8 wc => v8 = .string b ∧ w = wc)
  case first =>
    cases q with
    | true =>
      obtain ⟨h3, j1⟩ := HQ2.out.1 rfl
      have q3 := eq_true (show (3 : Int) < (N : Int) by omega)
      have q32 := eq_true h3
      clear h3
      go_wp2
      go_meet
      case rel => exact ⟨rfl, rfl⟩
    | false =>
      have hb := HQ2.out.2 rfl
      go_wp2
      go_meet
      case rel => exact ⟨by rw [hb], rfl⟩
  case rest =>
    obtain ⟨rfl, rfl⟩ := hcut
    clear pN pN2
    obtain ⟨X, hX⟩ : ∃ X, formR S b = X := ⟨_, rfl⟩
    have HX := Aside0.mk hX
    clear hX
    go_upto_region 6 with (first
      | (go_at_call 43; refine (millwrightref03_form.calls 16 S b X _ ((form_f S b).trans (congrArg some HX.out))).mono ?_; rintro e' w1 ⟨v, rfl, ho, hb⟩; have XO := Aside0.mk ho; have B1 := Aside0.mk hb; clear ho hb))
    obtain ⟨AX, cX, rfl⟩ := Kd.R_slice XO.out
    have XL := Aside0.mk (show X.length ≤ 100 by rw [← HX.out]; exact form_len S b)
    have F1 := Aside0.mk (HF.out.below B1.out)
    have k0 : w1.cell? ad = some (.int .i64 t0.kind) := (B1.out.cell LT.out).trans K0.out
    obtain ⟨c10, c11, f10, f11⟩ := F1.out.cells
    have pN := eq_true (show (0 : Int) < (N : Int) by have := HNN.out; simp at this; omega)
    have pN2 := eq_true (show 0 < N by have := HNN.out; simp at this; omega)
    obtain ⟨sc, hsc⟩ : ∃ x : Bool, (S.toList == ([99, 111, 110, 102, 105, 103] : List UInt8)) = x := ⟨_, rfl⟩
    obtain ⟨tk, htk⟩ : ∃ x : Bool, (S.toList == ([116, 97, 115, 107] : List UInt8)) = x := ⟨_, rfl⟩
    have htn : (S.toList != ([116, 97, 115, 107] : List UInt8)) = !tk := by rw [← htk]; rfl
    have haa := HA.out
    have HSC := Aside0.mk (show S.toList = configB ↔ sc = true by rw [← hsc]; exact beq_iff_eq.symm)
    have HTK := Aside0.mk (show S.toList = taskB ↔ tk = true by rw [← htk]; exact beq_iff_eq.symm)
    obtain ⟨p1, hp1⟩ : ∃ p : Bool, p = decide (¬ t0.kind = 1 ∨ X = [] ∨ (S.toList == configB) ≠ a0 ∨ (S.toList = taskB ∧ 0 < ops.length)) := ⟨_, rfl⟩
    have HP1 := Aside0.mk hp1
    clear hp1
    have scb : (S.toList == configB) = sc := hsc
    go_cut [61] (fun v61 wc => v61 = .bool p1 ∧ w1 = wc)
    case first =>
      by_cases hk : t0.kind = 1
      rotate_left
      · have kk : (t0.kind != 1) = true := bne_iff_ne.2 hk
        obtain rfl : p1 = true := HP1.out.trans (decide_eq_true (.inl hk))
        clear hk
        go_wp2
        go_meet
        case rel => exact ⟨rfl, rfl⟩
      have kk : (t0.kind != 1) = false := bne_eq_false_iff_eq.2 hk
      by_cases hx : X = []
      · obtain rfl : p1 = true := HP1.out.trans (decide_eq_true (.inr (.inl hx)))
        have xl : ((X.length : Int) == 0) = true := by rw [hx]; rfl
        have xl2 : (X.length == 0) = true := by rw [hx]; rfl
        have xl3 : X.length = 0 := by rw [hx]; rfl
        clear hk hx
        go_wp2
        go_meet
        case rel => exact ⟨rfl, rfl⟩
      have hx0 : X.length ≠ 0 := fun h => hx (List.length_eq_zero_iff.1 h)
      have xl : ((X.length : Int) == 0) = false := beq_eq_false_iff_ne.2 (by omega)
      have xl2 : (X.length == 0) = false := beq_eq_false_iff_ne.2 hx0
      by_cases hm : sc = a0
      rotate_left
      · obtain rfl : p1 = true := HP1.out.trans (decide_eq_true (.inr (.inr (.inl (by rw [scb]; exact hm)))))
        clear hk hx hx0
        cases sc with
        | true =>
          cases a0 with
          | true => exact absurd rfl hm
          | false =>
            clear hm
            go_wp2
            go_meet
            case rel => exact ⟨rfl, rfl⟩
        | false =>
          cases a0 with
          | false => exact absurd rfl hm
          | true =>
            clear hm
            go_wp2
            go_meet
            case rel => exact ⟨rfl, rfl⟩
      · cases a0 with
        | true =>
          obtain rfl : sc = true := hm
          cases tk with
          | false =>
            obtain rfl : p1 = false := HP1.out.trans (decide_eq_false (by
              rintro (h | h | h | h)
              · exact h hk
              · exact hx h
              · exact h scb
              · exact absurd (HTK.out.1 h.1) (by decide)))
            clear hk hx hx0
            go_wp2
            go_meet
            case rel => exact ⟨rfl, rfl⟩
          | true =>
            by_cases ho : 0 < ops.length
            · obtain rfl : p1 = true := HP1.out.trans (decide_eq_true (.inr (.inr (.inr ⟨HTK.out.2 rfl, ho⟩))))
              have o1 : decide (0 < ops.length) = true := decide_eq_true ho
              have o2 : decide ((0 : Int) < (ops.length : Int)) = true := decide_eq_true (by omega)
              clear hk hx hx0
              go_wp2
              go_meet
              case rel => exact ⟨by first | rfl | (simp; exact ho), rfl⟩
            · obtain rfl : p1 = false := HP1.out.trans (decide_eq_false (by
                rintro (h | h | h | h)
                · exact h hk
                · exact hx h
                · exact h scb
                · exact ho h.2))
              have o1 : decide (0 < ops.length) = false := decide_eq_false ho
              have o2 : decide ((0 : Int) < (ops.length : Int)) = false := decide_eq_false (by omega)
              clear hk hx hx0
              go_wp2
              go_meet
              case rel => exact ⟨by first | rfl | (simp; omega), rfl⟩
        | false =>
          obtain rfl : sc = false := hm
          cases tk with
          | false =>
            obtain rfl : p1 = false := HP1.out.trans (decide_eq_false (by
              rintro (h | h | h | h)
              · exact h hk
              · exact hx h
              · exact h scb
              · exact absurd (HTK.out.1 h.1) (by decide)))
            clear hk hx hx0
            go_wp2
            go_meet
            case rel => exact ⟨rfl, rfl⟩
          | true =>
            by_cases ho : 0 < ops.length
            · obtain rfl : p1 = true := HP1.out.trans (decide_eq_true (.inr (.inr (.inr ⟨HTK.out.2 rfl, ho⟩))))
              have o1 : decide (0 < ops.length) = true := decide_eq_true ho
              have o2 : decide ((0 : Int) < (ops.length : Int)) = true := decide_eq_true (by omega)
              clear hk hx hx0
              go_wp2
              go_meet
              case rel => exact ⟨by first | rfl | (simp; exact ho), rfl⟩
            · obtain rfl : p1 = false := HP1.out.trans (decide_eq_false (by
                rintro (h | h | h | h)
                · exact h hk
                · exact hx h
                · exact h scb
                · exact ho h.2))
              have o1 : decide (0 < ops.length) = false := decide_eq_false ho
              have o2 : decide ((0 : Int) < (ops.length : Int)) = false := decide_eq_false (by omega)
              clear hk hx hx0
              go_wp2
              go_meet
              case rel => exact ⟨by first | rfl | (simp; omega), rfl⟩
    case rest =>
    obtain ⟨rfl, rfl⟩ := hcut
    cases p1 with
    | true =>
      have hP := of_decide_eq_true HP1.out.symm
      obtain rfl : r = .bad 2 := HR.out.symm.trans (take_two _ _ t0 rs (by rw [HS.out, HBB.out, HX.out]; exact hP))
      clear hP
      go_wp2
      first | go_ret | go_ret2
      exact ⟨rfl, F1.out.at⟩
    | false =>
    have hP := of_decide_eq_false HP1.out.symm
    have HK1 := Aside0.mk (show t0.kind = 1 by apply Classical.byContradiction; intro h; exact hP (.inl h))
    have HXN := Aside0.mk (show ¬ X = [] from fun h => hP (.inr (.inl h)))
    have HSA := Aside0.mk (show sc = a0 by apply Classical.byContradiction; intro h; exact hP (.inr (.inr (.inl (by rw [scb]; exact h)))))
    have HTO := Aside0.mk (show ¬ (S.toList = taskB ∧ 0 < ops.length) from fun h => hP (.inr (.inr (.inr h))))
    clear hP
    obtain ⟨p2, hp2⟩ : ∃ p : Bool, p = decide ((S.toList = taskB ∧ 64 ≤ tasks.length) ∨ (¬ S.toList = taskB ∧ 4096 ≤ ops.length)) := ⟨_, rfl⟩
    have HP2 := Aside0.mk hp2
    clear hp2
    go_upto_region 8 with (fail)
    go_cut [83] (fun v83 wc => v83 = .bool p2 ∧ w1 = wc)
    case first =>
      cases tk with
      | true =>
        by_cases h : 64 ≤ tasks.length
        · obtain rfl : p2 = true := HP2.out.trans (decide_eq_true (.inl ⟨HTK.out.2 rfl, h⟩))
          have o1 : decide (64 ≤ tasks.length) = true := decide_eq_true h
          have o2 : decide ((64 : Int) ≤ (tasks.length : Int)) = true := decide_eq_true (by omega)
          clear h
          go_wp2
          go_meet
          case rel => exact ⟨by first | rfl | simp [*], rfl⟩
        · obtain rfl : p2 = false := HP2.out.trans (decide_eq_false (by
            rintro (g | g)
            · exact h g.2
            · exact g.1 (HTK.out.2 rfl)))
          have o1 : decide (64 ≤ tasks.length) = false := decide_eq_false h
          have o2 : decide ((64 : Int) ≤ (tasks.length : Int)) = false := decide_eq_false (by omega)
          clear h
          go_wp2
          go_meet
          case rel => exact ⟨by first | rfl | simp [*], rfl⟩
      | false =>
        by_cases h : 4096 ≤ ops.length
        · obtain rfl : p2 = true := HP2.out.trans (decide_eq_true (.inr ⟨fun g => absurd (HTK.out.1 g) (by decide), h⟩))
          have o1 : decide (4096 ≤ ops.length) = true := decide_eq_true h
          have o2 : decide ((4096 : Int) ≤ (ops.length : Int)) = true := decide_eq_true (by omega)
          clear h
          go_wp2
          go_meet
          case rel => exact ⟨by first | rfl | simp [*], rfl⟩
        · obtain rfl : p2 = false := HP2.out.trans (decide_eq_false (by
            rintro (g | g)
            · exact absurd (HTK.out.1 g.1) (by decide)
            · exact h g.2))
          have o1 : decide (4096 ≤ ops.length) = false := decide_eq_false h
          have o2 : decide ((4096 : Int) ≤ (ops.length : Int)) = false := decide_eq_false (by omega)
          clear h
          go_wp2
          go_meet
          case rel => exact ⟨by first | rfl | simp [*], rfl⟩
    case rest =>
    obtain ⟨rfl, rfl⟩ := hcut
    have HQ1' := Aside0.mk (show ¬ (¬ t0.kind = 1 ∨ formR (strOfNums t0.text) (fourth (t0 :: rs)) = [] ∨ ((strOfNums t0.text).toList == configB) ≠ a0 ∨ ((strOfNums t0.text).toList = taskB ∧ 0 < ops.length)) by
      rw [HS.out, HBB.out, HX.out]
      rintro (h | h | h | h)
      · exact h HK1.out
      · exact HXN.out h
      · exact h (by rw [scb]; exact HSA.out)
      · exact HTO.out h)
    cases p2 with
    | true =>
      have hP := of_decide_eq_true HP2.out.symm
      obtain rfl : r = .bad 4 := HR.out.symm.trans (take_full _ _ t0 rs HQ1'.out (by rw [HS.out]; exact hP))
      clear hP
      go_wp2
      first | go_ret | go_ret2
      exact ⟨rfl, F1.out.at⟩
    | false =>
    have hP := of_decide_eq_false HP2.out.symm
    have HFU := Aside0.mk hP
    clear hP k0 pN pN2 c10 c11 f10 f11 htn haa
    obtain ⟨⟨nl, e⟩, hn⟩ : ∃ p, numsR (t0 :: rs) X [] = p := ⟨_, rfl⟩
    have HNL := Aside0.mk hn
    clear hn
    have TK := Aside0.mk (take_of ⟨cfg, tasks, ops⟩ a0 t0 rs X nl e HK1.out (by rw [HS.out, HBB.out]; exact HX.out) HXN.out (by rw [HS.out, scb]; exact HSA.out) (by rw [HS.out]; exact HTO.out) (by rw [HS.out]; exact HFU.out) HNL.out)
    rw [HS.out, HBB.out] at TK
    go_upto_region 11 with (first
      | (go_at_call 44; refine (numbers_t (t0 :: rs) X (some ad) AX N c cX nl e _ HNN.out (Kd.C_below HC.out B1.out) HCC.out (Kd.R_reads' XO.out).2.2 (Kd.R_reads' XO.out).2.1 HL.out HNL.out (by have := XL.out; omega)).mono ?_; rintro e' w2 ⟨v, rfl, ho, hb⟩; have NO := Aside0.mk ho; have B2 := Aside0.mk (below_step B1.out hb); have F2 := Aside0.mk (F1.out.below hb); clear ho hb))
    obtain ⟨AN, cN, rfl⟩ := Kd.R_slice NO.out
    by_cases he : ¬ e = 0
    · have hee : (e != 0) = true := bne_iff_ne.2 he
      obtain rfl : r = .bad e := HR.out.symm.trans (TK.out.trans (if_pos he))
      clear he
      go_wp2
      first | go_ret | go_ret2
      exact ⟨rfl, F2.out.at⟩
    obtain rfl : e = 0 := Classical.not_not.1 he
    clear he
    have TK := Aside0.mk (TK.out.trans (if_neg (by decide)))
    have NLEN := Aside0.mk (nums_len X (t0 :: rs) [] nl HNL.out)
    cases sc with
    | true => exact absurd (HSC.out.2 rfl) (by rw [← HS.out]; exact HSEL.out.1)
    | false =>
    have hsn : ¬ S.toList = configB := fun h => absurd (HSC.out.1 h) (by decide)
    cases tk with
    | true => exact absurd (HTK.out.2 rfl) (by rw [← HS.out]; exact HSEL.out.2)
    | false =>
      have htn2 : ¬ S.toList = taskB := fun h => absurd (HTK.out.1 h) (by decide)
      have hlen : nl.length = opN S b := by rw [NLEN.out, ← HX.out]; exact form_n S b hsn htn2 (by rw [HX.out]; exact HXN.out)
      have h4096 : ops.length < 4096 := by
        apply Classical.byContradiction
        intro h
        exact HFU.out (.inr ⟨htn2, by omega⟩)
      have H4096 := Aside0.mk h4096
      obtain ⟨⟨xk, xa, xb, xc, xd⟩, ho⟩ : ∃ o, opR S b nl = o := ⟨_, rfl⟩
      have HO := Aside0.mk ho
      obtain rfl : r = .ok ⟨cfg, tasks, ops ++ [⟨xk, xa, xb, xc, xd⟩]⟩ := HR.out.symm.trans (TK.out.trans ((if_neg hsn).trans ((if_neg htn2).trans (by rw [ho]))))
      have HLEN := Aside0.mk hlen
      have F3 := Aside0.mk (F2.out.below (below_drew (Below.refl _ _)))
      clear ho hlen h4096 htn2 hsn
      go_upto_region 14 with (fail)
      refine start_ (n := 14) (S := fun w' => w'.cell? ⟨F, 11, none⟩ = some (.slice AO ops.length cO)) (ds := [10, 13]) #[false, false, false, false, false, false, false, false, false, false, false, false, false, false] (by kernel_rfl) rfl rfl (F3.out.cells.2.1) (fun hHeld => ?_)
      refine pure_ (i := 0) (N := some 94) (v := ?_) (a' := ?_) #[true, false, false, false, false, false, false, false, false, false, false, false, false, false] rfl rfl (by kernel_rfl) (fun _ _ _ h => h) (Or.inl ⟨by rfl, ?_⟩) ?_ ?_
      rotate_left
      · intro w'
        go_simp
        with_reducible rfl
      rotate_left
      · simp only [Act.put, List.setIfInBounds_toArray, List.set_cons_zero, List.set_cons_succ, i64_w, i32_w]
        rfl
      refine pure_ (i := 1) (N := some 95) (v := ?_) (a' := ?_) #[true, true, false, false, false, false, false, false, false, false, false, false, false, false] rfl rfl (by kernel_rfl) (fun _ _ _ h => h) (Or.inl ⟨by rfl, ?_⟩) ?_ ?_
      rotate_left
      · intro w'
        go_simp
        with_reducible rfl
      rotate_left
      · simp only [Act.put, List.setIfInBounds_toArray, List.set_cons_zero, List.set_cons_succ, i64_w, i32_w]
        rfl
      refine pure_ (i := 2) (N := some 96) (v := ?_) (a' := ?_) #[true, true, true, false, false, false, false, false, false, false, false, false, false, false] rfl rfl (by kernel_rfl) (fun _ _ _ h => h) (Or.inl ⟨by rfl, ?_⟩) ?_ ?_
      rotate_left
      · intro w'
        go_simp
        with_reducible rfl
      rotate_left
      · simp only [Act.put, List.setIfInBounds_toArray, List.set_cons_zero, List.set_cons_succ, i64_w, i32_w]
        rfl
      refine pure_ (i := 3) (N := some 97) (v := ?_) (a' := ?_) #[true, true, true, true, false, false, false, false, false, false, false, false, false, false] rfl rfl (by kernel_rfl) (fun _ _ _ h => h) (Or.inl ⟨by rfl, ?_⟩) ?_ ?_
      rotate_left
      · intro w'
        go_simp
        with_reducible rfl
      rotate_left
      · simp only [Act.put, List.setIfInBounds_toArray, List.set_cons_zero, List.set_cons_succ, i64_w, i32_w]
        rfl
      refine pure_ (i := 5) (N := some 99) (v := ?_) (a' := ?_) #[true, true, true, true, false, true, false, false, false, false, false, false, false, false] rfl rfl (by kernel_rfl) (fun _ _ _ h => h) (Or.inl ⟨by rfl, ?_⟩) ?_ ?_
      rotate_left
      · intro w'
        go_simp
        with_reducible rfl
      rotate_left
      · simp only [Act.put, List.setIfInBounds_toArray, List.set_cons_zero, List.set_cons_succ, i64_w, i32_w]
        rfl
      refine pure_ (i := 6) (N := some 100) (v := ?_) (a' := ?_) #[true, true, true, true, false, true, true, false, false, false, false, false, false, false] rfl rfl (by kernel_rfl) (fun _ _ _ h => h) (Or.inl ⟨by rfl, ?_⟩) ?_ ?_
      rotate_left
      · intro w'
        go_simp
        with_reducible rfl
      rotate_left
      · simp only [Act.put, List.setIfInBounds_toArray, List.set_cons_zero, List.set_cons_succ, i64_w, i32_w]
        rfl
      refine pure_ (i := 7) (N := some 101) (v := ?_) (a' := ?_) #[true, true, true, true, false, true, true, true, false, false, false, false, false, false] rfl rfl (by kernel_rfl) (fun _ _ _ h => h) (Or.inl ⟨by rfl, ?_⟩) ?_ ?_
      rotate_left
      · intro w'
        go_simp
        with_reducible rfl
      rotate_left
      · simp only [Act.put, List.setIfInBounds_toArray, List.set_cons_zero, List.set_cons_succ, i64_w, i32_w]
        rfl
      refine take_ (i := 4) (N := some 98) (v := ?_) (a' := ?_) #[true, true, true, true, true, true, true, true, false, false, false, false, false, false] rfl rfl (by kernel_rfl) (fun _ _ _ h => h) (Or.inl ⟨by rfl, ?_⟩) hHeld ?_ ?_
      rotate_left
      · intro w' s0
        go_simp
        with_reducible rfl
      rotate_left
      · simp only [Act.put, List.setIfInBounds_toArray, List.set_cons_zero, List.set_cons_succ, i64_w, i32_w]
        rfl
      refine one_ (i := 8) (N := some 102) #[true, true, true, true, true, true, true, true, true, false, false, false, false, false] rfl rfl (by kernel_rfl) (by decide) (fun K hK => ?_)
      refine goes_ Tryd.func45 (by kernel_rfl) rfl #[.string S, .string b, .slice AN nl.length cN] (by rfl) rfl rfl (by simp only [List.map_toArray, List.map_cons, List.map_nil]; rfl) ?_
      refine (op_calls S b nl AN nl.length cN _ rfl (Kd.C_below (Kd.R_reads' NO.out).2.2 (below_drew (Below.refl _ _))) HLEN.out _ HO.out).mono ?_
      rintro e' w5 ⟨rfl, hb⟩
      refine ⟨_, rfl, ?_⟩
      have F4 := Aside0.mk (F3.out.below hb)
      clear hb
      simp only [opVal]
      refine hK.out _ _ (F4.out.cells.2.1) (fun hHeld => ?_)
      clear hK K
      refine norm_ (a' := ?_) ?_ ?_
      rotate_left
      · show Act.put _ (some 102) _ = _
        simp only [Act.put, List.setIfInBounds_toArray, List.set_cons_zero, List.set_cons_succ, i64_w, i32_w]
        rfl
      refine one_ (i := 9) (N := some 103) #[true, true, true, true, true, true, true, true, true, true, false, false, false, false] rfl rfl (by kernel_rfl) (by decide) (fun K hK => ?_)
      refine value_ (w1 := ?_) (v := ?_) (by rfl) rfl ?_ ?_
      rotate_left 2
      · go_simp
        constructor
        · rfl
        · rfl
      refine hK.out _ _ ((F4.out.below (below_alloc (Below.refl _ _) _)).cells.2.1) (fun hHeld => ?_)
      clear hK K
      refine norm_ (a' := ?_) ?_ ?_
      rotate_left
      · show Act.put _ (some 103) _ = _
        simp only [Act.put, List.setIfInBounds_toArray, List.set_cons_zero, List.set_cons_succ, i64_w, i32_w]
        rfl
      refine last_ (i := 10) (N := some 104) #[true, true, true, true, true, true, true, true, true, true, true, false, false, false] rfl rfl (by kernel_rfl) (by decide) (fun K hK => ?_)
      refine Kd.R_append_step kOp (w0 := w5) w0.heap.size (by rfl) (.tmp 98) (.tmp 103) 27 46 (.agg #[(.int .i64 0), (.int .i64 0), (.int .i64 0), (.int .i64 0), (.int .i64 0)]) 40 rfl Tryd.underlying27 infoOp rfl (by decide) (by decide) (.slice AO ops.length cO) ops ⟨xk, xa, xb, xc, xd⟩ [.int .i64 xk, .int .i64 xa, .int .i64 xb, .int .i64 xc, .int .i64 xd] (fun _ => True) (fun _ => False) rfl rfl (kOp_mkM _ _ _ _) (fun _ h => h.elim) (fun _ _ => trivial) F4.out.rO (Below.refl _ _) F4.out.but.size (by have := H4096.out; omega) ?_
      intro v1 w7 ho7 hB7 hg7 hat7
      obtain ⟨A7, c7, hv7⟩ := Kd.R_slice ho7
      have F7 := Aside0.mk (F4.out.grownO hg7 ho7)
      clear ho7 hB7 hg7 hat7
      have hc7 : w7.cell? ⟨F, 11, none⟩ = some (.slice AO ops.length cO) := (blk_cell F7.out.2 11).trans (by simp [List.getElem?_append, F4.out.len])
      have hf7 : w7.frozen? ⟨F, 11, none⟩ = false := blk_frozen F7.out.2 11
      generalize List.length _ = L7 at hv7
      subst hv7
      refine hK.out _ _ ?_
      clear hK K
      refine norm_ (a' := ?_) ?_ ?_
      rotate_left
      · show Act.put _ (some 104) _ = _
        simp only [Act.put, List.setIfInBounds_toArray, List.set_cons_zero, List.set_cons_succ, i64_w, i32_w]
        rfl
      refine pure_ (i := 11) (N := some 105) (v := ?_) (a' := ?_) #[true, true, true, true, true, true, true, true, true, true, true, true, false, false] rfl rfl (by kernel_rfl) (fun _ _ _ h => h) (Or.inl ⟨by rfl, ?_⟩) ?_ ?_
      rotate_left
      · intro w'
        go_simp
        with_reducible rfl
      rotate_left
      · simp only [Act.put, List.setIfInBounds_toArray, List.set_cons_zero, List.set_cons_succ, i64_w, i32_w]
        rfl
      refine pure_ (i := 12) (N := some 106) (v := ?_) (a' := ?_) #[true, true, true, true, true, true, true, true, true, true, true, true, true, false] rfl rfl (by kernel_rfl) (fun _ _ _ h => h) (Or.inl ⟨by rfl, ?_⟩) ?_ ?_
      rotate_left
      · intro w'
        go_simp
        with_reducible rfl
      rotate_left
      · simp only [Act.put, List.setIfInBounds_toArray, List.set_cons_zero, List.set_cons_succ, i64_w, i32_w]
        rfl
      refine last_ (i := 13) (N := none) #[true, true, true, true, true, true, true, true, true, true, true, true, true, true] rfl rfl (by kernel_rfl) (by decide) (fun K hK => ?_)
      refine skip_ (w1 := ?_) (by rfl) rfl ?_ ?_
      rotate_left
      · go_simp
        rfl
      refine hK.out _ _ ?_
      clear hK K
      refine done_ (by kernel_rfl) ?_
      obtain ⟨w9, hw9, F9⟩ : ∃ W, W = w7.setCell ⟨F, 11, none⟩ (.slice A7 L7 c7) ∧ Aside0 (FilV w0 W F cfg (.slice AT tasks.length cT) tasks (.slice A7 L7 c7) (ops ++ [⟨xk, xa, xb, xc, xd⟩])) := ⟨_, rfl, ⟨F7.out.1⟩⟩
      rw [← hw9]
      clear hw9 hc7 hf7
      go_wp2
      first | go_ret | go_ret2
      exact ⟨rfl, (F9.out.below (by first | exact below_drew (Below.refl _ _) | exact Below.refl _ _)).at⟩
end Go.Proofs.YtegbfimfpkendaaDoor.PcHd
