/- The walks of what finds a line's end, and a word. No condition. -/
import Derived.Test.YtckcepmkfegkiaaDoorLexD
import Derived.Test.YtckcepmkfegkiaaDoorTrX
namespace Go.Proofs.YtckcepmkfegkiaaDoor.TrP
open Go.RowKit Go.Proofs.YtckcepmkfegkiaaDoorW.PrintWords Go.Proofs.YtckcepmkfegkiaaDoorW.PrintLast Go.Proofs.YtckcepmkfegkiaaDoorW.PrintMore LexS LexB TrX
set_option linter.unusedVariables false
set_option linter.unusedSimpArgs false
def tok0 : Tok := ⟨0, [], 0⟩
def getTok (ts : List Tok) (i : Int) : Tok := ts.getD i.toNat tok0
theorem kTok_open' {w : World} {x : Tok} {cs : List Value} (h : kTok.K w x cs) : cs = [.int .i64 x.kind, .string (strOfNums x.text), .int .i64 x.line] := by
  obtain ⟨_, _, rfl, rfl, ⟨_, _, rfl, rfl, rfl⟩⟩ := h
  exact rfl
theorem at_Tok {w : World} {A : Option Addr} {n : Nat} {xs : List Tok} (h : Kd.C kTok w A n xs) (i : Int) (h0 : 0 ≤ i) (h1 : i < n) : ∃ ad , A = some ad ∧ w.cell? (ad.add (i.toNat * 3)) = some (.int .i64 (getTok xs i).kind) ∧ w.cell? ⟨(ad.add (i.toNat * 3)).block, (ad.add (i.toNat * 3)).off + 1, none⟩ = some (.string (strOfNums (getTok xs i).text)) ∧ w.cell? ⟨(ad.add (i.toNat * 3)).block, (ad.add (i.toNat * 3)).off + 2, none⟩ = some (.int .i64 (getTok xs i).line) := by
  obtain ⟨ad, c, e, _, hK, hc0⟩ := Kd.C_get h tok0 i h0 h1
  have hc : ∀ j u, c[j]? = some u → w.cell? (ad.add (i.toNat * 3 + j)) = some u := hc0
  obtain rfl := kTok_open' hK
  exact ⟨ad, e, hc 0 _ rfl, by rw [← add_field _ _ 1 (by omega)]; exact hc 1 _ rfl, by rw [← add_field _ _ 2 (by omega)]; exact hc 2 _ rfl⟩
def endAt : List Tok → Int → Int
  | [], _ => -1
  | t :: ts, i => if t.kind = 3 then i else endAt ts (i + 1)
def wordAt (s : ByteArray) : List (List UInt8) → Int → Int
  | [], _ => -1
  | x :: xs, i => if s.toList = x then i else wordAt s xs (i + 1)
theorem p1_calls (t : Tok) (b : Bool) (hb : (t.kind == 3) = b) (w : World) : Calls Tryd.prog 27 #[.agg #[.int .i64 t.kind, .string (strOfNums t.text), .int .i64 t.line]] w fun x w' => x = .returned (.bool b) ∧ Below w.heap.size w w' := by
  cases b with
  | true =>
    go_enter Tryd.func27, Tryd.ntmps27
    go_wp2
    go_ret
    exact ⟨rfl, by repeat (first | exact Below.refl _ _ | apply below_alloc | apply pw_below_drewN | apply below_drew1)⟩
  | false =>
    go_enter Tryd.func27, Tryd.ntmps27
    go_wp2
    go_ret
    exact ⟨rfl, by repeat (first | exact Below.refl _ _ | apply below_alloc | apply pw_below_drewN | apply below_drew1)⟩
set_option maxHeartbeats 4000000 in
theorem endAt_calls (ts : List Tok) (A : Option Addr) (cp : Nat) (w : World) (hC : Kd.C kTok w A ts.length ts) (hn : ts.length ≤ 4398046511104) : Calls Tryd.prog 26 #[.slice A ts.length cp, .func (.func 27) #[] #[]] w fun x w' => x = .returned (.int .i64 (endAt ts 0)) ∧ Below w.heap.size w w' := by
  have HC := Aside0.mk hC
  have HN := Aside0.mk hn
  clear hC hn
  go_enter Tryd.func26, Tryd.ntmps26
  go_wp2
  go_loopg [5, 8] ts.length (fun gg _ s8 wr => ∃ kk : Nat, kk ≤ ts.length ∧ ts.length - kk ≤ gg ∧ s8 = .int .i64 kk ∧ Aside0 (Below w.heap.size w wr) ∧ Aside0 (endAt ts 0 = endAt (ts.drop kk) kk))
  case atStart => exact ⟨0, Nat.zero_le _, by omega, rfl, ⟨Below.refl _ _⟩, ⟨rfl⟩⟩
  case round =>
    obtain ⟨kk, hkk, hg, rfl, BW, A1⟩ := hrel
    by_cases hlt : kk < ts.length
    · have hltz : (kk : Int) < (ts.length : Int) := by omega
      have hk0 : (0 : Int) ≤ (kk : Int) := by omega
      have hd : ts.drop kk = getTok ts kk :: ts.drop (kk + 1) := by
        rw [List.drop_eq_getElem_cons hlt]
        simp [getTok, List.getD_eq_getElem?_getD, hlt]
      obtain ⟨ad, ea, ht0, ht1, ht2⟩ := at_Tok (Kd.C_below HC.out BW.out) (kk : Int) hk0 hltz
      simp only [Int.toNat_natCast] at ht0 ht1 ht2
      subst ea
      have p1 := eq_true hk0
      have q1 := eq_true hltz
      have Hlt := Aside0.mk hlt
      have Hd := Aside0.mk hd
      have Hg := Aside0.mk hg
      clear hk0 hlt hd hltz hg hkk
      by_cases c1 : (getTok ts kk).kind = 3
      · have C1 := Aside0.mk c1
        clear c1
        go_wp2_with fail
        refine (p1_calls (getTok ts kk) true (beq_iff_eq.mpr C1.out) _).mono ?_
        rintro e' w2 ⟨rfl, hb2⟩
        go_wp2
        go_ret
        refine ⟨?_, below_step BW.out hb2⟩
        rw [A1.out, Hd.out, endAt, if_pos C1.out]
        rfl
      · have C1 := Aside0.mk c1
        clear c1
        go_wp2_with fail
        refine (p1_calls (getTok ts kk) false (beq_eq_false_iff_ne.mpr C1.out) _).mono ?_
        rintro e' w2 ⟨rfl, hb2⟩
        go_wp2
        go_roundg (ts.length - (kk + 1))
        case measure => have := Hlt.out; have := Hg.out; omega
        case rel =>
          have hlt := Hlt.out
          have hn := HN.out
          have e : wrap64 ((kk : Int) + 1) = ((kk + 1 : Nat) : Int) := by unfold wrap64; omega
          refine ⟨kk + 1, by omega, by omega, by first | (rw [e]) | (simp [e]), ⟨below_step BW.out hb2⟩, ⟨?_⟩⟩
          rw [A1.out, Hd.out, endAt, if_neg C1.out]
          rfl
    · have hltz : ¬ (kk : Int) < (ts.length : Int) := by omega
      obtain rfl : kk = ts.length := by omega
      clear hg hkk hlt
      go_wp2
      go_ret
      refine ⟨?_, BW.out⟩
      rw [A1.out, List.drop_length]
      rfl
set_option maxHeartbeats 4000000 in
theorem wordAt_calls (s : ByteArray) (w : World) (hW : WordsIs w) : Calls Tryd.prog 46 #[.slice (some ⟨0, 0, none⟩) 7 7, .string s] w fun x w' => x = .returned (.int .i64 (wordAt s wordsT 0)) ∧ Below w.heap.size w w' := by
  have HW := Aside0.mk hW
  clear hW
  go_enter Tryd.func46, Tryd.ntmps46
  go_wp2
  go_loopg [5, 8] 7 (fun gg _ s8 wr => ∃ kk : Nat, kk ≤ 7 ∧ 7 - kk ≤ gg ∧ s8 = .int .i64 kk ∧ Aside0 (Below w.heap.size w wr) ∧ Aside0 (wordAt s wordsT 0 = wordAt s (wordsT.drop kk) kk))
  case atStart => exact ⟨0, Nat.zero_le _, by omega, rfl, ⟨Below.refl _ _⟩, ⟨rfl⟩⟩
  case round =>
    obtain ⟨kk, hkk, hg, rfl, BW, A1⟩ := hrel
    by_cases hlt : kk < 7
    · have hltz : (kk : Int) < 7 := by omega
      have hk0 : (0 : Int) ≤ (kk : Int) := by omega
      have hd : wordsT.drop kk = wordsT.getD kk [] :: wordsT.drop (kk + 1) := by
        have hl : kk < wordsT.length := hlt
        rw [List.drop_eq_getElem_cons hl]
        simp [List.getD_eq_getElem?_getD, hl]
      have hc := (HW.out.below BW.out).2 kk hlt
      obtain ⟨x, hx⟩ : ∃ x, (⟨(wordsT.getD kk []).toArray⟩ : ByteArray) = x := ⟨_, rfl⟩
      rw [hx] at hc
      have hxl : x.toList = wordsT.getD kk [] := by rw [← hx, ByteArray.toList_eq]
      have p1 := eq_true hk0
      have q1 := eq_true hltz
      have Hlt := Aside0.mk hlt
      have Hd := Aside0.mk hd
      have Hg := Aside0.mk hg
      have HXL := Aside0.mk hxl
      clear hk0 hlt hd hltz hg hkk hx hxl
      by_cases c1 : s.toList = x.toList
      · have c1b : (s.toList == x.toList) = true := beq_iff_eq.mpr c1
        have C1 := Aside0.mk c1
        clear c1
        go_wp2
        go_ret
        refine ⟨?_, BW.out⟩
        rw [A1.out, Hd.out, wordAt, if_pos (C1.out.trans HXL.out)]
        rfl
      · have c1b : (s.toList == x.toList) = false := beq_eq_false_iff_ne.mpr c1
        have C1 := Aside0.mk c1
        clear c1
        go_wp2
        go_roundg (7 - (kk + 1))
        case measure => have := Hlt.out; have := Hg.out; omega
        case rel =>
          have hlt := Hlt.out
          have e : wrap64 ((kk : Int) + 1) = ((kk + 1 : Nat) : Int) := by unfold wrap64; omega
          refine ⟨kk + 1, by omega, by omega, by first | (rw [e]) | (simp [e]), BW, ⟨?_⟩⟩
          rw [A1.out, Hd.out, wordAt, if_neg (fun h => C1.out (h.trans HXL.out.symm))]
          rfl
    · have hltz : ¬ (kk : Int) < 7 := by omega
      obtain rfl : kk = 7 := by omega
      clear hg hkk hlt
      go_wp2
      go_ret
      refine ⟨?_, BW.out⟩
      rw [A1.out]
      rfl
end Go.Proofs.YtckcepmkfegkiaaDoor.TrP
