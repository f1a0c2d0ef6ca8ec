/- Plain definitions: what the lexer answers, in lists of bytes (as whole numbers). No condition. The walks of the lexer's small functions: kind and next. No condition. The walks of the scanner's methods: next, take, end. No condition. -/
import Derived.WalkKit
import Derived.Test.YtegbfimfpkendaaDoorProg
import Derived.Deep.QuietTactic
import Derived.BigQuiet
import Derived.Deep.LoopGhost
import Derived.Deep.DeepCutAuto
import Derived.Deep.RegionHeld3
import Derived.Deep.Draws
import Derived.KernelRfl
import Derived.Test.YtegbfimfpkendaaDoorBa
import Derived.Test.YtegbfimfpkendaaDoorBb
import Derived.Deep.CutBlock
import Derived.Lib.Hide
namespace Go.Proofs.YtegbfimfpkendaaDoor.LexS
structure Tok where
  kind : Int
  text : List Int
  line : Int
  deriving DecidableEq
def kindI (c : Int) : Int :=
  if (97 ≤ c ∧ c ≤ 122) ∨ (65 ≤ c ∧ c ≤ 90) then 2
  else if 48 ≤ c ∧ c ≤ 57 then 3
  else if c = 32 ∨ c = 9 ∨ c = 13 then 1
  else if c = 35 then 4
  else if c = 10 then 5
  else 0
def nextI : List Int → Int
  | [] => 5
  | c :: _ => kindI c
def isK (k : Int) (c : Int) : Bool := kindI c == k
def notNl (c : Int) : Bool := !(c == 10)
def endOf (line : Int) (begun : Bool) (acc : List Tok) : List Tok := if begun = true then acc ++ [⟨3, [], line⟩] else acc
def lexB : Nat → List Int → Int → Bool → List Tok → List Tok × Int × Int
  | 0, _, _, _, _ => ([], 0, 0)
  | _ + 1, [], line, begun, acc => (endOf line begun acc, 0, 0)
  | n + 1, c :: cs, line, begun, acc =>
    if kindI c = 1 then lexB n cs line begun acc
    else if kindI c = 2 then
      if nextI ((c :: cs).dropWhile (isK 2)) = 3 then ([], line, 2)
      else lexB n ((c :: cs).dropWhile (isK 2)) line true (acc ++ [⟨1, (c :: cs).takeWhile (isK 2), line⟩])
    else if kindI c = 3 then
      if nextI ((c :: cs).dropWhile (isK 3)) = 2 then ([], line, 2)
      else lexB n ((c :: cs).dropWhile (isK 3)) line true (acc ++ [⟨2, (c :: cs).takeWhile (isK 3), line⟩])
    else if kindI c = 4 ∨ kindI c = 5 then
      match (c :: cs).dropWhile notNl with
      | [] => (endOf line begun acc, 0, 0)
      | _ :: r => lexB n r (line + 1) false (endOf line begun acc)
    else ([], line, 2)
def lexF (bs : List Int) : List Tok × Int × Int :=
  if 65536 < bs.length then ([], 0, 4) else lexB (bs.length + 1) bs 1 false []
end Go.Proofs.YtegbfimfpkendaaDoor.LexS
namespace Go.Proofs.YtegbfimfpkendaaDoor.LexA
open Go.RowKit Go.Proofs.YtegbfimfpkendaaDoorW.PrintWords Go.Proofs.YtegbfimfpkendaaDoorW.PrintLast LexS
set_option linter.unusedVariables false
set_option linter.unusedSimpArgs false
set_option maxHeartbeats 2000000 in
theorem kind_calls (c : Int) (w : World) :
    Calls Tryd.prog 48 #[.int .u8 c] w fun e w' => e = .returned (.int .i64 (kindI c)) ∧ w = w' := by
  rcases (show (97 ≤ c ∧ c ≤ 122) ∨ (65 ≤ c ∧ c ≤ 90) ∨ (48 ≤ c ∧ c ≤ 57) ∨ c = 32 ∨ c = 9 ∨ c = 13 ∨ c = 35 ∨ c = 10 ∨ (c ≤ 8 ∧ c ≤ 8) ∨ (11 ≤ c ∧ c ≤ 12) ∨ (14 ≤ c ∧ c ≤ 31) ∨ (33 ≤ c ∧ c ≤ 34) ∨ (36 ≤ c ∧ c ≤ 47) ∨ (58 ≤ c ∧ c ≤ 64) ∨ (91 ≤ c ∧ c ≤ 96) ∨ (123 ≤ c ∧ 123 ≤ c) from by omega) with h | h | h | rfl | rfl | rfl | rfl | rfl | h | h | h | h | h | h | h | h
  all_goals
    first
    | (go_enter Tryd.func48, Tryd.ntmps48
       go_wp2
       go_ret
       exact ⟨rfl, rfl⟩)
    | (obtain ⟨ha, hb⟩ := h
       have e1 : (c == 32) = false := beq_eq_false_iff_ne.2 (by omega)
       have e2 : (c == 9) = false := beq_eq_false_iff_ne.2 (by omega)
       have e3 : (c == 13) = false := beq_eq_false_iff_ne.2 (by omega)
       have e4 : (c == 35) = false := beq_eq_false_iff_ne.2 (by omega)
       have e5 : (c == 10) = false := beq_eq_false_iff_ne.2 (by omega)
       go_enter Tryd.func48, Tryd.ntmps48
       go_wp2
       go_ret
       exact ⟨congrArg (fun z => Ending.returned (.int .i64 z)) (by unfold kindI; (repeat' split) <;> omega), rfl⟩)
end Go.Proofs.YtegbfimfpkendaaDoor.LexA
namespace Go.Proofs.YtegbfimfpkendaaDoor.LexB
open Go.RowKit Go.Proofs.YtegbfimfpkendaaDoorW.PrintWords Go.Proofs.YtegbfimfpkendaaDoorW.PrintLast LexS LexA
set_option linter.unusedVariables false
set_option linter.unusedSimpArgs false
def kTok : Kd Tok := Kd.iso (Kd.pair (Kd.int .i64) (Kd.pair Kd.string (Kd.int .i64))) (fun x : Tok => (x.kind, strOfNums x.text, x.line))
theorem kTok_mkM (w : World) (base : Nat) (ok : Nat → Prop) (x : Tok) : kTok.M w base ok x [.int .i64 x.kind, .string (strOfNums x.text), .int .i64 x.line] :=
  ⟨[.int .i64 x.kind], [.string (strOfNums x.text), .int .i64 x.line], rfl, rfl, ⟨[.string (strOfNums x.text)], [.int .i64 x.line], rfl, rfl, rfl⟩⟩
def Sc (w0 W : World) (g : Nat) (A0 : Option Addr) (c0 : Nat) (bs : List Int) (at_ line : Int) (begun : Bool) (acc : List Tok) : Prop :=
  ∃ v4, W.heap[g]? = some (.cells #[.slice A0 bs.length c0, .int .i64 at_, .int .i64 line, .bool begun, v4] 92 (0, 0)) ∧ w0.heap.size ≤ g ∧
    (Kd.int .u8).C w0 A0 bs.length bs ∧ bs.length ≤ c0 ∧ kTok.R 95 W w0.heap.size (fun k => k ≠ g) v4 acc ∧ Below w0.heap.size w0 W
section
variable {w0 W : World} {g : Nat} {A0 : Option Addr} {c0 : Nat} {bs : List Int} {at_ line : Int} {begun : Bool} {acc : List Tok}
theorem Sc.drewN (h : Sc w0 W g A0 c0 bs at_ line begun acc) (n : Nat) : Sc w0 (W.drewN n) g A0 c0 bs at_ line begun acc := by
  obtain ⟨v4, hb, hg, hc, hl, ho, hB⟩ := h
  exact ⟨v4, hb, hg, hc, hl, Kd.R_drewN ho n, pw_below_drewN hB n⟩
theorem Sc.set1 (h : Sc w0 W g A0 c0 bs at_ line begun acc) (x : Int) : Sc w0 (W.setCell ⟨g, 1, none⟩ (.int .i64 x)) g A0 c0 bs x line begun acc := by
  obtain ⟨v4, hb, hg, hc, hl, ho, hB⟩ := h
  exact ⟨v4, by simpa using blk_set hb 1 (.int .i64 x), hg, hc, hl, Kd.R_far ho (fun k hk => hk) _, below_set hB hg⟩
theorem Sc.set2 (h : Sc w0 W g A0 c0 bs at_ line begun acc) (x : Int) : Sc w0 (W.setCell ⟨g, 2, none⟩ (.int .i64 x)) g A0 c0 bs at_ x begun acc := by
  obtain ⟨v4, hb, hg, hc, hl, ho, hB⟩ := h
  exact ⟨v4, by simpa using blk_set hb 2 (.int .i64 x), hg, hc, hl, Kd.R_far ho (fun k hk => hk) _, below_set hB hg⟩
theorem Sc.set3 (h : Sc w0 W g A0 c0 bs at_ line begun acc) (x : Bool) : Sc w0 (W.setCell ⟨g, 3, none⟩ (.bool x)) g A0 c0 bs at_ line x acc := by
  obtain ⟨v4, hb, hg, hc, hl, ho, hB⟩ := h
  exact ⟨v4, by simpa using blk_set hb 3 (.bool x), hg, hc, hl, Kd.R_far ho (fun k hk => hk) _, below_set hB hg⟩
theorem Sc.cells (h : Sc w0 W g A0 c0 bs at_ line begun acc) : W.cell? ⟨g, 0, none⟩ = some (.slice A0 bs.length c0) ∧ W.cell? ⟨g, 1, none⟩ = some (.int .i64 at_) ∧ W.cell? ⟨g, 2, none⟩ = some (.int .i64 line) ∧ W.cell? ⟨g, 3, none⟩ = some (.bool begun) := by
  obtain ⟨v4, hb, hg, hc, hl, ho, hB⟩ := h
  exact ⟨(blk_cell hb 0).trans rfl, (blk_cell hb 1).trans rfl, (blk_cell hb 2).trans rfl, (blk_cell hb 3).trans rfl⟩
theorem Sc.frozen (h : Sc w0 W g A0 c0 bs at_ line begun acc) (i : Nat) : W.frozen? ⟨g, i, none⟩ = false := by
  obtain ⟨v4, hb, hg, hc, hl, ho, hB⟩ := h
  exact blk_frozen hb i
theorem Sc.byte (h : Sc w0 W g A0 c0 bs at_ line begun acc) (h0 : 0 ≤ at_) (h1 : at_ < bs.length) : ∃ ad, A0 = some ad ∧ W.cell? (ad.add at_.toNat) = some (.int .u8 (rd bs at_)) := by
  obtain ⟨v4, hb, hg, hc, hl, ho, hB⟩ := h
  obtain ⟨ad, e, hx⟩ := Kd.at_int hc at_ h0 h1
  exact ⟨ad, e, pw_cell_below hB hx⟩
theorem Sc.len (h : Sc w0 W g A0 c0 bs at_ line begun acc) : bs.length ≤ 9223372036854775807 := by
  obtain ⟨v4, hb, hg, hc, hl, ho, hB⟩ := h
  exact Kd.C_max hc
end
theorem next_drop (bs : List Int) (at_ : Int) (h0 : 0 ≤ at_) (h1 : at_ < bs.length) : nextI (bs.drop at_.toNat) = kindI (rd bs at_) := by
  rw [List.drop_eq_getElem_cons (by omega : at_.toNat < bs.length)]
  simp [nextI, rd, List.getD_eq_getElem?_getD, List.getElem?_eq_getElem (by omega : at_.toNat < bs.length)]
set_option maxHeartbeats 2000000 in
set_option maxRecDepth 100000 in
theorem next_calls (w0 w : World) (g : Nat) (A0 : Option Addr) (c0 : Nat) (bs : List Int) (at_ line : Int) (begun : Bool) (acc : List Tok) (hS : Sc w0 w g A0 c0 bs at_ line begun acc) (h0 : 0 ≤ at_) (h1 : at_ ≤ bs.length) :
    Calls Tryd.prog 32 #[.pointer (some ⟨g, 0, none⟩)] w fun e w' => e = .returned (.int .i64 (nextI (bs.drop at_.toNat))) ∧ ∃ n, w' = w.drewN n := by
  obtain ⟨hc0, hc1, hc2, hc3⟩ := hS.cells
  by_cases hl : at_ < (bs.length : Int)
  · have c2 : (at_ == (bs.length : Int)) = false := beq_eq_false_iff_ne.2 (by omega)
    obtain ⟨ad, rfl, hx⟩ := hS.byte h0 hl
    have hn := Lib.hid (next_drop bs at_ h0 hl)
    replace h0 := eq_true h0
    replace hl := eq_true hl
    clear hS h1
    go_enter Tryd.func32, Tryd.ntmps32
    go_wp2
    go_quiet (fail)
    go_wp2
    go_quiet ((go_at_call 48; (with_reducible refine (kind_calls (rd bs at_) _).mono ?_); rintro e w' ⟨rfl, rfl⟩; (try first | exact ⟨rfl, _, rfl⟩ | exact ⟨rfl, 0, rfl⟩ | exact ⟨rfl, _, World.drewN_drewN _ _ _⟩)))
    go_wp2
    go_ret
    exact ⟨by rw [hn.out]; rfl, _, World.drewN_drewN _ _ _⟩
  · obtain rfl : at_ = bs.length := by omega
    have c2 : ((bs.length : Int) == (bs.length : Int)) = true := by simp
    clear hS
    go_enter Tryd.func32, Tryd.ntmps32
    go_wp2
    go_quiet (fail)
    go_wp2
    go_ret
    exact ⟨by simp [nextI], _, rfl⟩
theorem infoTok : (Tryd.prog.info? 95).map (fun i => (i.zero, i.size, i.bytes)) = some (some (.agg #[(.int .i64 0), (.string ⟨#[]⟩), (.int .i64 0)]), 3, 32) := by kernel_rfl
theorem Sc.row {w0 w : World} {g : Nat} {A0 : Option Addr} {c0 : Nat} {bs : List Int} {at_ line : Int} {begun : Bool} {acc : List Tok} (hS : Sc w0 w g A0 c0 bs at_ line begun acc) {w3 : World} {v4 v5 : Value} {acc' : List Tok} (hb3 : w3.heap[g]? = some (.cells #[.slice A0 bs.length c0, .int .i64 at_, .int .i64 line, .bool begun, v4] 92 (0, 0))) (ho3 : kTok.R 95 w3 w0.heap.size (fun k => k ≠ g) v5 acc') (hB3 : Below w0.heap.size w0 w3) :
    Sc w0 (w3.setCell ⟨g, 4, none⟩ v5) g A0 c0 bs at_ line begun acc' := by
  obtain ⟨v4', hb, hg, hc, hl, ho, hB⟩ := hS
  exact ⟨v5, by simpa using blk_set hb3 4 v5, hg, hc, hl, Kd.R_far ho3 (fun k hk => hk) _, below_set hB3 hg⟩
def EndPost (w0 : World) (g : Nat) (A0 : Option Addr) (c0 : Nat) (bs : List Int) (at_ line : Int) (begun : Bool) (acc : List Tok) (e : Ending) (w' : World) : Prop :=
  e = .returned (.bool (decide (at_ < bs.length))) ∧
      Sc w0 w' g A0 c0 bs (if at_ < bs.length then at_ + 1 else at_) (if at_ < bs.length then line + 1 else line) (if at_ < bs.length then false else begun) (endOf line begun acc)
set_option maxHeartbeats 2000000 in
set_option maxRecDepth 100000 in
theorem end_calls (w0 w : World) (g : Nat) (A0 : Option Addr) (c0 : Nat) (bs : List Int) (at_ line : Int) (begun : Bool) (acc : List Tok) (hS : Sc w0 w g A0 c0 bs at_ line begun acc) (h0 : 0 ≤ at_) (h1 : at_ ≤ bs.length)
    (hl : acc.length < 4398046511104) (hn0 : 0 ≤ line) (hn1 : line ≤ 4398046511104) :
    Calls Tryd.prog 34 #[.pointer (some ⟨g, 0, none⟩)] w (EndPost w0 g A0 c0 bs at_ line begun acc) := by
  have hlen := hS.len
  cases begun
  · go_enter Tryd.func34, Tryd.ntmps34
    have hc3 := hS.cells.2.2.2
    go_wp2
    clear hc3
    obtain ⟨ha0, ha1, ha2, ha3⟩ := hS.cells
    have hf1 := hS.frozen 1
    have hf2 := hS.frozen 2
    have hf3 := hS.frozen 3
    have HS := Lib.hid hS
    clear hS
    by_cases hlt : at_ < (bs.length : Int)
    · have c2 : (at_ == (bs.length : Int)) = false := beq_eq_false_iff_ne.2 (by omega)
      have hb1 : at_ ≤ 9223372036854775806 := by omega
      have hlt' := Lib.hid hlt
      go_wp2
      go_quiet (fail)
      go_wp2
      go_ret
      have hlt2 : at_ < (bs.length : Int) := by have := hlt'.out; omega
      refine ⟨by rw [decide_eq_true hlt2]; rfl, ?_⟩
      rw [if_pos hlt2, if_pos hlt2, if_pos hlt2]
      exact (((HS.out.drewN _).set1 _).set2 _).set3 _
    · have c2 : (at_ == (bs.length : Int)) = true := beq_iff_eq.2 (by omega)
      have hlt' := Lib.hid hlt
      go_wp2
      go_quiet (fail)
      go_wp2
      go_ret
      have hlt2 : ¬ (at_ < (bs.length : Int)) := by have := hlt'.out; omega
      refine ⟨by rw [decide_eq_false hlt2]; rfl, ?_⟩
      rw [if_neg hlt2, if_neg hlt2, if_neg hlt2]
      exact HS.out.drewN _
  · have hS0 := Lib.hid hS
    obtain ⟨v4, hb, hg, hc, hcl, ho, hB⟩ := hS
    have hne : some g ≠ v4.ownBlock := Kd.R_away ho (fun k hk => hk)
    have hc4 : w.drew.cell? ⟨g, 4, none⟩ = some v4 := (blk_cell (blk_drew hb) 4).trans rfl
    have hc2 : w.drew.cell? ⟨g, 2, none⟩ = some (.int .i64 line) := (blk_cell (blk_drew hb) 2).trans rfl
    have hc3 : w.cell? ⟨g, 3, none⟩ = some (.bool true) := (blk_cell hb 3).trans rfl
    go_enter Tryd.func34, Tryd.ntmps34
    go_wp2
    refine start_ (n := 15) (S := fun w' => w'.cell? ⟨g, 4, none⟩ = some v4 ∧ w'.cell? ⟨g, 2, none⟩ = some (.int .i64 line)) (ds := [14]) #[false, false, false, false, false, false, false, false, false, false, false, false, false, false, false] (by kernel_rfl) rfl rfl ⟨hc4, hc2⟩ (fun hHeld => ?_)
    refine pure_ (i := 0) (N := some 7) (v := ?_) (a' := ?_) #[true, false, false, false, false, false, false, false, false, false, false, false, false, false, false] rfl rfl (by kernel_rfl) (fun _ _ _ h => h) (Or.inl ⟨by rfl, ?_⟩) ?_ ?_
    rotate_left
    · intro w'
      go_simp
      with_reducible rfl
    rotate_left
    · simp only [Act.put, List.setIfInBounds_toArray, List.set_cons_zero, List.set_cons_succ, i64_w, i32_w]
      rfl
    refine pure_ (i := 1) (N := some 8) (v := ?_) (a' := ?_) #[true, true, false, false, false, false, false, false, false, false, false, false, false, false, false] rfl rfl (by kernel_rfl) (fun _ _ _ h => h) (Or.inl ⟨by rfl, ?_⟩) ?_ ?_
    rotate_left
    · intro w'
      go_simp
      with_reducible rfl
    rotate_left
    · simp only [Act.put, List.setIfInBounds_toArray, List.set_cons_zero, List.set_cons_succ, i64_w, i32_w]
      rfl
    refine pure_ (i := 2) (N := some 9) (v := ?_) (a' := ?_) #[true, true, true, false, false, false, false, false, false, false, false, false, false, false, false] rfl rfl (by kernel_rfl) (fun _ _ _ h => h) (Or.inl ⟨by rfl, ?_⟩) ?_ ?_
    rotate_left
    · intro w'
      go_simp
      with_reducible rfl
    rotate_left
    · simp only [Act.put, List.setIfInBounds_toArray, List.set_cons_zero, List.set_cons_succ, i64_w, i32_w]
      rfl
    refine pure_ (i := 3) (N := some 10) (v := ?_) (a' := ?_) #[true, true, true, true, false, false, false, false, false, false, false, false, false, false, false] rfl rfl (by kernel_rfl) (fun _ _ _ h => h) (Or.inl ⟨by rfl, ?_⟩) ?_ ?_
    rotate_left
    · intro w'
      go_simp
      with_reducible rfl
    rotate_left
    · simp only [Act.put, List.setIfInBounds_toArray, List.set_cons_zero, List.set_cons_succ, i64_w, i32_w]
      rfl
    refine pure_ (i := 5) (N := some 12) (v := ?_) (a' := ?_) #[true, true, true, true, false, true, false, false, false, false, false, false, false, false, false] rfl rfl (by kernel_rfl) (fun _ _ _ h => h) (Or.inl ⟨by rfl, ?_⟩) ?_ ?_
    rotate_left
    · intro w'
      go_simp
      with_reducible rfl
    rotate_left
    · simp only [Act.put, List.setIfInBounds_toArray, List.set_cons_zero, List.set_cons_succ, i64_w, i32_w]
      rfl
    refine pure_ (i := 6) (N := some 13) (v := ?_) (a' := ?_) #[true, true, true, true, false, true, true, false, false, false, false, false, false, false, false] rfl rfl (by kernel_rfl) (fun _ _ _ h => h) (Or.inl ⟨by rfl, ?_⟩) ?_ ?_
    rotate_left
    · intro w'
      go_simp
      with_reducible rfl
    rotate_left
    · simp only [Act.put, List.setIfInBounds_toArray, List.set_cons_zero, List.set_cons_succ, i64_w, i32_w]
      rfl
    refine pure_ (i := 7) (N := some 14) (v := ?_) (a' := ?_) #[true, true, true, true, false, true, true, true, false, false, false, false, false, false, false] rfl rfl (by kernel_rfl) (fun _ _ _ h => h) (Or.inl ⟨by rfl, ?_⟩) ?_ ?_
    rotate_left
    · intro w'
      go_simp
      with_reducible rfl
    rotate_left
    · simp only [Act.put, List.setIfInBounds_toArray, List.set_cons_zero, List.set_cons_succ, i64_w, i32_w]
      rfl
    refine take_ (i := 4) (N := some 11) (v := ?_) (a' := ?_) #[true, true, true, true, true, true, true, true, false, false, false, false, false, false, false] rfl rfl (by kernel_rfl) (fun _ _ _ h => h) (Or.inl ⟨by rfl, ?_⟩) hHeld ?_ ?_
    rotate_left
    · rintro w' ⟨s0, s1⟩
      go_simp
      with_reducible rfl
    rotate_left
    · simp only [Act.put, List.setIfInBounds_toArray, List.set_cons_zero, List.set_cons_succ, i64_w, i32_w]
      rfl
    refine take_ (i := 8) (N := some 15) (v := ?_) (a' := ?_) #[true, true, true, true, true, true, true, true, true, false, false, false, false, false, false] rfl rfl (by kernel_rfl) (fun _ _ _ h => h) (Or.inl ⟨by rfl, ?_⟩) hHeld ?_ ?_
    rotate_left
    · rintro w' ⟨s0, s1⟩
      go_simp
      with_reducible rfl
    rotate_left
    · simp only [Act.put, List.setIfInBounds_toArray, List.set_cons_zero, List.set_cons_succ, i64_w, i32_w]
      rfl
    refine pure_ (i := 9) (N := some 16) (v := ?_) (a' := ?_) #[true, true, true, true, true, true, true, true, true, true, false, false, false, false, false] rfl rfl (by kernel_rfl) (fun _ _ _ h => h) (Or.inl ⟨by rfl, ?_⟩) ?_ ?_
    rotate_left
    · intro w'
      go_simp
      with_reducible rfl
    rotate_left
    · simp only [Act.put, List.setIfInBounds_toArray, List.set_cons_zero, List.set_cons_succ, i64_w, i32_w]
      rfl
    refine one_ (i := 10) (N := some 17) #[true, true, true, true, true, true, true, true, true, true, true, false, false, false, false] rfl rfl (by kernel_rfl) (by decide) (fun K hK => ?_)
    refine value_ (w1 := ?_) (v := ?_) (by rfl) rfl ?_ ?_
    rotate_left 2
    · go_simp
      constructor
      · rfl
      · rfl
    refine hK.out _ _ ⟨(blk_cell (blk_alloc (blk_drew hb) _) 4).trans rfl, (blk_cell (blk_alloc (blk_drew hb) _) 2).trans rfl⟩ (fun hHeld => ?_)
    clear hK K
    refine norm_ (a' := ?_) ?_ ?_
    rotate_left
    · show Act.put _ (some 17) _ = _
      simp only [Act.put, List.setIfInBounds_toArray, List.set_cons_zero, List.set_cons_succ, i64_w, i32_w]
      rfl
    refine one_ (i := 11) (N := some 18) #[true, true, true, true, true, true, true, true, true, true, true, true, false, false, false] rfl rfl (by kernel_rfl) (by decide) (fun K hK => ?_)
    refine Kd.R_append_step kTok (w0 := w0) w0.heap.size (by rfl) (.tmp 11) (.tmp 17) 53 95 (.agg #[(.int .i64 0), (.string ⟨#[]⟩), (.int .i64 0)]) 32 rfl Tryd.underlying53 infoTok rfl (by decide) (by decide) v4 acc ⟨3, [], line⟩ [.int .i64 3, .string ⟨#[]⟩, .int .i64 line] (fun k => k ≠ g) (fun _ => False) rfl rfl (kTok_mkM _ _ _ ⟨3, [], line⟩) (fun _ h => h.elim) (fun k hk => by have := blk_lt hb; simp at hk; omega) (Kd.R_drew ho) (below_drew hB) hB.size (by omega) ?_
    intro v1 w3 ho3 hB3 hg3 hat3
    obtain ⟨A1, c1, hv1⟩ := Kd.R_slice ho3
    generalize List.length _ = L at hv1
    subst hv1
    have hb3 := blk_grown (blk_drew hb) hg3 hne
    have hc4' : w3.cell? ⟨g, 4, none⟩ = some v4 := (blk_cell hb3 4).trans rfl
    have hf4' : w3.frozen? ⟨g, 4, none⟩ = false := blk_frozen hb3 4
    refine hK.out _ _ ⟨(blk_cell hb3 4).trans rfl, (blk_cell hb3 2).trans rfl⟩ (fun hHeld => ?_)
    clear hK K
    refine norm_ (a' := ?_) ?_ ?_
    rotate_left
    · show Act.put _ (some 18) _ = _
      simp only [Act.put, List.setIfInBounds_toArray, List.set_cons_zero, List.set_cons_succ, i64_w, i32_w]
      rfl
    refine pure_ (i := 12) (N := some 19) (v := ?_) (a' := ?_) #[true, true, true, true, true, true, true, true, true, true, true, true, true, false, false] rfl rfl (by kernel_rfl) (fun _ _ _ h => h) (Or.inl ⟨by rfl, ?_⟩) ?_ ?_
    rotate_left
    · intro w'
      go_simp
      with_reducible rfl
    rotate_left
    · simp only [Act.put, List.setIfInBounds_toArray, List.set_cons_zero, List.set_cons_succ, i64_w, i32_w]
      rfl
    refine pure_ (i := 13) (N := some 20) (v := ?_) (a' := ?_) #[true, true, true, true, true, true, true, true, true, true, true, true, true, true, false] rfl rfl (by kernel_rfl) (fun _ _ _ h => h) (Or.inl ⟨by rfl, ?_⟩) ?_ ?_
    rotate_left
    · intro w'
      go_simp
      with_reducible rfl
    rotate_left
    · simp only [Act.put, List.setIfInBounds_toArray, List.set_cons_zero, List.set_cons_succ, i64_w, i32_w]
      rfl
    refine last_ (i := 14) (N := none) #[true, true, true, true, true, true, true, true, true, true, true, true, true, true, true] rfl rfl (by kernel_rfl) (by decide) (fun K hK => ?_)
    refine skip_ (w1 := ?_) (by rfl) rfl ?_ ?_
    rotate_left
    · go_simp
      rfl
    refine hK.out _ _ ?_
    clear hK K
    refine done_ (by kernel_rfl) ?_

    have hS2 := Sc.row hS0.out hb3 ho3 hB3
    clear hb3 ho3 hB3 hg3 hat3 hc4' hf4' hHeld hne hc4 hc2 hc3
    generalize hW : w3.setCell ⟨g, 4, none⟩ _ = W2 at hS2 ⊢
    clear hW
    clear hS0 hb ho hB
    obtain ⟨ha0, ha1, ha2, ha3⟩ := hS2.cells
    have hf1 := hS2.frozen 1
    have hf2 := hS2.frozen 2
    have hf3 := hS2.frozen 3
    have HS := Lib.hid hS2
    clear hS2
    by_cases hlt : at_ < (bs.length : Int)
    · have c2 : (at_ == (bs.length : Int)) = false := beq_eq_false_iff_ne.2 (by omega)
      have hb1 : at_ ≤ 9223372036854775806 := by omega
      have hlt' := Lib.hid hlt
      go_wp2
      go_quiet (fail)
      go_wp2
      go_ret
      have hlt2 : at_ < (bs.length : Int) := by have := hlt'.out; omega
      refine ⟨by rw [decide_eq_true hlt2]; rfl, ?_⟩
      rw [if_pos hlt2, if_pos hlt2, if_pos hlt2]
      exact (((HS.out.drewN _).set1 _).set2 _).set3 _
    · have c2 : (at_ == (bs.length : Int)) = true := beq_iff_eq.2 (by omega)
      have hlt' := Lib.hid hlt
      go_wp2
      go_quiet (fail)
      go_wp2
      go_ret
      have hlt2 : ¬ (at_ < (bs.length : Int)) := by have := hlt'.out; omega
      refine ⟨by rw [decide_eq_false hlt2]; rfl, ?_⟩
      rw [if_neg hlt2, if_neg hlt2, if_neg hlt2]
      exact HS.out.drewN _
end Go.Proofs.YtegbfimfpkendaaDoor.LexB
