/- The walk of Lex. No condition. -/
import Derived.Test.YtegbfimfpkendaaDoorLexC
import Derived.Test.YtegbfimfpkendaaDoorGoto
import Derived.WalkMore
import Derived.Outline
namespace Go.Proofs.YtegbfimfpkendaaDoor.LexD
open Go.RowKit Go.Proofs.YtegbfimfpkendaaDoorW.PrintWords Go.Proofs.YtegbfimfpkendaaDoorW.PrintLast LexS LexA LexB LexC Goto
set_option linter.unusedVariables false
set_option linter.unusedSimpArgs false
noncomputable def scopeBody : Code := match Tryd.f18.body with | some (.seq _ (.scope c)) => c | _ => .skip
noncomputable def labelBody (l : Nat) : Code := match findLabel scopeBody l with | some (.seq .skip b) => b | _ => .skip
theorem find0 : findLabel scopeBody 0 = some (.seq .skip (labelBody 0)) := by rfl
theorem find1 : findLabel scopeBody 1 = some (.seq .skip (labelBody 1)) := by rfl
theorem find2 : findLabel scopeBody 2 = some (.seq .skip (labelBody 2)) := by rfl
theorem find3 : findLabel scopeBody 3 = some (.seq .skip (labelBody 3)) := by rfl
def endB (n : Nat) (rest : List Int) (line : Int) (begun : Bool) (acc : List Tok) : List Tok × Int × Int :=
  match rest with
  | [] => (endOf line begun acc, 0, 0)
  | _ :: r => lexB n r (line + 1) false (endOf line begun acc)
def FrameAt (A0 : Option Addr) (n c0 g : Nat) (a : Act) : Prop :=
  ∃ u1 u2 u3 u4 u6 u7 u8 u9 u10 u11 u12 u13 u14 u15 u16 u17 u18 u19 u20 u21 u22 u23 u24 u25 u26 u27 u28 u29 u30 u31 u32 u33 u34 u35 u36 u37 u38 u39 u40 u41 u42 u43 u44 u45 u46 u47 u48 u49 u50 u51 u52 u53 u54 u55 u56 u57 u58 u59 u60 : Value, a = { tmps := #[.slice A0 n c0, u1, u2, u3, u4, .pointer (some ⟨g, 0, none⟩), u6, u7, u8, u9, u10, u11, u12, u13, u14, u15, u16, u17, u18, u19, u20, u21, u22, u23, u24, u25, u26, u27, u28, u29, u30, u31, u32, u33, u34, u35, u36, u37, u38, u39, u40, u41, u42, u43, u44, u45, u46, u47, u48, u49, u50, u51, u52, u53, u54, u55, u56, u57, u58, u59, u60], defers := [] }
def LSt (l m : Nat) (bs : List Int) (at_ line : Int) (begun : Bool) (acc : List Tok) (n : Nat) : Prop :=
  (l = 0 ∧ bs.length - at_.toNat < n ∧ m = 4 * (bs.length - at_.toNat) + 3 ∧ lexB n (bs.drop at_.toNat) line begun acc = lexF bs) ∨
  (l = 1 ∧ m = 0 ∧ lexF bs = ([], line, 2)) ∨
  (l = 2 ∧ bs.length - at_.toNat ≤ n ∧ m = 4 * (bs.length - at_.toNat) + 2 ∧ endB n ((bs.drop at_.toNat).dropWhile notNl) line begun acc = lexF bs) ∨
  (l = 3 ∧ bs.length - at_.toNat ≤ n ∧ m = 4 * (bs.length - at_.toNat) + 1 ∧ endB n (bs.drop at_.toNat) line begun acc = lexF bs)
def LInv (w0 : World) (A0 : Option Addr) (c0 : Nat) (bs : List Int) (l m : Nat) (a : Act) (w' : World) : Prop :=
  ∃ (g : Nat) (at_ line : Int) (begun : Bool) (acc : List Tok) (n : Nat), FrameAt A0 bs.length c0 g a ∧ Sc w0 w' g A0 c0 bs at_ line begun acc ∧ 0 ≤ at_ ∧ at_ ≤ bs.length ∧ (acc.length : Int) ≤ at_ ∧ 0 ≤ line ∧ line ≤ at_ + 1 ∧ bs.length ≤ 65536 ∧ LSt l m bs at_ line begun acc n
def LexPost (w0 : World) (bs : List Int) (e : Ending) (w' : World) : Prop :=
  ∃ v : Value, e = .returned (.tuple #[v, .int .i64 (lexF bs).2.1, .int .i64 (lexF bs).2.2]) ∧ kTok.R 95 w' w0.heap.size (fun _ => True) v (lexF bs).1 ∧ Below w0.heap.size w0 w'
abbrev Jumps (w0 : World) (A0 : Option Addr) (c0 : Nat) (bs : List Int) (m : Nat) : Exit → Act → World → Prop :=
  jumps (fun l' a' w' => ∃ m', m' < m ∧ LInv w0 A0 c0 bs l' m' a' w') (bodyPost Tryd.prog Tryd.f18 (LexPost w0 bs))
theorem Jumps_ret {w0 : World} {A0 : Option Addr} {c0 : Nat} {bs : List Int} {m : Nat} {a : Act} {w : World} (h : bodyPost Tryd.prog Tryd.f18 (LexPost w0 bs) .ret a w) : Jumps w0 A0 c0 bs m .ret a w := h
theorem Jumps_goto {w0 : World} {A0 : Option Addr} {c0 : Nat} {bs : List Int} {m l : Nat} {a : Act} {w : World} (m' : Nat) (hm : m' < m) (h : LInv w0 A0 c0 bs l m' a w) : Jumps w0 A0 c0 bs m (.goto l) a w := ⟨m', hm, h⟩
theorem LSt1 {m : Nat} {bs : List Int} {at_ line : Int} {begun : Bool} {acc : List Tok} {n : Nat} (h : LSt 1 m bs at_ line begun acc n) : m = 0 ∧ lexF bs = ([], line, 2) := by
  rcases h with h | h | h | h
  · exact absurd h.1 (by decide)
  · exact h.2
  · exact absurd h.1 (by decide)
  · exact absurd h.1 (by decide)
set_option maxRecDepth 100000 in
theorem pass1 (w0 : World) (A0 : Option Addr) (c0 : Nat) (bs : List Int) (m : Nat) (a : Act) (w : World) (hJ : LInv w0 A0 c0 bs 1 m a w) : (labelBody 1).wp Tryd.prog (Jumps w0 A0 c0 bs m) a w := by
  obtain ⟨g, at_, line, begun, acc, n, ⟨u1, u2, u3, u4, u6, u7, u8, u9, u10, u11, u12, u13, u14, u15, u16, u17, u18, u19, u20, u21, u22, u23, u24, u25, u26, u27, u28, u29, u30, u31, u32, u33, u34, u35, u36, u37, u38, u39, u40, u41, u42, u43, u44, u45, u46, u47, u48, u49, u50, u51, u52, u53, u54, u55, u56, u57, u58, u59, u60, rfl⟩, hS, h0, h1, hl, hn0, hn1, hbs, hst⟩ := hJ
  obtain ⟨rfl, hR⟩ := LSt1 hst
  obtain ⟨hc0, hc1, hc2, hc3⟩ := hS.cells
  have HS := Lib.hid hS
  have HR := Lib.hid hR
  clear hS hR hst
  change (Code.seq _ _).wp _ _ _ _
  go_wp2
  go_quiet (fail)
  go_wp2
  refine Jumps_ret ?_
  go_ret3
  rw [LexPost, HR.out]
  exact ⟨.slice none 0 0, rfl, Kd.R_nil _ _ _ _ _, (by obtain ⟨v4, hb, hg, hc, hcl, ho, hB⟩ := HS.out; exact pw_below_drewN hB _)⟩
theorem LSt3 {m : Nat} {bs : List Int} {at_ line : Int} {begun : Bool} {acc : List Tok} {n : Nat} (h : LSt 3 m bs at_ line begun acc n) : bs.length - at_.toNat ≤ n ∧ m = 4 * (bs.length - at_.toNat) + 1 ∧ endB n (bs.drop at_.toNat) line begun acc = lexF bs := by
  rcases h with h | h | h | h
  · exact absurd h.1 (by decide)
  · exact absurd h.1 (by decide)
  · exact absurd h.1 (by decide)
  · exact h.2
theorem endOf_len (line : Int) (begun : Bool) (acc : List Tok) : (endOf line begun acc).length ≤ acc.length + 1 := by
  unfold endOf
  split <;> simp
set_option maxHeartbeats 1000000 in
set_option maxRecDepth 100000 in
theorem pass3 (w0 : World) (A0 : Option Addr) (c0 : Nat) (bs : List Int) (m : Nat) (a : Act) (w : World) (hJ : LInv w0 A0 c0 bs 3 m a w) : (labelBody 3).wp Tryd.prog (Jumps w0 A0 c0 bs m) a w := by
  obtain ⟨g, at_, line, begun, acc, n, ⟨u1, u2, u3, u4, u6, u7, u8, u9, u10, u11, u12, u13, u14, u15, u16, u17, u18, u19, u20, u21, u22, u23, u24, u25, u26, u27, u28, u29, u30, u31, u32, u33, u34, u35, u36, u37, u38, u39, u40, u41, u42, u43, u44, u45, u46, u47, u48, u49, u50, u51, u52, u53, u54, u55, u56, u57, u58, u59, u60, rfl⟩, hS, h0, h1, hl, hn0, hn1, hbs, hst⟩ := hJ
  obtain ⟨hn, rfl, hR⟩ := LSt3 hst
  have hle := endOf_len line begun acc
  have HR := Lib.hid hR
  clear hR hst
  change (Code.seq _ _).wp _ _ _ _
  by_cases hlt : at_ < (bs.length : Int)
  · have Hlt := Lib.hid hlt
    go_wp2_with (go_at_call 34; (with_reducible refine (end_calls w0 _ g A0 c0 bs at_ line begun acc hS h0 h1 (by omega) hn0 (by omega)).mono ?_); rintro e w1 ⟨rfl, hS1⟩; rw [decide_eq_true Hlt.out]; rw [if_pos Hlt.out, if_pos Hlt.out, if_pos Hlt.out] at hS1; have HS1 := Lib.hid hS1; clear hS1)
    go_step3
    refine Jumps_goto (4 * (bs.length - (at_ + 1).toNat) + 3) (by omega) ⟨g, at_ + 1, line + 1, false, endOf line begun acc, n, ⟨_, _, _, _, _, _, _, _, _, _, _, _, _, _, _, _, _, _, _, _, _, _, _, _, _, _, _, _, _, _, _, _, _, _, _, _, _, _, _, _, _, _, _, _, _, _, _, _, _, _, _, _, _, _, _, _, _, _, _, rfl⟩, HS1.out, by omega, by omega, by omega, by omega, by omega, hbs, .inl ⟨rfl, by omega, rfl, ?_⟩⟩
    have h := HR.out
    rw [List.drop_eq_getElem_cons (by omega : at_.toNat < bs.length)] at h
    rw [show (at_ + 1).toNat = at_.toNat + 1 from by omega]
    exact h
  · have Hlt := Lib.hid hlt
    obtain rfl : at_ = bs.length := by omega
    go_wp2_with (go_at_call 34; (with_reducible refine (end_calls w0 _ g A0 c0 bs _ line begun acc hS h0 h1 (by omega) hn0 (by omega)).mono ?_); rintro e w1 ⟨rfl, hS1⟩; rw [decide_eq_false (Int.lt_irrefl _)]; rw [if_neg (Int.lt_irrefl _), if_neg (Int.lt_irrefl _), if_neg (Int.lt_irrefl _)] at hS1; have HS1 := Lib.hid hS1; obtain ⟨v4, hb1, hg1, hcc1, hcl1, ho1, hB1⟩ := hS1; have hc4 : w1.cell? ⟨g, 4, none⟩ = some v4 := (blk_cell hb1 4).trans rfl; clear hb1 hg1 hcc1 hcl1)
    have Ho := Aside0.mk ho1
    have Hb := Aside0.mk hB1
    clear ho1 hB1
    go_wp2
    refine Jumps_ret ?_
    go_ret3
    have h := HR.out
    rw [show List.drop (bs.length : Int).toNat bs = [] from by simp] at h
    rw [LexPost, ← h]
    exact ⟨v4, rfl, Kd.R_mono Ho.out (fun _ _ => trivial), Hb.out⟩
theorem LSt2 {m : Nat} {bs : List Int} {at_ line : Int} {begun : Bool} {acc : List Tok} {n : Nat} (h : LSt 2 m bs at_ line begun acc n) : bs.length - at_.toNat ≤ n ∧ m = 4 * (bs.length - at_.toNat) + 2 ∧ endB n ((bs.drop at_.toNat).dropWhile notNl) line begun acc = lexF bs := by
  rcases h with h | h | h | h
  · exact absurd h.1 (by decide)
  · exact absurd h.1 (by decide)
  · exact h.2
  · exact absurd h.1 (by decide)
theorem LSt0 {m : Nat} {bs : List Int} {at_ line : Int} {begun : Bool} {acc : List Tok} {n : Nat} (h : LSt 0 m bs at_ line begun acc n) : bs.length - at_.toNat < n ∧ m = 4 * (bs.length - at_.toNat) + 3 ∧ lexB n (bs.drop at_.toNat) line begun acc = lexF bs := by
  rcases h with h | h | h | h
  · exact h.2
  · exact absurd h.1 (by decide)
  · exact absurd h.1 (by decide)
  · exact absurd h.1 (by decide)
theorem notNl_nl (bs : List Int) (h : nextI bs = 5) : bs.dropWhile notNl = bs := by
  cases bs with
  | nil => rfl
  | cons c cs =>
    have hc : c = 10 := by
      by_cases hc : c = 10
      · exact hc
      · have : kindI c ≠ 5 := by unfold kindI; (repeat' split) <;> omega
        exact absurd h this
    subst hc
    rfl
theorem notNl_go (bs : List Int) (h : ¬ nextI bs = 5) : ∃ c cs, bs = c :: cs ∧ bs.dropWhile notNl = cs.dropWhile notNl := by
  cases bs with
  | nil => exact absurd rfl h
  | cons c cs =>
    have hc : ¬ c = 10 := by
      rintro rfl
      exact h rfl
    exact ⟨c, cs, rfl, by rw [List.dropWhile_cons_of_pos (by simp [notNl, hc])]⟩
theorem lower {w0 : World} {A0 : Option Addr} {c0 : Nat} {bs : List Int} {m m' : Nat} (h : m ≤ m') : ∀ e a w, Jumps w0 A0 c0 bs m e a w → Jumps w0 A0 c0 bs m' e a w := by
  intro e a w hq
  cases e with
  | goto l =>
    obtain ⟨k, hk, hq⟩ := hq
    exact ⟨k, by omega, hq⟩
  | normal => exact hq
  | exit id => exact hq
  | ret => exact hq
  | panic ch => exact hq
  | outgrown => exact hq
set_option maxHeartbeats 1000000 in
set_option maxRecDepth 100000 in
theorem pass2 (w0 : World) (A0 : Option Addr) (c0 : Nat) (bs : List Int) (m : Nat) (a : Act) (w : World) (hJ : LInv w0 A0 c0 bs 2 m a w) : (labelBody 2).wp Tryd.prog (Jumps w0 A0 c0 bs m) a w := by
  obtain ⟨g, at_, line, begun, acc, n, ⟨u1, u2, u3, u4, u6, u7, u8, u9, u10, u11, u12, u13, u14, u15, u16, u17, u18, u19, u20, u21, u22, u23, u24, u25, u26, u27, u28, u29, u30, u31, u32, u33, u34, u35, u36, u37, u38, u39, u40, u41, u42, u43, u44, u45, u46, u47, u48, u49, u50, u51, u52, u53, u54, u55, u56, u57, u58, u59, u60, rfl⟩, hS, h0, h1, hl, hn0, hn1, hbs, hst⟩ := hJ
  obtain ⟨hn, rfl, hR⟩ := LSt2 hst
  obtain ⟨hc0, hc1, hc2, hc3⟩ := hS.cells
  have hf1 := hS.frozen 1
  have HR := Lib.hid hR
  have HS := Aside0.mk hS
  clear hR hst hS
  change (Code.seq _ _).wp _ _ _ _
  by_cases hnx : nextI (bs.drop at_.toNat) = 5
  · have hnb : (nextI (bs.drop at_.toNat) != 5) = false := bne_eq_false_iff_eq.2 hnx
    have Hnx := Lib.hid hnx
    clear hnx
    go_wp2_with (go_at_call 32; (with_reducible refine (next_calls w0 _ g A0 c0 bs at_ line begun acc HS.out h0 h1).mono ?_); rintro e w1 ⟨rfl, nd, rfl⟩)
    go_step3
    rename_i K hK
    refine hK _ _ ?_
    refine wp_mono (pass3 w0 A0 c0 bs (4 * (bs.length - at_.toNat) + 1) _ _ ⟨g, at_, line, begun, acc, n, ⟨_, _, _, _, _, _, _, _, _, _, _, _, _, _, _, _, _, _, _, _, _, _, _, _, _, _, _, _, _, _, _, _, _, _, _, _, _, _, _, _, _, _, _, _, _, _, _, _, _, _, _, _, _, _, _, _, _, _, _, rfl⟩, HS.out.drewN _, h0, h1, hl, hn0, hn1, hbs, .inr (.inr (.inr ⟨rfl, hn, rfl, ?_⟩))⟩) (lower (by omega))
    have h := HR.out
    rw [notNl_nl _ Hnx.out] at h
    exact h
  · have hnb : (nextI (bs.drop at_.toNat) != 5) = true := bne_iff_ne.2 hnx
    have Hnx := Aside0.mk hnx
    clear hnx
    go_wp2_with (go_at_call 32; (with_reducible refine (next_calls w0 _ g A0 c0 bs at_ line begun acc HS.out h0 h1).mono ?_); rintro e w1 ⟨rfl, nd, rfl⟩)
    go_step3
    have hlt : at_ < bs.length := by
      by_cases h : at_ < (bs.length : Int)
      · exact h
      · exact absurd (show nextI (bs.drop at_.toNat) = 5 by rw [List.drop_eq_nil_of_le (by omega)]; rfl) Hnx.out
    refine Jumps_goto (4 * (bs.length - (at_ + 1).toNat) + 2) (by omega) ⟨g, at_ + 1, line, begun, acc, n, ⟨_, _, _, _, _, _, _, _, _, _, _, _, _, _, _, _, _, _, _, _, _, _, _, _, _, _, _, _, _, _, _, _, _, _, _, _, _, _, _, _, _, _, _, _, _, _, _, _, _, _, _, _, _, _, _, _, _, _, _, rfl⟩, (HS.out.drewN _).set1 _, by omega, by omega, by omega, by omega, by omega, hbs, .inr (.inr (.inl ⟨rfl, by omega, rfl, ?_⟩))⟩
    have h := HR.out
    obtain ⟨c, cs, e1, e2⟩ := notNl_go _ Hnx.out
    rw [e2] at h
    rw [show (at_ + 1).toNat = at_.toNat + 1 from by omega, ← List.drop_drop, e1]
    exact h
theorem B_space {n : Nat} {l : List Int} {line : Int} {begun : Bool} {acc : List Tok} (h : nextI l = 1) : ∃ c cs, l = c :: cs ∧ lexB (n + 1) l line begun acc = lexB n cs line begun acc := by
  cases l with
  | nil => exact absurd h (by decide)
  | cons c cs => exact ⟨c, cs, rfl, by rw [lexB]; exact if_pos h⟩
theorem B_letter {n : Nat} {l : List Int} {line : Int} {begun : Bool} {acc : List Tok} (h : nextI l = 2) : lexB (n + 1) l line begun acc = if nextI (l.dropWhile (isK 2)) = 3 then ([], line, 2) else lexB n (l.dropWhile (isK 2)) line true (acc ++ [⟨1, l.takeWhile (isK 2), line⟩]) := by
  cases l with
  | nil => exact absurd h (by decide)
  | cons c cs =>
    have h' : kindI c = 2 := h
    rw [lexB, if_neg (by omega), if_pos h']
theorem B_digit {n : Nat} {l : List Int} {line : Int} {begun : Bool} {acc : List Tok} (h : nextI l = 3) : lexB (n + 1) l line begun acc = if nextI (l.dropWhile (isK 3)) = 2 then ([], line, 2) else lexB n (l.dropWhile (isK 3)) line true (acc ++ [⟨2, l.takeWhile (isK 3), line⟩]) := by
  cases l with
  | nil => exact absurd h (by decide)
  | cons c cs =>
    have h' : kindI c = 3 := h
    rw [lexB, if_neg (by omega), if_neg (by omega), if_pos h']
theorem B_end {n : Nat} {l : List Int} {line : Int} {begun : Bool} {acc : List Tok} (h : nextI l = 4 ∨ nextI l = 5) : lexB (n + 1) l line begun acc = endB n (l.dropWhile notNl) line begun acc := by
  cases l with
  | nil => rfl
  | cons c cs =>
    have h' : kindI c = 4 ∨ kindI c = 5 := h
    rw [lexB, if_neg (by omega), if_neg (by omega), if_neg (by omega), if_pos h']
    unfold endB
    cases (c :: cs).dropWhile notNl <;> rfl
theorem B_wrong {n : Nat} {l : List Int} {line : Int} {begun : Bool} {acc : List Tok} (h : nextI l = 0) : lexB (n + 1) l line begun acc = ([], line, 2) := by
  cases l with
  | nil => exact absurd h (by decide)
  | cons c cs =>
    have h' : kindI c = 0 := h
    rw [lexB, if_neg (by omega), if_neg (by omega), if_neg (by omega), if_neg (by omega)]
theorem next_range (l : List Int) : nextI l = 0 ∨ nextI l = 1 ∨ nextI l = 2 ∨ nextI l = 3 ∨ nextI l = 4 ∨ nextI l = 5 := by
  cases l with
  | nil => exact .inr (.inr (.inr (.inr (.inr rfl))))
  | cons c cs =>
    show kindI c = 0 ∨ kindI c = 1 ∨ kindI c = 2 ∨ kindI c = 3 ∨ kindI c = 4 ∨ kindI c = 5
    unfold kindI
    (repeat' split) <;> omega
theorem next_lt (bs : List Int) (at_ : Int) (h0 : 0 ≤ at_) (h : ¬ nextI (bs.drop at_.toNat) = 5) : at_ < bs.length := by
  by_cases h' : at_ < (bs.length : Int)
  · exact h'
  · exact absurd (show nextI (bs.drop at_.toNat) = 5 by rw [List.drop_eq_nil_of_le (by omega)]; rfl) h
theorem take_pos (k : Int) (l : List Int) (h : nextI l = k) (hl : l ≠ []) : 0 < (l.takeWhile (isK k)).length := by
  cases l with
  | nil => exact absurd rfl hl
  | cons c cs =>
    have h' : kindI c = k := h
    rw [List.takeWhile_cons_of_pos (by simp [isK, h'])]
    simp
theorem drop_take (k : Int) (bs : List Int) (at_ : Int) (h0 : 0 ≤ at_) : bs.drop (at_ + (((bs.drop at_.toNat).takeWhile (isK k)).length : Nat)).toNat = (bs.drop at_.toNat).dropWhile (isK k) := by
  rw [← tw_drop, List.drop_drop]
  congr 1
  omega
theorem take_le (k : Int) (bs : List Int) (at_ : Int) (h0 : 0 ≤ at_) (h1 : at_ ≤ bs.length) : at_ + (((bs.drop at_.toNat).takeWhile (isK k)).length : Nat) ≤ bs.length := by
  have := tw_len (isK k) (bs.drop at_.toNat)
  rw [List.length_drop] at this
  omega
set_option maxHeartbeats 4000000 in
set_option maxRecDepth 100000 in
theorem pass0 (w0 : World) (A0 : Option Addr) (c0 : Nat) (bs : List Int) (m : Nat) (a : Act) (w : World) (hJ : LInv w0 A0 c0 bs 0 m a w) : (labelBody 0).wp Tryd.prog (Jumps w0 A0 c0 bs m) a w := by
  obtain ⟨g, at_, line, begun, acc, n, ⟨u1, u2, u3, u4, u6, u7, u8, u9, u10, u11, u12, u13, u14, u15, u16, u17, u18, u19, u20, u21, u22, u23, u24, u25, u26, u27, u28, u29, u30, u31, u32, u33, u34, u35, u36, u37, u38, u39, u40, u41, u42, u43, u44, u45, u46, u47, u48, u49, u50, u51, u52, u53, u54, u55, u56, u57, u58, u59, u60, rfl⟩, hS, h0, h1, hl, hn0, hn1, hbs, hst⟩ := hJ
  obtain ⟨hn, rfl, hR⟩ := LSt0 hst
  obtain ⟨n, rfl⟩ : ∃ k, n = k + 1 := ⟨n - 1, by omega⟩
  obtain ⟨hc0, hc1, hc2, hc3⟩ := hS.cells
  have hf1 := hS.frozen 1
  have HR := Lib.hid hR
  have HS := Aside0.mk hS
  clear hR hst hS
  obtain ⟨x, hx⟩ : ∃ x, x = nextI (bs.drop at_.toNat) := ⟨_, rfl⟩
  have hr := next_range (bs.drop at_.toNat)
  rw [← hx] at hr
  have Hx := Aside0.mk hx
  clear hx
  change (Code.seq _ _).wp _ _ _ _
  rcases hr with rfl | rfl | rfl | rfl | rfl | rfl
  · -- strange
    go_wp2_with (go_at_call 32; (with_reducible refine (next_calls w0 _ g A0 c0 bs at_ line begun acc HS.out h0 h1).mono ?_); rintro e w1 ⟨rfl, nd, rfl⟩; rw [← Hx.out])
    go_step3
    rename_i K hK
    refine hK _ _ ?_
    refine wp_mono (pass1 w0 A0 c0 bs 0 _ _ ⟨g, at_, line, begun, acc, n, ⟨_, _, _, _, _, _, _, _, _, _, _, _, _, _, _, _, _, _, _, _, _, _, _, _, _, _, _, _, _, _, _, _, _, _, _, _, _, _, _, _, _, _, _, _, _, _, _, _, _, _, _, _, _, _, _, _, _, _, _, rfl⟩, HS.out.drewN _, h0, h1, hl, hn0, hn1, hbs, .inr (.inl ⟨rfl, rfl, ?_⟩)⟩) (lower (by omega))
    rw [← HR.out]
    exact B_wrong Hx.out.symm
  · -- space
    go_wp2_with (go_at_call 32; (with_reducible refine (next_calls w0 _ g A0 c0 bs at_ line begun acc HS.out h0 h1).mono ?_); rintro e w1 ⟨rfl, nd, rfl⟩; rw [← Hx.out])
    go_step3
    have hlt := next_lt bs at_ h0 (by rw [← Hx.out]; decide)
    refine Jumps_goto (4 * (bs.length - (at_ + 1).toNat) + 3) (by omega) ⟨g, at_ + 1, line, begun, acc, n, ⟨_, _, _, _, _, _, _, _, _, _, _, _, _, _, _, _, _, _, _, _, _, _, _, _, _, _, _, _, _, _, _, _, _, _, _, _, _, _, _, _, _, _, _, _, _, _, _, _, _, _, _, _, _, _, _, _, _, _, _, rfl⟩, (HS.out.drewN _).set1 _, by omega, by omega, by omega, by omega, by omega, hbs, .inl ⟨rfl, by omega, rfl, ?_⟩⟩
    obtain ⟨c, cs, e1, e2⟩ := B_space (n := n) (line := line) (begun := begun) (acc := acc) Hx.out.symm
    rw [← HR.out, e2, show (at_ + 1).toNat = at_.toNat + 1 from by omega, ← List.drop_drop, e1]
    rfl
  · -- letter
    have hlt := next_lt bs at_ h0 (by rw [← Hx.out]; decide)
    have hpos := take_pos 2 (bs.drop at_.toNat) Hx.out.symm (by intro h; have := Hx.out; rw [h] at this; exact absurd this (by decide))
    have hle := take_le 2 bs at_ h0 h1
    have hdt := drop_take 2 bs at_ h0
    obtain ⟨at2, hat2⟩ : ∃ z : Int, z = at_ + (((bs.drop at_.toNat).takeWhile (isK 2)).length : Nat) := ⟨_, rfl⟩
    obtain ⟨ws, hws⟩ : ∃ z, z = (bs.drop at_.toNat).takeWhile (isK 2) := ⟨_, rfl⟩
    rw [← hat2] at hle hdt
    have hgt : at_ < at2 := by omega
    rw [← hws] at hpos hat2
    have HT := Aside0.mk hat2
    have HW := Aside0.mk hws
    have HD := Aside0.mk hdt
    clear hat2 hws hdt hpos
    go_wp2_with fail
    (with_reducible refine (next_calls w0 _ g A0 c0 bs at_ line begun acc HS.out h0 h1).mono ?_)
    rintro e w1 ⟨rfl, nd, rfl⟩
    rw [← Hx.out]
    go_wp2_with fail
    (with_reducible refine (take_calls w0 _ g A0 c0 bs at_ line 2 1 begun acc (HS.out.drewN nd) h0 h1 (by omega)).mono ?_)
    rintro e w2 ⟨rfl, hS2⟩
    rw [← HW.out, ← HT.out] at hS2
    have HS2 := Aside0.mk hS2
    clear hS2
    by_cases hb : nextI ((bs.drop at_.toNat).dropWhile (isK 2)) = 3
    · have HB := Aside0.mk hb
      clear hb
      go_wp2_with fail
      (with_reducible refine (next_calls w0 _ g A0 c0 bs at2 line true _ HS2.out (by omega) hle).mono ?_)
      rintro e w3 ⟨rfl, nd3, rfl⟩
      rw [HD.out, HB.out]
      go_wp2_with fail
      go_step3
      refine Jumps_goto 0 (by omega) ⟨g, at2, line, true, _, n, ⟨_, _, _, _, _, _, _, _, _, _, _, _, _, _, _, _, _, _, _, _, _, _, _, _, _, _, _, _, _, _, _, _, _, _, _, _, _, _, _, _, _, _, _, _, _, _, _, _, _, _, _, _, _, _, _, _, _, _, _, rfl⟩, HS2.out.drewN _, by omega, hle, by simp; omega, by omega, by omega, hbs, .inr (.inl ⟨rfl, rfl, ?_⟩)⟩
      rw [← HR.out, B_letter Hx.out.symm, if_pos HB.out]
    · have HB := Aside0.mk hb
      have hb1 : (nextI ((bs.drop at_.toNat).dropWhile (isK 2)) == 3) = false := beq_eq_false_iff_ne.2 hb
      clear hb
      go_wp2_with fail
      (with_reducible refine (next_calls w0 _ g A0 c0 bs at2 line true _ HS2.out (by omega) hle).mono ?_)
      rintro e w3 ⟨rfl, nd3, rfl⟩
      rw [HD.out]
      go_wp2_with fail
      go_step3
      refine Jumps_goto (4 * (bs.length - at2.toNat) + 3) (by omega) ⟨g, at2, line, true, _, n, ⟨_, _, _, _, _, _, _, _, _, _, _, _, _, _, _, _, _, _, _, _, _, _, _, _, _, _, _, _, _, _, _, _, _, _, _, _, _, _, _, _, _, _, _, _, _, _, _, _, _, _, _, _, _, _, _, _, _, _, _, rfl⟩, HS2.out.drewN _, by omega, hle, by simp; omega, by omega, by omega, hbs, .inl ⟨rfl, by omega, rfl, ?_⟩⟩
      rw [← HR.out, B_letter Hx.out.symm, if_neg HB.out, HD.out, HW.out]
  · -- digit
    have hlt := next_lt bs at_ h0 (by rw [← Hx.out]; decide)
    have hpos := take_pos 3 (bs.drop at_.toNat) Hx.out.symm (by intro h; have := Hx.out; rw [h] at this; exact absurd this (by decide))
    have hle := take_le 3 bs at_ h0 h1
    have hdt := drop_take 3 bs at_ h0
    obtain ⟨at2, hat2⟩ : ∃ z : Int, z = at_ + (((bs.drop at_.toNat).takeWhile (isK 3)).length : Nat) := ⟨_, rfl⟩
    obtain ⟨ws, hws⟩ : ∃ z, z = (bs.drop at_.toNat).takeWhile (isK 3) := ⟨_, rfl⟩
    rw [← hat2] at hle hdt
    have hgt : at_ < at2 := by omega
    rw [← hws] at hpos hat2
    have HT := Aside0.mk hat2
    have HW := Aside0.mk hws
    have HD := Aside0.mk hdt
    clear hat2 hws hdt hpos
    go_wp2_with fail
    (with_reducible refine (next_calls w0 _ g A0 c0 bs at_ line begun acc HS.out h0 h1).mono ?_)
    rintro e w1 ⟨rfl, nd, rfl⟩
    rw [← Hx.out]
    go_wp2_with fail
    (with_reducible refine (take_calls w0 _ g A0 c0 bs at_ line 3 2 begun acc (HS.out.drewN nd) h0 h1 (by omega)).mono ?_)
    rintro e w2 ⟨rfl, hS2⟩
    rw [← HW.out, ← HT.out] at hS2
    have HS2 := Aside0.mk hS2
    clear hS2
    by_cases hb : nextI ((bs.drop at_.toNat).dropWhile (isK 3)) = 2
    · have HB := Aside0.mk hb
      clear hb
      go_wp2_with fail
      (with_reducible refine (next_calls w0 _ g A0 c0 bs at2 line true _ HS2.out (by omega) hle).mono ?_)
      rintro e w3 ⟨rfl, nd3, rfl⟩
      rw [HD.out, HB.out]
      go_wp2_with fail
      go_step3
      refine Jumps_goto 0 (by omega) ⟨g, at2, line, true, _, n, ⟨_, _, _, _, _, _, _, _, _, _, _, _, _, _, _, _, _, _, _, _, _, _, _, _, _, _, _, _, _, _, _, _, _, _, _, _, _, _, _, _, _, _, _, _, _, _, _, _, _, _, _, _, _, _, _, _, _, _, _, rfl⟩, HS2.out.drewN _, by omega, hle, by simp; omega, by omega, by omega, hbs, .inr (.inl ⟨rfl, rfl, ?_⟩)⟩
      rw [← HR.out, B_digit Hx.out.symm, if_pos HB.out]
    · have HB := Aside0.mk hb
      have hb1 : (nextI ((bs.drop at_.toNat).dropWhile (isK 3)) == 2) = false := beq_eq_false_iff_ne.2 hb
      clear hb
      go_wp2_with fail
      (with_reducible refine (next_calls w0 _ g A0 c0 bs at2 line true _ HS2.out (by omega) hle).mono ?_)
      rintro e w3 ⟨rfl, nd3, rfl⟩
      rw [HD.out]
      go_wp2_with fail
      go_step3
      refine Jumps_goto (4 * (bs.length - at2.toNat) + 3) (by omega) ⟨g, at2, line, true, _, n, ⟨_, _, _, _, _, _, _, _, _, _, _, _, _, _, _, _, _, _, _, _, _, _, _, _, _, _, _, _, _, _, _, _, _, _, _, _, _, _, _, _, _, _, _, _, _, _, _, _, _, _, _, _, _, _, _, _, _, _, _, rfl⟩, HS2.out.drewN _, by omega, hle, by simp; omega, by omega, by omega, hbs, .inl ⟨rfl, by omega, rfl, ?_⟩⟩
      rw [← HR.out, B_digit Hx.out.symm, if_neg HB.out, HD.out, HW.out]
  · -- mark
    go_wp2_with (go_at_call 32; (with_reducible refine (next_calls w0 _ g A0 c0 bs at_ line begun acc HS.out h0 h1).mono ?_); rintro e w1 ⟨rfl, nd, rfl⟩; rw [← Hx.out])
    go_step3
    refine Jumps_goto (4 * (bs.length - at_.toNat) + 2) (by omega) ⟨g, at_, line, begun, acc, n, ⟨_, _, _, _, _, _, _, _, _, _, _, _, _, _, _, _, _, _, _, _, _, _, _, _, _, _, _, _, _, _, _, _, _, _, _, _, _, _, _, _, _, _, _, _, _, _, _, _, _, _, _, _, _, _, _, _, _, _, _, rfl⟩, HS.out.drewN _, h0, h1, hl, hn0, hn1, hbs, .inr (.inr (.inl ⟨rfl, by omega, rfl, ?_⟩))⟩
    rw [← HR.out]
    exact (B_end (.inl Hx.out.symm)).symm
  · -- a line's end
    go_wp2_with (go_at_call 32; (with_reducible refine (next_calls w0 _ g A0 c0 bs at_ line begun acc HS.out h0 h1).mono ?_); rintro e w1 ⟨rfl, nd, rfl⟩; rw [← Hx.out])
    go_step3
    refine Jumps_goto (4 * (bs.length - at_.toNat) + 1) (by omega) ⟨g, at_, line, begun, acc, n, ⟨_, _, _, _, _, _, _, _, _, _, _, _, _, _, _, _, _, _, _, _, _, _, _, _, _, _, _, _, _, _, _, _, _, _, _, _, _, _, _, _, _, _, _, _, _, _, _, _, _, _, _, _, _, _, _, _, _, _, _, rfl⟩, HS.out.drewN _, h0, h1, hl, hn0, hn1, hbs, .inr (.inr (.inr ⟨rfl, by omega, rfl, ?_⟩))⟩
    rw [← HR.out, B_end (.inr Hx.out.symm), notNl_nl _ Hx.out.symm]
set_option maxHeartbeats 2000000 in
set_option maxRecDepth 100000 in
theorem lex_calls (A0 : Option Addr) (c0 : Nat) (bs : List Int) (w : World) (hr : (Kd.int .u8).C w A0 bs.length bs) (hc : bs.length ≤ c0) :
    Calls Tryd.prog 18 #[.slice A0 bs.length c0] w (LexPost w bs) := by
  have HC := Aside0.mk hr
  have hmax := Kd.C_max hr
  clear hr
  by_cases hbs : 65536 < bs.length
  · have hd : decide (65536 < bs.length) = true := decide_eq_true hbs
    have hd2 : decide (65536 < (bs.length : Int)) = true := decide_eq_true (by omega)
    have Hbs := Aside0.mk hbs
    clear hbs
    go_enter Tryd.func18, Tryd.ntmps18
    go_wp2
    go_step3
    go_wp2
    rw [Exit.noGoto_ret]
    go_ret3
    rw [LexPost, show lexF bs = ([], 0, 4) from if_pos Hbs.out]
    exact ⟨.slice none 0 0, rfl, Kd.R_nil _ _ _ _ _, Below.refl _ _⟩
  · have hd : decide (65536 < bs.length) = false := decide_eq_false hbs
    have hd2 : decide (65536 < (bs.length : Int)) = false := decide_eq_false (by omega)
    have Hbs := Aside0.mk hbs
    clear hbs
    go_enter Tryd.func18, Tryd.ntmps18
    go_wp2
    refine wp_scope_ghost (LInv w A0 c0 bs) ?_ ?_
    · go_wp2
      go_step3
      rename_i K hK
      refine hK _ _ ?_
      refine wp_mono (pass0 w A0 c0 bs (4 * bs.length + 3) _ _ ⟨w.heap.size, 0, 1, false, [], bs.length + 1, ⟨_, _, _, _, _, _, _, _, _, _, _, _, _, _, _, _, _, _, _, _, _, _, _, _, _, _, _, _, _, _, _, _, _, _, _, _, _, _, _, _, _, _, _, _, _, _, _, _, _, _, _, _, _, _, _, _, _, _, _, rfl⟩, ?_, by omega, by omega, by simp, by omega, by omega, by have := Hbs.out; omega, .inl ⟨rfl, by simp, by simp, ?_⟩⟩) ?_
      · exact ⟨.slice none 0 0, by simpa using heap_alloc_new w _, Nat.le_refl _, HC.out, hc, Kd.R_nil _ _ _ _ _, below_alloc (Below.refl _ _) _⟩
      · rw [show lexF bs = lexB (bs.length + 1) bs 1 false [] from if_neg Hbs.out]
        rfl
      · intro e a w' hq
        cases e with
        | goto l =>
          obtain ⟨k, _, hq⟩ := hq
          exact ⟨k, hq⟩
        | normal => exact hq
        | exit id => exact hq
        | ret => exact hq
        | panic ch => exact hq
        | outgrown => exact hq
    · intro l m a w' hJ
      have hl : l = 0 ∨ l = 1 ∨ l = 2 ∨ l = 3 := by
        obtain ⟨g, at_, line, begun, acc, n, _, _, _, _, _, _, _, _, hst⟩ := hJ
        rcases hst with h | h | h | h
        · exact .inl h.1
        · exact .inr (.inl h.1)
        · exact .inr (.inr (.inl h.1))
        · exact .inr (.inr (.inr h.1))
      rcases hl with rfl | rfl | rfl | rfl
      · exact ⟨_, find0, skip_seq (pass0 w A0 c0 bs m a w' hJ)⟩
      · exact ⟨_, find1, skip_seq (pass1 w A0 c0 bs m a w' hJ)⟩
      · exact ⟨_, find2, skip_seq (pass2 w A0 c0 bs m a w' hJ)⟩
      · exact ⟨_, find3, skip_seq (pass3 w A0 c0 bs m a w' hJ)⟩
end Go.Proofs.YtegbfimfpkendaaDoor.LexD
