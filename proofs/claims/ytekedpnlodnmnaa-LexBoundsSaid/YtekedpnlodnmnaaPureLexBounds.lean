/- The statement LexBounds: there may be 65536 bytes, and no more: for every number and bool the Go function returns true. No condition. -/
import Derived.Test.YtekedpnlodnmnaaPLexBoundsx1
import Derived.Test.YtekedpnlodnmnaaBits
import Derived.Test.YtekedpnlodnmnaaLexP
namespace Go.Proofs.Ytekedpnlodnmnaa.Pure
open Go.RowKit Go.Proofs.Ytekedpnlodnmnaa.PLexBounds Go.Proofs.YtekedpnlodnmnaaW.PrintWords Go.Proofs.YtekedpnlodnmnaaW.PrintLast

theorem bounds_step (k : Nat) (b : Bool) (n : Int) (i : Nat) (hn : n ≤ 100000) (hi : (i : Int) < n) :
    millwrightlaw02_LexBounds.l0 (k + 1) b true n (List.replicate i (if b = true then 32 else 120) ++ List.replicate (n.toNat - i) 0) i =
      millwrightlaw02_LexBounds.l0 k b true n (List.replicate (i + 1) (if b = true then 32 else 120) ++ List.replicate (n.toNat - (i + 1)) 0) ((i + 1 : Nat) : Int) := by
  have hl : (List.replicate i (if b = true then (32 : Int) else 120) ++ List.replicate (n.toNat - i) 0).length = n.toNat := by simp; omega
  have hset : ∀ x : Int, (List.replicate i (if b = true then (32 : Int) else 120) ++ List.replicate (n.toNat - i) 0).set i x = List.replicate i (if b = true then (32 : Int) else 120) ++ x :: List.replicate (n.toNat - (i + 1)) 0 := fun x => by
    rw [List.set_append_right _ _ (by simp), List.length_replicate, Nat.sub_self, show n.toNat - i = n.toNat - (i + 1) + 1 from by omega, List.replicate_succ]
    rfl
  have hset2 : ∀ x y : Int, (List.replicate i (if b = true then (32 : Int) else 120) ++ x :: List.replicate (n.toNat - (i + 1)) 0).set i y = List.replicate i (if b = true then (32 : Int) else 120) ++ y :: List.replicate (n.toNat - (i + 1)) 0 := fun x y => by
    rw [List.set_append_right _ _ (by simp), List.length_replicate, Nat.sub_self]
    rfl
  have hr : ∀ x : Int, List.replicate (i + 1) x ++ List.replicate (n.toNat - (i + 1)) 0 = List.replicate i x ++ x :: List.replicate (n.toNat - (i + 1)) 0 := fun x => by
    rw [List.replicate_succ', List.append_assoc]
    rfl
  simp only [millwrightlaw02_LexBounds.l0]
  rw [if_pos hi, if_pos (by omega), if_pos (by rw [hl]; omega), Bits.wrap64_in (by omega) (by omega), Int.toNat_natCast, hset, Option.bind_some, hset2, hr]
  cases b <;> rfl

theorem bounds_end (k : Nat) (b : Bool) (n : Int) (h0 : 1 ≤ n) (hn : n ≤ 100000) :
    millwrightlaw02_LexBounds.l0 (k + 1) b true n (List.replicate n.toNat (if b = true then 32 else 120)) n = some true := by
  simp only [millwrightlaw02_LexBounds.l0]
  rw [if_neg (by omega)]
  unfold lex_Lex.f
  by_cases hb : n > 65536
  · have : LexS.lexF (List.replicate n.toNat (if b = true then 32 else 120)) = ([], 0, 4) := by
      unfold LexS.lexF
      rw [if_pos (by simp; omega)]
    rw [this]
    simp [hb]
  · cases b
    · have : LexS.lexF (List.replicate n.toNat (if false = true then 32 else 120)) = ([⟨1, List.replicate n.toNat 120, 1⟩, ⟨3, [], 1⟩], 0, 0) := LexP.lexF_word n.toNat (by omega) (by omega)
      rw [this]
      simp only [Option.bind_some, if_neg hb, List.map_cons, List.map_nil, List.length_cons, List.length_nil]
      have hs : (strOfNums (List.replicate n.toNat 120)).size = n.toNat := by simp [strOfNums, ByteArray.size]
      simp [rd_T35, hs]
      omega
    · have : LexS.lexF (List.replicate n.toNat (if true = true then 32 else 120)) = ([], 0, 0) := LexP.lexF_blanks n.toNat (by omega)
      rw [this]
      simp [hb]

theorem bounds_loop (b : Bool) (n : Int) (h0 : 1 ≤ n) (hn : n ≤ 100000) : ∀ (d i k : Nat), n.toNat - i = d → (i : Int) ≤ n → d < k →
    millwrightlaw02_LexBounds.l0 k b true n (List.replicate i (if b = true then 32 else 120) ++ List.replicate (n.toNat - i) 0) i = some true
  | 0, i, k + 1, hd, hi, _ => by
    obtain rfl : (i : Int) = n := by omega
    have := bounds_end k b (i : Int) h0 hn
    simpa using this
  | d + 1, i, k + 1, hd, hi, hk => by
    rw [bounds_step k b n i hn (by omega)]
    exact bounds_loop b n h0 hn d (i + 1) k (by omega) (by omega) (by omega)

theorem LexBounds : millwrightlaw02_LexBounds.Pure := by
  intro a0 a1 h
  have e1 : Go.bits .and .i64 a0 65535 = a0 % 65536 := Bits.and65535 a0
  have h1 : 0 ≤ a0 % 65536 := by omega
  have e2 : Int.tmod (a0 % 65536) 7 = a0 % 65536 % 7 := Bits.tmod_pos _ _ h1
  have e3 : wrap64 (65533 + a0 % 65536 % 7) = 65533 + a0 % 65536 % 7 := Bits.wrap64_in (by omega) (by omega)
  obtain ⟨n, hn⟩ : ∃ n, n = 65533 + a0 % 65536 % 7 := ⟨_, rfl⟩
  have hn1 : 65533 ≤ n ∧ n ≤ 65539 := by omega
  refine ⟨n.toNat + 1, ?_⟩
  unfold millwrightlaw02_LexBounds.f millwrightlaw02_shown.f
  rw [e1, e2, e3, ← hn, Option.bind_some, if_pos (by omega), if_pos (by omega)]
  have := bounds_loop a1 n (by omega) (by omega) n.toNat 0 (n.toNat + 1) (by omega) (by omega) (by omega)
  simpa using this

end Go.Proofs.Ytekedpnlodnmnaa.Pure
