/- The plain law of TraceRows: what the code computes answers true at every input. No condition. -/
import Derived.Test.YtckcepmkfegkiaaDoorPTraceRowsx2
import Derived.Test.YtckcepmkfegkiaaDoorTrR2
import Derived.Test.YtckcepmkfegkiaaDoorTrO
import Derived.Test.YtckcepmkfegkiaaDoorBits
namespace Go.Proofs.YtckcepmkfegkiaaDoor.Pure
open Go.RowKit Go.Proofs.YtckcepmkfegkiaaDoor.PTraceRows Go.Proofs.YtckcepmkfegkiaaDoorW.PrintWords Go.Proofs.YtckcepmkfegkiaaDoorW.PrintLast Go.Proofs.YtckcepmkfegkiaaDoorW.PrintMore
set_option linter.unusedVariables false
set_option linter.unusedSimpArgs false
theorem mn_in (n : Nat) (m : Int) (hm : 0 ≤ m) : 0 ≤ mn (n : Int) m ∧ mn (n : Int) m ≤ n ∧ mn (n : Int) m ≤ m := by unfold mn; split <;> omega
theorem take_in {α : Type} (l : List α) (m : Int) (hm : 0 ≤ m) : ((l.take (mn (l.length : Int) m).toNat).length : Int) = mn (l.length : Int) m := by
  have := mn_in l.length m hm
  rw [List.length_take]
  omega
open TrR
theorem rd_get (A : List S42) (i : Nat) (hi : i < A.length) : rd_T42 A (i : Int) = A[i] := by
  unfold rd_T42
  rw [Int.toNat_natCast, List.getD_eq_getElem?_getD, List.getElem?_eq_getElem hi]
  rfl
theorem Text_f (C : List S42) (h : ∀ e ∈ C.map trace_Text.g, pos e ∧ fine e) (hn : C.length ≤ 1400) : trace_Text.f C = some ⟨(TrX.textL (C.map trace_Text.g)).toArray⟩ := by
  have h1 := text_small (C.map trace_Text.g) h (by rw [List.length_map]; exact hn)
  refine if_pos ⟨by omega, by omega, ?_⟩
  rw [List.all_eq_true]
  intro x hx
  obtain ⟨⟨p1, p2, p3, p4⟩, _, f1, f2, f3, f4⟩ := h _ (List.mem_map.2 ⟨x, hx, rfl⟩)
  unfold big at f1 f2 f3 f4
  unfold trace_Text.g at p1 p2 p3 p4 f1 f2 f3 f4
  unfold trace_Text.evIn trace_Text.inI
  simp only at p1 p2 p3 p4 f1 f2 f3 f4
  simp only [Bool.and_eq_true, decide_eq_true_eq]
  omega
theorem loopR (a b : List S42) (hf : ∀ e ∈ (a ++ b).map trace_Text.g, pos e ∧ fine e) (hn : (a ++ b).length ≤ 1400) (hx : trace_Parse.f ⟨(TrX.textL ((a ++ b).map trace_Text.g)).toArray⟩ = some (a ++ b, 0)) :
    ∀ (r i : Nat), i + r = (a ++ b).length → millwrightlaw19_TraceRows.l0 (r + 1) true a b (a ++ b) i = some true
  | 0, i, hr => by
    rw [millwrightlaw19_TraceRows.l0, if_neg (by omega), Text_f _ hf hn, Option.bind_some, hx, Option.bind_some, if_pos rfl, if_pos rfl, beq_self_eq_true]
  | r + 1, i, hr => by
    have hw : wrap64 ((i : Int) + 1) = ((i + 1 : Nat) : Int) := by rw [Bits.wrap64_in (by omega) (by omega)]; omega
    have hi : i < (a ++ b).length := by omega
    have hl : (a ++ b).length = a.length + b.length := List.length_append
    have ih := loopR a b hf hn hx r (i + 1) (by omega)
    rw [millwrightlaw19_TraceRows.l0, if_pos (by omega), hw, rd_get (a ++ b) i hi]
    by_cases h : (i : Int) < (a.length : Int)
    · rw [if_pos h, if_pos (by omega), rd_get a i (by omega), List.getElem_append_left (by omega), if_neg (by simp)]
      exact ih
    · have hs : wrap64 ((i : Int) - (a.length : Int)) = ((i - a.length : Nat) : Int) := by rw [Bits.wrap64_in (by omega) (by omega)]; omega
      rw [if_neg h, hs, if_pos (by omega), if_pos (by omega), if_pos (by omega), rd_get b (i - a.length) (by omega), List.getElem_append_right (by omega), if_neg (by simp)]
      exact ih
theorem size_take (a : ByteArray) : (a.extract 0 (mn (a.size : Int) 2000).toNat).size ≤ 2000 := by
  have := mn_in a.size 2000 (by decide)
  rw [ByteArray.size_extract]
  omega
theorem bytes_app (s t : ByteArray) : bytesOf ((s ++ (⟨#[10]⟩ : ByteArray)) ++ t) = bytesOf s ++ 10 :: bytesOf t := by
  unfold bytesOf
  have h1 : ∀ x y : ByteArray, (x ++ y).data.toList = x.data.toList ++ y.data.toList := fun x y => by rw [ByteArray.data_append, Array.toList_append]
  rw [h1, h1, List.map_append, List.map_append, List.append_assoc]
  rfl
theorem TraceRows : millwrightlaw19_TraceRows.Pure := by
  intro a0 a1 _ _
  have i1 := mn_in a0.size 2000 (by decide)
  have i2 := mn_in a1.size 2000 (by decide)
  have z1 := size_take a0
  have z2 := size_take a1
  unfold millwrightlaw19_TraceRows.f
  simp only [millwrightlaw19_shown.f, Option.bind_some, if_pos i1.1, if_pos i1.2.1, if_pos i2.1, if_pos i2.2.1]
  generalize a0.extract 0 (mn (a0.size : Int) 2000).toNat = s at z1
  generalize a1.extract 0 (mn (a1.size : Int) 2000).toNat = t at z2
  have hs : (bytesOf s).length ≤ 2000 := by rw [bytesOf_length]; exact z1
  have ht : (bytesOf t).length ≤ 2000 := by rw [bytesOf_length]; exact z2
  have p1 : trace_Parse.f s = some ((TrQ.parseT (bytesOf s)).1.map trace_Parse.u, (TrQ.parseT (bytesOf s)).2) := if_pos (by omega)
  have p2 : trace_Parse.f t = some ((TrQ.parseT (bytesOf t)).1.map trace_Parse.u, (TrQ.parseT (bytesOf t)).2) := if_pos (by omega)
  have q1 := parse_bad (bytesOf s) (by omega)
  have q2 := parse_bad (bytesOf t) (by omega)
  have hsz : ((s ++ (⟨#[10]⟩ : ByteArray)) ++ t).size ≤ 5000 := by
    rw [ByteArray.size_append, ByteArray.size_append]
    have : (⟨#[10]⟩ : ByteArray).size = 1 := rfl
    omega
  have hsz0 : (s ++ (⟨#[10]⟩ : ByteArray)).size ≤ 2001 := by
    rw [ByteArray.size_append]
    have : (⟨#[10]⟩ : ByteArray).size = 1 := rfl
    omega
  have p3 : trace_Parse.f ((s ++ (⟨#[10]⟩ : ByteArray)) ++ t) = some ((TrQ.parseT (bytesOf s ++ 10 :: bytesOf t)).1.map trace_Parse.u, (TrQ.parseT (bytesOf s ++ 10 :: bytesOf t)).2) := by
    rw [← bytes_app]
    exact if_pos (by omega)
  have htwo := parse_two (bytesOf s) (bytesOf t) hs ht
  refine ⟨1403, ?_⟩
  rw [p1, p2, Option.bind_some, Option.bind_some]
  generalize hra : TrQ.parseT (bytesOf s) = ra at *
  generalize hrb : TrQ.parseT (bytesOf t) = rb at *
  obtain ⟨a, ea⟩ := ra
  obtain ⟨b, eb⟩ := rb
  simp only at q1 q2 ⊢
  -- one of them is wrong
  have bad : ∀ x : Bool, x = true → ¬ (ea = 0 ∧ eb = 0) → millwrightlaw19_TraceRows.j0 1403 s t true (a.map trace_Parse.u) ea (b.map trace_Parse.u) eb x = some true := by
    intro x hx _
    subst hx
    rw [millwrightlaw19_TraceRows.j0, if_pos rfl, if_pos rfl]
    have la : ea ≠ 0 → ((a.map trace_Parse.u).length : Int) = 0 := fun h => by rw [q1 h]; rfl
    have lb : eb ≠ 0 → ((b.map trace_Parse.u).length : Int) = 0 := fun h => by rw [q2 h]; rfl
    by_cases h1 : ea = 0
    · rw [if_pos h1]
      by_cases h2 : eb = 0
      · rw [if_pos h2]
      · rw [if_neg h2, lb h2]
        rfl
    · rw [if_neg h1, if_pos (la h1)]
      by_cases h2 : eb = 0
      · rw [if_pos h2]
      · rw [if_neg h2, lb h2]
        rfl
  by_cases h1 : ea = 0
  · rw [if_pos h1]
    by_cases h2 : eb = 0
    · subst h1 h2
      obtain ⟨t1, t2, t3⟩ := htwo a b rfl rfl
      rw [millwrightlaw19_TraceRows.j0, if_neg (by simp), if_pos (by omega), if_pos (by rw [ByteArray.size_append] at hsz; omega), p3, t1, Option.bind_some, if_pos rfl]
      have hlen : (((a ++ b).map trace_Parse.u).length : Int) = wrap64 (((a.map trace_Parse.u).length : Int) + ((b.map trace_Parse.u).length : Int)) := by
        rw [List.length_append] at t3
        rw [List.length_map, List.length_map, List.length_map, List.length_append, Bits.wrap64_in (by omega) (by omega)]
        omega
      rw [show (((a ++ b).map trace_Parse.u, (0 : Int)).1) = (a ++ b).map trace_Parse.u from rfl, hlen, bne_self_eq_false, millwrightlaw19_TraceRows.j1, if_neg (by simp), List.map_append]
      have hg : ((a.map trace_Parse.u ++ b.map trace_Parse.u)).map trace_Text.g = a ++ b := by
        rw [← List.map_append, List.map_map]
        exact List.map_id _
      have hpt := parse_text (a ++ b) (text_small (a ++ b) t2 t3)
      rw [if_pos t2] at hpt
      have hl2 : (a.map trace_Parse.u ++ b.map trace_Parse.u).length = (a ++ b).length := by simp
      have hlp := loopR (a.map trace_Parse.u) (b.map trace_Parse.u) (by rw [hg]; exact t2) (by rw [hl2]; exact t3) (by
        rw [hg]
        unfold trace_Parse.f
        have hszt : (⟨(TrX.textL (a ++ b)).toArray⟩ : ByteArray).size = (TrX.textL (a ++ b)).length := by simp [ByteArray.size]
        have := text_small (a ++ b) t2 t3
        rw [if_pos (by omega)]
        have hby : bytesOf (⟨(TrX.textL (a ++ b)).toArray⟩ : ByteArray) = I8 (TrX.textL (a ++ b)) := rfl
        rw [hby, hpt, List.map_append]) (a ++ b).length 0 (by omega)
      have hmono : ∀ (d n : Nat) (x : Int), millwrightlaw19_TraceRows.l0 n true (a.map trace_Parse.u) (b.map trace_Parse.u) (a.map trace_Parse.u ++ b.map trace_Parse.u) x = some true → millwrightlaw19_TraceRows.l0 (n + d) true (a.map trace_Parse.u) (b.map trace_Parse.u) (a.map trace_Parse.u ++ b.map trace_Parse.u) x = some true := by
        intro d
        induction d with
        | zero => intro n x h; exact h
        | succ d ih => intro n x h; exact (millwrightlaw19_TraceRows.mono_l (n + d)).2.2 _ _ _ _ _ _ (ih n x h)
      have := hmono (1401 - ((a ++ b).length + 1)) _ _ hlp
      rw [show (a ++ b).length + 1 + (1401 - ((a ++ b).length + 1)) = 1401 by omega] at this
      exact this
    · exact bad _ (by simpa using h2) (fun h => h2 h.2)
  · rw [if_neg h1]
    exact bad _ rfl (fun h => h1 h.1)
end Go.Proofs.YtckcepmkfegkiaaDoor.Pure
