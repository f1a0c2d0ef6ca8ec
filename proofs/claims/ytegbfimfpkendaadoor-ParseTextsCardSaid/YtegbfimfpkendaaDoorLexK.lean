/- A row of bytes that a conversion of a string has made: read alone. No condition. -/
import Derived.Test.YtegbfimfpkendaaDoorBa
import Derived.Test.YtegbfimfpkendaaDoorBb
import Derived.Test.YtegbfimfpkendaaDoorProg
namespace Go.Proofs.YtegbfimfpkendaaDoor.LexK
open Go.RowKit Go.Proofs.YtegbfimfpkendaaDoorW.PrintWords
set_option linter.unusedVariables false
def CO (w : World) (base : Nat) (ok : Nat → Prop) (v : Value) (xs : List Int) : Prop :=
  ∃ b c, v = .slice (some ⟨b, 0, none⟩) xs.length c ∧ xs.length ≤ c ∧ ok b ∧ base ≤ b ∧ (Kd.int .u8).C w (some ⟨b, 0, none⟩) xs.length xs
section
variable {w w1 W : World} {base : Nat} {ok ok' : Nat → Prop} {v u : Value} {xs : List Int}
theorem CO_below (h : CO w base ok v xs) (hb : Below w.heap.size w w1) : CO w1 base ok v xs := by
  obtain ⟨b, c, rfl, h1, h2, h3, h4⟩ := h
  exact ⟨b, c, rfl, h1, h2, h3, Kd.C_below h4 hb⟩
theorem CO_alloc (h : CO w base ok v xs) (o : Obj) : CO (w.alloc o) base ok v xs := CO_below h (below_alloc (Below.refl _ _) o)
theorem CO_drew (h : CO w base ok v xs) : CO w.drew base ok v xs := CO_below h (below_drew (Below.refl _ _))
theorem CO_drewN (h : CO w base ok v xs) (m : Nat) : CO (w.drewN m) base ok v xs := CO_below h (pw_below_drewN (Below.refl _ _) m)
theorem CO_lower {base' : Nat} (h : CO w base ok v xs) (hb : base' ≤ base) : CO w base' ok v xs := by
  obtain ⟨b, c, rfl, h1, h2, h3, h4⟩ := h
  exact ⟨b, c, rfl, h1, h2, Nat.le_trans hb h3, h4⟩
theorem CO_mono (h : CO w base ok v xs) (hok : ∀ k, ok k → ok' k) : CO w base ok' v xs := by
  obtain ⟨b, c, rfl, h1, h2, h3, h4⟩ := h
  exact ⟨b, c, rfl, h1, hok _ h2, h3, h4⟩
theorem CO_slice (h : CO w base ok v xs) : ∃ A c, v = .slice A xs.length c := by
  obtain ⟨b, c, rfl, _⟩ := h
  exact ⟨_, _, rfl⟩
theorem CO_reads' {A : Option Addr} {n c : Nat} (h : CO w base ok (.slice A n c) xs) : n = xs.length ∧ n ≤ c ∧ (Kd.int .u8).C w A xs.length xs := by
  obtain ⟨b, c', hv, h1, h2, h3, h4⟩ := h
  injection hv with hA hn hc
  subst hA hn hc
  exact ⟨rfl, h1, h4⟩
end
section
variable {P : Program} {ops : Array Oper} {rest : List Oper} {o : Oper} {a : Act} {Q : Exit → Act → World → Prop}
theorem CO_conv {w0 W : World} (base : Nat) (hgd : o.guard = none) {N : Tmp} (_hd : o.dst = some N) (src dst e : TypeId) {us : TypeDesc} (x : Operand) (ho : o.op = .convert src dst x)
    (hs : P.underlying src = some us) (hd : P.underlying dst = some (.slice e)) (he : P.underlying e = some (.int .u8)) (s : ByteArray) (hx : a.eval x = .string s)
    (ok : Nat → Prop) (hfresh : ok W.heap.size) (HB : Below base w0 W) (hbase : base ≤ W.heap.size) (hm : s.size ≤ 9223372036854775807)
    (h : ∀ v1 w1, CO w1 base ok v1 (bytesOf s) → Below base w0 w1 → W.grownBy w1 none → (∃ b, v1.ownBlock = some b ∧ W.heap.size ≤ b) → wpList P ops Q rest (a.put o.dst v1) w1) : wpList P ops Q (o :: rest) a W := by
  have hr := print_bytes (P := P) src dst e hs hd he s W
  have hrun : (execOp a.eval o).run P W = .ok (.value (.slice (some ⟨W.heap.size, 0, none⟩) s.size (grownCap W s.size 0 e))) (Lib.bytesWorld W e s) := by
    unfold execOp
    simp only [ho, hx, Sem.run_bind, hr, Result.andThen_ok, Sem.run_pure]
  have hl : (bytesOf s).length = s.size := bytesOf_length s
  have hb0 : Below W.heap.size W (Lib.bytesWorld W e s) := bytes_below (Below.refl _ _) (Nat.le_refl _) e s
  refine Kd.event_run hgd hrun (h _ _ ⟨W.heap.size, _, by rw [hl], ?_, hfresh, hbase, ?_⟩ (HB.trans ⟨hb0.os, hb0.tape, hb0.output, hb0.size, fun i hi => hb0.block i (Nat.lt_of_lt_of_le hi hbase)⟩) ⟨hb0.os, hb0.tape, hb0.output, hb0.size, fun k hk _ => hb0.block k hk⟩ ⟨W.heap.size, by simp [Value.ownBlock], Nat.le_refl _⟩)
  · rw [hl]
    have := grownCap_ge W s.size 0 e
    exact this
  · rw [hl]
    exact Kd.C_of_reads (d := (0 : Int)) (h1 := fun _ => rfl) (bytes_reads W e s hm)
end
end Go.Proofs.YtegbfimfpkendaaDoor.LexK
