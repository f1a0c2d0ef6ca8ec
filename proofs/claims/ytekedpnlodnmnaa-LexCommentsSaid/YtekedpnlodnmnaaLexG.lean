/- A row of bytes of the call's own, or the byte '#' alone in a block that is marked (what '[]byte("#")' is): read, moved, appended to. No condition. -/
import Derived.Test.YtekedpnlodnmnaaWWords
import Derived.Test.YtekedpnlodnmnaaProg
import Derived.Test.YtekedpnlodnmnaaWRepsOne
import Derived.ArgAppend
namespace Go.Proofs.Ytekedpnlodnmnaa.LexG
open Go.RowKit Go.Proofs.YtekedpnlodnmnaaW.PrintWords
set_option linter.unusedVariables false
/-- '#' alone, in a block of the call's own, marked whatever. -/
def L (e : Nat) (w : World) (base : Nat) (ok : Nat → Prop) (v : Value) (xs : List Int) : Prop :=
  ∃ b fr, v = .slice (some ⟨b, 0, none⟩) 1 1 ∧ ok b ∧ base ≤ b ∧ w.heap[b]? = some (.cells #[.int .u8 35] e fr) ∧ xs = [35]
def G (e : Nat) (w : World) (base : Nat) (ok : Nat → Prop) (v : Value) (xs : List Int) : Prop :=
  Kd.R (Kd.int .u8) e w base ok v xs ∨ L e w base ok v xs
section
variable {e : Nat} {w w1 W : World} {base : Nat} {ok ok' : Nat → Prop} {v u : Value} {xs : List Int}
theorem blk_lt' {w : World} {b : Nat} {o : Obj} (h : w.heap[b]? = some o) : b < w.heap.size := (Array.getElem?_eq_some_iff.1 h).1
theorem G_below (h : G e w base ok v xs) (hb : Below w.heap.size w w1) : G e w1 base ok v xs := by
  rcases h with h | ⟨b, fr, rfl, h1, h2, h3, h4⟩
  · exact .inl (Kd.R_below h hb)
  · exact .inr ⟨b, fr, rfl, h1, h2, (hb.block b (blk_lt' h3)).trans h3, h4⟩
theorem G_alloc (h : G e w base ok v xs) (o : Obj) : G e (w.alloc o) base ok v xs := G_below h (below_alloc (Below.refl _ _) o)
theorem G_drew (h : G e w base ok v xs) : G e w.drew base ok v xs := G_below h (below_drew (Below.refl _ _))
theorem G_drewN (h : G e w base ok v xs) (m : Nat) : G e (w.drewN m) base ok v xs := G_below h (pw_below_drewN (Below.refl _ _) m)
theorem G_mono (h : G e w base ok v xs) (hok : ∀ k, ok k → ok' k) : G e w base ok' v xs := by
  rcases h with h | ⟨b, fr, rfl, h1, h2, h3, h4⟩
  · exact .inl (Kd.R_mono h hok)
  · exact .inr ⟨b, fr, rfl, hok _ h1, h2, h3, h4⟩
theorem G_lt (h : G e w base ok v xs) : ∀ k, v.ownBlock = some k → k < w.heap.size := by
  rcases h with h | ⟨b, fr, rfl, h1, h2, h3, h4⟩
  · exact Kd.R_lt h
  · intro k hk
    have : b = k := by simpa [Value.ownBlock] using hk
    subst this
    exact blk_lt' h3
theorem G_typed (h : G e w base ok v xs) : ∀ k, v.ownBlock = some k → ∃ cells fr, w.heap[k]? = some (.cells cells e fr) := by
  rcases h with h | ⟨b, fr, rfl, h1, h2, h3, h4⟩
  · intro k hk
    obtain ⟨cs, hc⟩ := Kd.R_typed h k hk
    exact ⟨cs, _, hc⟩
  · intro k hk
    have : b = k := by simpa [Value.ownBlock] using hk
    subst this
    exact ⟨_, _, h3⟩
theorem R_over_G {α : Type} {d : Kd α} {e e' base : Nat} {ok : Nat → Prop} {W w1 : World} {u v : Value} {xs : List α} (h : d.R e W base ok u xs) (hty : ∀ k, v.ownBlock = some k → ∃ cells fr, W.heap[k]? = some (.cells cells e' fr)) (ht : ∀ q, q ∈ e :: d.E → q ≠ e') (hg : W.grownBy w1 v.ownBlock) : d.R e w1 base ok u xs := by
  refine Kd.R_mono (Kd.R_move (Kd.R_bound h) (fun k hk => hg.block k hk.2.2.1 (fun he => ?_))) (fun _ hk => hk.1)
  obtain ⟨_, _, _, q, hq, cells, hc⟩ := hk
  obtain ⟨cells', fr, hc'⟩ := hty k he.symm
  rw [hc] at hc'
  injection hc' with hc'
  injection hc' with _ hc'
  exact ht q hq hc'
theorem G_after {v1 : Value} (h : G e W base (fun k => ok k ∧ some k ≠ v.ownBlock) u xs) (hg : W.grownBy w1 v.ownBlock) (hat : v1.ownBlock = v.ownBlock ∨ ∃ b, v1.ownBlock = some b ∧ W.heap.size ≤ b) : G e w1 base (fun k => ok k ∧ some k ≠ v1.ownBlock) u xs := by
  rcases h with h | ⟨b, fr, rfl, h1, h2, h3, h4⟩
  · exact .inl (Kd.R_after h hg hat)
  · refine .inr ⟨b, fr, rfl, ⟨h1.1, ?_⟩, h2, (hg.block b (blk_lt' h3) h1.2).trans h3, h4⟩
    rcases hat with hat | ⟨c, hc, hle⟩
    · rw [hat]; exact h1.2
    · rw [hc]
      intro he
      injection he with he
      have := blk_lt' h3
      omega
theorem G_elder' (hu : G e W base ok u xs) (hbase : ∀ k, v.ownBlock = some k → W.heap.size ≤ k) (hb : Below W.heap.size W w1) : G e w1 base (fun k => ok k ∧ some k ≠ v.ownBlock) u xs := by
  rcases hu with h | ⟨b, fr, rfl, h1, h2, h3, h4⟩
  · exact .inl (Kd.R_elder' h hbase hb)
  · refine .inr ⟨b, fr, rfl, ⟨h1, fun he => ?_⟩, h2, (hb.block b (blk_lt' h3)).trans h3, h4⟩
    have := hbase b he.symm
    have := blk_lt' h3
    omega
theorem G_slice (h : G e w base ok v xs) : ∃ A c, v = .slice A xs.length c := by
  rcases h with h | ⟨b, fr, rfl, h1, h2, h3, rfl⟩
  · exact Kd.R_slice h
  · exact ⟨_, _, rfl⟩
theorem G_reads' {A : Option Addr} {n c : Nat} (h : G e w base ok (.slice A n c) xs) : n = xs.length ∧ n ≤ c ∧ (Kd.int .u8).C w A xs.length xs := by
  rcases h with h | ⟨b, fr, hv, h1, h2, h3, rfl⟩
  · exact Kd.R_reads' h
  · injection hv with hA hn hc
    subst hA hn hc
    refine ⟨rfl, Nat.le_refl _, Kd.C_of_reads (d := (0 : Int)) ⟨rfl, by simp, fun _ => ⟨_, rfl, fun j hj => ?_⟩⟩⟩
    rw [add_plain, cell_of_row _ _ _ _ _ _ h3]
    have : j = 0 := by simp at hj; omega
    subst this
    rfl
end
section
variable {P : Program} {ops : Array Oper} {rest : List Oper} {o : Oper} {a : Act} {Q : Exit → Act → World → Prop}
theorem G_append {w0 W : World} (base : Nat) (hgd : o.guard = none) (s x : Operand) (t e : TypeId) (z : Value) (bytes : Nat)
    (ho : o.op = .call { callee := .builtin .append, args := #[s, x], argTypes := #[t, t] })
    (ht : P.underlying t = some (.slice e)) (hinfo : (P.info? e).map (fun i => (i.zero, i.size, i.bytes)) = some (some z, (Kd.int .u8).sz, bytes)) (hz : z.cells.size = (Kd.int .u8).sz) (hs0 : 0 < (Kd.int .u8).sz) (hb0 : 0 < bytes)
    (v : Value) (xs : List Int) (p : Int) (cs : List Value) (ok okp : Nat → Prop) (hs : a.eval s = v) (hx : a.eval x = .slice (some ⟨W.heap.size, 0, none⟩) 1 1) (hp : (Kd.int .u8).M W base okp p cs) (hokp : ∀ k, okp k → ok k ∧ some k ≠ v.ownBlock) (hfresh : ∀ k, W.heap.size ≤ k → ok k)
    (HO : G e W base ok v xs) (HB : Below base w0 W) (hbase : base ≤ W.heap.size) (hl : (xs.length + 1) * bytes ≤ 140737488355328)
    (h : ∀ v1 w1, G e w1 base ok v1 (xs ++ [p]) → Below base w0 w1 → W.grownBy w1 v.ownBlock → (v1.ownBlock = v.ownBlock ∨ ∃ b, v1.ownBlock = some b ∧ W.heap.size ≤ b) → wpList P ops Q rest (a.put o.dst v1) w1) :
    wpList P ops Q (o :: rest) a (W.alloc (.cells cs.toArray e)) := by
  rcases HO with HO | ⟨b, fr, rfl, h1, h2, h3, rfl⟩
  · exact Kd.R_append (Kd.int .u8) base hgd s x t e z bytes ho ht hinfo hz hs0 hb0 v xs p cs ok okp hs hx hp hokp hfresh HO HB hbase hl (fun v1 w1 hr => h v1 w1 (.inl hr))
  · obtain ⟨i0, hi, hzz⟩ := Option.map_eq_some_iff.1 hinfo
    simp only [Prod.mk.injEq] at hzz
    obtain ⟨hz0, hz1, hz2⟩ := hzz
    have hcl : cs.length = (Kd.int .u8).sz := (Kd.int .u8).K_len ((Kd.int .u8).K_of_M hp)
    have hb : b < W.heap.size := blk_lt' h3
    have h3' : (W.alloc (.cells cs.toArray e)).heap[b]? = some (.cells #[.int .u8 35] e fr) := ((below_alloc (Below.refl _ _) (.cells cs.toArray e)).block b hb).trans h3
    have hsz : (W.alloc (.cells cs.toArray e)).heap.size = W.heap.size + 1 := by show (W.heap.push _).size = _; simp
    have hl2 : (1 + 1) * bytes ≤ 140737488355328 := hl
    refine wpList_append_grows (W.alloc (.cells cs.toArray e)) hgd s x t ho e i0 z (Kd.int .u8).sz bytes ht hi hz0 hz1 hz2 hz hs0 (some ⟨b, 0, none⟩) 1 1 [.int .u8 35] hs (fun hn => by cases hn) rfl (fun c hc j u hj => ?_) ⟨W.heap.size, 0, none⟩ 1 1 cs hx (by rw [hcl]; simp) ?_ ((Kd.int .u8).K_one ((Kd.int .u8).K_of_M hp)) (by omega) (by decide) hl2 ?_
    · cases hc
      rw [add_plain, cell_of_row _ _ _ _ _ _ h3']
      simpa using hj
    · simpa using World.news_of_block (cs := cs.toArray) (t := e) (fr := (0, 0)) (heap_alloc_new W (.cells cs.toArray e))
    · intro v1 w1 hown hg
      have hg' : W.grownBy w1 (Value.slice (some ⟨b, 0, none⟩) 1 1).ownBlock := by
        have h2 := World.grownBy.trans (World.grownBy_alloc W (.cells cs.toArray e) none) hg
        exact ⟨h2.os, h2.tape, h2.output, h2.size, fun k hk _ => h2.block k hk (by simp)⟩
      have hat : ∃ c, v1.ownBlock = some c ∧ W.heap.size ≤ c := by
        rcases hown.2 with ⟨_, hc⟩ | ⟨g, cap, cur, rfl, hgb, _⟩
        · omega
        · exact ⟨g, by simp [Value.ownBlock], by omega⟩
      refine h v1 w1 (.inl ?_) ((HB.alloc hbase _).grown hg (by omega) (fun k hk => by cases hk)) hg' (.inr hat)
      exact Kd.R_appended (xs := [35]) (inner := [.int .u8 35]) (v := .slice (some ⟨b, 0, none⟩) 1 1) (fun k hk => by
          have : b = k := by simpa [Value.ownBlock] using hk
          subst this
          exact h1) (Reps.one (show Kd.M (Kd.int .u8) _ _ _ 35 [.int .u8 35] from rfl) (Reps.none _ _)) hp hokp hfresh (own_weaken hown (by omega)) hg' (.inr hat)
end
end Go.Proofs.Ytekedpnlodnmnaa.LexG
