/- A call through a slot that holds a function value, in a region that draws its order. No condition. -/
import Derived.Test.YtnegchdooapoiaaBb
namespace Go.Proofs.Ytnegchdooapoiaa.VicW
open Go.RowKit Go.Proofs.YtnegchdooapoiaaW.PrintWords Go.Proofs.YtnegchdooapoiaaW.PrintLast Go.Proofs.YtnegchdooapoiaaW.PrintMore
variable {P : Program} {ops : Array Oper} {Q : Exit → Act → World → Prop}
theorem goesV_ {oi : Oper} {N : Option Tmp} {a : Act} {w : World} {K : Act → World → Prop} {f : FuncId} {fn : Func} {s : Operand} {as : Array Operand} {ts : Array TypeId} (hf : P.funcs[f]? = some fn) (hname : (fn.name == "runtime.NumGoroutine") = false) (hb : fn.body.isSome = true) (args : Array Value)
    (hw : Region.wanted oi (yielded ops a.tmps) = true) (hN : oi.dst = N) (hop : oi.op = .call { callee := .value s, args := as, argTypes := ts }) (hs : a.eval s = .func (.func f) #[] #[]) (hargs : as.map a.eval = args)
    (h : Calls P f args w fun e w' => ∃ v, e = .returned v ∧ K (a.put N v) w') : if Region.wanted oi (yielded ops a.tmps) = true then Oper.wp P oi a w K Q else K (a.put N undef) w := by
  refine call_ f args hw hN ?_ h
  have he := enters_ hf hname hb args w
  unfold execOp
  simp [hop, resolve, hs, Deferred.ofValue, invoke, hargs, he]
theorem opqR {α : Type} {d : Kd α} {e : Nat} {W : World} {base : Nat} {ok : Nat → Prop} {v : Value} {xs : List α} (W' : World) (h : Aside0 (Kd.R d e W base ok v xs)) (hW : W' = W) : ∃ w, w = W' ∧ Aside0 (Kd.R d e w base ok v xs) := ⟨W', rfl, by rw [hW]; exact h⟩
theorem kept5 {w w1 : World} {S : Nat → Prop} {g : Nat} (h : Kept w w1 S) (hg : S g ∨ w.heap.size ≤ g) (o : Nat) (v0 v1 v2 v3 v4 : Value) :
    Kept w (((((w1.setCell ⟨g, o, none⟩ v0).setCell ⟨g, o + 1, none⟩ v1).setCell ⟨g, o + 2, none⟩ v2).setCell ⟨g, o + 3, none⟩ v3).setCell ⟨g, o + 4, none⟩ v4) S :=
  ((((h.setCell hg _).setCell hg _).setCell hg _).setCell hg _).setCell hg _
theorem below5 {w0 w1 W : World} {g : Nat} (h : Below w0.heap.size w0 w1) (hg : w0.heap.size ≤ g) (o : Nat) (v0 v1 v2 v3 v4 : Value)
    (hW : W = (((((w1.setCell ⟨g, o, none⟩ v0).setCell ⟨g, o + 1, none⟩ v1).setCell ⟨g, o + 2, none⟩ v2).setCell ⟨g, o + 3, none⟩ v3).setCell ⟨g, o + 4, none⟩ v4)) : Aside0 (Below w0.heap.size w0 W) :=
  ⟨by rw [hW]; exact below_set (below_set (below_set (below_set (below_set h hg) hg) hg) hg) hg⟩
end Go.Proofs.Ytnegchdooapoiaa.VicW
