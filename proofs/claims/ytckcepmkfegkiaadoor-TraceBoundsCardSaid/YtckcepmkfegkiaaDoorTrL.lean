/- The three facts that the rows' list of variables gives, as one; rows of one kind read as rows of another. No condition. -/
import Derived.Test.YtckcepmkfegkiaaDoorTrSh
import Derived.Test.YtckcepmkfegkiaaDoorLexE
namespace Go.Proofs.YtckcepmkfegkiaaDoor.TrL
open Go.RowKit Go.Proofs.YtckcepmkfegkiaaDoorW.PrintWords TrG TrX
def Laid (w : World) : Prop := WordsIs w ∧ EndsIs w ∧ NumA.Tab w
theorem Laid.below {w w' : World} (h : Laid w) (hb : Below w.heap.size w w') : Laid w' := ⟨h.1.below hb, h.2.1.below hb, h.2.2.below hb⟩
theorem shown_calls (w : World) (h : Laid w) : Calls Tryd.prog 14 #[] w fun e w' => e = .returned (.bool true) ∧ Below w.heap.size w w' := TrSh.shown_calls w h.1 h.2.1 h.2.2
theorem C_map {α β : Type} {d : Kd α} {d' : Kd β} (g : α → β) (hs : d.sz = d'.sz) (hK : ∀ w x cs, d.K w x cs → d'.K w (g x) cs) {w : World} {A : Option Addr} {n : Nat} {xs : List α} (h : d.C w A n xs) : d'.C w A n (xs.map g) := by
  obtain ⟨h1, h2, h3⟩ := h
  refine ⟨by rw [List.length_map]; exact h1, h2, fun hp => ?_⟩
  obtain ⟨ad, e, hc⟩ := h3 hp
  refine ⟨ad, e, fun j p hj => ?_⟩
  rw [List.getElem?_map] at hj
  obtain ⟨x, hx, rfl⟩ := Option.map_eq_some_iff.1 hj
  obtain ⟨c, e1, e2, e3⟩ := hc j x hx
  exact ⟨c, e1.trans hs, hK _ _ _ e2, by rw [← hs]; exact e3⟩
end Go.Proofs.YtckcepmkfegkiaaDoor.TrL
