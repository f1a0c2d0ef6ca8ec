/- Plain lemmas: one operation more is one line more. No condition. -/
import Derived.Test.YtegbfimfpkendaaDoorPbB
namespace Go.Proofs.YtegbfimfpkendaaDoor.PbF
open Go.Proofs.YtegbfimfpkendaaDoorW.PrintWords LexS LexR LexQ LexT PaC PaD PaE PaF PaG PaJ PaL PaP PaQ PaS PaY PaZ PbA PbB PaV
set_option linter.unusedVariables false
set_option linter.unusedSimpArgs false
theorem ints_inj : ∀ {a b : List UInt8}, ints a = ints b → a = b
  | [], [], _ => rfl
  | [], _ :: _, h => by simp [ints] at h
  | _ :: _, [], h => by simp [ints] at h
  | x :: a, y :: b, h => by
    rw [ints_cons, ints_cons, List.cons.injEq] at h
    obtain ⟨h1, h2⟩ := h
    rw [ints_inj h2]
    have : x = y := by
      apply UInt8.toNat_inj.1
      omega
    rw [this]
/-- What a text with one operation more is. -/
theorem one_more {f : FileS} {o : Opn} {s t : List UInt8} (hl : f.cfg.length = 10) (h1 : textP f = (s, 0)) (h2 : textP ⟨f.cfg, f.tasks, f.ops ++ [o]⟩ = (t, 0)) (ho : f.ops.length ≤ 200) :
    ∃ q : List UInt8, t = s ++ (q ++ [10]) ∧ (∀ c ∈ q, ¬ c = 10) ∧ parseP (bytesOf ⟨t.toArray⟩) = (⟨f.cfg, f.tasks, f.ops ++ [o]⟩, 0, 0) ∧ t.length ≤ 30000 := by
  obtain ⟨g1, t1, o1, i1⟩ := text_ok h1 hl
  obtain ⟨g2, t2, o2, i2⟩ := text_ok h2 hl
  have hw : words ⟨f.cfg, f.tasks, f.ops ++ [o]⟩ = words f ++ [opL o] := by simp [words]
  have hgo := good_op o (g2.ops o (by simp))
  have hlen := words_len _ g2 t2 (by simp; omega)
  have hi : ints t = ints s ++ (joinW (opL o) ++ [10]) := by
    rw [i2, i1, hw, docB_append]
    simp [docB]
  have hs : t.take s.length = s := by
    apply ints_inj
    have : ints (t.take s.length) = (ints t).take s.length := by simp [ints, List.map_take]
    rw [this, hi]
    exact List.take_left' (ints_len s)
  have hr : ints (t.drop s.length) = joinW (opL o) ++ [10] := by
    have : ints (t.drop s.length) = (ints t).drop s.length := by simp [ints, List.map_drop]
    rw [this, hi]
    exact List.drop_left' (ints_len s)
  obtain ⟨q, hq⟩ : ∃ q, q = (t.drop s.length).dropLast := ⟨_, rfl⟩
  have hne : t.drop s.length ≠ [] := by
    intro h0
    rw [h0] at hr
    simp [ints] at hr
  have hlast : (t.drop s.length).getLast hne = 10 := by
    have h3 : ((ints (t.drop s.length)).getLast? ) = some 10 := by rw [hr]; simp
    have h4 : ((ints (t.drop s.length)).getLast? ) = some (((t.drop s.length).getLast hne).toNat : Int) := by
      unfold ints
      rw [List.getLast?_map, List.getLast?_eq_some_getLast hne]
      rfl
    rw [h4] at h3
    simp only [Option.some.injEq] at h3
    apply UInt8.toNat_inj.1
    show _ = 10
    omega
  have hsplit : t.drop s.length = q ++ [10] := by
    rw [hq, ← hlast]
    exact (List.dropLast_concat_getLast hne).symm
  have hqi : ints q = joinW (opL o) := by
    rw [hsplit, ints_append] at hr
    exact List.append_cancel_right (show ints q ++ [10] = _ from hr)
  refine ⟨q, ?_, fun c hc he => ?_, ?_, ?_⟩
  · rw [← hsplit]
    conv => lhs; rw [← List.take_append_drop s.length t]
    rw [hs]
  · have h5 : ((c.toNat : Nat) : Int) ∈ joinW (opL o) := by
      rw [← hqi]
      exact List.mem_map.2 ⟨c, hc, rfl⟩
    have := (joinW_in _ hgo _ h5).2.1
    rw [he] at this
    exact this rfl
  · rw [bytes_ints, i2]
    exact read_back _ g2 t2 o2 (by omega)
  · rw [← ints_len, i2]
    exact hlen
end Go.Proofs.YtegbfimfpkendaaDoor.PbF
