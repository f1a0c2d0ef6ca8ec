/- Plain lemmas: a file's lines, in words; its text is these lines. No condition. -/
import Derived.Test.YtegbfimfpkendaaDoorPaY
import Derived.Test.YtegbfimfpkendaaDoorNumT
namespace Go.Proofs.YtegbfimfpkendaaDoor.PaZ
open Go.Proofs.YtegbfimfpkendaaDoorW.PrintWords LexS LexR LexQ LexT PaC PaD PaE PaF PaG PaJ PaL PaP PaQ PaS PaY
set_option linter.unusedVariables false
set_option linter.unusedSimpArgs false
def ints (l : List UInt8) : List Int := l.map fun b => (b.toNat : Int)
theorem ints_append (a b : List UInt8) : ints (a ++ b) = ints a ++ ints b := List.map_append
theorem ints_cons (a : UInt8) (b : List UInt8) : ints (a :: b) = (a.toNat : Int) :: ints b := rfl
def W (l : List UInt8) : Tok := ⟨1, ints l, 0⟩
def Nm (v : Int) : Tok := ⟨2, ints (Lib.itoa v), 0⟩
def cfgL : Nat → List Int → List Tok
  | _, [] => []
  | k, v :: vs => W (namesT.getD k []) :: Nm v :: cfgL (k + 1) vs
def headL (vs : List Int) : List Tok := W configB :: cfgL 0 vs
def taskL (t : Tk) : List Tok := [W taskB, Nm t.mem, Nm t.cost]
def submitB : List UInt8 := [115, 117, 98, 109, 105, 116]
def cancelB : List UInt8 := [99, 97, 110, 99, 101, 108]
def tickB : List UInt8 := [116, 105, 99, 107]
def dispatchB : List UInt8 := [100, 105, 115, 112, 97, 116, 99, 104]
def answerB : List UInt8 := [97, 110, 115, 119, 101, 114]
def queryB : List UInt8 := [113, 117, 101, 114, 121]
def didB : List UInt8 := [100, 105, 100]
def failB : List UInt8 := [102, 97, 105, 108]
def needB : List UInt8 := [110, 101, 101, 100]
def opL (o : Opn) : List Tok :=
  if o.kind = 1 then [W submitB, Nm o.a, Nm o.b, Nm o.c]
  else if o.kind = 2 then [W cancelB, Nm o.a]
  else if o.kind = 3 then [W tickB]
  else if o.kind = 4 then [W dispatchB]
  else if o.kind = 6 then [W queryB, Nm o.a]
  else if o.c = 1 then [W answerB, Nm o.a, Nm o.b, W didB]
  else if o.c = 2 then [W answerB, Nm o.a, Nm o.b, W failB]
  else [W answerB, Nm o.a, Nm o.b, W needB, Nm o.d]
def okN (v : Int) : Bool := decide (0 ≤ v) && decide (v ≤ 1048576)
def okOp (o : Opn) : Bool :=
  if o.kind = 1 then okN o.a && (okN o.b && (okN o.c && decide (o.d = 0)))
  else if o.kind = 2 then okN o.a && (decide (o.b = 0) && (decide (o.c = 0) && decide (o.d = 0)))
  else if o.kind = 3 then decide (o.a = 0) && (decide (o.b = 0) && (decide (o.c = 0) && decide (o.d = 0)))
  else if o.kind = 4 then decide (o.a = 0) && (decide (o.b = 0) && (decide (o.c = 0) && decide (o.d = 0)))
  else if o.kind = 6 then okN o.a && (decide (o.b = 0) && (decide (o.c = 0) && decide (o.d = 0)))
  else if o.kind = 5 then okN o.a && (okN o.b && (if o.c = 1 then decide (o.d = 0) else if o.c = 2 then decide (o.d = 0) else decide (o.c = 3) && okN o.d))
  else false
def words (f : FileS) : List (List Tok) := headL f.cfg :: (f.tasks.map taskL ++ f.ops.map opL)
structure GoodF (f : FileS) : Prop where
  len : f.cfg.length = 10
  cfg : ∀ v ∈ f.cfg, okN v = true
  tasks : ∀ t ∈ f.tasks, okN t.mem = true ∧ okN t.cost = true
  ops : ∀ o ∈ f.ops, okOp o = true
def sp : List Tok → List Int
  | [] => []
  | t :: ts => 32 :: t.text ++ sp ts
theorem joinW_cons : ∀ (ts : List Tok) (t : Tok), joinW (t :: ts) = t.text ++ sp ts
  | [], t => by simp [joinW, sp]
  | u :: ts, t => by
    rw [joinW, joinW_cons ts u, sp]
    simp
theorem badN_ok (b : Bool) (v : Int) : badN b v = (b || !okN v) := by
  unfold badN okN
  by_cases h1 : v < 0 <;> by_cases h2 : 1048576 < v <;> simp [h1, h2] <;> omega
theorem cfgW_eq : ∀ (vs : List Int) (k : Nat) (s : List UInt8 × Bool), ints (cfgW k vs s).1 = ints s.1 ++ sp (cfgL k vs) ∧ (cfgW k vs s).2 = (s.2 || !(vs.all okN))
  | [], k, s => by simp [cfgW, cfgL, sp]
  | v :: vs, k, s => by
    have h := cfgW_eq vs (k + 1) (s.1 ++ (32 :: namesT.getD k []) ++ numB v, badN s.2 v)
    rw [cfgW]
    refine ⟨?_, ?_⟩
    · rw [h.1, cfgL, sp, sp]
      simp only [ints_append, ints_cons, numB, W, Nm]
      simp
    · rw [h.2, badN_ok]
      simp [Bool.or_assoc]
theorem taskW_eq (s : List UInt8 × Bool) (t : Tk) : ints (taskW s t).1 = ints s.1 ++ joinW (taskL t) ++ [10] ∧ (taskW s t).2 = (s.2 || !(okN t.mem && okN t.cost)) := by
  refine ⟨?_, ?_⟩
  · simp only [taskW, taskL, joinW_cons, sp, ints_append, numB, ints_cons, W, Nm]
    simp [ints]
  · simp only [taskW, badN_ok]
    cases s.2 <;> cases okN t.mem <;> cases okN t.cost <;> rfl
theorem opW_ok (s : List UInt8 × Bool) (o : Opn) (h : okOp o = true) : ints (opW s o).1 = ints s.1 ++ joinW (opL o) ++ [10] := by
  obtain ⟨k, a, b, c, d⟩ := o
  by_cases h1 : k = 1
  · subst h1
    simp [opW, answersW, formsW, formsT, answersT, formW, ansW, numsW, numW1, opL, joinW_cons, sp, ints_append, numB, ints_cons, W, Nm, ints, strB, submitB]
  by_cases h2 : k = 2
  · subst h2
    simp [opW, answersW, formsW, formsT, answersT, formW, ansW, numsW, numW1, opL, joinW_cons, sp, ints_append, numB, ints_cons, W, Nm, ints, strB, cancelB]
  by_cases h3 : k = 3
  · subst h3
    simp [opW, answersW, formsW, formsT, answersT, formW, ansW, numsW, numW1, opL, joinW_cons, sp, ints_append, numB, ints_cons, W, Nm, ints, strB, tickB]
  by_cases h4 : k = 4
  · subst h4
    simp [opW, answersW, formsW, formsT, answersT, formW, ansW, numsW, numW1, opL, joinW_cons, sp, ints_append, numB, ints_cons, W, Nm, ints, strB, dispatchB]
  by_cases h6 : k = 6
  · subst h6
    simp [opW, answersW, formsW, formsT, answersT, formW, ansW, numsW, numW1, opL, joinW_cons, sp, ints_append, numB, ints_cons, W, Nm, ints, strB, queryB]
  by_cases h5 : k = 5
  · subst h5
    by_cases c1 : c = 1
    · subst c1
      simp [opW, answersW, formsW, formsT, answersT, formW, ansW, numsW, numW1, opL, joinW_cons, sp, ints_append, numB, ints_cons, W, Nm, ints, strB, answerB, didB]
    by_cases c2 : c = 2
    · subst c2
      simp [opW, answersW, formsW, formsT, answersT, formW, ansW, numsW, numW1, opL, joinW_cons, sp, ints_append, numB, ints_cons, W, Nm, ints, strB, answerB, failB]
    by_cases c3 : c = 3
    · subst c3
      simp [opW, answersW, formsW, formsT, answersT, formW, ansW, numsW, numW1, opL, joinW_cons, sp, ints_append, numB, ints_cons, W, Nm, ints, strB, answerB, needB]
    simp [okOp, c1, c2, c3] at h
  simp [okOp, h1, h2, h3, h4, h5, h6] at h
theorem opW_bad (s : List UInt8 × Bool) (o : Opn) : (opW s o).2 = (s.2 || !okOp o) := by
  obtain ⟨k, a, b, c, d⟩ := o
  by_cases h1 : k = 1
  · subst h1
    simp [opW, answersW, formsW, formsT, answersT, formW, ansW, numsW, numW1, lastB, okOp, badN_ok, Bool.or_assoc]
    try (cases s.2 <;> cases okN a <;> cases okN b <;> cases okN c <;> simp)
  by_cases h2 : k = 2
  · subst h2
    simp [opW, answersW, formsW, formsT, answersT, formW, ansW, numsW, numW1, lastB, okOp, badN_ok, Bool.or_assoc]
    try (cases s.2 <;> cases okN a <;> simp)
  by_cases h3 : k = 3
  · subst h3
    simp [opW, answersW, formsW, formsT, answersT, formW, ansW, numsW, numW1, lastB, okOp, badN_ok, Bool.or_assoc]
  by_cases h4 : k = 4
  · subst h4
    simp [opW, answersW, formsW, formsT, answersT, formW, ansW, numsW, numW1, lastB, okOp, badN_ok, Bool.or_assoc]
  by_cases h6 : k = 6
  · subst h6
    simp [opW, answersW, formsW, formsT, answersT, formW, ansW, numsW, numW1, lastB, okOp, badN_ok, Bool.or_assoc]
    try (cases s.2 <;> cases okN a <;> simp)
  by_cases h5 : k = 5
  · subst h5
    by_cases c1 : c = 1
    · subst c1
      simp [opW, answersW, formsW, formsT, answersT, formW, ansW, numsW, numW1, lastB, okOp, badN_ok, Bool.or_assoc]
      try (cases s.2 <;> cases okN a <;> cases okN b <;> simp)
    by_cases c2 : c = 2
    · subst c2
      simp [opW, answersW, formsW, formsT, answersT, formW, ansW, numsW, numW1, lastB, okOp, badN_ok, Bool.or_assoc]
      try (cases s.2 <;> cases okN a <;> cases okN b <;> simp)
    by_cases c3 : c = 3
    · subst c3
      simp [opW, answersW, formsW, formsT, answersT, formW, ansW, numsW, numW1, lastB, okOp, badN_ok, Bool.or_assoc]
      try (cases s.2 <;> cases okN a <;> cases okN b <;> cases okN d <;> simp)
    have e1 : ¬ (1 : Int) = c := fun h => c1 h.symm
    have e2 : ¬ (2 : Int) = c := fun h => c2 h.symm
    have e3 : ¬ (3 : Int) = c := fun h => c3 h.symm
    simp [opW, answersW, formsW, formsT, answersT, formW, ansW, numsW, numW1, lastB, okOp, badN_ok, Bool.or_assoc, c1, c2, c3, e1, e2, e3]
    try (by_cases c0 : c = 0 <;> simp [c0])
  have e1 : ¬ (1 : Int) = k := fun h => h1 h.symm
  have e2 : ¬ (2 : Int) = k := fun h => h2 h.symm
  have e3 : ¬ (3 : Int) = k := fun h => h3 h.symm
  have e4 : ¬ (4 : Int) = k := fun h => h4 h.symm
  have e5 : ¬ (5 : Int) = k := fun h => h5 h.symm
  have e6 : ¬ (6 : Int) = k := fun h => h6 h.symm
  simp [opW, answersW, formsW, formsT, answersT, formW, ansW, numsW, numW1, lastB, okOp, h1, h2, h3, h4, h5, h6, e1, e2, e3, e4, e5, e6]
end Go.Proofs.YtegbfimfpkendaaDoor.PaZ
