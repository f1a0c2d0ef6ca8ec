/- Plain lemmas: what the tokens of a text are like; written with one blank behind each they are read as they are. No condition. Plain lemmas: a text made of lines of words is read as these lines of words. No condition. Plain lemmas: a file's lines, in words; its text is these lines. No condition. Plain lemmas: a file's text, whole; its lines, taken one by one, are the file. No condition. Plain lemmas: how long a file's text may be; lines ahead of it, and behind it. No condition. -/
import Derived.Test.YtegbfimfpkendaaDoorMg36
import Derived.Test.YtegbfimfpkendaaDoorMg47
import Derived.Test.YtegbfimfpkendaaDoorNumT
namespace Go.Proofs.YtegbfimfpkendaaDoor.LexT
open LexS LexR LexQ
def Good (t : Tok) : Prop := (t.kind = 1 ∨ t.kind = 2) ∧ t.text ≠ [] ∧ ∀ c ∈ t.text, kR c = t.kind
def Okk : Bool → List Tok → Prop
  | b, [] => b = false
  | b, t :: ts => (Good t ∧ Okk true ts) ∨ (b = true ∧ t.kind = 3 ∧ t.text = [] ∧ Okk false ts)
theorem Okk.append : ∀ (l : List Tok) (b : Bool) (l' : List Tok), Okk b l → Okk false l' → Okk b (l ++ l')
  | [], b, l', h, h' => by
    have hb : b = false := h
    rw [hb]; exact h'
  | t :: ts, b, l', h, h' => by
    rcases h with ⟨h1, h2⟩ | ⟨h1, h2, h3, h4⟩
    · exact .inl ⟨h1, Okk.append ts true l' h2 h'⟩
    · exact .inr ⟨h1, h2, h3, Okk.append ts false l' h4 h'⟩
theorem okk_row (line : Int) : ∀ (row : List Tok) (b : Bool), (∀ t ∈ row, Good t) → (b = true ∨ row ≠ []) → Okk b (row ++ [⟨3, [], line⟩])
  | [], b, _, hb => by
    rcases hb with hb | hb
    · exact .inr ⟨hb, rfl, rfl, rfl⟩
    · exact absurd rfl hb
  | t :: ts, b, h, _ => .inl ⟨h t (by simp), okk_row line ts true (fun x hx => h x (by simp [hx])) (.inl rfl)⟩
def jn1 (t : Tok) : List Int := if t.kind = 3 then [10] else t.text ++ [32]
def jn : List Tok → List Int
  | [] => []
  | t :: ts => jn1 t ++ jn ts
theorem jn_append : ∀ a b : List Tok, jn (a ++ b) = jn a ++ jn b
  | [], _ => rfl
  | t :: ts, b => by rw [List.cons_append, jn, jn, jn_append ts b, List.append_assoc]
def Inv (toks : List Tok) (was : Int) : Prop := (∀ t ∈ toks, Good t) ∧ (was = 1 ∨ was = 2 ∨ was = 3) ∧ (was ≠ 3 → ∃ l t, toks = l ++ [t] ∧ t.kind = was)
theorem kR_cases (c : Int) : kR c = 0 ∨ kR c = 1 ∨ kR c = 2 ∨ kR c = 3 := by
  unfold kR
  (repeat' split) <;> omega
theorem stepR_inv {line : Int} {toks toks' : List Tok} {was was' c : Int} (h : Inv toks was) (hs : stepR line toks was c = some (toks', was')) : Inv toks' was' ∧ (jn toks').length ≤ (jn toks).length + 2 := by
  obtain ⟨hg, hw, hl⟩ := h
  unfold stepR at hs
  split at hs
  · cases hs
  · rename_i h0
    split at hs
    · cases hs
      exact ⟨⟨hg, by omega, fun hn => absurd rfl hn⟩, by omega⟩
    · rename_i h3
      have hk : kR c = 1 ∨ kR c = 2 := by
        have := kR_cases c
        omega
      split at hs
      · rename_i he
        simp only [Option.some.injEq, Prod.mk.injEq] at hs
        obtain ⟨rfl, rfl⟩ := hs
        obtain ⟨l, t, rfl, ht⟩ := hl (by omega)
        rw [addLast_snoc]
        have hgt := hg t (by simp)
        have hk3 : kR c = 1 ∨ kR c = 2 ∨ kR c = 3 := hk.elim .inl fun h => .inr (.inl h)
        clear hl
        refine ⟨⟨?_, hk3, fun _ => ⟨l, _, rfl, ht.trans he.symm⟩⟩, ?_⟩
        · intro x hx
          rcases List.mem_append.1 hx with hx | hx
          · exact hg x (by simp [hx])
          · rw [List.mem_singleton.1 hx]
            refine ⟨hgt.1, by simp, fun y hy => ?_⟩
            rcases List.mem_append.1 hy with hy | hy
            · exact hgt.2.2 y hy
            · rw [List.mem_singleton.1 hy]
              exact he.trans ht.symm
        · have hne : ¬ t.kind = 3 := by
            have := hgt.1
            omega
          rw [jn_append, jn_append]
          simp [jn, jn1, hne]
          omega
      · simp only [Option.some.injEq, Prod.mk.injEq] at hs
        obtain ⟨rfl, rfl⟩ := hs
        refine ⟨⟨?_, by omega, fun _ => ⟨toks, _, rfl, rfl⟩⟩, ?_⟩
        · intro x hx
          rcases List.mem_append.1 hx with hx | hx
          · exact hg x hx
          · rw [List.mem_singleton.1 hx]
            refine ⟨hk, by simp, fun y hy => ?_⟩
            rw [List.mem_singleton.1 hy]
        · have hne : ¬ kR c = 3 := h3
          rw [jn_append]
          simp [jn, jn1, hne]
theorem runR_inv (line : Int) : ∀ (cs : List Int) (toks toks' : List Tok) (was : Int), Inv toks was → runR line cs toks was = some toks' → (∀ t ∈ toks', Good t) ∧ (jn toks').length ≤ (jn toks).length + 2 * cs.length
  | [], toks, toks', was, h, hr => by
    cases hr
    exact ⟨h.1, by omega⟩
  | c :: cs, toks, toks', was, h, hr => by
    rw [runR] at hr
    obtain ⟨⟨t1, w1⟩, h1, h2⟩ := Option.bind_eq_some_iff.1 hr
    obtain ⟨h3, h4⟩ := stepR_inv h h1
    obtain ⟨h5, h6⟩ := runR_inv line cs t1 toks' w1 h3 h2
    refine ⟨h5, ?_⟩
    simp
    omega
theorem rowR_inv (line : Int) (l : List Int) (ts : List Tok) (h : rowR line l = some ts) : Okk false ts ∧ (jn ts).length ≤ 2 * l.length + 1 := by
  unfold rowR at h
  obtain ⟨toks, h1, rfl⟩ := Option.map_eq_some_iff.1 h
  obtain ⟨h2, h3⟩ := runR_inv line (cutR l) [] toks 3 ⟨by simp, by omega, fun h => absurd rfl h⟩ h1
  have hc : (cutR l).length ≤ l.length := (List.takeWhile_sublist _).length_le
  have hj : (jn ([] : List Tok)).length = 0 := rfl
  unfold shut
  split
  · exact ⟨rfl, by rw [hj]; omega⟩
  · rename_i hne
    refine ⟨okk_row line toks false h2 (.inr hne), ?_⟩
    rw [jn_append]
    simp [jn, jn1]
    omega
theorem refG_inv : ∀ (rest cur : List Int) (line : Int) (out : List Tok), 1 ≤ line → Okk false out →
    (∃ l, 1 ≤ l ∧ refG rest cur line out = ([], l, 2)) ∨ (∃ toks, refG rest cur line out = (toks, 0, 0) ∧ Okk false toks ∧ (jn toks).length ≤ (jn out).length + 2 * (rest.length + cur.length) + 1)
  | [], cur, line, out, h1, ho => by
    rw [refG]
    cases hr : rowR line cur with
    | none => exact .inl ⟨line, h1, rfl⟩
    | some l =>
      obtain ⟨h2, h3⟩ := rowR_inv line cur l hr
      refine .inr ⟨out ++ l, rfl, Okk.append out false l ho h2, ?_⟩
      rw [jn_append]
      simp
      omega
  | c :: cs, cur, line, out, h1, ho => by
    rw [refG]
    split
    · cases hr : rowR line cur with
      | none => exact .inl ⟨line, h1, rfl⟩
      | some l =>
        obtain ⟨h2, h3⟩ := rowR_inv line cur l hr
        rcases refG_inv cs [] (line + 1) (out ++ l) (by omega) (Okk.append out false l ho h2) with h | ⟨toks, h4, h5, h6⟩
        · exact .inl h
        · refine .inr ⟨toks, h4, h5, ?_⟩
          rw [jn_append] at h6
          simp at h6 ⊢
          omega
    · rcases refG_inv cs (cur ++ [c]) line out h1 ho with h | ⟨toks, h4, h5, h6⟩
      · exact .inl h
      · refine .inr ⟨toks, h4, h5, ?_⟩
        simp at h6 ⊢
        omega
theorem lexF_inv (X : List Int) (h : X.length ≤ 65536) : (∃ l, 1 ≤ l ∧ lexF X = ([], l, 2)) ∨ (∃ toks, lexF X = (toks, 0, 0) ∧ Okk false toks ∧ (jn toks).length ≤ 2 * X.length + 1) := by
  rw [lexF_eq, if_neg (by omega)]
  rcases refG_inv X [] 1 [] (by omega) rfl with h | ⟨toks, h1, h2, h3⟩
  · exact .inl h
  · exact .inr ⟨toks, h1, h2, by simp [jn] at h3; omega⟩
theorem kR_byte {c : Int} (h : kR c = 1 ∨ kR c = 2) : 0 ≤ c ∧ c ≤ 255 ∧ c ≠ 10 ∧ c ≠ 35 := by
  unfold kR at h
  split at h
  · omega
  · split at h
    · omega
    · split at h <;> omega
end Go.Proofs.YtegbfimfpkendaaDoor.LexT
namespace Go.Proofs.YtegbfimfpkendaaDoor.PaY
open LexS LexR LexQ LexT PaJ PaL
set_option linter.unusedVariables false
set_option linter.unusedSimpArgs false
def joinW : List Tok → List Int
  | [] => []
  | [t] => t.text
  | t :: u :: ts => (t.text ++ [32]) ++ joinW (u :: ts)
def lin (n : Int) (ts : List Tok) : List Tok := ts.map fun t => ⟨t.kind, t.text, n⟩
def docB : List (List Tok) → List Int
  | [] => []
  | l :: ls => joinW l ++ 10 :: docB ls
end Go.Proofs.YtegbfimfpkendaaDoor.PaY
namespace Go.Proofs.YtegbfimfpkendaaDoor.PaZ
open Go.Proofs.YtegbfimfpkendaaDoorW.PrintWords LexS LexR LexQ LexT PaC PaD PaE PaF PaG PaJ PaL PaP PaQ PaS PaY
set_option linter.unusedVariables false
set_option linter.unusedSimpArgs false
def ints (l : List UInt8) : List Int := l.map fun b => (b.toNat : Int)
def W (l : List UInt8) : Tok := ⟨1, ints l, 0⟩
def Nm (v : Int) : Tok := ⟨2, ints (Lib.itoa v), 0⟩
def cfgL : Nat → List Int → List Tok
  | _, [] => []
  | k, v :: vs => W (namesT.getD k []) :: Nm v :: cfgL (k + 1) vs
def headL (vs : List Int) : List Tok := W configB :: cfgL 0 vs
def taskL (t : Tk) : List Tok := [W taskB, Nm t.mem, Nm t.cost]
def submitB : List UInt8 := [115, 117, 98, 109, 105, 116]
def cancelB : List UInt8 := [99, 97, 110, 99, 101, 108]
def tickB : List UInt8 := [116, 105, 99, 107]
def dispatchB : List UInt8 := [100, 105, 115, 112, 97, 116, 99, 104]
def answerB : List UInt8 := [97, 110, 115, 119, 101, 114]
def queryB : List UInt8 := [113, 117, 101, 114, 121]
def didB : List UInt8 := [100, 105, 100]
def failB : List UInt8 := [102, 97, 105, 108]
def needB : List UInt8 := [110, 101, 101, 100]
def opL (o : Opn) : List Tok :=
  if o.kind = 1 then [W submitB, Nm o.a, Nm o.b, Nm o.c]
  else if o.kind = 2 then [W cancelB, Nm o.a]
  else if o.kind = 3 then [W tickB]
  else if o.kind = 4 then [W dispatchB]
  else if o.kind = 6 then [W queryB, Nm o.a]
  else if o.c = 1 then [W answerB, Nm o.a, Nm o.b, W didB]
  else if o.c = 2 then [W answerB, Nm o.a, Nm o.b, W failB]
  else [W answerB, Nm o.a, Nm o.b, W needB, Nm o.d]
def okN (v : Int) : Bool := decide (0 ≤ v) && decide (v ≤ 1048576)
def okOp (o : Opn) : Bool :=
  if o.kind = 1 then okN o.a && (okN o.b && (okN o.c && decide (o.d = 0)))
  else if o.kind = 2 then okN o.a && (decide (o.b = 0) && (decide (o.c = 0) && decide (o.d = 0)))
  else if o.kind = 3 then decide (o.a = 0) && (decide (o.b = 0) && (decide (o.c = 0) && decide (o.d = 0)))
  else if o.kind = 4 then decide (o.a = 0) && (decide (o.b = 0) && (decide (o.c = 0) && decide (o.d = 0)))
  else if o.kind = 6 then okN o.a && (decide (o.b = 0) && (decide (o.c = 0) && decide (o.d = 0)))
  else if o.kind = 5 then okN o.a && (okN o.b && (if o.c = 1 then decide (o.d = 0) else if o.c = 2 then decide (o.d = 0) else decide (o.c = 3) && okN o.d))
  else false
def words (f : FileS) : List (List Tok) := headL f.cfg :: (f.tasks.map taskL ++ f.ops.map opL)
structure GoodF (f : FileS) : Prop where
  len : f.cfg.length = 10
  cfg : ∀ v ∈ f.cfg, okN v = true
  tasks : ∀ t ∈ f.tasks, okN t.mem = true ∧ okN t.cost = true
  ops : ∀ o ∈ f.ops, okOp o = true
def sp : List Tok → List Int
  | [] => []
  | t :: ts => 32 :: t.text ++ sp ts
theorem joinW_cons : ∀ (ts : List Tok) (t : Tok), joinW (t :: ts) = t.text ++ sp ts
  | [], t => by simp [joinW, sp]
  | u :: ts, t => by
    rw [joinW, joinW_cons ts u, sp]
    simp
end Go.Proofs.YtegbfimfpkendaaDoor.PaZ
namespace Go.Proofs.YtegbfimfpkendaaDoor.PbA
open Go.Proofs.YtegbfimfpkendaaDoorW.PrintWords LexS LexR LexQ LexT PaC PaD PaE PaF PaG PaJ PaL PaP PaQ PaS PaY PaZ
set_option linter.unusedVariables false
set_option linter.unusedSimpArgs false
def okF (f : FileS) : Bool := f.cfg.all okN && (f.tasks.all (fun t => okN t.mem && okN t.cost) && f.ops.all okOp)
theorem GoodF.ok {f : FileS} (h : GoodF f) : okF f = true := by
  simp only [okF, Bool.and_eq_true, List.all_eq_true]
  exact ⟨h.cfg, fun t ht => h.tasks t ht, h.ops⟩
theorem str_ints (l : List UInt8) : strOfNums (ints l) = ⟨l.toArray⟩ := by
  unfold strOfNums ints
  congr 2
  rw [List.map_map]
  conv => rhs; rw [← List.map_id l]
  apply List.map_congr_left
  intro b _
  simp
theorem word_t (n : Int) (l : List UInt8) (ts : List Tok) : wordP (lin n (W l :: ts)) = .ok ⟨l.toArray⟩ (lin n ts) := by
  show (if (1 : Int) = 1 then Rs.ok (strOfNums (ints l)) (lin n ts) else .bad 2) = _
  rw [if_pos rfl, str_ints]
theorem num_t (n v : Int) (ts : List Tok) (h : okN v = true) : numP (lin n (Nm v :: ts)) = .ok v (lin n ts) := by
  simp only [okN, Bool.and_eq_true, decide_eq_true_eq] at h
  have e : Lib.itoa v = Lib.decDigits v.toNat := by unfold Lib.itoa; rw [if_neg (by omega)]
  have e2 : NumS.parseF (strOfNums (ints (Lib.itoa v))) = (v, 0) := by
    rw [str_ints, e, NumT.parse_dec, if_neg (by omega)]
    congr 1
    omega
  show (if (2 : Int) = 2 then (if (NumS.parseF (strOfNums (ints (Lib.itoa v)))).2 = 0 then Rs.ok (NumS.parseF (strOfNums (ints (Lib.itoa v)))).1 (lin n ts) else _) else .bad 2) = _
  rw [e2]
  rfl
theorem tl (l : List UInt8) : (⟨l.toArray⟩ : ByteArray).toList = l := by rw [Lib.toList_data]
theorem op_way (n : Int) (st : FileS) (l : List UInt8) (ts : List Tok) (x : Fm) (hc : (l == configB) = false) (ht : ¬ l = taskB) (hf : findF ⟨l.toArray⟩ formsT = some x) (ho : st.ops.length < 4096) :
    takesP st false (lin n (W l :: ts)) = (match opP x.kind x.n.toNat (lin n ts) with
      | .bad e => .bad e
      | .ok vs t2 => finP { st with ops := st.ops ++ [mkOp x.kind vs] } t2) := by
  unfold takesP
  rw [word_t]
  simp only [tl, hc]
  rw [if_pos (by decide), if_neg (by simp), if_neg ht, hf]
  simp only
  rw [if_pos ho]
  cases opP x.kind x.n.toNat (lin n ts) <;> rfl
theorem op_t (n : Int) (st : FileS) (o : Opn) (ho : st.ops.length < 4096) (h : okOp o = true) : takesP st false (lin n (opL o)) = .ok { st with ops := st.ops ++ [o] } := by
  obtain ⟨k, a, b, c, d⟩ := o
  by_cases h1 : k = 1
  · subst h1
    simp [okOp] at h
    obtain ⟨ha, hb, hc, rfl⟩ := h
    simp only [opL, if_true]
    rw [op_way n st submitB _ ⟨strB submitB, 1, 3⟩ (by decide) (by decide) (by kernel_rfl) ho]
    simp only [opP, numsF, show (3 : Int).toNat = 3 from rfl, num_t n _ _ ha, num_t n _ _ hb, num_t n _ _ hc, if_neg (show ¬ (1 : Int) = 5 by decide)]
    rfl
  by_cases h2 : k = 2
  · subst h2
    simp [okOp] at h
    obtain ⟨ha, rfl, rfl, rfl⟩ := h
    simp only [opL, h1, if_true, if_false]
    rw [op_way n st cancelB _ ⟨strB cancelB, 2, 1⟩ (by decide) (by decide) (by kernel_rfl) ho]
    simp only [opP, numsF, show (1 : Int).toNat = 1 from rfl, num_t n _ _ ha, if_neg (show ¬ (2 : Int) = 5 by decide)]
    rfl
  by_cases h3 : k = 3
  · subst h3
    simp [okOp] at h
    obtain ⟨rfl, rfl, rfl, rfl⟩ := h
    simp only [opL, h1, h2, if_true, if_false]
    rw [op_way n st tickB _ ⟨strB tickB, 3, 0⟩ (by decide) (by decide) (by kernel_rfl) ho]
    rfl
  by_cases h4 : k = 4
  · subst h4
    simp [okOp] at h
    obtain ⟨rfl, rfl, rfl, rfl⟩ := h
    simp only [opL, h1, h2, h3, if_true, if_false]
    rw [op_way n st dispatchB _ ⟨strB dispatchB, 4, 0⟩ (by decide) (by decide) (by kernel_rfl) ho]
    rfl
  by_cases h6 : k = 6
  · subst h6
    simp [okOp] at h
    obtain ⟨ha, rfl, rfl, rfl⟩ := h
    simp only [opL, h1, h2, h3, h4, if_true, if_false]
    rw [op_way n st queryB _ ⟨strB queryB, 6, 1⟩ (by decide) (by decide) (by kernel_rfl) ho]
    simp only [opP, numsF, show (1 : Int).toNat = 1 from rfl, num_t n _ _ ha, if_neg (show ¬ (6 : Int) = 5 by decide)]
    rfl
  by_cases h5 : k = 5
  · subst h5
    have way := fun ts => op_way n st answerB ts ⟨strB answerB, 5, 2⟩ (by decide) (by decide) (by kernel_rfl) ho
    by_cases c1 : c = 1
    · subst c1
      simp [okOp] at h
      obtain ⟨ha, hb, rfl⟩ := h
      simp only [opL, h1, h2, h3, h4, h6, if_true, if_false]
      rw [way]
      simp only [opP, numsF, show (2 : Int).toNat = 2 from rfl, num_t n _ _ ha, num_t n _ _ hb, if_true, word_t, show findF (⟨didB.toArray⟩ : ByteArray) answersT = some ⟨strB didB, 1, 0⟩ from by kernel_rfl, if_neg (show ¬ (0 : Int) < 0 by decide)]
      rfl
    by_cases c2 : c = 2
    · subst c2
      simp [okOp] at h
      obtain ⟨ha, hb, rfl⟩ := h
      simp only [opL, h1, h2, h3, h4, h6, c1, if_true, if_false]
      rw [way]
      simp only [opP, numsF, show (2 : Int).toNat = 2 from rfl, num_t n _ _ ha, num_t n _ _ hb, if_true, word_t, show findF (⟨failB.toArray⟩ : ByteArray) answersT = some ⟨strB failB, 2, 0⟩ from by kernel_rfl, if_neg (show ¬ (0 : Int) < 0 by decide)]
      rfl
    simp [okOp, c1, c2] at h
    obtain ⟨ha, hb, rfl, hd⟩ := h
    simp only [opL, h1, h2, h3, h4, h6, c1, c2, if_true, if_false]
    rw [way]
    simp only [opP, numsF, show (2 : Int).toNat = 2 from rfl, num_t n _ _ ha, num_t n _ _ hb, if_true, word_t, show findF (⟨needB.toArray⟩ : ByteArray) answersT = some ⟨strB needB, 3, 1⟩ from by kernel_rfl, if_pos (show (0 : Int) < 1 by decide), num_t n _ _ hd]
    rfl
  simp [okOp, h1, h2, h3, h4, h5, h6] at h
end Go.Proofs.YtegbfimfpkendaaDoor.PbA
namespace Go.Proofs.YtegbfimfpkendaaDoor.PbB
open Go.Proofs.YtegbfimfpkendaaDoorW.PrintWords LexS LexR LexQ LexT PaC PaD PaE PaF PaG PaJ PaL PaP PaQ PaS PaY PaZ PbA PaV
set_option linter.unusedVariables false
set_option linter.unusedSimpArgs false
section order
variable (f : FileS) (s : List UInt8) (h : GoodF f) (ht : f.tasks.length ≤ 64) (ho : f.ops.length ≤ 200) (hs : ints s = docB (words f))
include h ht ho hs
def hv : List Int := [10, 2, 3, 4, 2, 1, 5, 2, 8, 7]
end order
end Go.Proofs.YtegbfimfpkendaaDoor.PbB
