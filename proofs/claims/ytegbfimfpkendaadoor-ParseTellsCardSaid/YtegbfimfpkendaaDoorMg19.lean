/- What the call of Lex leaves, for whatever kind its tokens are read as. No condition. Plain lemmas: the lexer's answer, told byte by byte and line by line. No condition. -/
import Derived.Test.YtegbfimfpkendaaDoorLexD
import Derived.Test.YtegbfimfpkendaaDoorMg5
namespace Go.Proofs.YtegbfimfpkendaaDoor.LexE
open Go.RowKit Go.Proofs.YtegbfimfpkendaaDoorW.PrintWords LexS LexB LexD
end Go.Proofs.YtegbfimfpkendaaDoor.LexE
namespace Go.Proofs.YtegbfimfpkendaaDoor.LexR
open LexS
def kR (c : Int) : Int :=
  if (97 ≤ c ∧ c ≤ 122) ∨ (65 ≤ c ∧ c ≤ 90) then 1
  else if 48 ≤ c ∧ c ≤ 57 then 2
  else if c = 32 ∨ c = 9 ∨ c = 13 then 3
  else 0
def addLast : List Tok → Int → List Tok
  | [], _ => []
  | [t], c => [⟨t.kind, t.text ++ [c], t.line⟩]
  | t :: u :: ts, c => t :: addLast (u :: ts) c
def stepR (line : Int) (toks : List Tok) (was : Int) (c : Int) : Option (List Tok × Int) :=
  if kR c = 0 ∨ (kR c + was = 3 ∧ kR c ≠ 3 ∧ was ≠ 3) then none
  else if kR c = 3 then some (toks, 3)
  else if kR c = was then some (addLast toks c, kR c)
  else some (toks ++ [⟨kR c, [c], line⟩], kR c)
def runR (line : Int) : List Int → List Tok → Int → Option (List Tok)
  | [], toks, _ => some toks
  | c :: cs, toks, was => (stepR line toks was c).bind fun p => runR line cs p.1 p.2
def notMark (c : Int) : Bool := !(c == 35)
def cutR (l : List Int) : List Int := l.takeWhile notMark
def shut (line : Int) (toks : List Tok) : List Tok := if toks = [] then [] else toks ++ [⟨3, [], line⟩]
def rowR (line : Int) (l : List Int) : Option (List Tok) := (runR line (cutR l) [] 3).map (shut line)
def refG : List Int → List Int → Int → List Tok → List Tok × Int × Int
  | [], cur, line, out =>
    match rowR line cur with
    | none => ([], line, 2)
    | some l => (out ++ l, 0, 0)
  | c :: cs, cur, line, out =>
    if c = 10 then
      match rowR line cur with
      | none => ([], line, 2)
      | some l => refG cs [] (line + 1) (out ++ l)
    else refG cs (cur ++ [c]) line out
theorem addLast_snoc (l : List Tok) (t : Tok) (c : Int) : addLast (l ++ [t]) c = l ++ [⟨t.kind, t.text ++ [c], t.line⟩] := by
  induction l with
  | nil => rfl
  | cons a l ih =>
    cases l with
    | nil => rfl
    | cons b l => exact congrArg (a :: ·) ih
theorem kR_of (c : Int) : kR c = if kindI c = 2 then 1 else if kindI c = 3 then 2 else if kindI c = 1 then 3 else 0 := by
  unfold kR kindI
  (repeat' split) <;> omega
theorem runR_run (line k : Int) (hk : k = 1 ∨ k = 2) (rest : List Int) : ∀ (ws : List Int), (∀ c ∈ ws, kR c = k) → ∀ (toks : List Tok) (t : Tok),
    runR line (ws ++ rest) (toks ++ [t]) k = runR line rest (toks ++ [⟨t.kind, t.text ++ ws, t.line⟩]) k
  | [], _, toks, t => by simp
  | c :: ws, h, toks, t => by
    have hc : kR c = k := h c (by simp)
    have hs : stepR line (toks ++ [t]) k c = some (toks ++ [⟨t.kind, t.text ++ [c], t.line⟩], k) := by
      unfold stepR
      rw [hc, addLast_snoc]
      rcases hk with rfl | rfl <;> simp
    rw [List.cons_append, runR, hs, Option.bind_some, runR_run line k hk rest ws (fun x hx => h x (by simp [hx]))]
    simp
theorem runR_was (line : Int) (rest : List Int) (toks : List Tok) (was : Int) (h : ∀ c cs, rest = c :: cs → kR c = 3 ∨ kR c = 0) : runR line rest toks was = runR line rest toks 3 := by
  cases rest with
  | nil => rfl
  | cons c cs =>
    have hc := h c cs rfl
    have e : stepR line toks was c = stepR line toks 3 c := by
      unfold stepR
      rcases hc with hc | hc <;> rw [hc] <;> simp
    rw [runR, runR, e]
theorem span_eq (p : Int → Bool) (l : List Int) : l.takeWhile p ++ l.dropWhile p = l := List.takeWhile_append_dropWhile
theorem mem_tw (p : Int → Bool) (c : Int) : ∀ l : List Int, c ∈ l.takeWhile p → p c = true
  | [], h => by simp at h
  | a :: l, h => by
    by_cases ha : p a = true
    · rw [List.takeWhile_cons_of_pos ha] at h
      rcases List.mem_cons.1 h with rfl | h
      · exact ha
      · exact mem_tw p c l h
    · rw [List.takeWhile_cons_of_neg ha] at h
      simp at h
theorem take_in (k c : Int) (l : List Int) (h : c ∈ l.takeWhile (isK k)) : kindI c = k := by
  have := mem_tw _ _ _ h
  simpa [isK] using this
theorem drop_head (p : Int → Bool) : ∀ (l : List Int) (c : Int) (cs : List Int), l.dropWhile p = c :: cs → p c = false
  | [], _, _, h => by simp at h
  | a :: l, c, cs, h => by
    by_cases ha : p a = true
    · rw [List.dropWhile_cons_of_pos ha] at h
      exact drop_head p l c cs h
    · rw [List.dropWhile_cons_of_neg ha] at h
      cases h
      simpa using ha
theorem take_app (p : Int → Bool) (tail : List Int) (ht : ∀ c cs, tail = c :: cs → p c = false) : ∀ (l : List Int), (l ++ tail).takeWhile p = l.takeWhile p ∧ (l ++ tail).dropWhile p = l.dropWhile p ++ tail
  | [] => by
    cases tail with
    | nil => exact ⟨rfl, rfl⟩
    | cons c cs =>
      have hc := ht c cs rfl
      exact ⟨by simp [hc], by simp [hc]⟩
  | a :: l => by
    by_cases ha : p a = true
    · obtain ⟨h1, h2⟩ := take_app p tail ht l
      rw [List.cons_append, List.takeWhile_cons_of_pos ha, List.takeWhile_cons_of_pos ha, List.dropWhile_cons_of_pos ha, List.dropWhile_cons_of_pos ha, h1, h2]
      exact ⟨rfl, rfl⟩
    · rw [List.cons_append, List.takeWhile_cons_of_neg ha, List.takeWhile_cons_of_neg ha, List.dropWhile_cons_of_neg ha, List.dropWhile_cons_of_neg ha]
      exact ⟨rfl, rfl⟩
def Tail (tail : List Int) : Prop := ∀ c cs, tail = c :: cs → c = 10 ∨ c = 35
theorem Tail.not {tail : List Int} (h : Tail tail) (k : Int) (hk : k = 2 ∨ k = 3) : ∀ c cs, tail = c :: cs → isK k c = false := by
  intro c cs e
  rcases h c cs e with rfl | rfl <;> rcases hk with rfl | rfl <;> decide
theorem nextI_tail {tail : List Int} (h : Tail tail) : nextI tail = 4 ∨ nextI tail = 5 := by
  cases tail with
  | nil => exact .inr rfl
  | cons c cs => rcases h c cs rfl with rfl | rfl <;> first | exact .inr rfl | exact .inl rfl
def Body (l : List Int) : Prop := ∀ c ∈ l, c ≠ 10 ∧ c ≠ 35
theorem body_kinds {c : Int} (h : c ≠ 10 ∧ c ≠ 35) : kindI c = 0 ∨ kindI c = 1 ∨ kindI c = 2 ∨ kindI c = 3 := by
  unfold kindI
  (repeat' split) <;> omega
theorem core (line : Int) (tail : List Int) (ht : Tail tail) (pre : List Tok) : ∀ (m : Nat) (body : List Int), body.length = m → Body body → ∀ (n : Nat) (toks : List Tok), (body ++ tail).length < n →
    match runR line body toks 3 with
    | none => lexB n (body ++ tail) line (!toks.isEmpty) (pre ++ toks) = ([], line, 2)
    | some toks' => ∃ n', tail.length < n' ∧ lexB n (body ++ tail) line (!toks.isEmpty) (pre ++ toks) = lexB n' tail line (!toks'.isEmpty) (pre ++ toks') := by
  intro m
  induction m using Nat.strongRecOn with
  | _ m ih =>
    intro body hm hb n toks hn
    cases body with
    | nil => exact ⟨n, hn, rfl⟩
    | cons c cs =>
      obtain ⟨n, rfl⟩ : ∃ k, n = k + 1 := ⟨n - 1, by omega⟩
      have hcs : Body cs := fun x hx => hb x (by simp [hx])
      have hlen : (cs ++ tail).length < n := by simp at hn ⊢; omega
      have word : ∀ (k kr : Int), (k = 2 ∧ kr = 1) ∨ (k = 3 ∧ kr = 2) → kindI c = k →
          lexB (n + 1) (c :: cs ++ tail) line (!toks.isEmpty) (pre ++ toks) =
            (if nextI ((c :: (cs ++ tail)).dropWhile (isK k)) = 5 - k then ([], line, 2) else lexB n ((c :: (cs ++ tail)).dropWhile (isK k)) line true (pre ++ toks ++ [⟨kr, (c :: (cs ++ tail)).takeWhile (isK k), line⟩])) →
          match runR line (c :: cs) toks 3 with
          | none => lexB (n + 1) (c :: cs ++ tail) line (!toks.isEmpty) (pre ++ toks) = ([], line, 2)
          | some toks' => ∃ n', tail.length < n' ∧ lexB (n + 1) (c :: cs ++ tail) line (!toks.isEmpty) (pre ++ toks) = lexB n' tail line (!toks'.isEmpty) (pre ++ toks') := by
        intro k kr hkk hc e
        have hk23 : k = 2 ∨ k = 3 := by rcases hkk with h | h <;> omega
        have hkr : kr = 1 ∨ kr = 2 := by rcases hkk with h | h <;> omega
        have hkc : ∀ x, kindI x = k → kR x = kr := fun x hx => by
          rw [kR_of, hx]
          rcases hkk with ⟨rfl, rfl⟩ | ⟨rfl, rfl⟩ <;> decide
        have hp : isK k c = true := by simp [isK, hc]
        obtain ⟨t1, t2⟩ := take_app (isK k) tail (ht.not k hk23) cs
        rw [List.takeWhile_cons_of_pos hp, List.dropWhile_cons_of_pos hp, t1, t2] at e
        have hw : ∀ x ∈ cs.takeWhile (isK k), kR x = kr := fun x hx => hkc x (take_in k x cs hx)
        have er : runR line (c :: cs) toks 3 = runR line (cs.dropWhile (isK k)) (toks ++ [⟨kr, c :: cs.takeWhile (isK k), line⟩]) kr := by
          have hs : stepR line toks 3 c = some (toks ++ [⟨kr, [c], line⟩], kr) := by
            unfold stepR
            rw [hkc c hc]
            rcases hkr with rfl | rfl <;> simp
          rw [runR, hs, Option.bind_some]
          have := runR_run line kr hkr (cs.dropWhile (isK k)) (cs.takeWhile (isK k)) hw toks ⟨kr, [c], line⟩
          rw [span_eq] at this
          exact this
        rw [er, e]
        have hsub : Body (cs.dropWhile (isK k)) := fun x hx => hcs x ((List.dropWhile_sublist _).subset hx)
        have hdl : (cs.dropWhile (isK k)).length ≤ cs.length := (List.dropWhile_sublist _).length_le
        have hne : (!(toks ++ [(⟨kr, c :: cs.takeWhile (isK k), line⟩ : Tok)]).isEmpty) = true := by simp
        cases hd : cs.dropWhile (isK k) with
        | nil =>
          have hnx : nextI ([] ++ tail) = 4 ∨ nextI ([] ++ tail) = 5 := nextI_tail ht
          rw [if_neg (by rcases hk23 with rfl | rfl <;> omega)]
          refine ⟨n, by simp at hlen; omega, ?_⟩
          rw [hne, List.append_assoc]
          rfl
        | cons d ds =>
          rw [hd] at hsub hdl
          have hdk := drop_head _ _ _ _ hd
          have hdk' : kindI d ≠ k := by simpa [isK] using hdk
          have hdb := hsub d (by simp)
          by_cases hbad : kindI d = 5 - k
          · have h1 : nextI (d :: ds ++ tail) = 5 - k := hbad
            rw [if_pos h1]
            have hs : stepR line (toks ++ [⟨kr, c :: cs.takeWhile (isK k), line⟩]) kr d = none := by
              unfold stepR
              rw [kR_of, hbad]
              rcases hkk with ⟨rfl, rfl⟩ | ⟨rfl, rfl⟩ <;> simp
            rw [runR, hs]
            rfl
          · have h1 : ¬ nextI (d :: ds ++ tail) = 5 - k := hbad
            rw [if_neg h1]
            have hd30 : kR d = 3 ∨ kR d = 0 := by
              rw [kR_of]
              rcases body_kinds hdb with h | h | h | h <;> rw [h] at hdk' hbad ⊢ <;> rcases hk23 with rfl | rfl <;> simp at hdk' hbad ⊢
            rw [runR_was line (d :: ds) _ kr (by intro x xs h; cases h; exact hd30)]
            have := ih (d :: ds).length (by simp at hm hdl ⊢; omega) (d :: ds) rfl hsub n (toks ++ [⟨kr, c :: cs.takeWhile (isK k), line⟩]) (by simp at hlen hdl ⊢; omega)
            rw [hne, ← List.append_assoc] at this
            exact this
      rcases body_kinds (hb c (by simp)) with hc | hc | hc | hc
      · have hs : stepR line toks 3 c = none := by
          unfold stepR
          rw [kR_of, hc]
          simp
        rw [runR, hs]
        show lexB (n + 1) (c :: (cs ++ tail)) line (!toks.isEmpty) (pre ++ toks) = ([], line, 2)
        rw [lexB, if_neg (by omega), if_neg (by omega), if_neg (by omega), if_neg (by omega)]
      · have hs : stepR line toks 3 c = some (toks, 3) := by
          unfold stepR
          rw [kR_of, hc]
          simp
        rw [runR, hs, Option.bind_some]
        have := ih cs.length (by simp at hm; omega) cs rfl hcs n toks hlen
        have e : lexB (n + 1) (c :: cs ++ tail) line (!toks.isEmpty) (pre ++ toks) = lexB n (cs ++ tail) line (!toks.isEmpty) (pre ++ toks) := by
          show lexB (n + 1) (c :: (cs ++ tail)) line (!toks.isEmpty) (pre ++ toks) = _
          rw [lexB, if_pos hc]
        rw [e]
        exact this
      · refine word 2 1 (.inl ⟨rfl, rfl⟩) hc ?_
        show lexB (n + 1) (c :: (cs ++ tail)) line (!toks.isEmpty) (pre ++ toks) = _
        rw [lexB, if_neg (by omega), if_pos hc]
        rfl
      · refine word 3 2 (.inr ⟨rfl, rfl⟩) hc ?_
        show lexB (n + 1) (c :: (cs ++ tail)) line (!toks.isEmpty) (pre ++ toks) = _
        rw [lexB, if_neg (by omega), if_neg (by omega), if_pos hc]
        rfl
theorem endOf_shut (line : Int) (toks out : List Tok) : endOf line (!toks.isEmpty) (out ++ toks) = out ++ shut line toks := by
  unfold endOf shut
  cases toks with
  | nil => simp
  | cons t ts => simp
theorem refG_seg (x : List Int) (line : Int) (out : List Tok) : ∀ (seg cur : List Int), (∀ c ∈ seg, c ≠ 10) → refG (seg ++ x) cur line out = refG x (cur ++ seg) line out
  | [], cur, _ => by simp
  | c :: seg, cur, h => by
    rw [List.cons_append, refG, if_neg (h c (by simp)), refG_seg x line out seg (cur ++ [c]) fun y hy => h y (by simp [hy])]
    simp
theorem notNl_iff (c : Int) : notNl c = true ↔ c ≠ 10 := by simp [notNl]
theorem notMark_iff (c : Int) : notMark c = true ↔ c ≠ 35 := by simp [notMark]
theorem drop_marks (seg x : List Int) (hs : ∀ c ∈ seg, c ≠ 10) (hx : ∀ c cs, x = c :: cs → c = 10) : (seg.dropWhile notMark ++ x).dropWhile notNl = x := by
  have h1 : ∀ l : List Int, (∀ c ∈ l, c ≠ 10) → (l ++ x).dropWhile notNl = x := by
    intro l
    induction l with
    | nil =>
      intro _
      cases x with
      | nil => rfl
      | cons c cs =>
        have := hx c cs rfl
        subst this
        rfl
    | cons c cs ih =>
      intro h
      rw [List.cons_append, List.dropWhile_cons_of_pos ((notNl_iff c).2 (h c (by simp)))]
      exact ih fun y hy => h y (by simp [hy])
  exact h1 _ fun c hc => hs c ((List.dropWhile_sublist _).subset hc)
theorem at_tail (seg x : List Int) (hs : ∀ c ∈ seg, c ≠ 10) (hx : ∀ c cs, x = c :: cs → c = 10) (n : Nat) (line : Int) (b : Bool) (acc : List Tok) (hn : (seg.dropWhile notMark ++ x).length < n) :
    lexB n (seg.dropWhile notMark ++ x) line b acc = match x with
      | [] => (endOf line b acc, 0, 0)
      | _ :: r => lexB (n - 1) r (line + 1) false (endOf line b acc) := by
  obtain ⟨n, rfl⟩ : ∃ k, n = k + 1 := ⟨n - 1, by omega⟩
  have hd := drop_marks seg x hs hx
  cases ht : seg.dropWhile notMark ++ x with
  | nil =>
    have : x = [] := (List.append_eq_nil_iff.1 ht).2
    subst this
    rfl
  | cons c cs =>
    have hc : c = 35 ∨ c = 10 := by
      cases hm : seg.dropWhile notMark with
      | nil =>
        rw [hm] at ht
        exact .inr (hx c cs ht)
      | cons d ds =>
        rw [hm] at ht
        cases ht
        have := drop_head _ _ _ _ hm
        exact .inl (by simpa [notMark] using this)
    have hk : kindI c = 4 ∨ kindI c = 5 := by rcases hc with rfl | rfl <;> decide
    rw [ht] at hd
    rw [lexB, if_neg (by omega), if_neg (by omega), if_neg (by omega), if_pos hk, hd]
    cases x <;> rfl
theorem lexB_refG : ∀ (m : Nat) (rest : List Int), rest.length = m → ∀ (n : Nat) (line : Int) (out : List Tok), rest.length < n → lexB n rest line false out = refG rest [] line out := by
  intro m
  induction m using Nat.strongRecOn with
  | _ m ih =>
    intro rest hm n line out hn
    have hseg : ∀ c ∈ rest.takeWhile notNl, c ≠ 10 := fun c hc => (notNl_iff c).1 (mem_tw _ _ _ hc)
    have hx : ∀ c cs, rest.dropWhile notNl = c :: cs → c = 10 := fun c cs h => by
      have := drop_head _ _ _ _ h
      simpa [notNl] using this
    have hsp := span_eq notNl rest
    generalize rest.takeWhile notNl = seg at hseg hsp
    generalize rest.dropWhile notNl = x at hx hsp
    subst hsp
    rw [refG_seg x line out seg [] hseg, List.nil_append]
    have hcut : cutR seg ++ (seg.dropWhile notMark ++ x) = seg ++ x := by rw [← List.append_assoc, cutR, span_eq]
    have ht : Tail (seg.dropWhile notMark ++ x) := by
      intro c cs h
      cases hd : seg.dropWhile notMark with
      | nil =>
        rw [hd] at h
        exact .inl (hx c cs h)
      | cons d ds =>
        rw [hd] at h
        cases h
        have := drop_head _ _ _ _ hd
        exact .inr (by simpa [notMark] using this)
    have hb : Body (cutR seg) := fun c hc => ⟨hseg c ((List.takeWhile_sublist _).subset hc), (notMark_iff c).1 (mem_tw _ _ _ hc)⟩
    have hcore := core line (seg.dropWhile notMark ++ x) ht out (cutR seg).length (cutR seg) rfl hb n [] (by rw [hcut]; exact hn)
    rw [hcut] at hcore
    have hrow : rowR line seg = (runR line (cutR seg) [] 3).map (shut line) := rfl
    cases hr : runR line (cutR seg) [] 3 with
    | none =>
      rw [hr] at hcore hrow
      have h1 : lexB n (seg ++ x) line false out = ([], line, 2) := by simpa using hcore
      rw [h1]
      cases x with
      | nil => rw [refG, hrow]; rfl
      | cons c cs => rw [refG, if_pos (hx c cs rfl), hrow]; rfl
    | some toks =>
      rw [hr] at hcore hrow
      obtain ⟨n', hn', h1⟩ := hcore
      have h2 : lexB n (seg ++ x) line false out = lexB n' (seg.dropWhile notMark ++ x) line (!toks.isEmpty) (out ++ toks) := by simpa using h1
      rw [h2, at_tail seg x hseg hx n' line _ _ hn', endOf_shut]
      cases x with
      | nil => rw [refG, hrow]; rfl
      | cons c cs =>
        rw [refG, if_pos (hx c cs rfl), hrow]
        show lexB (n' - 1) cs (line + 1) false (out ++ shut line toks) = refG cs [] (line + 1) (out ++ shut line toks)
        exact ih cs.length (by simp at hm; omega) cs rfl (n' - 1) (line + 1) _ (by simp at hn'; omega)
theorem lexF_eq (bs : List Int) : lexF bs = if 65536 < bs.length then ([], 0, 4) else refG bs [] 1 [] := by
  unfold lexF
  rw [lexB_refG bs.length bs rfl (bs.length + 1) 1 [] (by omega)]
theorem endOf_length (line : Int) (begun : Bool) (acc : List Tok) : (endOf line begun acc).length ≤ acc.length + 1 := by
  unfold endOf
  split <;> simp
theorem lexB_len : ∀ (n : Nat) (l : List Int) (line : Int) (begun : Bool) (acc : List Tok), (lexB n l line begun acc).1.length ≤ acc.length + l.length + 1
  | 0, _, _, _, _ => by simp [lexB]
  | n + 1, [], line, begun, acc => by
    have := endOf_length line begun acc
    simpa [lexB] using this
  | n + 1, c :: cs, line, begun, acc => by
    have hd : ∀ p : Int → Bool, p c = true → ((c :: cs).dropWhile p).length ≤ cs.length := fun p hp => by
      rw [List.dropWhile_cons_of_pos hp]
      exact (List.dropWhile_sublist _).length_le
    rw [lexB]
    split
    · have := lexB_len n cs line begun acc
      simp; omega
    · split
      · rename_i h1 h2
        split
        · simp
        · have := lexB_len n ((c :: cs).dropWhile (isK 2)) line true (acc ++ [⟨1, (c :: cs).takeWhile (isK 2), line⟩])
          have := hd (isK 2) (by simp [isK, h2])
          simp at *; omega
      · split
        · rename_i h1 h2 h3
          split
          · simp
          · have := lexB_len n ((c :: cs).dropWhile (isK 3)) line true (acc ++ [⟨2, (c :: cs).takeWhile (isK 3), line⟩])
            have := hd (isK 3) (by simp [isK, h3])
            simp at *; omega
        · split
          · have hs : ((c :: cs).dropWhile notNl).length ≤ cs.length + 1 := by
              have := (List.dropWhile_sublist (l := c :: cs) notNl).length_le
              simpa using this
            cases hx : (c :: cs).dropWhile notNl with
            | nil =>
              have := endOf_length line begun acc
              simp; omega
            | cons d r =>
              rw [hx] at hs
              have := lexB_len n r (line + 1) false (endOf line begun acc)
              have := endOf_length line begun acc
              simp at *; omega
          · simp
theorem lexF_len (bs : List Int) : (lexF bs).1.length ≤ 70000 := by
  unfold lexF
  split
  · simp
  · have := lexB_len (bs.length + 1) bs 1 false []
    simp at this
    omega
end Go.Proofs.YtegbfimfpkendaaDoor.LexR
