/- Plain: the reference's numbers of a line by its form are what the program takes of it. No condition. -/
import Derived.Test.YtegbfimfpkendaaDoorPParseTellsx4
import Derived.Test.YtegbfimfpkendaaDoorPParseTellsx5
import Derived.Test.YtegbfimfpkendaaDoorPcA
import Derived.Test.YtegbfimfpkendaaDoorMg20
import Derived.Test.YtegbfimfpkendaaDoorNumT
namespace Go.Proofs.YtegbfimfpkendaaDoor.PcB
open Go.RowKit Go.Proofs.YtegbfimfpkendaaDoor.PParseTells Go.Proofs.YtegbfimfpkendaaDoorW.PrintWords Go.Proofs.YtegbfimfpkendaaDoorW.PrintLast NumT NumS LexS PaC PaD PaE PaF PaG PaL PcA
set_option linter.unusedVariables false
set_option linter.unusedSimpArgs false
theorem bt_get (s : ByteArray) (i : Nat) (h : i < s.size) : bt s (i : Int) = ((s[i]'h).toNat : Int) := (bt_at s (i : Int) h).symm
def tail (s : ByteArray) (r : Int × Int) : Int × Int := if r.2 = 2 then (0, 2) else if s.data.toList.head? = some 48 ∧ 1 < s.size then (0, 2) else r
theorem ref_loop (s : ByteArray) (hs : 0 < s.size) (hm : s.size ≤ 100000) : ∀ (g i : Nat) (n : Int) (big : Bool) (q : Int), i + g = s.size → 0 ≤ n → (big = false → n ≤ 1048576 ∧ q = n) → (big = true → q = 1048577) →
    millwrightref01_Parse.l0 (2 * g + 2) s n big i = some (tail s (parseL (s.data.toList.drop i) q)) := by
  intro g
  induction g with
  | zero =>
    intro i n big q hi hn hb1 hb2
    obtain rfl : i = s.size := by omega
    show millwrightref01_Parse.l0 (0 + 1 + 1) s n big s.size = _
    rw [drop_all, millwrightref01_Parse.l0, if_neg (Int.lt_irrefl _), if_pos (by omega)]
    have h0 : bt s 0 = ((s[0]'hs).toNat : Int) := bt_get s 0 hs
    have hd := drop_cons s 0 hs
    rw [List.drop_zero] at hd
    have hh : s.data.toList.head? = some (s[0]'hs) := by rw [hd]; rfl
    have hf : ∀ b : Bool, millwrightref01_Parse.j2 1 n big b = some (if b = true then (0, 2) else if big = true then (0, 3) else (n, 0)) := by
      intro b
      rw [millwrightref01_Parse.j2]
      cases b <;> cases big <;> rfl
    have hp : parseL [] q = if big = true then (0, 3) else (n, 0) := by
      rw [parseL]
      cases big with
      | false => rw [if_neg (by have := hb1 rfl; omega), (hb1 rfl).2]; rfl
      | true => rw [if_pos (by have := hb2 rfl; omega)]; rfl
    have hp2 : ¬ (parseL [] q).2 = 2 := by rw [hp]; cases big; exact (by decide : ¬ (0 : Int) = 2); exact (by decide : ¬ (3 : Int) = 2)
    unfold tail
    rw [if_neg hp2, hp]
    by_cases hz : bt s 0 = 48
    · have hz1 : s.data.toList.head? = some 48 := by rw [hh]; congr 1; apply UInt8.toNat_inj.mp; rw [h0] at hz; exact Int.ofNat_inj.mp hz
      rw [if_pos hz, hf]
      by_cases h1 : 1 < s.size
      · rw [if_pos (show s.data.toList.head? = some 48 ∧ 1 < s.size from ⟨hz1, h1⟩), if_pos (decide_eq_true (by omega))]
      · rw [if_neg (show ¬ (s.data.toList.head? = some 48 ∧ 1 < s.size) from fun h => h1 h.2), if_neg (by rw [decide_eq_false (by omega)]; decide)]
    · have hz1 : ¬ s.data.toList.head? = some 48 := by rw [hh]; intro e; apply hz; rw [h0, Option.some.inj e]; rfl
      rw [if_neg hz, hf, if_neg (show ¬ (s.data.toList.head? = some 48 ∧ 1 < s.size) from fun h => hz1 h.1), if_neg (by decide)]
  | succ g ih =>
    intro i n big q hi hn hb1 hb2
    have hlt : i < s.size := by omega
    show millwrightref01_Parse.l0 (2 * g + 2 + 1 + 1) s n big i = _
    obtain ⟨c, hc⟩ : ∃ c : Nat, (s[i]'hlt).toNat = c := ⟨_, rfl⟩
    have hbt : bt s i = (c : Int) := by rw [bt_get s i hlt, hc]
    have hc255 : c ≤ 255 := by have := UInt8.toNat_lt (s[i]'hlt); omega
    rw [millwrightref01_Parse.l0, if_pos (by omega), if_pos (by omega), hbt, drop_cons s i hlt, parseL, hc]
    have hw : wrap64 ((i : Int) + 1) = ((i + 1 : Nat) : Int) := by unfold wrap64; omega
    have hj : ∀ b : Bool, (b = true ↔ (c < 48 ∨ 57 < c)) → millwrightref01_Parse.j1 (2 * g + 2 + 1) s n big i b = some (tail s (if c < 48 ∨ 57 < c then (0, 2) else parseL (s.data.toList.drop (i + 1)) (min (10 * q + ((c : Int) - 48)) 1048577))) := by
      intro b hb
      rw [millwrightref01_Parse.j1]
      by_cases h : c < 48 ∨ 57 < c
      · rw [if_pos h, if_pos (hb.2 h)]; rfl
      · rw [if_neg h, if_neg (fun e => h (hb.1 e))]
        cases big with
        | true =>
          have hq := hb2 rfl
          rw [if_pos rfl, hw]
          exact ih (i + 1) n true _ (by omega) hn (fun e => by cases e) (fun _ => by omega)
        | false =>
          have hq := hb1 rfl
          rw [if_neg (by decide), if_pos (by omega), if_pos (by omega), hw, hbt]
          have e : wrap64 (wrap64 (wrap64 (n * 10) + wrap64 (c : Int)) - 48) = 10 * n + ((c : Int) - 48) := by unfold wrap64; omega
          rw [e]
          refine ih (i + 1) _ _ _ (by omega) (by omega) (fun h2 => ?_) (fun h2 => ?_)
          · have := of_decide_eq_false h2; omega
          · have := of_decide_eq_true h2; omega
    by_cases h1 : (c : Int) < 48
    · rw [if_pos h1]; exact hj true (by simp; omega)
    · rw [if_neg h1]; exact hj _ (by simp; omega)
theorem ref_eq (s : ByteArray) (hm : s.size ≤ 100000) : millwrightref01_Parse.f (2 * s.size + 2) s = some (parseF s) := by
  unfold millwrightref01_Parse.f parseF
  rw [ByteArray.toList_eq]
  by_cases h0 : s.data.toList = []
  · rw [if_pos h0, if_pos (Or.inl h0)]
  · rw [if_neg h0]
    have hs : 0 < s.size := by
      rcases Nat.eq_zero_or_pos s.size with h | h
      · exact absurd (List.length_eq_zero_iff.mp h) h0
      · exact h
    have hl := ref_loop s hs hm s.size 0 0 false 0 (by omega) (by decide) (fun _ => by decide) (fun e => by cases e)
    rw [List.drop_zero] at hl
    have ht : tail s (parseL s.data.toList 0) = if s.data.toList = [] ∨ (s.data.toList.head? = some 48 ∧ s.data.toList ≠ [48]) then (0, 2) else parseL s.data.toList 0 := by
      have hz : (s.data.toList.head? = some 48 ∧ s.data.toList ≠ [48]) ↔ (s.data.toList.head? = some 48 ∧ 1 < s.size) := by
        have hlen : s.data.toList.length = s.size := rfl
        constructor
        · rintro ⟨a, b⟩
          refine ⟨a, ?_⟩
          cases hq : s.data.toList with
          | nil => exact absurd hq h0
          | cons x l =>
            rw [hq] at a b hlen
            cases l with
            | nil => exact absurd (congrArg (fun y => [y]) (Option.some.inj a)) b
            | cons y l => simp at hlen; omega
        · rintro ⟨a, b⟩
          refine ⟨a, fun e => ?_⟩
          rw [e] at hlen
          simp at hlen
          omega
      unfold tail
      by_cases c1 : (parseL s.data.toList 0).2 = 2
      · rw [if_pos c1]
        split
        · rfl
        · exact (parse_two _ _ c1).symm
      · rw [if_neg c1]
        by_cases c2 : s.data.toList.head? = some 48 ∧ 1 < s.size
        · rw [if_pos c2, if_pos (Or.inr (hz.2 c2))]
        · rw [if_neg c2, if_neg (fun h => h.elim h0 (fun h => c2 (hz.1 h)))]
    rw [← ht]
    exact hl
where parse_two : ∀ (l : List UInt8) (n : Int), (parseL l n).2 = 2 → parseL l n = (0, 2)
  | [], n, h => by
    rw [parseL] at h
    split at h
    · exact absurd h (by decide)
    · exact absurd h (by decide : ¬ (0 : Int) = 2)
  | c :: l, n, h => by
    rw [parseL] at h ⊢
    split at h
    · rename_i hc; rw [if_pos hc]
    · rename_i hc; rw [if_neg hc]; exact parse_two l _ h
theorem parse_ev (s : ByteArray) (hm : s.size ≤ 100000) : Ev (fun k => millwrightref01_Parse.f k s) (parseF s) := by
  refine ⟨2 * s.size + 2, fun k hk => ?_⟩
  have h := ref_eq s hm
  obtain ⟨d, rfl⟩ := Nat.exists_eq_add_of_le hk
  clear hk
  induction d with
  | zero => exact h
  | succ d ih => exact millwrightref01_Parse.mono s (2 * s.size + 2 + d) _ ih
def nB : List UInt8 := [78]
def numsR : List Tok → List ByteArray → List Int → List Int × Int
  | [], [], acc => (acc, 0)
  | [], _ :: _, _ => ([], 2)
  | _ :: _, [], _ => ([], 2)
  | t :: ts, f :: fs, acc =>
    if f.toList = nB then (if t.kind = 2 then (if (parseF (strOfNums t.text)).2 = 0 then numsR ts fs (acc ++ [(parseF (strOfNums t.text)).1]) else ([], (parseF (strOfNums t.text)).2)) else ([], 2))
    else (if t.kind = 1 then (if (strOfNums t.text).toList = f.toList then numsR ts fs acc else ([], 2)) else ([], 2))
theorem rd_f48 (ts : List Tok) (i : Nat) (t : Tok) (h : ts[i]? = some t) : rd_T68 (ts.map f48) (i : Int) = f48 t := by
  unfold rd_T68
  rw [Int.toNat_natCast, List.getD_eq_getElem?_getD, List.getElem?_map, h]
  rfl
theorem rdOf_at (fs : List ByteArray) (i : Nat) (f : ByteArray) (h : fs[i]? = some f) : rdOf ByteArray.empty fs (i : Int) = f := by
  unfold rdOf
  rw [Int.toNat_natCast, List.getD_eq_getElem?_getD, h]
  rfl
theorem nums_ev (ts : List Tok) (fs : List ByteArray) (hl : ts.length ≤ 100000 ∧ fs.length ≤ 100000) (ht : ∀ t ∈ ts, t.text.length ≤ 100000) : ∀ (d i : Nat) (acc : List Int), (ts.length - i) + (fs.length - i) = d → acc.length ≤ i → i ≤ 200000 →
    Ev (fun k => millwrightref03_numbers.l0 k (ts.map f48) fs acc (i : Int)) (numsR (ts.drop i) (fs.drop i) acc) := by
  intro d
  induction d using Nat.strongRecOn with
  | ind d ih =>
    intro i acc hd ha hi
    have hw : wrap64 ((i : Int) + 1) = ((i + 1 : Nat) : Int) := by unfold wrap64; omega
    by_cases h1 : i < ts.length
    · obtain ⟨t, htt⟩ : ∃ t, ts[i]? = some t := ⟨_, List.getElem?_eq_getElem h1⟩
      have hdt : ts.drop i = t :: ts.drop (i + 1) := by
        rw [List.drop_eq_getElem_cons h1]
        congr 1
        rw [List.getElem?_eq_getElem h1] at htt
        exact Option.some.inj htt
      have hmem : t ∈ ts := List.mem_of_getElem? htt
      by_cases h2 : i < fs.length
      · obtain ⟨f, hff⟩ : ∃ f, fs[i]? = some f := ⟨_, List.getElem?_eq_getElem h2⟩
        have hdf : fs.drop i = f :: fs.drop (i + 1) := by
          rw [List.drop_eq_getElem_cons h2]
          congr 1
          rw [List.getElem?_eq_getElem h2] at hff
          exact Option.some.inj hff
        refine Ev.step (f := fun k => millwrightref03_numbers.j1 k (ts.map f48) fs acc i true) (fun k => ?_) (Ev.step (f := fun k => millwrightref03_numbers.j2 k (ts.map f48) fs acc i false) (fun k => ?_) ?_)
        · simp only [millwrightref03_numbers.l0, List.length_map]
          rw [if_pos (by omega)]
        · simp only [millwrightref03_numbers.j1, List.length_map]
          rw [if_pos trivial, if_neg (by omega), decide_eq_false (by omega)]
        · rw [hdt, hdf, numsR]
          have hnext := fun acc' (h : acc'.length ≤ i + 1) => ih (ts.length - (i + 1) + (fs.length - (i + 1))) (by omega) (i + 1) acc' rfl h (by omega)
          by_cases hn : f.toList = nB
          · rw [if_pos hn]
            by_cases hk : t.kind = 2
            · rw [if_pos hk]
              have hsz : (strOfNums t.text).size ≤ 100000 := by have := ht t hmem; simpa [strOfNums, ByteArray.size] using this
              by_cases he : (parseF (strOfNums t.text)).2 = 0
              · rw [if_pos he]
                obtain ⟨K1, hK1⟩ := parse_ev _ hsz
                obtain ⟨K2, hK2⟩ := hnext (acc ++ [(parseF (strOfNums t.text)).1]) (by simp; omega)
                refine ⟨K1 + K2 + 1, fun k hk2 => ?_⟩
                obtain ⟨k', rfl⟩ : ∃ k', k = k' + 1 := ⟨k - 1, by omega⟩
                simp only [millwrightref03_numbers.j2, List.length_map]
                rw [if_neg (by decide), if_pos (by omega), if_pos (by omega), rdOf_at fs i f hff, if_pos (show f.toList = [78] from hn), if_pos (by omega), rd_f48 ts i t htt]
                rw [if_pos (show (f48 t).f0 = 2 from hk), show (f48 t).f1 = strOfNums t.text from rfl, show millwrightref01_Parse.f k' (strOfNums t.text) = some (parseF (strOfNums t.text)) from hK1 k' (by omega), Option.bind_some, if_pos he, if_pos (by omega), hw]
                exact hK2 k' (by omega)
              · rw [if_neg he]
                obtain ⟨K1, hK1⟩ := parse_ev _ hsz
                refine ⟨K1 + 1, fun k hk2 => ?_⟩
                obtain ⟨k', rfl⟩ : ∃ k', k = k' + 1 := ⟨k - 1, by omega⟩
                simp only [millwrightref03_numbers.j2, List.length_map]
                rw [if_neg (by decide), if_pos (by omega), if_pos (by omega), rdOf_at fs i f hff, if_pos (show f.toList = [78] from hn), if_pos (by omega), rd_f48 ts i t htt]
                rw [if_pos (show (f48 t).f0 = 2 from hk), show (f48 t).f1 = strOfNums t.text from rfl, show millwrightref01_Parse.f k' (strOfNums t.text) = some (parseF (strOfNums t.text)) from hK1 k' (by omega), Option.bind_some, if_neg he]
            · rw [if_neg hk]
              refine ⟨1, fun k hk2 => ?_⟩
              obtain ⟨k', rfl⟩ : ∃ k', k = k' + 1 := ⟨k - 1, by omega⟩
              simp only [millwrightref03_numbers.j2, List.length_map]
              rw [if_neg (by decide), if_pos (by omega), if_pos (by omega), rdOf_at fs i f hff, if_pos (show f.toList = [78] from hn), if_pos (by omega), rd_f48 ts i t htt]
              rw [if_neg (show ¬ (f48 t).f0 = 2 from hk)]
          · rw [if_neg hn]
            by_cases hk : t.kind = 1
            · rw [if_pos hk]
              by_cases he : (strOfNums t.text).toList = f.toList
              · rw [if_pos he]
                obtain ⟨K2, hK2⟩ := hnext acc (by omega)
                refine ⟨K2 + 1, fun k hk2 => ?_⟩
                obtain ⟨k', rfl⟩ : ∃ k', k = k' + 1 := ⟨k - 1, by omega⟩
                simp only [millwrightref03_numbers.j2, List.length_map]
                rw [if_neg (by decide), if_pos (by omega), if_pos (by omega), rdOf_at fs i f hff, if_neg (show ¬ f.toList = [78] from hn), if_pos (by omega), rd_f48 ts i t htt]
                rw [if_pos (show (f48 t).f0 = 1 from hk), show (f48 t).f1 = strOfNums t.text from rfl, if_pos he, hw]
                exact hK2 k' (by omega)
              · rw [if_neg he]
                refine ⟨1, fun k hk2 => ?_⟩
                obtain ⟨k', rfl⟩ : ∃ k', k = k' + 1 := ⟨k - 1, by omega⟩
                simp only [millwrightref03_numbers.j2, List.length_map]
                rw [if_neg (by decide), if_pos (by omega), if_pos (by omega), rdOf_at fs i f hff, if_neg (show ¬ f.toList = [78] from hn), if_pos (by omega), rd_f48 ts i t htt]
                rw [if_pos (show (f48 t).f0 = 1 from hk), show (f48 t).f1 = strOfNums t.text from rfl, if_neg he]
            · rw [if_neg hk]
              refine ⟨1, fun k hk2 => ?_⟩
              obtain ⟨k', rfl⟩ : ∃ k', k = k' + 1 := ⟨k - 1, by omega⟩
              simp only [millwrightref03_numbers.j2, List.length_map]
              rw [if_neg (by decide), if_pos (by omega), if_pos (by omega), rdOf_at fs i f hff, if_neg (show ¬ f.toList = [78] from hn), if_pos (by omega), rd_f48 ts i t htt]
              rw [if_neg (show ¬ (f48 t).f0 = 1 from hk)]
      · have hdf : fs.drop i = [] := List.drop_eq_nil_of_le (by omega)
        rw [hdt, hdf, numsR]
        refine ⟨3, fun k hk2 => ?_⟩
        obtain ⟨k', rfl⟩ : ∃ k', k = k' + 1 + 1 + 1 := ⟨k - 3, by omega⟩
        simp only [millwrightref03_numbers.l0, millwrightref03_numbers.j1, millwrightref03_numbers.j2, List.length_map]
        rw [if_pos (by omega), if_pos trivial, if_neg (by omega), decide_eq_true (show (i : Int) ≥ (fs.length : Int) by omega), if_pos rfl]
    · have hdt : ts.drop i = [] := List.drop_eq_nil_of_le (by omega)
      by_cases h2 : i < fs.length
      · obtain ⟨f, hff⟩ : ∃ f, fs.drop i = f :: fs.drop (i + 1) := ⟨_, List.drop_eq_getElem_cons h2⟩
        rw [hdt, hff, numsR]
        refine ⟨3, fun k hk2 => ?_⟩
        obtain ⟨k', rfl⟩ : ∃ k', k = k' + 1 + 1 + 1 := ⟨k - 3, by omega⟩
        simp only [millwrightref03_numbers.l0, millwrightref03_numbers.j1, millwrightref03_numbers.j2, List.length_map]
        rw [if_neg (by omega), decide_eq_true (show (i : Int) < (fs.length : Int) by omega), if_pos rfl, if_pos (show (i : Int) ≥ (ts.length : Int) by omega)]; first | rfl | (rw [if_pos rfl])
      · have hdf : fs.drop i = [] := List.drop_eq_nil_of_le (by omega)
        rw [hdt, hdf, numsR]
        refine ⟨2, fun k hk2 => ?_⟩
        obtain ⟨k', rfl⟩ : ∃ k', k = k' + 1 + 1 := ⟨k - 2, by omega⟩
        simp only [millwrightref03_numbers.l0, millwrightref03_numbers.j1, List.length_map]
        rw [if_neg (by omega), decide_eq_false (show ¬ (i : Int) < (fs.length : Int) by omega), if_neg (by decide)]
theorem nums_f (ts : List Tok) (fs : List ByteArray) (hl : ts.length ≤ 100000 ∧ fs.length ≤ 100000) (ht : ∀ t ∈ ts, t.text.length ≤ 100000) : Ev (fun k => millwrightref03_numbers.f k (ts.map f48) fs) (numsR ts fs []) := by
  have := nums_ev ts fs hl ht _ 0 [] rfl (by simp) (by omega)
  rw [List.drop_zero, List.drop_zero] at this
  exact this
end Go.Proofs.YtegbfimfpkendaaDoor.PcB
