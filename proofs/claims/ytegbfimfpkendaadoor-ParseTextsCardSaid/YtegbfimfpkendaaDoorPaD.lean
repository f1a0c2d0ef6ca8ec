/- What a row's functions do, told at once: of what is left of a row, a value and what is left behind it, or what is wrong. No condition. -/
import Derived.Test.YtegbfimfpkendaaDoorPaC
namespace Go.Proofs.YtegbfimfpkendaaDoor.PaD
open Go.RowKit Go.Proofs.YtegbfimfpkendaaDoorW.PrintWords Go.Proofs.YtegbfimfpkendaaDoorW.PrintLast Go.Proofs.YtegbfimfpkendaaDoorW.PrintMore LexS LexB PaA LexBox PaC
set_option linter.unusedVariables false
set_option linter.unusedSimpArgs false
def TokOk (ts : List Tok) : Prop := ∀ t ∈ ts, (strOfNums t.text).size < 4294967281
structure RowAt (w0 w : World) (g : Nat) (line : Int) (ts : List Tok) : Prop where
  above : w0.heap.size ≤ g
  below : Below w0.heap.size w0 w
  ok : TokOk ts
  row : ∃ (A : Option Addr) (c : Nat), ts.length ≤ c ∧ kTok.C w0 A ts.length ts ∧ RowIs w g line A ts.length c
inductive Rs (α : Type) where
  | ok (a : α) (ts : List Tok)
  | bad (e : Int)
def wordP : List Tok → Rs ByteArray
  | [] => .bad 2
  | t :: ts => if t.kind = 1 then .ok (strOfNums t.text) ts else .bad 2
def numP : List Tok → Rs Int
  | [] => .bad 2
  | t :: ts => if t.kind = 2 then (if (NumS.parseF (strOfNums t.text)).2 = 0 then .ok (NumS.parseF (strOfNums t.text)).1 ts else .bad (NumS.parseF (strOfNums t.text)).2) else .bad 2
def RPost {α : Type} (val : α → Value) (w0 w : World) (g : Nat) (line : Int) (r : Rs α) (x : Ending) (w' : World) : Prop :=
  match r with
  | .ok a ts => x = .returned (val a) ∧ RowAt w0 w' g line ts ∧ KeepBut w w' g none
  | .bad e => x = .panicked (wrongC line e) ∧ Below w0.heap.size w0 w'
theorem TokOk.tail {t : Tok} {ts : List Tok} (h : TokOk (t :: ts)) : TokOk ts := fun x hx => h x (List.mem_cons_of_mem _ hx)
theorem RowAt.took {w0 w w' : World} {g : Nat} {line : Int} {ts ts' : List Tok} (h : RowAt w0 w g line ts) (hk : Took w0 w g line ts' w') (ho : TokOk ts') : RowAt w0 w' g line ts' := by
  obtain ⟨A', c', h1, h2, h3, h4, _⟩ := hk
  exact ⟨h.above, h4, ho, A', c', h1, h2, h3⟩
theorem Took.keep {w0 w w' : World} {g : Nat} {line : Int} {ts : List Tok} (h : Took w0 w g line ts w') : KeepBut w w' g none := by
  obtain ⟨_, _, _, _, _, _, h5⟩ := h
  exact h5
theorem word_r (g : Nat) (line : Int) (ts : List Tok) (w0 w : World) (h : RowAt w0 w g line ts) :
    Calls Tryd.prog 35 #[.pointer (some ⟨g, 0, none⟩)] w (RPost .string w0 w g line (wordP ts)) := by
  obtain ⟨A, c, hl, hC, hR⟩ := h.row
  cases ts with
  | nil =>
    refine (word_no g line A _ c [] w0 w hR hC h.below (fun t r e => by cases e)).mono ?_
    rintro x w' ⟨rfl, hb⟩
    exact ⟨rfl, below_step h.below hb⟩
  | cons t ts =>
    by_cases ht : t.kind = 1
    · refine (word_yes g line A c t ts w0 w hR hC h.below hl h.above ht).mono ?_
      rintro x w' ⟨rfl, hk⟩
      simp only [wordP, if_pos ht]
      exact ⟨rfl, h.took hk h.ok.tail, Took.keep hk⟩
    · refine (word_no g line A _ c (t :: ts) w0 w hR hC h.below (fun t' r e => by cases e; exact ht)).mono ?_
      rintro x w' ⟨rfl, hb⟩
      simp only [wordP, if_neg ht]
      exact ⟨rfl, below_step h.below hb⟩
theorem number_r (g : Nat) (line : Int) (ts : List Tok) (w0 w : World) (h : RowAt w0 w g line ts) :
    Calls Tryd.prog 38 #[.pointer (some ⟨g, 0, none⟩)] w (RPost (.int .i64) w0 w g line (numP ts)) := by
  obtain ⟨A, c, hl, hC, hR⟩ := h.row
  cases ts with
  | nil =>
    refine (number_no g line A _ c [] w0 w hR hC h.below (fun t r e => by cases e)).mono ?_
    rintro x w' ⟨rfl, hb⟩
    exact ⟨rfl, below_step h.below hb⟩
  | cons t ts =>
    by_cases ht : t.kind = 2
    · by_cases he : (NumS.parseF (strOfNums t.text)).2 = 0
      · refine (number_yes g line A c t ts (NumS.parseF (strOfNums t.text)).1 w0 w hR hC h.below hl h.above ht (h.ok t (List.mem_cons_self ..)) (by rw [← he])).mono ?_
        rintro x w' ⟨rfl, hk⟩
        simp only [numP, if_pos ht, if_pos he]
        exact ⟨rfl, h.took hk h.ok.tail, Took.keep hk⟩
      · refine (number_err g line A c t ts _ _ w0 w hR hC h.below ht (h.ok t (List.mem_cons_self ..)) rfl he).mono ?_
        rintro x w' ⟨rfl, hb⟩
        simp only [numP, if_pos ht, if_neg he]
        exact ⟨rfl, below_step h.below hb⟩
    · refine (number_no g line A _ c (t :: ts) w0 w hR hC h.below (fun t' r e => by cases e; exact ht)).mono ?_
      rintro x w' ⟨rfl, hb⟩
      simp only [numP, if_neg ht]
      exact ⟨rfl, below_step h.below hb⟩
end Go.Proofs.YtegbfimfpkendaaDoor.PaD
