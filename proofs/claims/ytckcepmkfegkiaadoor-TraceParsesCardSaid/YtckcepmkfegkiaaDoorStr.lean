/- Plain lemmas on strings made of lists of bytes. No condition. -/
import Derived.Test.YtckcepmkfegkiaaDoorBa
namespace Go.Proofs.YtckcepmkfegkiaaDoor.Str
open Go Go.RowKit Go.Proofs.YtckcepmkfegkiaaDoorW.PrintWords
def Bytes (X : List Int) : Prop := ∀ x ∈ X, 0 ≤ x ∧ x ≤ 255
theorem Bytes.of_wf {X : List Int} (h : ∀ x ∈ X, (Lit.int .u8 x).wf = true) : Bytes X := fun x hx => by
  have := h x hx
  simpa [Lit.wf, IntKind.min, IntKind.max, IntKind.signed, IntKind.bits] using this
theorem Bytes.take {X : List Int} (h : Bytes X) (n : Nat) : Bytes (X.take n) := fun x hx => h x (List.mem_of_mem_take hx)
theorem Bytes.drop {X : List Int} (h : Bytes X) (n : Nat) : Bytes (X.drop n) := fun x hx => h x (List.mem_of_mem_drop hx)
theorem size_str (X : List Int) : (strOfNums X).size = X.length := by simp [strOfNums, ByteArray.size]
theorem rd_get {X : List Int} {i : Nat} (h : i < X.length) : rd X (i : Int) = X[i] := by
  simp [rd, List.getD_eq_getElem?_getD, List.getElem?_eq_getElem h]
theorem bt_str {X : List Int} (hX : Bytes X) {i : Nat} (h : i < X.length) : bt (strOfNums X) (i : Int) = X[i] := by
  have hs : i < (strOfNums X).size := by rw [size_str]; exact h
  have hb := hX X[i] (List.getElem_mem h)
  unfold bt
  rw [Int.toNat_natCast, dif_pos hs]
  have e : (strOfNums X)[i]'hs = UInt8.ofNat (X[i]).toNat := by
    show (strOfNums X).data[i]'hs = _
    simp [strOfNums]
  rw [e, UInt8.toNat_ofNat']
  omega
theorem ext_str (X : List Int) (a b : Nat) : (strOfNums X).extract a b = strOfNums ((X.drop a).take (b - a)) := by
  apply ByteArray.ext
  apply Array.ext'
  simp [strOfNums, ByteArray.data_extract]
theorem ext_to (X : List Int) (b : Nat) : (strOfNums X).extract 0 b = strOfNums (X.take b) := by
  rw [ext_str]
  simp
theorem app_str (X Y : List Int) : strOfNums X ++ strOfNums Y = strOfNums (X ++ Y) := by
  apply ByteArray.ext
  apply Array.ext'
  simp [strOfNums]
theorem nil_str : (⟨#[]⟩ : ByteArray) = strOfNums [] := rfl
theorem drop_take_one {X : List Int} {i : Nat} (h : i < X.length) : (X.drop i).take (i + 1 - i) = [X[i]] := by
  rw [List.drop_eq_getElem_cons h, show i + 1 - i = 1 from by omega]
  rfl
theorem ext_one {X : List Int} {i : Nat} (h : i < X.length) : (strOfNums X).extract i (i + 1) = strOfNums [X[i]] := by
  rw [ext_str, drop_take_one h]
end Go.Proofs.YtckcepmkfegkiaaDoor.Str
