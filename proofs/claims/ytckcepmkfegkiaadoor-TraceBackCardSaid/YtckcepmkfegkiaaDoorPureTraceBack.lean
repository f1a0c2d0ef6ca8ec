/- The plain law of TraceBack: what the code computes answers true at every input. No condition. -/
import Derived.Test.YtckcepmkfegkiaaDoorPTraceBackx3
import Derived.Test.YtckcepmkfegkiaaDoorTrR
import Derived.Test.YtckcepmkfegkiaaDoorTrO
import Derived.Test.YtckcepmkfegkiaaDoorBits
namespace Go.Proofs.YtckcepmkfegkiaaDoor.Pure
open Go.RowKit Go.Proofs.YtckcepmkfegkiaaDoor.PTraceBack Go.Proofs.YtckcepmkfegkiaaDoorW.PrintWords Go.Proofs.YtckcepmkfegkiaaDoorW.PrintLast Go.Proofs.YtckcepmkfegkiaaDoorW.PrintMore
set_option linter.unusedVariables false
set_option linter.unusedSimpArgs false
theorem mn_in (n : Nat) (m : Int) (hm : 0 ≤ m) : 0 ≤ mn (n : Int) m ∧ mn (n : Int) m ≤ n ∧ mn (n : Int) m ≤ m := by unfold mn; split <;> omega
theorem take_in {α : Type} (l : List α) (m : Int) (hm : 0 ≤ m) : ((l.take (mn (l.length : Int) m).toNat).length : Int) = mn (l.length : Int) m := by
  have := mn_in l.length m hm
  rw [List.length_take]
  omega
open TrR
theorem bt_get (l : List UInt8) (i : Nat) (h : i < l.length) : bt ⟨l.toArray⟩ (i : Int) = ((l[i]).toNat : Int) := by
  unfold bt
  have hs : (i : Int).toNat < (⟨l.toArray⟩ : ByteArray).size := by simp [ByteArray.size]; exact h
  rw [dif_pos hs]
  rfl
def mayB (n : Int) : Bool := decide (0 ≤ n ∧ n ≤ 1048576)
theorem may_f (n : Int) : millwrightlaw19_may.f n = some (mayB n) := by
  unfold millwrightlaw19_may.f mayB
  by_cases h : n ≥ 0
  · rw [if_pos h]
    congr 1
    apply decide_eq_decide.2
    omega
  · rw [if_neg h, decide_eq_false (by omega)]
def kindB (n : Int) : Bool := decide (1 ≤ n ∧ n ≤ 6)
def okS (x : S42) : Bool := kindB x.f0 && (mayB x.f1 && (mayB x.f2 && (mayB x.f3 && mayB x.f4)))
theorem rd_get (A : List S42) (i : Nat) (hi : i < A.length) : rd_T42 A (i : Int) = A[i] := by
  unfold rd_T42
  rw [Int.toNat_natCast, List.getD_eq_getElem?_getD, List.getElem?_eq_getElem hi]
  rfl
theorem loop0 (A : List S42) (hA : A.length ≤ 100) (s : ByteArray) (X : List S42) (e : Int) (K : Nat) : ∀ (r i : Nat) (b : Bool), i + r = A.length →
    millwrightlaw19_TraceBack.l0 (2 * r + (K + 1)) A true s X e b 0 i = millwrightlaw19_TraceBack.l1 K A true s X e (b && (A.drop i).all okS) 0 0
  | 0, i, b, hr => by
    rw [show 2 * 0 + (K + 1) = K + 1 by omega, millwrightlaw19_TraceBack.l0, if_neg (by omega), List.drop_eq_nil_of_le (by omega), List.all_nil, Bool.and_true]
  | r + 1, i, b, hr => by
    have hi : i < A.length := by omega
    have hw : wrap64 ((i : Int) + 1) = ((i + 1 : Nat) : Int) := by rw [Bits.wrap64_in (by omega) (by omega)]; omega
    have ih := fun b => loop0 A hA s X e K r (i + 1) b (by omega)
    rw [show 2 * (r + 1) + (K + 1) = (2 * r + (K + 1)) + 1 + 1 by omega, millwrightlaw19_TraceBack.l0, if_pos (by omega), if_pos (by omega), rd_get A i hi, List.drop_eq_getElem_cons hi, List.all_cons]
    have hj : ∀ q : Bool, q = kindB A[i].f0 → millwrightlaw19_TraceBack.j1 (2 * r + (K + 1) + 1) A true s X e b 0 i q = millwrightlaw19_TraceBack.l1 K A true s X e (b && (okS A[i] && (A.drop (i + 1)).all okS)) 0 0 := by
      intro q hq
      rw [millwrightlaw19_TraceBack.j1, if_pos (by omega), if_pos (by omega), rd_get A i hi, may_f, may_f, may_f, may_f]
      simp only [Option.bind_some]
      rw [hw, ih, ih]
      unfold okS
      rw [← hq]
      cases b <;> cases q <;> cases mayB A[i].f1 <;> cases mayB A[i].f2 <;> cases mayB A[i].f3 <;> simp
    by_cases h1 : A[i].f0 ≥ 1
    · rw [if_pos h1]
      refine hj _ ?_
      unfold kindB
      apply decide_eq_decide.2
      omega
    · rw [if_neg h1]
      refine hj _ ?_
      unfold kindB
      exact (decide_eq_false (by omega)).symm
theorem loop1 (A : List S42) (l : List UInt8) (hl : l.length ≤ 70000) (X : List S42) (e : Int) (b : Bool) (K : Nat) : ∀ (r i : Nat) (n : Nat), i + r = l.length → n ≤ i →
    millwrightlaw19_TraceBack.l1 (r + K) A true ⟨l.toArray⟩ X e b n i = millwrightlaw19_TraceBack.l1 K A true ⟨l.toArray⟩ X e b ((n + (I8 (l.drop i)).countP (fun c => c == 10) : Nat) : Int) l.length
  | 0, i, n, hr, hn => by
    rw [List.drop_eq_nil_of_le (by omega), show 0 + K = K by omega]
    have : i = l.length := by omega
    subst this
    rfl
  | r + 1, i, n, hr, hn => by
    have hi : i < l.length := by omega
    have hw : wrap64 ((i : Int) + 1) = ((i + 1 : Nat) : Int) := by rw [Bits.wrap64_in (by omega) (by omega)]; omega
    have hw2 : wrap64 ((n : Int) + 1) = ((n + 1 : Nat) : Int) := by rw [Bits.wrap64_in (by omega) (by omega)]; omega
    have hs : ((⟨l.toArray⟩ : ByteArray).size : Int) = l.length := by simp [ByteArray.size]
    have hd : (I8 (l.drop i)).countP (fun c => c == 10) = (I8 (l.drop (i + 1))).countP (fun c => c == 10) + if (((l[i]).toNat : Int) == 10) = true then 1 else 0 := by
      rw [List.drop_eq_getElem_cons hi]
      unfold I8
      rw [List.map_cons, List.countP_cons]
    rw [show r + 1 + K = (r + K) + 1 by omega, millwrightlaw19_TraceBack.l1, hs, if_pos (by omega), if_pos (by omega), bt_get l i hi, hw, hw2, loop1 A l hl X e b K r (i + 1) (n + 1) (by omega) (by omega), loop1 A l hl X e b K r (i + 1) n (by omega) (by omega), hd]
    by_cases h : ((l[i]).toNat : Int) = 10
    · rw [if_pos h, if_pos (by simpa using h)]
      congr 2
      omega
    · rw [if_neg h, if_neg (by simpa using h)]
      rfl
theorem loop2 (A : List S42) (hA : A.length ≤ 100) (K : Nat) : ∀ (r i : Nat), i + r = A.length → millwrightlaw19_TraceBack.l2 (r + K + 1) A true A i = some true
  | 0, i, hr => by rw [millwrightlaw19_TraceBack.l2, if_neg (by omega)]
  | r + 1, i, hr => by
    have hw : wrap64 ((i : Int) + 1) = ((i + 1 : Nat) : Int) := by rw [Bits.wrap64_in (by omega) (by omega)]; omega
    rw [show r + 1 + K + 1 = (r + K + 1) + 1 by omega, millwrightlaw19_TraceBack.l2, if_pos (by omega), if_pos (by omega), if_pos (by omega), if_neg (by simp), hw]
    exact loop2 A hA K r (i + 1) (by omega)
theorem okS_fine (x : S42) : okS x = true ↔ pos (trace_Text.g x) ∧ fine (trace_Text.g x) := by
  unfold okS kindB mayB pos fine big trace_Text.g TrS.known
  simp only [Bool.and_eq_true, decide_eq_true_eq]
  constructor
  · rintro ⟨a, b, c, d, e⟩
    exact ⟨⟨by omega, by omega, by omega, by omega⟩, ⟨by omega, by omega⟩, by omega, by omega, by omega, by omega⟩
  · rintro ⟨⟨a, b, c, d⟩, ⟨e, f⟩, g, h, i, j⟩
    exact ⟨by omega, by omega, by omega, by omega, by omega⟩
theorem TraceBack (l0 : List S42) (b0 : l0.length ≤ 9223372036854775807)
    (w0 : ∀ x ∈ l0, (Lit.int .i64 x.f0).wf = true ∧ (Lit.int .i64 x.f1).wf = true ∧ (Lit.int .i64 x.f2).wf = true ∧ (Lit.int .i64 x.f3).wf = true ∧ (Lit.int .i64 x.f4).wf = true) :
    ∃ k, millwrightlaw19_TraceBack.f k l0 = some true := by
  have i1 := mn_in l0.length 100 (by decide)
  have t1 := take_in l0 100 (by decide)
  have hw : ∀ x ∈ l0.take (mn (l0.length : Int) 100).toNat, (Lit.int .i64 x.f0).wf = true ∧ (Lit.int .i64 x.f1).wf = true ∧ (Lit.int .i64 x.f2).wf = true ∧ (Lit.int .i64 x.f3).wf = true ∧ (Lit.int .i64 x.f4).wf = true := fun x hx => w0 x (List.mem_of_mem_take hx)
  simp only [millwrightlaw19_TraceBack.f, millwrightlaw19_shown.f, Option.bind_some, if_pos i1.1, if_pos i1.2.1]
  generalize l0.take (mn (l0.length : Int) 100).toNat = A at t1 hw
  have hA : A.length ≤ 100 := by omega
  have hin : ∀ x ∈ A, ∀ n ∈ [x.f1, x.f2, x.f3, x.f4], -9223372036854775808 ≤ n ∧ n ≤ 9223372036854775807 := by
    intro x hx n hn
    obtain ⟨_, h1, h2, h3, h4⟩ := hw x hx
    simp only [List.mem_cons, List.not_mem_nil, or_false] at hn
    rcases hn with rfl | rfl | rfl | rfl
    · exact TrO.wf_range h1
    · exact TrO.wf_range h2
    · exact TrO.wf_range h3
    · exact TrO.wf_range h4
  have hlen : (TrX.textL (A.map trace_Text.g)).length ≤ 9000 := by
    have := text_len 20 (A.map trace_Text.g) (fun e he n hn => by
      obtain ⟨x, hx, rfl⟩ := List.mem_map.1 he
      exact itoa_len n (hin x hx n hn))
    rw [List.length_map] at this
    omega
  have hev : A.all trace_Text.evIn = true := by
    rw [List.all_eq_true]
    intro x hx
    have h := hin x hx
    unfold trace_Text.evIn trace_Text.inI
    simp only [Bool.and_eq_true, decide_eq_true_eq]
    exact ⟨h _ (by simp), h _ (by simp), h _ (by simp), h _ (by simp)⟩
  have hT : trace_Text.f A = some ⟨(TrX.textL (A.map trace_Text.g)).toArray⟩ := if_pos ⟨by omega, by omega, hev⟩
  have hsz : (⟨(TrX.textL (A.map trace_Text.g)).toArray⟩ : ByteArray).size = (TrX.textL (A.map trace_Text.g)).length := by simp [ByteArray.size]
  have hby : bytesOf (⟨(TrX.textL (A.map trace_Text.g)).toArray⟩ : ByteArray) = I8 (TrX.textL (A.map trace_Text.g)) := rfl
  have hP : trace_Parse.f ⟨(TrX.textL (A.map trace_Text.g)).toArray⟩ = some ((TrQ.parseT (I8 (TrX.textL (A.map trace_Text.g)))).1.map trace_Parse.u, (TrQ.parseT (I8 (TrX.textL (A.map trace_Text.g)))).2) := by
    unfold trace_Parse.f
    rw [if_pos (by omega), hby]
  have hpt := parse_text (A.map trace_Text.g) (by omega)
  have hall : (∀ e ∈ A.map trace_Text.g, pos e ∧ fine e) ↔ A.all okS = true := by
    rw [List.all_eq_true]
    constructor
    · intro h x hx
      exact (okS_fine x).2 (h _ (List.mem_map.2 ⟨x, hx, rfl⟩))
    · intro h e he
      obtain ⟨x, hx, rfl⟩ := List.mem_map.1 he
      exact (okS_fine x).1 (h x hx)
  have hcount := count10 (A.map trace_Text.g)
  rw [List.length_map] at hcount
  generalize TrX.textL (A.map trace_Text.g) = L at *
  refine ⟨2 * A.length + ((L.length + ((A.length + 0 + 1) + 1 + 1)) + 1), ?_⟩
  rw [hT, Option.bind_some, hP, Option.bind_some]
  have h0 := loop0 A hA ⟨L.toArray⟩ ((TrQ.parseT (I8 L)).1.map trace_Parse.u) (TrQ.parseT (I8 L)).2 (L.length + ((A.length + 0 + 1) + 1 + 1)) A.length 0 true (by omega)
  rw [show ((0 : Nat) : Int) = 0 from rfl] at h0
  rw [h0, List.drop_zero, Bool.true_and]
  have h1 := loop1 A L (by omega) ((TrQ.parseT (I8 L)).1.map trace_Parse.u) (TrQ.parseT (I8 L)).2 (A.all okS) ((A.length + 0 + 1) + 1 + 1) L.length 0 0 (by omega) (by omega)
  rw [show ((0 : Nat) : Int) = 0 from rfl, List.drop_zero, Nat.zero_add, hcount] at h1
  rw [h1, millwrightlaw19_TraceBack.l1, if_neg (by rw [hsz]; omega), if_pos rfl]
  by_cases ha : A.all okS = true
  · rw [if_pos (hall.2 ha)] at hpt
    rw [hpt, ha, if_pos rfl, if_pos rfl]
    have hu : (A.map trace_Text.g).map trace_Parse.u = A := by
      rw [List.map_map]
      exact List.map_id A
    show millwrightlaw19_TraceBack.j3 _ A true ((A.map trace_Text.g).map trace_Parse.u) ((((A.map trace_Text.g).map trace_Parse.u).length : Int) != (A.length : Int)) = _
    rw [hu, bne_self_eq_false, millwrightlaw19_TraceBack.j3, if_neg (by simp)]
    exact loop2 A hA 0 A.length 0 (by omega)
  · rw [if_neg (fun h => ha (hall.1 h))] at hpt
    rw [if_neg ha, if_pos rfl, hpt.1]
    rw [show (([] : List TrS.Ev).map trace_Parse.u).length = 0 from rfl, if_pos (show ((0 : Nat) : Int) = 0 from rfl)]
    rcases hpt.2 with h | h
    · rw [h, if_pos rfl]
    · rw [h, if_neg (by decide)]
      rfl
end Go.Proofs.YtckcepmkfegkiaaDoor.Pure
