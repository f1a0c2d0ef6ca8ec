/- The walk of the scanner's take. No condition. -/
import Derived.Test.YtegbfimfpkendaaDoorMg5
namespace Go.Proofs.YtegbfimfpkendaaDoor.LexC
open Go.RowKit Go.Proofs.YtegbfimfpkendaaDoorW.PrintWords Go.Proofs.YtegbfimfpkendaaDoorW.PrintLast LexS LexA LexB
set_option linter.unusedVariables false
set_option linter.unusedSimpArgs false
theorem tw_yes (p : Int → Bool) : ∀ (l : List Int) (j : Nat), j < (l.takeWhile p).length → ∃ h : j < l.length, p l[j] = true
  | [], j, h => by simp at h
  | c :: cs, j, h => by
    by_cases hc : p c = true
    · rw [List.takeWhile_cons_of_pos hc] at h
      cases j with
      | zero => exact ⟨by simp, hc⟩
      | succ j =>
        obtain ⟨h1, h2⟩ := tw_yes p cs j (by simpa using h)
        exact ⟨by simpa using h1, by simpa using h2⟩
    · rw [List.takeWhile_cons_of_neg hc] at h
      simp at h
theorem tw_no (p : Int → Bool) : ∀ (l : List Int) (h : (l.takeWhile p).length < l.length), p (l[(l.takeWhile p).length]'h) = false
  | [], h => by simp at h
  | c :: cs, h => by
    by_cases hc : p c = true
    · simp only [List.takeWhile_cons_of_pos hc, List.length_cons, List.getElem_cons_succ]
      exact tw_no p cs _
    · simp only [List.takeWhile_cons_of_neg hc, List.length_nil, List.getElem_cons_zero]
      simpa using hc
theorem tw_len (p : Int → Bool) (l : List Int) : (l.takeWhile p).length ≤ l.length := (List.takeWhile_sublist p).length_le
theorem tw_take (p : Int → Bool) : ∀ (l : List Int), l.take (l.takeWhile p).length = l.takeWhile p
  | [] => rfl
  | c :: cs => by
    by_cases hc : p c = true
    · simp only [List.takeWhile_cons_of_pos hc, List.length_cons, List.take_succ_cons, tw_take p cs]
    · simp [List.takeWhile_cons_of_neg hc]
theorem tw_drop (p : Int → Bool) : ∀ (l : List Int), l.drop (l.takeWhile p).length = l.dropWhile p
  | [] => rfl
  | c :: cs => by
    by_cases hc : p c = true
    · simp only [List.takeWhile_cons_of_pos hc, List.dropWhile_cons_of_pos hc, List.length_cons, List.drop_succ_cons, tw_drop p cs]
    · simp [List.takeWhile_cons_of_neg hc, List.dropWhile_cons_of_neg hc]
theorem rd_drop (bs : List Int) (at_ : Int) (j : Nat) (h0 : 0 ≤ at_) (h : j < (bs.drop at_.toNat).length) : rd bs (at_ + j) = (bs.drop at_.toNat)[j] := by
  have h' : at_.toNat + j < bs.length := by rw [List.length_drop] at h; omega
  rw [List.getElem_drop]
  unfold rd
  rw [show (at_ + (j : Int)).toNat = at_.toNat + j from by omega, List.getD_eq_getElem?_getD, List.getElem?_eq_getElem h']
  rfl
theorem info_u8 : (Tryd.prog.info? 5).map (fun i => (i.zero, i.size, i.bytes)) = some (some (.int .u8 0), 1, 1) := by kernel_rfl
theorem cutinfo {w0 : World} {A0 : Option Addr} {c0 : Nat} {bs : List Int} (hc : (Kd.int .u8).C w0 A0 bs.length bs) (hcl : bs.length ≤ c0) (at_ at2 : Int) (h0 : 0 ≤ at_) (h1 : at_ ≤ at2) (h2 : at2 ≤ bs.length) :
    ∃ (Ac : Option Addr) (m c' : Nat), (∀ W : World, (Instr.slice 22 (.slice A0 bs.length c0) (some (.int .i64 at_)) (some (.int .i64 at2)) none).run Tryd.prog W = .ok (.slice Ac m c') W) ∧ (Kd.int .u8).C w0 Ac m ((bs.take at2.toNat).drop at_.toNat) := by
  obtain ⟨i, hi, hz0, hz1, hz2⟩ := info_parts info_u8
  refine ⟨_, _, _, cut_mid 22 5 .i64 .i64 Tryd.underlying22 hi 1 hz1 A0 bs.length c0 at_ at2 h0 h1 h2 hcl, ?_⟩
  have h := Kd.C_mid (k := Kd.int .u8) (lo := at_.toNat) (hi := at2.toNat) hc (by omega) (by omega) hcl
  have hl : ((bs.take at2.toNat).drop at_.toNat).length = at2.toNat - at_.toNat := by simp only [List.length_drop, List.length_take]; omega
  rw [hl] at h
  exact h
theorem convinfo {w' : World} {Ac : Option Addr} {m c' : Nat} {xs : List Int} (h : (Kd.int .u8).C w' Ac m xs) : (convert 22 9 (.slice Ac m c')).run Tryd.prog w' = .ok (.string (strOfNums xs)) w' :=
  Kd.C_string Tryd.underlying22 Tryd.underlying5 Tryd.underlying9 h
def TakePost (w0 : World) (g : Nat) (A0 : Option Addr) (c0 : Nat) (bs : List Int) (at_ line : Int) (what token : Int) (acc : List Tok) (e : Ending) (w' : World) : Prop :=
  e = .returned (.tuple #[]) ∧ Sc w0 w' g A0 c0 bs (at_ + (((bs.drop at_.toNat).takeWhile (isK what)).length : Nat)) line true (acc ++ [⟨token, (bs.drop at_.toNat).takeWhile (isK what), line⟩])
def TakeRel (w0 : World) (g : Nat) (A0 : Option Addr) (c0 : Nat) (bs : List Int) (at_ line : Int) (begun : Bool) (acc : List Tok) (n : Nat) (k : Nat) (wr : World) : Prop :=
  ∃ j : Nat, j ≤ n ∧ k = n - j ∧ Sc w0 wr g A0 c0 bs (at_ + j) line begun acc
set_option maxHeartbeats 4000000 in
set_option maxRecDepth 100000 in
theorem take_calls (w0 w : World) (g : Nat) (A0 : Option Addr) (c0 : Nat) (bs : List Int) (at_ line : Int) (what token : Int) (begun : Bool) (acc : List Tok) (hS : Sc w0 w g A0 c0 bs at_ line begun acc) (h0 : 0 ≤ at_) (h1 : at_ ≤ bs.length)
    (hl : acc.length < 4398046511104) :
    Calls Tryd.prog 33 #[.pointer (some ⟨g, 0, none⟩), .int .i64 what, .int .i64 token] w (TakePost w0 g A0 c0 bs at_ line what token acc) := by
  have hlen := hS.len
  obtain ⟨n, hn⟩ : ∃ n, n = ((bs.drop at_.toNat).takeWhile (isK what)).length := ⟨_, rfl⟩
  have hnl : at_ + n ≤ bs.length := by
    have := tw_len (isK what) (bs.drop at_.toNat)
    rw [List.length_drop] at this
    omega
  have hS0 := Lib.hid hS
  have Hn := Lib.hid hn
  clear hn
  obtain ⟨hc0, hc1, hc2, hc3⟩ := hS.cells
  clear hS
  go_enter Tryd.func33, Tryd.ntmps33
  go_wp2
  clear hc0 hc1 hc2 hc3
  go_loopg [] n (fun k wr => TakeRel w0 g A0 c0 bs at_ line begun acc n k wr)
  case atStart => exact ⟨0, Nat.zero_le _, rfl, by simpa using hS0.out⟩
  case round =>
    obtain ⟨j, hj, rfl, hSr⟩ := hrel
    clear hS0
    obtain ⟨hc0, hc1, hc2, hc3⟩ := hSr.cells
    by_cases hjn : j < n
    · have hyes : kindI (rd bs (at_ + j)) = what := by
        obtain ⟨h', hp⟩ := tw_yes (isK what) (bs.drop at_.toNat) j (by rw [← Hn.out]; exact hjn)
        rw [rd_drop bs at_ j h0 h']
        simpa [isK] using hp
      have hlt : at_ + (j : Int) < (bs.length : Int) := by omega
      have hge : 0 ≤ at_ + (j : Int) := by omega
      obtain ⟨ad, e, hx⟩ := hSr.byte hge hlt
      subst e
      have hf1 := hSr.frozen 1
      have hdl : decide (at_ + (j : Int) < (bs.length : Int)) = true := decide_eq_true hlt
      have hk : (kindI (rd bs (at_ + j)) == what) = true := beq_iff_eq.2 hyes
      have hb1 : at_ + (j : Int) ≤ 9223372036854775806 := by omega
      have HSr := Lib.hid hSr
      have Hy := Lib.hid hyes
      clear hSr hyes
      replace hlt := eq_true hlt
      replace hge := eq_true hge
      go_wp2
      go_quiet ((go_at_call 48; (with_reducible refine (kind_calls (rd bs (at_ + j)) _).mono ?_); rintro e w' ⟨rfl, rfl⟩; (try first | exact ⟨rfl, _, rfl⟩ | exact ⟨rfl, 0, rfl⟩ | exact ⟨rfl, _, World.drewN_drewN _ _ _⟩)))
      go_wp2
      go_roundg (n - (j + 1))
      case measure => omega
      case rel => exact ⟨j + 1, by omega, rfl, by rw [show at_ + ((j + 1 : Nat) : Int) = at_ + (j : Int) + 1 from by omega]; exact (HSr.out.drewN nq).set1 _⟩
    · obtain rfl : j = n := by omega
      have hge : 0 ≤ at_ + (j : Int) := by omega
      have HSr := Lib.hid hSr
      have hb1 : at_ + (j : Int) ≤ 9223372036854775807 := by omega
      by_cases hlt : at_ + (j : Int) < (bs.length : Int)
      · have hno : ¬ kindI (rd bs (at_ + j)) = what := by
          have hd : ((bs.drop at_.toNat).takeWhile (isK what)).length < (bs.drop at_.toNat).length := by rw [← Hn.out, List.length_drop]; omega
          have hp := tw_no (isK what) (bs.drop at_.toNat) hd
          rw [rd_drop bs at_ j h0 (by rw [Hn.out]; exact hd)]
          simp only [← Hn.out] at hp
          simpa [isK] using hp
        obtain ⟨ad, e, hx⟩ := hSr.byte hge hlt
        subst e
        have hdl : decide (at_ + (j : Int) < (bs.length : Int)) = true := decide_eq_true hlt
        have hk : (kindI (rd bs (at_ + j)) == what) = false := beq_eq_false_iff_ne.2 hno
        clear hSr hno
        replace hlt := eq_true hlt
        replace hge := eq_true hge
        go_wp2
        go_quiet ((go_at_call 48; (with_reducible refine (kind_calls (rd bs (at_ + j)) _).mono ?_); rintro e w' ⟨rfl, rfl⟩; (try first | exact ⟨rfl, _, rfl⟩ | exact ⟨rfl, 0, rfl⟩ | exact ⟨rfl, _, World.drewN_drewN _ _ _⟩)))
        go_wp2
        have hS1 := HSr.out.drewN nq
        generalize wr.drewN nq = W1 at hS1 ⊢
        clear HSr hc0 hc1 hc2 hc3
        have HS0 := Lib.hid hS1
        obtain ⟨v4, hb, hg, hc, hcl, ho, hB⟩ := hS1
        have hne : some g ≠ v4.ownBlock := Kd.R_away ho (fun k hk => hk)
        obtain ⟨xs, hxs⟩ : ∃ xs, xs = (bs.drop at_.toNat).takeWhile (isK what) := ⟨_, rfl⟩
        obtain ⟨Ac, m, c', hcut, hmid⟩ := cutinfo hc hcl at_ (at_ + (j : Int)) h0 (by omega) (by omega)
        have hxe : (bs.take (at_ + (j : Int)).toNat).drop at_.toNat = xs := by
          rw [hxs, ← tw_take, List.drop_take, ← Hn.out]
          congr 1
          omega
        rw [hxe] at hmid
        have Hxs := Lib.hid hxs
        clear hxe hxs
        have hconv : ∀ w' : World, (Kd.int .u8).C w' Ac m xs → (convert 22 9 (.slice Ac m c')).run Tryd.prog w' = .ok (.string (strOfNums xs)) w' := fun w' h => convinfo h
        have hc4 : W1.drew.cell? ⟨g, 4, none⟩ = some v4 := (blk_cell (blk_drew hb) 4).trans rfl
        refine start_ (n := 27) (S := fun w' => w'.cell? ⟨g, 4, none⟩ = some v4 ∧ w'.cell? ⟨g, 0, none⟩ = some (.slice (some ad) bs.length c0) ∧ w'.cell? ⟨g, 1, none⟩ = some (.int .i64 (at_ + (j : Int))) ∧ w'.cell? ⟨g, 2, none⟩ = some (.int .i64 line) ∧ Aside0 ((Kd.int .u8).C w' Ac m xs)) (ds := [26]) #[false, false, false, false, false, false, false, false, false, false, false, false, false, false, false, false, false, false, false, false, false, false, false, false, false, false, false] (by kernel_rfl) rfl rfl ⟨(blk_cell (blk_drew hb) 4).trans rfl, (blk_cell (blk_drew hb) 0).trans rfl, (blk_cell (blk_drew hb) 1).trans rfl, (blk_cell (blk_drew hb) 2).trans rfl, ⟨Kd.C_below hmid (below_drew hB)⟩⟩ (fun hHeld => ?_)
        refine pure_ (i := 0) (N := some 43) (v := ?_) (a' := ?_) #[true, false, false, false, false, false, false, false, false, false, false, false, false, false, false, false, false, false, false, false, false, false, false, false, false, false, false] rfl rfl (by kernel_rfl) (fun _ _ _ h => h) (Or.inl ⟨by rfl, ?_⟩) ?_ ?_
        rotate_left
        · intro w'
          go_simp
          with_reducible rfl
        rotate_left
        · simp only [Act.put, List.setIfInBounds_toArray, List.set_cons_zero, List.set_cons_succ, i64_w, i32_w]
          rfl
        refine pure_ (i := 1) (N := some 44) (v := ?_) (a' := ?_) #[true, true, false, false, false, false, false, false, false, false, false, false, false, false, false, false, false, false, false, false, false, false, false, false, false, false, false] rfl rfl (by kernel_rfl) (fun _ _ _ h => h) (Or.inl ⟨by rfl, ?_⟩) ?_ ?_
        rotate_left
        · intro w'
          go_simp
          with_reducible rfl
        rotate_left
        · simp only [Act.put, List.setIfInBounds_toArray, List.set_cons_zero, List.set_cons_succ, i64_w, i32_w]
          rfl
        refine pure_ (i := 2) (N := some 45) (v := ?_) (a' := ?_) #[true, true, true, false, false, false, false, false, false, false, false, false, false, false, false, false, false, false, false, false, false, false, false, false, false, false, false] rfl rfl (by kernel_rfl) (fun _ _ _ h => h) (Or.inl ⟨by rfl, ?_⟩) ?_ ?_
        rotate_left
        · intro w'
          go_simp
          with_reducible rfl
        rotate_left
        · simp only [Act.put, List.setIfInBounds_toArray, List.set_cons_zero, List.set_cons_succ, i64_w, i32_w]
          rfl
        refine pure_ (i := 3) (N := some 46) (v := ?_) (a' := ?_) #[true, true, true, true, false, false, false, false, false, false, false, false, false, false, false, false, false, false, false, false, false, false, false, false, false, false, false] rfl rfl (by kernel_rfl) (fun _ _ _ h => h) (Or.inl ⟨by rfl, ?_⟩) ?_ ?_
        rotate_left
        · intro w'
          go_simp
          with_reducible rfl
        rotate_left
        · simp only [Act.put, List.setIfInBounds_toArray, List.set_cons_zero, List.set_cons_succ, i64_w, i32_w]
          rfl
        refine pure_ (i := 5) (N := some 48) (v := ?_) (a' := ?_) #[true, true, true, true, false, true, false, false, false, false, false, false, false, false, false, false, false, false, false, false, false, false, false, false, false, false, false] rfl rfl (by kernel_rfl) (fun _ _ _ h => h) (Or.inl ⟨by rfl, ?_⟩) ?_ ?_
        rotate_left
        · intro w'
          go_simp
          with_reducible rfl
        rotate_left
        · simp only [Act.put, List.setIfInBounds_toArray, List.set_cons_zero, List.set_cons_succ, i64_w, i32_w]
          rfl
        refine pure_ (i := 6) (N := some 49) (v := ?_) (a' := ?_) #[true, true, true, true, false, true, true, false, false, false, false, false, false, false, false, false, false, false, false, false, false, false, false, false, false, false, false] rfl rfl (by kernel_rfl) (fun _ _ _ h => h) (Or.inl ⟨by rfl, ?_⟩) ?_ ?_
        rotate_left
        · intro w'
          go_simp
          with_reducible rfl
        rotate_left
        · simp only [Act.put, List.setIfInBounds_toArray, List.set_cons_zero, List.set_cons_succ, i64_w, i32_w]
          rfl
        refine pure_ (i := 7) (N := some 50) (v := ?_) (a' := ?_) #[true, true, true, true, false, true, true, true, false, false, false, false, false, false, false, false, false, false, false, false, false, false, false, false, false, false, false] rfl rfl (by kernel_rfl) (fun _ _ _ h => h) (Or.inl ⟨by rfl, ?_⟩) ?_ ?_
        rotate_left
        · intro w'
          go_simp
          with_reducible rfl
        rotate_left
        · simp only [Act.put, List.setIfInBounds_toArray, List.set_cons_zero, List.set_cons_succ, i64_w, i32_w]
          rfl
        refine pure_ (i := 8) (N := some 51) (v := ?_) (a' := ?_) #[true, true, true, true, false, true, true, true, true, false, false, false, false, false, false, false, false, false, false, false, false, false, false, false, false, false, false] rfl rfl (by kernel_rfl) (fun _ _ _ h => h) (Or.inl ⟨by rfl, ?_⟩) ?_ ?_
        rotate_left
        · intro w'
          go_simp
          with_reducible rfl
        rotate_left
        · simp only [Act.put, List.setIfInBounds_toArray, List.set_cons_zero, List.set_cons_succ, i64_w, i32_w]
          rfl
        refine pure_ (i := 10) (N := some 53) (v := ?_) (a' := ?_) #[true, true, true, true, false, true, true, true, true, false, true, false, false, false, false, false, false, false, false, false, false, false, false, false, false, false, false] rfl rfl (by kernel_rfl) (fun _ _ _ h => h) (Or.inl ⟨by rfl, ?_⟩) ?_ ?_
        rotate_left
        · intro w'
          go_simp
          with_reducible rfl
        rotate_left
        · simp only [Act.put, List.setIfInBounds_toArray, List.set_cons_zero, List.set_cons_succ, i64_w, i32_w]
          rfl
        refine pure_ (i := 11) (N := some 54) (v := ?_) (a' := ?_) #[true, true, true, true, false, true, true, true, true, false, true, true, false, false, false, false, false, false, false, false, false, false, false, false, false, false, false] rfl rfl (by kernel_rfl) (fun _ _ _ h => h) (Or.inl ⟨by rfl, ?_⟩) ?_ ?_
        rotate_left
        · intro w'
          go_simp
          with_reducible rfl
        rotate_left
        · simp only [Act.put, List.setIfInBounds_toArray, List.set_cons_zero, List.set_cons_succ, i64_w, i32_w]
          rfl
        refine pure_ (i := 12) (N := some 55) (v := ?_) (a' := ?_) #[true, true, true, true, false, true, true, true, true, false, true, true, true, false, false, false, false, false, false, false, false, false, false, false, false, false, false] rfl rfl (by kernel_rfl) (fun _ _ _ h => h) (Or.inl ⟨by rfl, ?_⟩) ?_ ?_
        rotate_left
        · intro w'
          go_simp
          with_reducible rfl
        rotate_left
        · simp only [Act.put, List.setIfInBounds_toArray, List.set_cons_zero, List.set_cons_succ, i64_w, i32_w]
          rfl
        refine pure_ (i := 13) (N := some 56) (v := ?_) (a' := ?_) #[true, true, true, true, false, true, true, true, true, false, true, true, true, true, false, false, false, false, false, false, false, false, false, false, false, false, false] rfl rfl (by kernel_rfl) (fun _ _ _ h => h) (Or.inl ⟨by rfl, ?_⟩) ?_ ?_
        rotate_left
        · intro w'
          go_simp
          with_reducible rfl
        rotate_left
        · simp only [Act.put, List.setIfInBounds_toArray, List.set_cons_zero, List.set_cons_succ, i64_w, i32_w]
          rfl
        refine pure_ (i := 17) (N := some 60) (v := ?_) (a' := ?_) #[true, true, true, true, false, true, true, true, true, false, true, true, true, true, false, false, false, true, false, false, false, false, false, false, false, false, false] rfl rfl (by kernel_rfl) (fun _ _ _ h => h) (Or.inl ⟨by rfl, ?_⟩) ?_ ?_
        rotate_left
        · intro w'
          go_simp
          with_reducible rfl
        rotate_left
        · simp only [Act.put, List.setIfInBounds_toArray, List.set_cons_zero, List.set_cons_succ, i64_w, i32_w]
          rfl
        refine pure_ (i := 18) (N := some 61) (v := ?_) (a' := ?_) #[true, true, true, true, false, true, true, true, true, false, true, true, true, true, false, false, false, true, true, false, false, false, false, false, false, false, false] rfl rfl (by kernel_rfl) (fun _ _ _ h => h) (Or.inl ⟨by rfl, ?_⟩) ?_ ?_
        rotate_left
        · intro w'
          go_simp
          with_reducible rfl
        rotate_left
        · simp only [Act.put, List.setIfInBounds_toArray, List.set_cons_zero, List.set_cons_succ, i64_w, i32_w]
          rfl
        refine pure_ (i := 19) (N := some 62) (v := ?_) (a' := ?_) #[true, true, true, true, false, true, true, true, true, false, true, true, true, true, false, false, false, true, true, true, false, false, false, false, false, false, false] rfl rfl (by kernel_rfl) (fun _ _ _ h => h) (Or.inl ⟨by rfl, ?_⟩) ?_ ?_
        rotate_left
        · intro w'
          go_simp
          with_reducible rfl
        rotate_left
        · simp only [Act.put, List.setIfInBounds_toArray, List.set_cons_zero, List.set_cons_succ, i64_w, i32_w]
          rfl
        refine take_ (i := 4) (N := some 47) (v := ?_) (a' := ?_) #[true, true, true, true, true, true, true, true, true, false, true, true, true, true, false, false, false, true, true, true, false, false, false, false, false, false, false] rfl rfl (by kernel_rfl) (fun _ _ _ h => h) (Or.inl ⟨by rfl, ?_⟩) hHeld ?_ ?_
        rotate_left
        · rintro w' ⟨s0, s1, s2, s3, s4⟩
          go_simp
          with_reducible rfl
        rotate_left
        · simp only [Act.put, List.setIfInBounds_toArray, List.set_cons_zero, List.set_cons_succ, i64_w, i32_w]
          rfl
        refine take_ (i := 9) (N := some 52) (v := ?_) (a' := ?_) #[true, true, true, true, true, true, true, true, true, true, true, true, true, true, false, false, false, true, true, true, false, false, false, false, false, false, false] rfl rfl (by kernel_rfl) (fun _ _ _ h => h) (Or.inl ⟨by rfl, ?_⟩) hHeld ?_ ?_
        rotate_left
        · rintro w' ⟨s0, s1, s2, s3, s4⟩
          go_simp
          with_reducible rfl
        rotate_left
        · simp only [Act.put, List.setIfInBounds_toArray, List.set_cons_zero, List.set_cons_succ, i64_w, i32_w]
          rfl
        refine take_ (i := 14) (N := some 57) (v := ?_) (a' := ?_) #[true, true, true, true, true, true, true, true, true, true, true, true, true, true, true, false, false, true, true, true, false, false, false, false, false, false, false] rfl rfl (by kernel_rfl) (fun _ _ _ h => h) (Or.inl ⟨by rfl, ?_⟩) hHeld ?_ ?_
        rotate_left
        · rintro w' ⟨s0, s1, s2, s3, s4⟩
          go_simp
          with_reducible rfl
        rotate_left
        · simp only [Act.put, List.setIfInBounds_toArray, List.set_cons_zero, List.set_cons_succ, i64_w, i32_w]
          rfl
        refine pure_ (i := 15) (N := some 58) (v := ?_) (a' := ?_) #[true, true, true, true, true, true, true, true, true, true, true, true, true, true, true, true, false, true, true, true, false, false, false, false, false, false, false] rfl rfl (by kernel_rfl) (fun _ _ _ h => h) (Or.inl ⟨by rfl, ?_⟩) ?_ ?_
        rotate_left
        · intro w'
          go_simp
          with_reducible rfl
        rotate_left
        · simp only [Act.put, List.setIfInBounds_toArray, List.set_cons_zero, List.set_cons_succ, i64_w, i32_w]
          rfl
        refine take_ (i := 16) (N := some 59) (v := ?_) (a' := ?_) #[true, true, true, true, true, true, true, true, true, true, true, true, true, true, true, true, true, true, true, true, false, false, false, false, false, false, false] rfl rfl (by kernel_rfl) (fun _ _ _ h => h) (Or.inl ⟨by rfl, ?_⟩) hHeld ?_ ?_
        rotate_left
        · rintro w' ⟨s0, s1, s2, s3, s4⟩
          have hs4 := hconv w' s4.out
          clear s4
          go_simp
          with_reducible rfl
        rotate_left
        · simp only [Act.put, List.setIfInBounds_toArray, List.set_cons_zero, List.set_cons_succ, i64_w, i32_w]
          rfl
        refine take_ (i := 20) (N := some 63) (v := ?_) (a' := ?_) #[true, true, true, true, true, true, true, true, true, true, true, true, true, true, true, true, true, true, true, true, true, false, false, false, false, false, false] rfl rfl (by kernel_rfl) (fun _ _ _ h => h) (Or.inl ⟨by rfl, ?_⟩) hHeld ?_ ?_
        rotate_left
        · rintro w' ⟨s0, s1, s2, s3, s4⟩
          go_simp
          with_reducible rfl
        rotate_left
        · simp only [Act.put, List.setIfInBounds_toArray, List.set_cons_zero, List.set_cons_succ, i64_w, i32_w]
          rfl
        refine pure_ (i := 21) (N := some 64) (v := ?_) (a' := ?_) #[true, true, true, true, true, true, true, true, true, true, true, true, true, true, true, true, true, true, true, true, true, true, false, false, false, false, false] rfl rfl (by kernel_rfl) (fun _ _ _ h => h) (Or.inl ⟨by rfl, ?_⟩) ?_ ?_
        rotate_left
        · intro w'
          go_simp
          with_reducible rfl
        rotate_left
        · simp only [Act.put, List.setIfInBounds_toArray, List.set_cons_zero, List.set_cons_succ, i64_w, i32_w]
          rfl
        refine one_ (i := 22) (N := some 65) #[true, true, true, true, true, true, true, true, true, true, true, true, true, true, true, true, true, true, true, true, true, true, true, false, false, false, false] rfl rfl (by kernel_rfl) (by decide) (fun K hK => ?_)
        refine value_ (w1 := ?_) (v := ?_) (by rfl) rfl ?_ ?_
        rotate_left 2
        · go_simp
          constructor
          · rfl
          · rfl
        refine hK.out _ _ ⟨(blk_cell (blk_alloc (blk_drew hb) _) 4).trans rfl, (blk_cell (blk_alloc (blk_drew hb) _) 0).trans rfl, (blk_cell (blk_alloc (blk_drew hb) _) 1).trans rfl, (blk_cell (blk_alloc (blk_drew hb) _) 2).trans rfl, ⟨Kd.C_below hmid (below_alloc (below_drew hB) _)⟩⟩ (fun hHeld => ?_)
        clear hK K
        refine norm_ (a' := ?_) ?_ ?_
        rotate_left
        · show Act.put _ (some 65) _ = _
          simp only [Act.put, List.setIfInBounds_toArray, List.set_cons_zero, List.set_cons_succ, i64_w, i32_w]
          rfl
        refine one_ (i := 23) (N := some 66) #[true, true, true, true, true, true, true, true, true, true, true, true, true, true, true, true, true, true, true, true, true, true, true, true, false, false, false] rfl rfl (by kernel_rfl) (by decide) (fun K hK => ?_)
        refine Kd.R_append_step kTok (w0 := w0) w0.heap.size (by rfl) (.tmp 47) (.tmp 65) 53 95 (.agg #[(.int .i64 0), (.string ⟨#[]⟩), (.int .i64 0)]) 32 rfl Tryd.underlying53 infoTok rfl (by decide) (by decide) v4 acc ⟨token, xs, line⟩ [.int .i64 token, .string (strOfNums xs), .int .i64 line] (fun k => k ≠ g) (fun _ => False) rfl rfl (kTok_mkM _ _ _ ⟨token, xs, line⟩) (fun _ h => h.elim) (fun k hk => by have := blk_lt hb; simp at hk; omega) (Kd.R_drew ho) (below_drew hB) hB.size (by omega) ?_
        intro v1 w3 ho3 hB3 hg3 hat3
        obtain ⟨A1, c1, hv1⟩ := Kd.R_slice ho3
        generalize List.length _ = L at hv1
        subst hv1
        have hb3 := blk_grown (blk_drew hb) hg3 hne
        have hc4' : w3.cell? ⟨g, 4, none⟩ = some v4 := (blk_cell hb3 4).trans rfl
        have hf4' : w3.frozen? ⟨g, 4, none⟩ = false := blk_frozen hb3 4
        refine hK.out _ _ ⟨(blk_cell hb3 4).trans rfl, (blk_cell hb3 0).trans rfl, (blk_cell hb3 1).trans rfl, (blk_cell hb3 2).trans rfl, ⟨Kd.C_below hmid hB3⟩⟩ (fun hHeld => ?_)
        clear hK K
        refine norm_ (a' := ?_) ?_ ?_
        rotate_left
        · show Act.put _ (some 66) _ = _
          simp only [Act.put, List.setIfInBounds_toArray, List.set_cons_zero, List.set_cons_succ, i64_w, i32_w]
          rfl
        refine pure_ (i := 24) (N := some 67) (v := ?_) (a' := ?_) #[true, true, true, true, true, true, true, true, true, true, true, true, true, true, true, true, true, true, true, true, true, true, true, true, true, false, false] rfl rfl (by kernel_rfl) (fun _ _ _ h => h) (Or.inl ⟨by rfl, ?_⟩) ?_ ?_
        rotate_left
        · intro w'
          go_simp
          with_reducible rfl
        rotate_left
        · simp only [Act.put, List.setIfInBounds_toArray, List.set_cons_zero, List.set_cons_succ, i64_w, i32_w]
          rfl
        refine pure_ (i := 25) (N := some 68) (v := ?_) (a' := ?_) #[true, true, true, true, true, true, true, true, true, true, true, true, true, true, true, true, true, true, true, true, true, true, true, true, true, true, false] rfl rfl (by kernel_rfl) (fun _ _ _ h => h) (Or.inl ⟨by rfl, ?_⟩) ?_ ?_
        rotate_left
        · intro w'
          go_simp
          with_reducible rfl
        rotate_left
        · simp only [Act.put, List.setIfInBounds_toArray, List.set_cons_zero, List.set_cons_succ, i64_w, i32_w]
          rfl
        refine last_ (i := 26) (N := none) #[true, true, true, true, true, true, true, true, true, true, true, true, true, true, true, true, true, true, true, true, true, true, true, true, true, true, true] rfl rfl (by kernel_rfl) (by decide) (fun K hK => ?_)
        refine skip_ (w1 := ?_) (by rfl) rfl ?_ ?_
        rotate_left
        · go_simp
          rfl
        refine hK.out _ _ ?_
        clear hK K
        refine done_ (by kernel_rfl) ?_

        have hS2 := Sc.row HS0.out hb3 ho3 hB3
        clear hb3 ho3 hB3 hg3 hat3 hc4' hf4' hHeld
        generalize hW : w3.setCell ⟨g, 4, none⟩ _ = W2 at hS2 ⊢
        clear hW
        have hf3 := hS2.frozen 3
        have hc3' := hS2.cells.2.2.2
        have HS2 := Lib.hid hS2
        clear hS2
        go_wp2
        go_end0
        refine ⟨rfl, ?_⟩
        have H := HS2.out.set3 true
        rw [← Hn.out, ← Hxs.out]
        exact H
      · have hdl : decide (at_ + (j : Int) < (bs.length : Int)) = false := decide_eq_false hlt
        clear hSr
        go_wp2
        go_quiet (fail)
        go_wp2
        have hS1 := HSr.out.drewN nq
        generalize wr.drewN nq = W1 at hS1 ⊢
        clear HSr hc0 hc1 hc2 hc3
        have HS0 := Lib.hid hS1
        obtain ⟨v4, hb, hg, hc, hcl, ho, hB⟩ := hS1
        have hne : some g ≠ v4.ownBlock := Kd.R_away ho (fun k hk => hk)
        obtain ⟨xs, hxs⟩ : ∃ xs, xs = (bs.drop at_.toNat).takeWhile (isK what) := ⟨_, rfl⟩
        obtain ⟨Ac, m, c', hcut, hmid⟩ := cutinfo hc hcl at_ (at_ + (j : Int)) h0 (by omega) (by omega)
        have hxe : (bs.take (at_ + (j : Int)).toNat).drop at_.toNat = xs := by
          rw [hxs, ← tw_take, List.drop_take, ← Hn.out]
          congr 1
          omega
        rw [hxe] at hmid
        have Hxs := Lib.hid hxs
        clear hxe hxs
        have hconv : ∀ w' : World, (Kd.int .u8).C w' Ac m xs → (convert 22 9 (.slice Ac m c')).run Tryd.prog w' = .ok (.string (strOfNums xs)) w' := fun w' h => convinfo h
        have hc4 : W1.drew.cell? ⟨g, 4, none⟩ = some v4 := (blk_cell (blk_drew hb) 4).trans rfl
        refine start_ (n := 27) (S := fun w' => w'.cell? ⟨g, 4, none⟩ = some v4 ∧ w'.cell? ⟨g, 0, none⟩ = some (.slice A0 bs.length c0) ∧ w'.cell? ⟨g, 1, none⟩ = some (.int .i64 (at_ + (j : Int))) ∧ w'.cell? ⟨g, 2, none⟩ = some (.int .i64 line) ∧ Aside0 ((Kd.int .u8).C w' Ac m xs)) (ds := [26]) #[false, false, false, false, false, false, false, false, false, false, false, false, false, false, false, false, false, false, false, false, false, false, false, false, false, false, false] (by kernel_rfl) rfl rfl ⟨(blk_cell (blk_drew hb) 4).trans rfl, (blk_cell (blk_drew hb) 0).trans rfl, (blk_cell (blk_drew hb) 1).trans rfl, (blk_cell (blk_drew hb) 2).trans rfl, ⟨Kd.C_below hmid (below_drew hB)⟩⟩ (fun hHeld => ?_)
        refine pure_ (i := 0) (N := some 43) (v := ?_) (a' := ?_) #[true, false, false, false, false, false, false, false, false, false, false, false, false, false, false, false, false, false, false, false, false, false, false, false, false, false, false] rfl rfl (by kernel_rfl) (fun _ _ _ h => h) (Or.inl ⟨by rfl, ?_⟩) ?_ ?_
        rotate_left
        · intro w'
          go_simp
          with_reducible rfl
        rotate_left
        · simp only [Act.put, List.setIfInBounds_toArray, List.set_cons_zero, List.set_cons_succ, i64_w, i32_w]
          rfl
        refine pure_ (i := 1) (N := some 44) (v := ?_) (a' := ?_) #[true, true, false, false, false, false, false, false, false, false, false, false, false, false, false, false, false, false, false, false, false, false, false, false, false, false, false] rfl rfl (by kernel_rfl) (fun _ _ _ h => h) (Or.inl ⟨by rfl, ?_⟩) ?_ ?_
        rotate_left
        · intro w'
          go_simp
          with_reducible rfl
        rotate_left
        · simp only [Act.put, List.setIfInBounds_toArray, List.set_cons_zero, List.set_cons_succ, i64_w, i32_w]
          rfl
        refine pure_ (i := 2) (N := some 45) (v := ?_) (a' := ?_) #[true, true, true, false, false, false, false, false, false, false, false, false, false, false, false, false, false, false, false, false, false, false, false, false, false, false, false] rfl rfl (by kernel_rfl) (fun _ _ _ h => h) (Or.inl ⟨by rfl, ?_⟩) ?_ ?_
        rotate_left
        · intro w'
          go_simp
          with_reducible rfl
        rotate_left
        · simp only [Act.put, List.setIfInBounds_toArray, List.set_cons_zero, List.set_cons_succ, i64_w, i32_w]
          rfl
        refine pure_ (i := 3) (N := some 46) (v := ?_) (a' := ?_) #[true, true, true, true, false, false, false, false, false, false, false, false, false, false, false, false, false, false, false, false, false, false, false, false, false, false, false] rfl rfl (by kernel_rfl) (fun _ _ _ h => h) (Or.inl ⟨by rfl, ?_⟩) ?_ ?_
        rotate_left
        · intro w'
          go_simp
          with_reducible rfl
        rotate_left
        · simp only [Act.put, List.setIfInBounds_toArray, List.set_cons_zero, List.set_cons_succ, i64_w, i32_w]
          rfl
        refine pure_ (i := 5) (N := some 48) (v := ?_) (a' := ?_) #[true, true, true, true, false, true, false, false, false, false, false, false, false, false, false, false, false, false, false, false, false, false, false, false, false, false, false] rfl rfl (by kernel_rfl) (fun _ _ _ h => h) (Or.inl ⟨by rfl, ?_⟩) ?_ ?_
        rotate_left
        · intro w'
          go_simp
          with_reducible rfl
        rotate_left
        · simp only [Act.put, List.setIfInBounds_toArray, List.set_cons_zero, List.set_cons_succ, i64_w, i32_w]
          rfl
        refine pure_ (i := 6) (N := some 49) (v := ?_) (a' := ?_) #[true, true, true, true, false, true, true, false, false, false, false, false, false, false, false, false, false, false, false, false, false, false, false, false, false, false, false] rfl rfl (by kernel_rfl) (fun _ _ _ h => h) (Or.inl ⟨by rfl, ?_⟩) ?_ ?_
        rotate_left
        · intro w'
          go_simp
          with_reducible rfl
        rotate_left
        · simp only [Act.put, List.setIfInBounds_toArray, List.set_cons_zero, List.set_cons_succ, i64_w, i32_w]
          rfl
        refine pure_ (i := 7) (N := some 50) (v := ?_) (a' := ?_) #[true, true, true, true, false, true, true, true, false, false, false, false, false, false, false, false, false, false, false, false, false, false, false, false, false, false, false] rfl rfl (by kernel_rfl) (fun _ _ _ h => h) (Or.inl ⟨by rfl, ?_⟩) ?_ ?_
        rotate_left
        · intro w'
          go_simp
          with_reducible rfl
        rotate_left
        · simp only [Act.put, List.setIfInBounds_toArray, List.set_cons_zero, List.set_cons_succ, i64_w, i32_w]
          rfl
        refine pure_ (i := 8) (N := some 51) (v := ?_) (a' := ?_) #[true, true, true, true, false, true, true, true, true, false, false, false, false, false, false, false, false, false, false, false, false, false, false, false, false, false, false] rfl rfl (by kernel_rfl) (fun _ _ _ h => h) (Or.inl ⟨by rfl, ?_⟩) ?_ ?_
        rotate_left
        · intro w'
          go_simp
          with_reducible rfl
        rotate_left
        · simp only [Act.put, List.setIfInBounds_toArray, List.set_cons_zero, List.set_cons_succ, i64_w, i32_w]
          rfl
        refine pure_ (i := 10) (N := some 53) (v := ?_) (a' := ?_) #[true, true, true, true, false, true, true, true, true, false, true, false, false, false, false, false, false, false, false, false, false, false, false, false, false, false, false] rfl rfl (by kernel_rfl) (fun _ _ _ h => h) (Or.inl ⟨by rfl, ?_⟩) ?_ ?_
        rotate_left
        · intro w'
          go_simp
          with_reducible rfl
        rotate_left
        · simp only [Act.put, List.setIfInBounds_toArray, List.set_cons_zero, List.set_cons_succ, i64_w, i32_w]
          rfl
        refine pure_ (i := 11) (N := some 54) (v := ?_) (a' := ?_) #[true, true, true, true, false, true, true, true, true, false, true, true, false, false, false, false, false, false, false, false, false, false, false, false, false, false, false] rfl rfl (by kernel_rfl) (fun _ _ _ h => h) (Or.inl ⟨by rfl, ?_⟩) ?_ ?_
        rotate_left
        · intro w'
          go_simp
          with_reducible rfl
        rotate_left
        · simp only [Act.put, List.setIfInBounds_toArray, List.set_cons_zero, List.set_cons_succ, i64_w, i32_w]
          rfl
        refine pure_ (i := 12) (N := some 55) (v := ?_) (a' := ?_) #[true, true, true, true, false, true, true, true, true, false, true, true, true, false, false, false, false, false, false, false, false, false, false, false, false, false, false] rfl rfl (by kernel_rfl) (fun _ _ _ h => h) (Or.inl ⟨by rfl, ?_⟩) ?_ ?_
        rotate_left
        · intro w'
          go_simp
          with_reducible rfl
        rotate_left
        · simp only [Act.put, List.setIfInBounds_toArray, List.set_cons_zero, List.set_cons_succ, i64_w, i32_w]
          rfl
        refine pure_ (i := 13) (N := some 56) (v := ?_) (a' := ?_) #[true, true, true, true, false, true, true, true, true, false, true, true, true, true, false, false, false, false, false, false, false, false, false, false, false, false, false] rfl rfl (by kernel_rfl) (fun _ _ _ h => h) (Or.inl ⟨by rfl, ?_⟩) ?_ ?_
        rotate_left
        · intro w'
          go_simp
          with_reducible rfl
        rotate_left
        · simp only [Act.put, List.setIfInBounds_toArray, List.set_cons_zero, List.set_cons_succ, i64_w, i32_w]
          rfl
        refine pure_ (i := 17) (N := some 60) (v := ?_) (a' := ?_) #[true, true, true, true, false, true, true, true, true, false, true, true, true, true, false, false, false, true, false, false, false, false, false, false, false, false, false] rfl rfl (by kernel_rfl) (fun _ _ _ h => h) (Or.inl ⟨by rfl, ?_⟩) ?_ ?_
        rotate_left
        · intro w'
          go_simp
          with_reducible rfl
        rotate_left
        · simp only [Act.put, List.setIfInBounds_toArray, List.set_cons_zero, List.set_cons_succ, i64_w, i32_w]
          rfl
        refine pure_ (i := 18) (N := some 61) (v := ?_) (a' := ?_) #[true, true, true, true, false, true, true, true, true, false, true, true, true, true, false, false, false, true, true, false, false, false, false, false, false, false, false] rfl rfl (by kernel_rfl) (fun _ _ _ h => h) (Or.inl ⟨by rfl, ?_⟩) ?_ ?_
        rotate_left
        · intro w'
          go_simp
          with_reducible rfl
        rotate_left
        · simp only [Act.put, List.setIfInBounds_toArray, List.set_cons_zero, List.set_cons_succ, i64_w, i32_w]
          rfl
        refine pure_ (i := 19) (N := some 62) (v := ?_) (a' := ?_) #[true, true, true, true, false, true, true, true, true, false, true, true, true, true, false, false, false, true, true, true, false, false, false, false, false, false, false] rfl rfl (by kernel_rfl) (fun _ _ _ h => h) (Or.inl ⟨by rfl, ?_⟩) ?_ ?_
        rotate_left
        · intro w'
          go_simp
          with_reducible rfl
        rotate_left
        · simp only [Act.put, List.setIfInBounds_toArray, List.set_cons_zero, List.set_cons_succ, i64_w, i32_w]
          rfl
        refine take_ (i := 4) (N := some 47) (v := ?_) (a' := ?_) #[true, true, true, true, true, true, true, true, true, false, true, true, true, true, false, false, false, true, true, true, false, false, false, false, false, false, false] rfl rfl (by kernel_rfl) (fun _ _ _ h => h) (Or.inl ⟨by rfl, ?_⟩) hHeld ?_ ?_
        rotate_left
        · rintro w' ⟨s0, s1, s2, s3, s4⟩
          go_simp
          with_reducible rfl
        rotate_left
        · simp only [Act.put, List.setIfInBounds_toArray, List.set_cons_zero, List.set_cons_succ, i64_w, i32_w]
          rfl
        refine take_ (i := 9) (N := some 52) (v := ?_) (a' := ?_) #[true, true, true, true, true, true, true, true, true, true, true, true, true, true, false, false, false, true, true, true, false, false, false, false, false, false, false] rfl rfl (by kernel_rfl) (fun _ _ _ h => h) (Or.inl ⟨by rfl, ?_⟩) hHeld ?_ ?_
        rotate_left
        · rintro w' ⟨s0, s1, s2, s3, s4⟩
          go_simp
          with_reducible rfl
        rotate_left
        · simp only [Act.put, List.setIfInBounds_toArray, List.set_cons_zero, List.set_cons_succ, i64_w, i32_w]
          rfl
        refine take_ (i := 14) (N := some 57) (v := ?_) (a' := ?_) #[true, true, true, true, true, true, true, true, true, true, true, true, true, true, true, false, false, true, true, true, false, false, false, false, false, false, false] rfl rfl (by kernel_rfl) (fun _ _ _ h => h) (Or.inl ⟨by rfl, ?_⟩) hHeld ?_ ?_
        rotate_left
        · rintro w' ⟨s0, s1, s2, s3, s4⟩
          go_simp
          with_reducible rfl
        rotate_left
        · simp only [Act.put, List.setIfInBounds_toArray, List.set_cons_zero, List.set_cons_succ, i64_w, i32_w]
          rfl
        refine pure_ (i := 15) (N := some 58) (v := ?_) (a' := ?_) #[true, true, true, true, true, true, true, true, true, true, true, true, true, true, true, true, false, true, true, true, false, false, false, false, false, false, false] rfl rfl (by kernel_rfl) (fun _ _ _ h => h) (Or.inl ⟨by rfl, ?_⟩) ?_ ?_
        rotate_left
        · intro w'
          go_simp
          with_reducible rfl
        rotate_left
        · simp only [Act.put, List.setIfInBounds_toArray, List.set_cons_zero, List.set_cons_succ, i64_w, i32_w]
          rfl
        refine take_ (i := 16) (N := some 59) (v := ?_) (a' := ?_) #[true, true, true, true, true, true, true, true, true, true, true, true, true, true, true, true, true, true, true, true, false, false, false, false, false, false, false] rfl rfl (by kernel_rfl) (fun _ _ _ h => h) (Or.inl ⟨by rfl, ?_⟩) hHeld ?_ ?_
        rotate_left
        · rintro w' ⟨s0, s1, s2, s3, s4⟩
          have hs4 := hconv w' s4.out
          clear s4
          go_simp
          with_reducible rfl
        rotate_left
        · simp only [Act.put, List.setIfInBounds_toArray, List.set_cons_zero, List.set_cons_succ, i64_w, i32_w]
          rfl
        refine take_ (i := 20) (N := some 63) (v := ?_) (a' := ?_) #[true, true, true, true, true, true, true, true, true, true, true, true, true, true, true, true, true, true, true, true, true, false, false, false, false, false, false] rfl rfl (by kernel_rfl) (fun _ _ _ h => h) (Or.inl ⟨by rfl, ?_⟩) hHeld ?_ ?_
        rotate_left
        · rintro w' ⟨s0, s1, s2, s3, s4⟩
          go_simp
          with_reducible rfl
        rotate_left
        · simp only [Act.put, List.setIfInBounds_toArray, List.set_cons_zero, List.set_cons_succ, i64_w, i32_w]
          rfl
        refine pure_ (i := 21) (N := some 64) (v := ?_) (a' := ?_) #[true, true, true, true, true, true, true, true, true, true, true, true, true, true, true, true, true, true, true, true, true, true, false, false, false, false, false] rfl rfl (by kernel_rfl) (fun _ _ _ h => h) (Or.inl ⟨by rfl, ?_⟩) ?_ ?_
        rotate_left
        · intro w'
          go_simp
          with_reducible rfl
        rotate_left
        · simp only [Act.put, List.setIfInBounds_toArray, List.set_cons_zero, List.set_cons_succ, i64_w, i32_w]
          rfl
        refine one_ (i := 22) (N := some 65) #[true, true, true, true, true, true, true, true, true, true, true, true, true, true, true, true, true, true, true, true, true, true, true, false, false, false, false] rfl rfl (by kernel_rfl) (by decide) (fun K hK => ?_)
        refine value_ (w1 := ?_) (v := ?_) (by rfl) rfl ?_ ?_
        rotate_left 2
        · go_simp
          constructor
          · rfl
          · rfl
        refine hK.out _ _ ⟨(blk_cell (blk_alloc (blk_drew hb) _) 4).trans rfl, (blk_cell (blk_alloc (blk_drew hb) _) 0).trans rfl, (blk_cell (blk_alloc (blk_drew hb) _) 1).trans rfl, (blk_cell (blk_alloc (blk_drew hb) _) 2).trans rfl, ⟨Kd.C_below hmid (below_alloc (below_drew hB) _)⟩⟩ (fun hHeld => ?_)
        clear hK K
        refine norm_ (a' := ?_) ?_ ?_
        rotate_left
        · show Act.put _ (some 65) _ = _
          simp only [Act.put, List.setIfInBounds_toArray, List.set_cons_zero, List.set_cons_succ, i64_w, i32_w]
          rfl
        refine one_ (i := 23) (N := some 66) #[true, true, true, true, true, true, true, true, true, true, true, true, true, true, true, true, true, true, true, true, true, true, true, true, false, false, false] rfl rfl (by kernel_rfl) (by decide) (fun K hK => ?_)
        refine Kd.R_append_step kTok (w0 := w0) w0.heap.size (by rfl) (.tmp 47) (.tmp 65) 53 95 (.agg #[(.int .i64 0), (.string ⟨#[]⟩), (.int .i64 0)]) 32 rfl Tryd.underlying53 infoTok rfl (by decide) (by decide) v4 acc ⟨token, xs, line⟩ [.int .i64 token, .string (strOfNums xs), .int .i64 line] (fun k => k ≠ g) (fun _ => False) rfl rfl (kTok_mkM _ _ _ ⟨token, xs, line⟩) (fun _ h => h.elim) (fun k hk => by have := blk_lt hb; simp at hk; omega) (Kd.R_drew ho) (below_drew hB) hB.size (by omega) ?_
        intro v1 w3 ho3 hB3 hg3 hat3
        obtain ⟨A1, c1, hv1⟩ := Kd.R_slice ho3
        generalize List.length _ = L at hv1
        subst hv1
        have hb3 := blk_grown (blk_drew hb) hg3 hne
        have hc4' : w3.cell? ⟨g, 4, none⟩ = some v4 := (blk_cell hb3 4).trans rfl
        have hf4' : w3.frozen? ⟨g, 4, none⟩ = false := blk_frozen hb3 4
        refine hK.out _ _ ⟨(blk_cell hb3 4).trans rfl, (blk_cell hb3 0).trans rfl, (blk_cell hb3 1).trans rfl, (blk_cell hb3 2).trans rfl, ⟨Kd.C_below hmid hB3⟩⟩ (fun hHeld => ?_)
        clear hK K
        refine norm_ (a' := ?_) ?_ ?_
        rotate_left
        · show Act.put _ (some 66) _ = _
          simp only [Act.put, List.setIfInBounds_toArray, List.set_cons_zero, List.set_cons_succ, i64_w, i32_w]
          rfl
        refine pure_ (i := 24) (N := some 67) (v := ?_) (a' := ?_) #[true, true, true, true, true, true, true, true, true, true, true, true, true, true, true, true, true, true, true, true, true, true, true, true, true, false, false] rfl rfl (by kernel_rfl) (fun _ _ _ h => h) (Or.inl ⟨by rfl, ?_⟩) ?_ ?_
        rotate_left
        · intro w'
          go_simp
          with_reducible rfl
        rotate_left
        · simp only [Act.put, List.setIfInBounds_toArray, List.set_cons_zero, List.set_cons_succ, i64_w, i32_w]
          rfl
        refine pure_ (i := 25) (N := some 68) (v := ?_) (a' := ?_) #[true, true, true, true, true, true, true, true, true, true, true, true, true, true, true, true, true, true, true, true, true, true, true, true, true, true, false] rfl rfl (by kernel_rfl) (fun _ _ _ h => h) (Or.inl ⟨by rfl, ?_⟩) ?_ ?_
        rotate_left
        · intro w'
          go_simp
          with_reducible rfl
        rotate_left
        · simp only [Act.put, List.setIfInBounds_toArray, List.set_cons_zero, List.set_cons_succ, i64_w, i32_w]
          rfl
        refine last_ (i := 26) (N := none) #[true, true, true, true, true, true, true, true, true, true, true, true, true, true, true, true, true, true, true, true, true, true, true, true, true, true, true] rfl rfl (by kernel_rfl) (by decide) (fun K hK => ?_)
        refine skip_ (w1 := ?_) (by rfl) rfl ?_ ?_
        rotate_left
        · go_simp
          rfl
        refine hK.out _ _ ?_
        clear hK K
        refine done_ (by kernel_rfl) ?_

        have hS2 := Sc.row HS0.out hb3 ho3 hB3
        clear hb3 ho3 hB3 hg3 hat3 hc4' hf4' hHeld
        generalize hW : w3.setCell ⟨g, 4, none⟩ _ = W2 at hS2 ⊢
        clear hW
        have hf3 := hS2.frozen 3
        have hc3' := hS2.cells.2.2.2
        have HS2 := Lib.hid hS2
        clear hS2
        go_wp2
        go_end0
        refine ⟨rfl, ?_⟩
        have H := HS2.out.set3 true
        rw [← Hn.out, ← Hxs.out]
        exact H
end Go.Proofs.YtegbfimfpkendaaDoor.LexC
