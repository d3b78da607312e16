/- spelled, decimal, length (quernlaw2): the walks (chapter 2). -/
import Derived.Test.YteenkeccpfgffaaBE
set_option linter.unusedVariables false
set_option linter.unusedSimpArgs false
namespace Go.Proofs.Yteenkeccpfgffaa
open Go.RowKit Go.Proofs.YteenkeccpfgffaaW.PrintWords Go.Proofs.YteenkeccpfgffaaW.PrintLast Go.Proofs.YteenkeccpfgffaaW.PrintMore

/-! ### A number in digits -/
def decL (n : Nat) : List Int := if n < 10 then [48 + (n : Int)] else decL (n / 10) ++ [48 + ((n % 10 : Nat) : Int)]
termination_by n
decreasing_by omega
def decP (n : Nat) : List Int := if n < 10 then [] else decL (n / 10)
theorem decL_P (n : Nat) : decL n = decP n ++ [48 + ((n % 10 : Nat) : Int)] := by
  unfold decP
  rw [decL]
  split
  · rename_i h
    rw [Nat.mod_eq_of_lt h]
    rfl
  · rfl
theorem decL_len (n : Nat) : ∀ k : Nat, n < 10 ^ (k + 1) → (decL n).length ≤ k + 1 := by
  intro k
  induction k generalizing n with
  | zero => intro h; rw [decL, if_pos (by simpa using h)]; simp
  | succ k ih =>
    intro h
    rw [decL]
    split
    · simp
    · rw [List.length_append, List.length_singleton]
      have := ih (n / 10) (by rw [Nat.pow_succ] at h; omega)
      omega
theorem decL_pos (n : Nat) : 0 < (decL n).length := by rw [decL_P, List.length_append, List.length_singleton]; omega
theorem strOfNums_append (xs ys : List Int) : strOfNums (xs ++ ys) = strOfNums xs ++ strOfNums ys := by
  unfold strOfNums
  rw [List.map_append]
  apply ByteArray.ext
  simp [ByteArray.data_append]
def DecIs (n k : Nat) (ss : List Int) : Prop := decL n = decP k ++ ss
theorem dec_next {n k : Nat} {ss : List Int} (h : DecIs n k ss) (hk : 10 ≤ k) : DecIs n (k / 10) ((48 + ((k / 10 % 10 : Nat) : Int)) :: ss) := by
  unfold DecIs at h ⊢
  rw [h]
  conv => lhs; rw [decP, if_neg (by omega), decL_P]
  simp
theorem dec_end {n k : Nat} {ss : List Int} (h : DecIs n k ss) (hk : k < 10) : decL n = ss := by
  unfold DecIs at h
  rw [h, decP, if_pos hk, List.nil_append]
theorem one_string (d : Int) : ∀ w : World, (convert 22 9 (.slice (some ⟨w.heap.size, 0, none⟩) 1 1)).run Try.prog (w.alloc (.cells #[.int .u8 d] 5)) = .ok (.string (strOfNums [d])) (w.alloc (.cells #[.int .u8 d] 5)) := fun w =>
  string_of_reads (P := Try.prog) (n := 1) (xs := [d]) Try.underlying22 Try.underlying5 Try.underlying9 (lit_reads w [d] 5 (0, 0) (by simp))
theorem size_nums' (xs : List Int) : (strOfNums xs).size = xs.length := by
  unfold strOfNums ByteArray.size
  simp
theorem dec_first (n : Nat) : DecIs n n [48 + (n : Int) % 10] := by
  unfold DecIs
  rw [decL_P, Int.natCast_emod]
  rfl
theorem dec_len {n k : Nat} {ss : List Int} (h : DecIs n k ss) (hn : n ≤ 9223372036854775807) : ss.length ≤ 19 := by
  have h1 := congrArg List.length (show decL n = decP k ++ ss from h)
  have h2 := decL_len n 18 (by omega)
  rw [List.length_append] at h1
  omega
set_option maxHeartbeats 4000000 in
theorem decimal_any (n : Nat) (w : World) (hn : n ≤ 9223372036854775807) :
    Calls Try.prog 21 #[.int .i64 (n : Int)] w fun e w' => e = .returned (.string (strOfNums (decL n))) ∧ Below w.heap.size w w' := by
  have hc := one_string (48 + (n : Int) % 10)
  have hm0 : (0 : Int) ≤ (n : Int) % 10 := by omega
  have hm9 : (n : Int) % 10 ≤ 9 := by omega
  go_enter Try.func21, Try.ntmps21
  go_wp2
  clear hc
  go_loopw [0, 3] (fun a s wr => ∃ (k : Nat) (ss : List Int), k ≤ n ∧ a = .int .i64 k ∧ s = .string (strOfNums ss) ∧ Hid (DecIs n k ss) ∧ Hid (Below w.heap.size w wr)) (fun a _ _ => (intOf a).toNat)
  case atStart => exact ⟨n, _, Nat.le_refl _, rfl, rfl, Lib.hid (dec_first n), Lib.hid ((Below.refl _ _).alloc (Nat.le_refl _) _)⟩
  case round =>
    obtain ⟨k, ss, hk, rfl, rfl, HD, HRB⟩ := hrel
    by_cases hlt : k < 10
    · have hlt2 : decide ((10 : Int) ≤ (k : Int)) = false := decide_eq_false (by omega)
      have he := dec_end HD.out hlt
      go_wp2
      go_ret
      exact ⟨by rw [he]; rfl, HRB.out⟩
    · have hge : (10 : Int) ≤ (k : Int) := by omega
      have hc := one_string (48 + (k : Int) / 10 % 10)
      have hs1 := size_nums' [48 + (k : Int) / 10 % 10]
      have hs2 := size_nums' ss
      have hs3 := dec_len HD.out hn
      have hap := strOfNums_append [48 + (k : Int) / 10 % 10] ss
      have HN : Hid (DecIs n (k / 10) ((48 + (k : Int) / 10 % 10) :: ss)) := Lib.hid (by have h := dec_next HD.out (by omega); simpa using h)
      have hm0 : (0 : Int) ≤ (k : Int) / 10 % 10 := by omega
      have hm9 : (k : Int) / 10 % 10 ≤ 9 := by omega
      simp only [List.length_singleton] at hs1
      go_wp2
      go_roundw
      case rel => exact ⟨k / 10, _, by omega, by simp, by rw [← hap]; rfl, HN, Lib.hid (HRB.out.alloc HRB.out.size _)⟩
      case measure => simp [intOf]; omega

/-! ### The words and the signs -/
def spB (k : Int) : ByteArray := if k < 28 then wd (k - 10).toNat else ss (k - 40).toNat
set_option maxHeartbeats 4000000 in
theorem spelled_any (k : Int) (hk : (10 ≤ k ∧ k < 28) ∨ (40 ≤ k ∧ k < 69)) (w : World) :
    Calls Try.prog 28 #[.int .i64 k] w fun e w' => e = .returned (.string (spB k)) ∧ Below w.heap.size w w' := by
  have hst := store_alloc (P := Try.prog) w #[.string ⟨#[]⟩, .string ⟨#[]⟩, .string ⟨#[]⟩, .string ⟨#[]⟩, .string ⟨#[]⟩, .string ⟨#[]⟩, .string ⟨#[]⟩, .string ⟨#[]⟩, .string ⟨#[]⟩, .string ⟨#[]⟩, .string ⟨#[]⟩, .string ⟨#[]⟩, .string ⟨#[]⟩, .string ⟨#[]⟩, .string ⟨#[]⟩, .string ⟨#[]⟩, .string ⟨#[]⟩, .string ⟨#[]⟩] wordsV 65 (by rw [wordsV_size]; rfl) wordsV_one
  have hst2 := signs_store (w.alloc (.cells wordsV 65))
  rw [size_alloc'] at hst2
  have hsz := wordsV_size
  have hsz2 := signsV_size
  have hb : Below w.heap.size w ((w.alloc (.cells wordsV 65)).alloc (.cells signsV 66)) := ((Below.refl _ _).alloc (Nat.le_refl _) _).alloc (by simp) _
  have hrow1 : ((w.alloc (.cells wordsV 65)).alloc (.cells signsV 66)).heap[w.heap.size]? = some (.cells wordsV 65 (0, 0)) := row_alloc (heap_alloc_new w _) _
  have hrow2 : ((w.alloc (.cells wordsV 65)).alloc (.cells signsV 66)).heap[w.heap.size + 1]? = some (.cells signsV 66 (0, 0)) := by
    have := heap_alloc_new (w.alloc (.cells wordsV 65)) (.cells signsV 66)
    rwa [size_alloc'] at this
  rcases hk with hk | hk
  · obtain ⟨j, hj⟩ : ∃ j : Nat, k - 10 = (j : Int) := ⟨(k - 10).toNat, by omega⟩
    have hj18 : j < 18 := by omega
    have hcell : ((w.alloc (.cells wordsV 65)).alloc (.cells signsV 66)).cell? ⟨w.heap.size, j, none⟩ = some (.string (wd j)) := by
      rw [cell_of_row _ _ _ _ _ _ hrow1]
      exact wordsV_get j hj18
    have hsp : spB k = wd j := by unfold spB; rw [if_pos hk.2, hj, Int.toNat_natCast]
    clear hrow1 hrow2
    go_enter Try.func28, Try.ntmps28
    go_wp2_with (first | (refine wpList_build_lit rfl 65 _ rfl wordsV (by unfold wordsV; kernel_rfl) ?_) | (refine wpList_build_lit rfl 66 _ rfl signsV (by unfold signsV; kernel_rfl) ?_))
    go_ret
    exact ⟨by rw [hsp]; rfl, hb⟩
  · obtain ⟨j, hj⟩ : ∃ j : Nat, k - 40 = (j : Int) := ⟨(k - 40).toNat, by omega⟩
    have hj29 : j < 29 := by omega
    have hcell : ((w.alloc (.cells wordsV 65)).alloc (.cells signsV 66)).cell? ⟨w.heap.size + 1, j, none⟩ = some (.string (ss j)) := by
      rw [cell_of_row _ _ _ _ _ _ hrow2]
      exact signsV_get j hj29
    have hsp : spB k = ss j := by unfold spB; rw [if_neg (by omega), hj, Int.toNat_natCast]
    clear hrow1 hrow2
    go_enter Try.func28, Try.ntmps28
    go_wp2_with (first | (refine wpList_build_lit rfl 65 _ rfl wordsV (by unfold wordsV; kernel_rfl) ?_) | (refine wpList_build_lit rfl 66 _ rfl signsV (by unfold signsV; kernel_rfl) ?_))
    go_ret
    exact ⟨by rw [hsp]; rfl, hb⟩

/-! ### How many bytes a token has -/
def TokGood (x : Tok) : Prop := x.kind = 1 ∨ (x.kind = 2 ∧ 0 ≤ x.value ∧ x.value ≤ 9223372036854775807) ∨ (10 ≤ x.kind ∧ x.kind < 28) ∨ (40 ≤ x.kind ∧ x.kind < 69)
def tokLen (x : Tok) : Nat := if x.kind = 1 then x.name.size else if x.kind = 2 then (decL x.value.toNat).length else (spB x.kind).size
set_option maxHeartbeats 4000000 in
theorem length_any (x : Tok) (w : World) (hx : TokGood x) (hn : x.name.size ≤ 64) :
    Calls Try.prog 19 #[.agg #[.int .i64 x.kind, .int .i64 x.at_, .int .i64 x.value, .string x.name]] w fun e w' => e = .returned (.int .i64 (tokLen x)) ∧ Below w.heap.size w w' := by
  obtain ⟨kd, p, v, nm⟩ := x
  have hbx : Below w.heap.size w (w.alloc (.cells #[.int .i64 kd, .int .i64 p, .int .i64 v, .string nm] 33)) := (Below.refl _ _).alloc (Nat.le_refl _) _
  unfold TokGood at hx
  simp only at hx hn ⊢
  rcases hx with rfl | ⟨rfl, h0, h1⟩ | h | h
  · have hl : (tokLen ⟨1, p, v, nm⟩ : Int) = nm.size := rfl
    go_enter Try.func19, Try.ntmps19
    go_wp2
    go_ret
    exact ⟨ret_int hl.symm, hbx⟩
  · obtain ⟨v, rfl⟩ : ∃ u : Nat, v = (u : Int) := ⟨v.toNat, by omega⟩
    have hl : (tokLen ⟨2, p, v, nm⟩ : Int) = (strOfNums (decL v)).size := by unfold tokLen; rw [if_neg (by simp), if_pos rfl, size_nums']; rfl
    go_enter Try.func19, Try.ntmps19
    go_wp2_with (go_at_call 21; refine (decimal_any v _ (by omega)).mono ?_; rintro e w' ⟨rfl, hb1⟩; have HB1 := Lib.hid (below_then hbx hbx.size hb1); clear hb1)
    go_ret
    exact ⟨ret_int hl.symm, HB1.out⟩
  · have hl : (tokLen ⟨kd, p, v, nm⟩ : Int) = (spB kd).size := by unfold tokLen; rw [if_neg (by simp only; omega), if_neg (by simp only; omega)]
    go_enter Try.func19, Try.ntmps19
    go_wp2_with (go_at_call 28; refine (spelled_any kd (.inl h) _).mono ?_; rintro e w' ⟨rfl, hb1⟩; have HB1 := Lib.hid (below_then hbx hbx.size hb1); clear hb1)
    go_ret
    exact ⟨ret_int hl.symm, HB1.out⟩
  · have hl : (tokLen ⟨kd, p, v, nm⟩ : Int) = (spB kd).size := by unfold tokLen; rw [if_neg (by simp only; omega), if_neg (by simp only; omega)]
    go_enter Try.func19, Try.ntmps19
    go_wp2_with (go_at_call 28; refine (spelled_any kd (.inr h) _).mono ?_; rintro e w' ⟨rfl, hb1⟩; have HB1 := Lib.hid (below_then hbx hbx.size hb1); clear hb1)
    go_ret
    exact ⟨ret_int hl.symm, HB1.out⟩
end Go.Proofs.Yteenkeccpfgffaa
