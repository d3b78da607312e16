/- LexRows: rows of letters and of digits (chapter 2; plain). -/
import Derived.Test.YteenkeccpfgffaaBM
set_option linter.unusedVariables false
set_option linter.unusedSimpArgs false
namespace Go.Proofs.Yteenkeccpfgffaa
open Go.RowKit Go.Proofs.YteenkeccpfgffaaW.PrintWords Go.Proofs.YteenkeccpfgffaaW.PrintLast Go.Proofs.YteenkeccpfgffaaW.PrintMore

def rowL (n : Nat) (c : Int) : List Int := List.replicate n c
theorem rowL_length (n : Nat) (c : Int) : (rowL n c).length = n := by simp [rowL]
theorem rowL_range {n : Nat} {c : Int} (h0 : 0 ≤ c) (h1 : c ≤ 255) : byteRange (rowL n c) := gap_range (fun x hx => by
  have := List.eq_of_mem_replicate hx
  omega)
theorem rowL_snoc (n : Nat) (c : Int) : rowL n c ++ [c] = rowL (n + 1) c := by
  unfold rowL
  rw [List.replicate_succ']
theorem rowL_cons (n : Nat) (c : Int) (h : 0 < n) : rowL n c = c :: rowL (n - 1) c := by
  obtain ⟨m, rfl⟩ : ∃ m, n = m + 1 := ⟨n - 1, by omega⟩
  rfl
theorem row_skip {n : Nat} {c : Int} (h0 : 97 ≤ c) (h1 : c ≤ 122) (hn : 0 < n) : skipL false (rowL n c) = (0, true) := by
  rw [rowL_cons n c hn]
  exact skip_stop0 (by rw [cls_letter (by omega)]; decide) (by omega)
theorem row_str {n : Nat} {c : Int} (h0 : 97 ≤ c) (h1 : c ≤ 122) : strL true (rowL n c) = n := by
  rw [strL_all (fun x hx => by rw [List.eq_of_mem_replicate hx]; simp [strOk, cls_letter (c := c) (by omega)]), rowL_length]
theorem row_tok {n : Nat} {c : Int} (h0 : 97 ≤ c) (h1 : c ≤ 122) (hn : 0 < n) : tokS (rowL n c) = if 64 < n then (Tok.nil, 21, 0) else (nameTok 0 (strOfNums (rowL n c)), 0, n) := by
  unfold tokS tokAt
  have hr : rd (rowL n c) ((0 : Nat) : Int) = c := by rw [rowL_cons n c hn]; rfl
  rw [hr, cls_letter (c := c) (by omega), if_pos rfl]
  unfold nameAt
  rw [List.drop_zero, row_str h0 h1]
  split
  · rfl
  · have : (rowL n c).take n = rowL n c := List.take_of_length_le (by rw [rowL_length]; exact Nat.le_refl _)
    rw [this, Nat.zero_add]
    rfl
theorem semi_good : GoodTok ⟨47, 0, 0, ⟨#[]⟩⟩ [59] := good_sp 47 (by omega)
theorem sp_blank : Blank [32] := Blank.one (c := 32) (by decide)
theorem row_lex {n : Nat} {c : Int} (h0 : 97 ≤ c) (h1 : c ≤ 122) (hn : 0 < n) :
    (n ≤ 64 → lexAll ([59, 32] ++ rowL n c) = ([⟨47, 0, 0, ⟨#[]⟩⟩, nameTok 2 (strOfNums (rowL n c))], 0, 0)) ∧ (64 < n → lexAll ([59, 32] ++ rowL n c) = ([⟨47, 0, 0, ⟨#[]⟩⟩], 2, 21)) := by
  have hne : rowL n c ≠ [] := by rw [rowL_cons n c hn]; simp
  have hs : BHead ([32] ++ rowL n c) := .inr (show cls 32 = 1 by decide)
  obtain ⟨a1, a2, a3, a4, _⟩ := semi_good
  have e := lx_step (o := 0) Blank.nil a1 a2 a3 a4 (hs.after _ _)
  have e1 : ([] : List Int) ++ (List.take ([59] : List Int).length [59] ++ ([32] ++ rowL n c)) = [59, 32] ++ rowL n c := rfl
  rw [e1] at e
  constructor
  · intro h
    have ht := row_tok h0 h1 hn
    rw [if_neg (by omega)] at ht
    have e2 := lx_step (o := 1) (s := []) sp_blank hne (rowL_range (by omega) (by omega)) (row_skip h0 h1 hn) ht (.inl rfl)
    have e3 : [32] ++ (List.take n (rowL n c) ++ []) = [32] ++ rowL n c := by rw [List.append_nil, List.take_of_length_le (by rw [rowL_length]; exact Nat.le_refl _)]
    rw [e3] at e2
    rw [lexAll_lex, e]
    have e4 : 0 + ([] : List Int).length + ([59] : List Int).length = 1 := rfl
    rw [e4, e2, lx_end (k := 0) (t := []) rfl (by simp)]
    rw [show ((1 + ([32] : List Int).length : Nat) : Int) = 2 from rfl, show (2 : Int) = ((2 : Nat) : Int) from rfl, nameTok_shift]
    rfl
  · intro h
    have ht := row_tok h0 h1 hn
    rw [if_pos h] at ht
    have e2 := lx_fail (o := 1) sp_blank hne (row_skip h0 h1 hn) ht (by decide)
    rw [lexAll_lex, e]
    have e4 : 0 + ([] : List Int).length + ([59] : List Int).length = 1 := rfl
    rw [e4, e2]
    rfl
theorem tab_blank : Blank [9] := Blank.one (c := 9) (by decide)
theorem dig_lex (d : Nat) (hd : d ≤ 9223372036854775807) : lexAll ([9] ++ decL d) = ([⟨2, 1, (d : Int), ⟨#[]⟩⟩], 0, 0) := by
  obtain ⟨a1, a2, a3, a4, _⟩ := good_num d hd
  have e2 := lx_step (o := 0) (s := []) tab_blank a1 a2 a3 a4 (.inl rfl)
  rw [List.append_nil, List.take_length] at e2
  rw [lexAll_lex, e2, lx_end (k := 0) (t := []) rfl (by simp)]
  rfl
theorem zero_lex (z d : Nat) (hz : 0 < z) : lexAll ([9] ++ (rowL z 48 ++ decL d)) = ([], 1, 22) := by
  have hp := decL_pos d
  have hne : rowL z 48 ++ decL d ≠ [] := by rw [rowL_cons z 48 hz]; simp
  have hr : rd (rowL z 48 ++ decL d) ((0 : Nat) : Int) = 48 := by rw [rowL_cons z 48 hz]; rfl
  have hall : strL false (rowL z 48 ++ decL d) = (rowL z 48 ++ decL d).length := strL_all (fun x hx => by
    have : cls x = 2 := by
      rcases List.mem_append.1 hx with h | h
      · rw [List.eq_of_mem_replicate h]; decide
      · exact cls_digit (decL_digits d d (Nat.le_refl _) x h)
    simp [strOk, this])
  have hl : 1 < (rowL z 48 ++ decL d).length := by rw [List.length_append, rowL_length]; omega
  have ht : tokS (rowL z 48 ++ decL d) = (Tok.nil, 22, 0) := by
    unfold tokS tokAt
    rw [hr, if_neg (by decide), if_pos (by decide)]
    unfold numberAt
    rw [List.drop_zero, hall, if_pos ⟨hl, hr⟩]
  have hs : skipL false (rowL z 48 ++ decL d) = (0, true) := by
    rw [rowL_cons z 48 hz]
    exact skip_stop0 (by decide) (by decide)
  rw [lexAll_lex, lx_fail (o := 0) tab_blank hne hs ht (by decide)]
  rfl
theorem big_lex : lexAll [57, 50, 50, 51, 51, 55, 50, 48, 51, 54, 56, 53, 52, 55, 55, 53, 56, 48, 56] = ([], 0, 22) := by kernel_rfl
/-- A name's token: its name is it, or it is a word. -/
theorem nameTok_or (s : ByteArray) : (nameTok 2 s = ⟨1, 2, 0, s⟩) ∨ (∃ k : Int, 10 ≤ k ∧ nameTok 2 s = ⟨k, 2, 0, ⟨#[]⟩⟩) := by
  unfold nameTok
  rcases wordK_cases s with h | ⟨j, _, h, _⟩
  · exact .inl (by rw [if_pos h])
  · exact .inr ⟨wordK s, by omega, by rw [if_neg (by omega)]⟩
end Go.Proofs.Yteenkeccpfgffaa
