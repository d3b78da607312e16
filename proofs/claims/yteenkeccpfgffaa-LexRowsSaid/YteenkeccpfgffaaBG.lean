/- gap (quernlaw2): blanks and comments (chapter 2). -/
import Derived.Test.YteenkeccpfgffaaBF
import Derived.Laws.Bits128
set_option linter.unusedVariables false
set_option linter.unusedSimpArgs false
namespace Go.Proofs.Yteenkeccpfgffaa
open Go.RowKit Go.Proofs.YteenkeccpfgffaaW.PrintWords Go.Proofs.YteenkeccpfgffaaW.PrintLast Go.Proofs.YteenkeccpfgffaaW.PrintMore

theorem i64_mask (n : Int) (m : Nat) (k : Nat) (hk : k < 63) (hm : (BitVec.ofInt 64 m).toNat = 2 ^ k - 1) : bits .and .i64 n m = n % ((2 ^ k : Nat) : Int) := by
  have key : (BitVec.ofInt 64 n &&& BitVec.ofInt 64 m).toNat = (n % ((2 ^ 64 : Nat) : Int)).toNat % 2 ^ k := by
    rw [BitVec.toNat_and, BitVec.toNat_ofInt, hm, Nat.and_two_pow_sub_one_eq_mod]
  show IntKind.i64.wrap ((BitVec.ofInt 64 n &&& BitVec.ofInt 64 m).toNat : Nat) = n % ((2 ^ k : Nat) : Int)
  rw [key, IntKind.wrap_i64]
  have h1 : 0 < 2 ^ k := Nat.pow_pos (by omega)
  have h2 : 2 ^ k ∣ 2 ^ 64 := Nat.pow_dvd_pow 2 (by omega)
  have h3 : 2 ^ k < 2 ^ 63 := Nat.pow_lt_pow_right (by omega) hk
  have h4 : (((n % ((2 ^ 64 : Nat) : Int)).toNat % 2 ^ k : Nat) : Int) = n % ((2 ^ k : Nat) : Int) := by
    rw [Int.natCast_emod, Int.toNat_of_nonneg (Int.emod_nonneg _ (by decide))]
    exact Int.emod_emod_of_dvd n (Int.natCast_dvd_natCast.2 h2)
  rw [h4]
  have h5 : 0 ≤ n % ((2 ^ k : Nat) : Int) := Int.emod_nonneg _ (by omega)
  have h6 : n % ((2 ^ k : Nat) : Int) < ((2 ^ k : Nat) : Int) := Int.emod_lt_of_pos _ (by omega)
  generalize n % ((2 ^ k : Nat) : Int) = z at *
  omega
theorem i64_and7 (n : Int) : bits .and .i64 n 7 = n % 8 := i64_mask n 7 3 (by omega) (by decide)

def gapL : List (List Int) := [[32], [10], [9], [13], [32, 47, 47, 10], [9, 47, 47, 32, 102, 117, 110, 99, 32, 49, 32, 9, 126, 10], [32, 10, 10, 32], [13, 47, 47, 47, 47, 47, 47, 13, 10]]
def gapI (m : Nat) : List Int := gapL.getD m []
def gapB (m : Nat) : ByteArray := strOfNums (gapI m)
theorem Blank.one {c : Int} (h : cls c = 1) : Blank [c] := by
  intro b
  rw [List.singleton_append, skipL, if_pos h]
  simp
  omega
theorem skip_true (t : List Int) (c : Int) (h0 : cls c ≠ 0) (h : c ≠ 10) : skipL true (c :: t) = ((skipL true t).1 + 1, (skipL true t).2) := by
  rw [skipL, if_neg h0]
  have : (c != 10) = true := by simpa using h
  rw [this]
theorem skip_body : ∀ (body b : List Int), (∀ c ∈ body, cls c ≠ 0 ∧ c ≠ 10) → skipL true (body ++ b) = (body.length + (skipL true b).1, (skipL true b).2)
  | [], b, _ => by simp
  | c :: r, b, h => by
    have h1 := h c (List.mem_cons_self ..)
    rw [List.cons_append, skip_true _ _ h1.1 h1.2, skip_body r b (fun d hd => h d (List.mem_cons_of_mem _ hd))]
    simp
    omega
theorem Blank.comment {body : List Int} (h : ∀ c ∈ body, cls c ≠ 0 ∧ c ≠ 10) : Blank (47 :: 47 :: (body ++ [10])) := by
  intro b
  have e : 47 :: 47 :: (body ++ [10]) ++ b = 47 :: 47 :: (body ++ (10 :: b)) := by simp
  rw [e, skipL, if_neg (by decide), if_pos ⟨rfl, by simp, rfl⟩, skip_true _ _ (by decide) (by decide), skip_body _ _ h, skipL, if_neg (by decide)]
  simp
  omega
theorem gap_blank (m : Nat) (hm : m < 8) : Blank (gapI m) ∧ BHead (gapI m) ∧ gapI m ≠ [] ∧ (gapI m).length ≤ 14 ∧ ∀ c ∈ gapI m, 0 ≤ c ∧ c ≤ 255 := by
  match m, hm with
  | 0, _ => exact ⟨Blank.one (c := 32) (by decide), .inr (show cls 32 = 1 by decide), by decide, by decide, by decide⟩
  | 1, _ => exact ⟨Blank.one (c := 10) (by decide), .inr (show cls 10 = 1 by decide), by decide, by decide, by decide⟩
  | 2, _ => exact ⟨Blank.one (c := 9) (by decide), .inr (show cls 9 = 1 by decide), by decide, by decide, by decide⟩
  | 3, _ => exact ⟨Blank.one (c := 13) (by decide), .inr (show cls 13 = 1 by decide), by decide, by decide, by decide⟩
  | 4, _ => exact ⟨(Blank.one (c := 32) (by decide)).append (Blank.comment (body := []) (by decide)), .inr (show cls 32 = 1 by decide), by decide, by decide, by decide⟩
  | 5, _ => exact ⟨(Blank.one (c := 9) (by decide)).append (Blank.comment (body := [32, 102, 117, 110, 99, 32, 49, 32, 9, 126]) (by decide)), .inr (show cls 9 = 1 by decide), by decide, by decide, by decide⟩
  | 6, _ => exact ⟨(Blank.one (c := 32) (by decide)).append ((Blank.one (c := 10) (by decide)).append ((Blank.one (c := 10) (by decide)).append (Blank.one (c := 32) (by decide)))), .inr (show cls 32 = 1 by decide), by decide, by decide, by decide⟩
  | 7, _ => exact ⟨(Blank.one (c := 13) (by decide)).append (Blank.comment (body := [47, 47, 47, 47, 13]) (by decide)), .inr (show cls 13 = 1 by decide), by decide, by decide, by decide⟩
  | m + 8, h => omega
def gapsV : Array Value := ((List.range 8).map fun m => Value.string (gapB m)).toArray
theorem gapsV_size : gapsV.size = 8 := rfl
theorem gapsV_one : ∀ v ∈ gapsV.toList, v.oneCell' = true := by
  intro v hv
  simp only [gapsV, List.toList_toArray, List.mem_map] at hv
  obtain ⟨x, _, rfl⟩ := hv
  rfl
theorem gapsV_get (m : Nat) (hm : m < 8) : gapsV[m]? = some (.string (gapB m)) := by
  unfold gapsV
  simp [hm]
theorem gapsV_lit : #[Value.string ⟨#[32]⟩, .string ⟨#[10]⟩, .string ⟨#[9]⟩, .string ⟨#[13]⟩, .string ⟨#[32, 47, 47, 10]⟩, .string ⟨#[9, 47, 47, 32, 102, 117, 110, 99, 32, 49, 32, 9, 126, 10]⟩, .string ⟨#[32, 10, 10, 32]⟩, .string ⟨#[13, 47, 47, 47, 47, 47, 47, 13, 10]⟩] = gapsV := by kernel_rfl
attribute [irreducible] gapsV
set_option maxHeartbeats 1000000 in
theorem gap_any (k : Int) (w : World) :
    Calls Try.prog 16 #[.int .i64 k] w fun e w' => (∃ m, m < 8 ∧ e = .returned (.string (gapB m))) ∧ Below w.heap.size w w' := by
  have hst := store_alloc (P := Try.prog) w #[.string ⟨#[]⟩, .string ⟨#[]⟩, .string ⟨#[]⟩, .string ⟨#[]⟩, .string ⟨#[]⟩, .string ⟨#[]⟩, .string ⟨#[]⟩, .string ⟨#[]⟩] gapsV 58 (by rw [gapsV_size]; rfl) gapsV_one
  have hsz := gapsV_size
  obtain ⟨m, hm⟩ : ∃ m : Nat, k % 8 = m := ⟨(k % 8).toNat, by omega⟩
  have hm8 : m < 8 := by omega
  have hand : bits .and .i64 k 7 = (m : Int) := by rw [i64_and7, hm]
  have hcell : (w.alloc (.cells gapsV 58)).cell? ⟨w.heap.size, m, none⟩ = some (.string (gapB m)) := by
    rw [cell_of_row _ _ _ _ _ _ (heap_alloc_new w _)]
    exact gapsV_get m hm8
  have hmi : (m : Int) < 8 := by omega
  go_enter Try.func16, Try.ntmps16
  go_wp2_with (first | (refine wpList_build_lit rfl 58 _ rfl gapsV (by rw [← gapsV_lit]; kernel_rfl) ?_))
  go_ret
  exact ⟨⟨m, hm8, rfl⟩, (Below.refl _ _).alloc (Nat.le_refl _) _⟩
end Go.Proofs.Yteenkeccpfgffaa
