/- The reference's Letter, Digit, row, blank (quernref2), by the same plain functions (chapter 2). -/
import Derived.Test.YteenkeccpfgffaaM
set_option linter.unusedVariables false
set_option linter.unusedSimpArgs false
namespace Go.Proofs.Yteenkeccpfgffaa
open Go.RowKit Go.Proofs.YteenkeccpfgffaaW.PrintWords Go.Proofs.YteenkeccpfgffaaW.PrintLast Go.Proofs.YteenkeccpfgffaaW.PrintMore

theorem ret_bool {a b : Bool} (h : a = b) : Ending.returned (.bool a) = .returned (.bool b) := by rw [h]
theorem cls3 (c : Int) : (cls c = 3) ↔ (c = 95 ∨ (97 ≤ c ∧ c ≤ 122) ∨ (65 ≤ c ∧ c ≤ 90)) := by
  unfold cls
  split
  · simp_all
  · rename_i h
    constructor
    · intro h2
      split at h2
      · omega
      · split at h2
        · omega
        · split at h2 <;> omega
    · intro h2; exact absurd h2 h
theorem cls2 (c : Int) : (cls c = 2) ↔ (48 ≤ c ∧ c ≤ 57) := by
  unfold cls
  constructor
  · intro h
    split at h
    · omega
    · split at h
      · assumption
      · split at h
        · omega
        · split at h <;> omega
  · intro h
    rw [if_neg (by omega), if_pos h]
theorem cls1 (c : Int) : (cls c = 1) ↔ (c = 9 ∨ c = 10 ∨ c = 13 ∨ c = 32) := by
  unfold cls
  constructor
  · intro h
    split at h
    · omega
    · split at h
      · omega
      · split at h
        · assumption
        · split at h <;> omega
  · intro h
    rw [if_neg (by omega), if_neg (by omega), if_pos h]
theorem cls0 (c : Int) : (cls c = 0) ↔ (c ≠ 9 ∧ c ≠ 10 ∧ c ≠ 13 ∧ (c < 32 ∨ 126 < c)) := by
  unfold cls
  constructor
  · intro h
    split at h
    · omega
    · split at h
      · omega
      · split at h
        · omega
        · split at h <;> omega
  · intro h
    rw [if_neg (by omega), if_neg (by omega), if_neg (by omega), if_neg (by omega)]
theorem letter_any (c : Int) (w : World) : Calls Try.prog 36 #[.int .u8 c] w fun e w' => e = .returned (.bool (cls c == 3)) ∧ w = w' := by
  go_enter Try.func36, Try.ntmps36
  go_wp2
  all_goals
    go_ret
    refine ⟨ret_bool ?_, rfl⟩
    try simp only [beq_iff_eq, beq_eq_false_iff_ne, ne_eq] at *
    rw [Bool.eq_iff_iff]
    simp only [beq_iff_eq, cls3, decide_eq_true_eq]
    first | omega | (simp; omega)
theorem digit_any (c : Int) (w : World) : Calls Try.prog 39 #[.int .u8 c] w fun e w' => e = .returned (.bool (cls c == 2)) ∧ w = w' := by
  go_enter Try.func39, Try.ntmps39
  go_wp2
  all_goals
    go_ret
    refine ⟨ret_bool ?_, rfl⟩
    try simp only [beq_iff_eq, beq_eq_false_iff_ne, ne_eq] at *
    rw [Bool.eq_iff_iff]
    simp only [beq_iff_eq, cls2, decide_eq_true_eq]
    first | omega | (simp; omega)

set_option maxHeartbeats 1000000 in
theorem row_any (A : Option Addr) (n c p : Nat) (b : Bool) (l : List Int) (w : World) (hr : ReadsInt w .u8 A n l) (hp : p ≤ n) :
    Calls Try.prog 37 #[.slice A n c, .int .i64 (p : Int), .bool b] w fun e w' => e = .returned (.int .i64 ((p + strL b (l.drop p) : Nat) : Int)) ∧ w = w' := by
  have hn := hr.2.1
  have hlen := Lib.hid hr.1
  have HR := Lib.hid hr
  clear hr
  go_enter Try.func37, Try.ntmps37
  go_wp2
  go_loop [1] (fun i => ∃ k : Nat, p ≤ k ∧ k ≤ n ∧ i = .int .i64 k ∧ Hid (p + strL b (l.drop p) = k + strL b (l.drop k))) (fun i => n - (intOf i).toNat)
  case atStart => exact ⟨p, by omega, hp, rfl, Lib.hid rfl⟩
  case round =>
    obtain ⟨k, hpk, hk, rfl, HK⟩ := hrel
    by_cases hlt : k < n
    · obtain ⟨ad, hA, hcell⟩ := HR.out.at_ (k : Int) (by omega) (by omega)
      obtain rfl := hA
      rw [Int.toNat_natCast] at hcell
      have hst := strL_step b l k (by rw [hlen.out]; exact hlt)
      generalize rd l k = cv at *
      have HST := Lib.hid hst
      clear hst
      by_cases h2 : cls cv = 2
      · have h2b : (cls cv == 2) = true := by simpa using h2
        have hgo : strOk b cv = true := by simp [strOk, h2]
        have HG := Lib.hid hgo
        clear hgo h2
        go_wp2_with (first | (go_at_call 39; refine (digit_any _ _).mono ?_; rintro e w' ⟨rfl, rfl⟩) | (go_at_call 36; refine (letter_any _ _).mono ?_; rintro e w' ⟨rfl, rfl⟩))
        go_round
        case rel => exact ⟨k + 1, by omega, by omega, by go_num, Lib.hid (by rw [HK.out, HST.out, HG.out]; simp; omega)⟩
        case measure => simp [intOf]; omega
      · have h2b : (cls cv == 2) = false := by simpa using h2
        by_cases h3 : b = true ∧ cls cv = 3
        · obtain ⟨rfl, h3⟩ := h3
          have h3b : (cls cv == 3) = true := by simpa using h3
          have hgo : strOk true cv = true := by simp [strOk, h3]
          have HG := Lib.hid hgo
          clear hgo h2 h3
          go_wp2_with (first | (go_at_call 39; refine (digit_any _ _).mono ?_; rintro e w' ⟨rfl, rfl⟩) | (go_at_call 36; refine (letter_any _ _).mono ?_; rintro e w' ⟨rfl, rfl⟩))
          go_round
          case rel => exact ⟨k + 1, by omega, by omega, by go_num, Lib.hid (by rw [HK.out, HST.out, HG.out]; simp; omega)⟩
          case measure => simp [intOf]; omega
        · have hgo : strOk b cv = false := by
            cases b
            · simp [strOk, h2]
            · simp only [true_and] at h3
              simp [strOk, h2, h3]
          have HG := Lib.hid hgo
          have h3b : b = true → (cls cv == 3) = false := fun hb => by simpa using fun h => h3 ⟨hb, h⟩
          clear hgo h2 h3
          cases b
          · go_wp2_with (first | (go_at_call 39; refine (digit_any _ _).mono ?_; rintro e w' ⟨rfl, rfl⟩) | (go_at_call 36; refine (letter_any _ _).mono ?_; rintro e w' ⟨rfl, rfl⟩))
            go_ret
            exact ⟨ret_int (by rw [HK.out, HST.out, HG.out]; simp), rfl⟩
          · have h3c := h3b rfl
            clear h3b
            go_wp2_with (first | (go_at_call 39; refine (digit_any _ _).mono ?_; rintro e w' ⟨rfl, rfl⟩) | (go_at_call 36; refine (letter_any _ _).mono ?_; rintro e w' ⟨rfl, rfl⟩))
            go_ret
            exact ⟨ret_int (by rw [HK.out, HST.out, HG.out]; simp), rfl⟩
    · obtain rfl : k = n := by omega
      go_wp2
      go_ret
      exact ⟨ret_int (by have h := HK.out; rw [strL_end b l k (by rw [hlen.out]; omega)] at h; omega), rfl⟩
end Go.Proofs.Yteenkeccpfgffaa
