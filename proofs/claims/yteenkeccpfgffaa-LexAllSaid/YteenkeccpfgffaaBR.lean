/- LexAll: the walk (chapter 2). -/
import Derived.Test.YteenkeccpfgffaaAC
set_option linter.unusedVariables false
set_option linter.unusedSimpArgs false
namespace Go.Proofs.Yteenkeccpfgffaa
open Go.RowKit Go.Proofs.YteenkeccpfgffaaW.PrintWords Go.Proofs.YteenkeccpfgffaaW.PrintLast Go.Proofs.YteenkeccpfgffaaW.PrintMore

def kTx : Kd (List Int) := Kd.slice 5 (Kd.int .u8)
theorem tx_at {w : World} {A : Option Addr} {n : Nat} {ts : List (List Int)} (h : kTx.C w A n ts) (k : Nat) (hk : k < n) :
    ∃ ad B c, A = some ad ∧ w.cell? (ad.add k) = some (.slice B (ts.getD k []).length c) ∧ (ts.getD k []).length ≤ c ∧ ReadsInt w .u8 B (ts.getD k []).length (ts.getD k []) := by
  obtain ⟨ad, cs, e, _, hK, hc⟩ := Kd.C_get h [] (k : Int) (by omega) (by omega)
  rw [Int.toNat_natCast] at hK hc
  obtain ⟨B, c, rfl, h1, h2⟩ := hK
  have := hc 0 _ rfl
  rw [show kTx.sz = 1 from rfl, Nat.mul_one, Nat.add_zero] at this
  exact ⟨ad, B, c, e, this, h1, Kd.reads_of_C (d := (0 : Int)) h2⟩
set_option maxHeartbeats 4000000 in
theorem lexAll_any (A : Option Addr) (n c : Nat) (ts : List (List Int)) (w : World) (hnc : n ≤ c) (hC : kTx.C w A n ts) (hts : ∀ l ∈ ts, byteRange l ∧ l.length ≤ 140737488351232) :
    Calls Try.prog 4 #[.slice A n c] w fun e w' => e = .returned (.bool true) ∧ Below w.heap.size w w' := by
  have hn := hC.2.1
  have HC := Lib.hid hC
  have HTS : Hid (∀ k, k < n → byteRange (ts.getD k []) ∧ (ts.getD k []).length ≤ 140737488351232) := Lib.hid (fun k hk => hts _ (by
    rw [List.getD_eq_getElem?_getD, List.getElem?_eq_getElem (by rw [hC.1]; exact hk)]
    exact List.getElem_mem _))
  clear hC hts
  go_enter Try.func4, Try.ntmps4
  go_wp2
  go_loop [3, 4] (fun s i => ∃ (j m : Nat), j ≤ n ∧ i = .int .i64 j ∧ s = .int .i64 m ∧ m ≤ 140737488351232 + 1048577 ∧ Hid (∀ k, k < j → (ts.getD k []).length ≤ m)) (fun _ i => n - (intOf i).toNat)
  case atStart => exact ⟨0, 0, by omega, rfl, rfl, by omega, Lib.hid (fun k hk => absurd hk (by omega))⟩
  case round =>
    obtain ⟨j, m, hj, rfl, rfl, hm, HM⟩ := hrel
    by_cases hgo : j < n ∧ m ≤ 1048576
    · obtain ⟨hlt, hms⟩ := hgo
      have hmi : (m : Int) ≤ 1048576 := by omega
      obtain ⟨ad, B, cB, hA, p0, hcB, hRB⟩ := tx_at HC.out j hlt
      obtain rfl := hA
      have hle := (HTS.out j hlt).2
      have HM2 : Hid (∀ k, k < j + 1 → (ts.getD k []).length ≤ m + (ts.getD j []).length + 1) := Lib.hid (fun k hk => by
        by_cases hkj : k = j
        · subst hkj; omega
        · have := HM.out k (by omega); omega)
      clear hRB hcB
      generalize ts.getD j [] = t at *
      go_wp2
      go_round
      case rel => exact ⟨j + 1, m + t.length + 1, by omega, by go_num, by go_num, by omega, HM2⟩
      case measure => simp [intOf]; omega
    · have hcases : (j < n ∧ 1048576 < m) ∨ j = n := by omega
      rcases hcases with ⟨hlt, hbig⟩ | rfl
      · have hbi : (1048576 : Int) < (m : Int) := by omega
        clear hgo
        go_wp2
        go_ret
        exact ⟨rfl, Below.refl _ _⟩
      · by_cases hbig : 1048576 < m
        · have hbi : (1048576 : Int) < (m : Int) := by omega
          clear hgo
          go_wp2
          go_ret
          exact ⟨rfl, Below.refl _ _⟩
        · have hbi : ¬ (1048576 : Int) < (m : Int) := by omega
          have HM3 : Hid (∀ k, k < j → (ts.getD k []).length ≤ 1048576) := Lib.hid (fun k hk => by have := HM.out k hk; omega)
          clear hgo
          go_wp2_with (go_at_call 11; refine (alive_any _).mono ?_; rintro e w1 ⟨rfl, hb1⟩; have HB1 := Lib.hid hb1; clear hb1)
          go_loopw [5, 6] (fun ok i wr => ∃ k : Nat, k ≤ j ∧ i = .int .i64 k ∧ ok = .bool true ∧ Hid (Below w.heap.size w wr)) (fun _ i _ => j - (intOf i).toNat)
          case atStart => exact ⟨0, by omega, rfl, rfl, HB1⟩
          case round =>
            obtain ⟨k, hk, rfl, rfl, HRB⟩ := hrel
            by_cases hlt : k < j
            · obtain ⟨ad, B, cB, hA, p0, hcB, hRB⟩ := tx_at (Kd.C_below HC.out HRB.out) k hlt
              obtain rfl := hA
              have hl := HM3.out k hlt
              have HRT := Lib.hid hRB
              have HBT := Lib.hid (HTS.out k hlt).1
              clear hRB
              generalize ts.getD k [] = t at *
              go_wp2_with (go_at_call 12; refine (told_any B t.length cB t _ hcB (by exact HRT.out) HBT.out (by omega)).mono ?_; rintro e w2 ⟨rfl, hb2⟩; have HB2 := Lib.hid (below_then HRB.out HRB.out.size hb2); clear hb2)
              go_roundw
              case rel => exact ⟨k + 1, by omega, by go_num, rfl, HB2⟩
              case measure => simp [intOf]; omega
            · obtain rfl : k = j := by omega
              go_wp2
              go_ret
              exact ⟨rfl, HRB.out⟩
end Go.Proofs.Yteenkeccpfgffaa
