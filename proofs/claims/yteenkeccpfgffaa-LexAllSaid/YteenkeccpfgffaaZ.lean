/- kept, turned (quernlaw2) (chapter 2). -/
import Derived.Test.YteenkeccpfgffaaY
set_option linter.unusedVariables false
set_option linter.unusedSimpArgs false
namespace Go.Proofs.Yteenkeccpfgffaa
open Go.RowKit Go.Proofs.YteenkeccpfgffaaW.PrintWords Go.Proofs.YteenkeccpfgffaaW.PrintLast Go.Proofs.YteenkeccpfgffaaW.PrintMore

theorem take_run (A : Option Addr) (K c n : Nat) (hn : n ≤ K) (hc : K ≤ c) : ∀ W : World, (Instr.slice 22 (.slice A K c) none (some (.int .i64 (n : Int))) none).run Try.prog W = .ok (.slice A n c) W := by
  intro W
  obtain ⟨i5, hi5, hs5⟩ := info5s
  have hel : Try.prog.elem 22 = 5 := by simp [Program.elem, Try.underlying22]
  have hu : Try.prog.underlying 22 = some (.slice (Try.prog.elem 22)) := by rw [hel]; exact Try.underlying22
  have ha : (A.map fun x => x.add 0) = A := by cases A <;> simp [Addr.add]
  rw [run_slice_h W 22 A K c hu .i64 (n : Int) (by omega) (by omega), hel]
  simp [sizeOf, typeInfo, hi5, hs5, sliced, Result.andThen, ha]
theorem lend_reads {W : World} {g K n : Nat} {l : List Int} (h : LendRow W g K n l) (hl : l.length = n) : ReadsInt W .u8 (some ⟨g, 0, none⟩) n l := by
  obtain ⟨cu, hh, h1, h2, h3, h4, h5⟩ := h
  refine ⟨hl, by omega, fun _ => ⟨_, rfl, fun j hj => ?_⟩⟩
  rw [add_plain, cell_of_row _ _ _ _ _ _ hh, h4 j hj]
  unfold rd
  rw [Int.toNat_natCast]
theorem lend_drew {W : World} {g K n : Nat} {l : List Int} (h : LendRow W g K n l) (k : Nat) : LendRow (W.drewN k) g K n l := h
set_option maxHeartbeats 4000000 in
theorem kept_yes (A : Option Addr) (n c g K : Nat) (l : List Int) (w : World) (hL : LendRow w g K n l) (hr : ReadsInt w .u8 A n l) (hn : n ≤ 3000000000000) :
    Calls Try.prog 24 #[.slice (some ⟨g, 0, none⟩) K K, .slice A n c] w fun e w' => e = .returned (.bool true) ∧ ∃ k, w' = w.drewN k := by
  have hll := hr.1
  have HR := Lib.hid hr
  have HC := Lib.hid (lend_reads hL hll)
  have HL := Lib.hid hL
  obtain ⟨cu, hh, h1, h2, h3, h4, h5⟩ := hL
  have HH := Lib.hid hh
  have H1 := Lib.hid h1
  have H5 := Lib.hid h5
  have htk := take_run (some ⟨g, 0, none⟩) K K n (by omega) (Nat.le_refl _)
  have hc1 : ∀ j, (convert 22 9 (.slice (some ⟨g, 0, none⟩) n K)).run Try.prog (w.drewN j) = .ok (.string (strOfNums l)) (w.drewN j) := fun j => string_of_reads (P := Try.prog) Try.underlying22 Try.underlying5 Try.underlying9 (reads_heap HC.out rfl)
  have hc2 : ∀ j, (convert 22 9 (.slice A n c)).run Try.prog (w.drewN j) = .ok (.string (strOfNums l)) (w.drewN j) := fun j => string_of_reads (P := Try.prog) Try.underlying22 Try.underlying5 Try.underlying9 (reads_heap HR.out rfl)
  generalize strOfNums l = s at *
  clear hh h1 h4 h5 hr hll
  have hw1 : IntKind.i64.wrap ((n : Int) + 40) = (n : Int) + 40 := IntWalk.i64_in _ (by omega)
  have hg1 : decide ((n : Int) + 40 ≤ (K : Int)) = true := decide_eq_true (by omega)
  have HW1 := Lib.hid hw1
  have HG1 := Lib.hid hg1
  have HC1 := Lib.hid hc1
  have HC2 := Lib.hid hc2
  have HTK := Lib.hid htk
  clear hw1 hg1 hc1 hc2 htk
  go_enter Try.func24, Try.ntmps24
  go_wp2
  go_loop [6] (fun i => ∃ k : Nat, n ≤ k ∧ k ≤ K ∧ i = .int .i64 k) (fun i => K - (intOf i).toNat)
  case atStart => exact ⟨n, Nat.le_refl _, by omega, rfl⟩
  case round =>
    obtain ⟨k, hnk, hk, rfl⟩ := hrel
    by_cases hlt : k < K
    · have hcell : w.cell? ⟨g, k, none⟩ = some (.int .u8 (mk k)) := by
        rw [cell_of_row _ _ _ _ _ _ HH.out]
        exact H5.out k hnk hlt
      have hne : (mk k != wrap64 (167 + (k : Int)) % 256) = false := by simp [mk]
      go_wp2
      go_round
      case rel => exact ⟨k + 1, by omega, by omega, by go_num⟩
      case measure => simp [intOf]; omega
    · obtain rfl : k = K := by omega
      have hw1 := HW1.out
      have hg1 := HG1.out
      have hc1 := HC1.out
      have hc2 := HC2.out
      have htk := HTK.out
      go_wp2
      go_quiet (fail)
      go_wp2
      go_ret
      exact ⟨rfl, _, rfl⟩
end Go.Proofs.Yteenkeccpfgffaa
