/- LexTokens: the walk (chapter 2). -/
import Derived.Test.YteenkeccpfgffaaAB
set_option linter.unusedVariables false
set_option linter.unusedSimpArgs false
namespace Go.Proofs.Yteenkeccpfgffaa
open Go.RowKit Go.Proofs.YteenkeccpfgffaaW.PrintWords Go.Proofs.YteenkeccpfgffaaW.PrintLast Go.Proofs.YteenkeccpfgffaaW.PrintMore

theorem row_reads {w : World} {a : Option Addr} {len cap : Nat} {zs : List Int} (h : (a = none ∧ len = 0 ∧ cap = 0 ∧ zs = []) ∨
    ∃ x, a = some x ∧ len ≤ cap ∧ cap ≤ maxLen ∧ zs.length = cap ∧ (∀ i, i < zs.length → w.cell? (x.add i) = some (.int .u8 (zs.getD i 0))) ∧ ∀ n ∈ zs, (Lit.int .u8 n).wf = true) :
    ∃ l, ReadsInt w .u8 a len l ∧ byteRange l ∧ len ≤ cap := by
  rcases h with ⟨rfl, rfl, rfl, rfl⟩ | ⟨x, rfl, h1, h2, h3, h4, h5⟩
  · refine ⟨[], ⟨rfl, by omega, fun h => absurd h (by omega)⟩, ?_, by omega⟩
    intro i
    simp [rd]
  · refine ⟨zs.take len, ⟨by rw [List.length_take]; omega, by unfold maxLen at h2; omega, fun _ => ⟨x, rfl, fun j hj => ?_⟩⟩, ?_, h1⟩
    · rw [h4 j (by omega)]
      simp [List.getD_eq_getElem?_getD, List.getElem?_take, hj]
    · refine byteRange.take ?_ len
      intro i
      unfold rd
      rw [List.getD_eq_getElem?_getD]
      rcases Nat.lt_or_ge i.toNat zs.length with h | h
      · rw [List.getElem?_eq_getElem h]
        have h6 := h5 _ (List.getElem_mem h)
        exact bounds_u8 h6
      · rw [List.getElem?_eq_none h]
        simp
set_option maxHeartbeats 1000000 in
theorem lexTokens_any (A : Option Addr) (n c : Nat) (l : List Int) (w : World) (hnc : n ≤ c) (hr : ReadsInt w .u8 A n l) (hb : byteRange l) :
    Calls Try.prog 3 #[.slice A n c] w fun e w' => e = .returned (.bool true) ∧ Below w.heap.size w w' := by
  have hn := hr.2.1
  have HR := Lib.hid hr
  have HB := Lib.hid hb
  clear hr hb
  by_cases hbig : n ≤ 1048576
  · go_enter Try.func3, Try.ntmps3
    go_wp2_with (first | (go_at_call 11; refine (alive_any _).mono ?_; rintro e w1 ⟨rfl, hb1⟩; have HB1 := Lib.hid hb1; clear hb1) | (go_at_call 12; refine (told_any A n c l _ hnc (by exact HR.out.below HB1.out) HB.out (by omega)).mono ?_; rintro e w2 ⟨rfl, hb2⟩; have HB2 := Lib.hid (below_then HB1.out HB1.out.size hb2); clear hb2))
    go_ret
    exact ⟨rfl, HB2.out⟩
  · go_enter Try.func3, Try.ntmps3
    go_wp2
    go_ret
    exact ⟨rfl, Below.refl _ _⟩
end Go.Proofs.Yteenkeccpfgffaa
