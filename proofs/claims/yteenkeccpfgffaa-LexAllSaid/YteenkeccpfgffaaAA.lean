/- turned, told (quernlaw2) (chapter 2). -/
import Derived.Test.YteenkeccpfgffaaZ
import Derived.OpenShut
set_option linter.unusedVariables false
set_option linter.unusedSimpArgs false
namespace Go.Proofs.Yteenkeccpfgffaa
open Go.RowKit Go.Proofs.YteenkeccpfgffaaW.PrintWords Go.Proofs.YteenkeccpfgffaaW.PrintLast Go.Proofs.YteenkeccpfgffaaW.PrintMore

def SomeByte (e : Ending) : Prop := ∃ r : Int, 0 ≤ r ∧ r ≤ 255 ∧ e = .returned (.int .u8 r)
theorem xor_range (b : Int) : 0 ≤ bits BinOp.xor IntKind.u8 b 1 ∧ bits BinOp.xor IntKind.u8 b 1 ≤ 255 := by
  unfold bits
  rw [IntKind.wrap_u8]
  omega
set_option maxHeartbeats 1000000 in
theorem turned_any (b i : Int) (w : World) (hb0 : 0 ≤ b) (hb1 : b ≤ 255) (hi : 0 ≤ i) : Calls Try.prog 25 #[.int .u8 b, .int .i64 i] w fun e w' => SomeByte e ∧ w = w' := by
  go_enter Try.func25, Try.ntmps25
  go_wp2
  all_goals
    go_ret
    refine ⟨⟨_, ?_, ?_, rfl⟩, rfl⟩
  all_goals first | omega | exact (xor_range b).1 | exact (xor_range b).2

theorem rd_set (l : List Int) (k : Nat) (r : Int) (hk : k < l.length) (j : Int) : rd (l.set k r) j = if j.toNat = k then r else rd l j := by
  unfold rd
  rw [List.getD_eq_getElem?_getD, List.getD_eq_getElem?_getD, List.getElem?_set]
  by_cases h : k = j.toNat
  · subst h; simp [hk]
  · rw [if_neg h, if_neg (Ne.symm h)]
theorem byteRange_set {l : List Int} (h : byteRange l) {k : Nat} {r : Int} (hk : k < l.length) (h0 : 0 ≤ r) (h1 : r ≤ 255) : byteRange (l.set k r) := by
  intro j
  rw [rd_set l k r hk]
  split
  · omega
  · exact h j
theorem lend_set {W : World} {g K n : Nat} {l : List Int} (h : LendRow W g K n l) (hl : l.length = n) {k : Nat} (hk : k < n) (r : Int) : LendRow (W.setCell ⟨g, k, none⟩ (.int .u8 r)) g K n (l.set k r) := by
  obtain ⟨cu, hh, h1, h2, h3, h4, h5⟩ := h
  refine ⟨_, heap_setCell_same _ _ _ _ _ _ hh, by simpa using h1, h2, h3, fun j hj => ?_, fun j ha hb => ?_⟩
  · rw [set_get (by omega), rd_set l k r (by omega)]
    rw [Int.toNat_natCast]
    by_cases h : j = k
    · rw [if_pos h, if_pos h]
    · rw [if_neg h, if_neg h]; exact h4 j hj
  · rw [set_get (by omega), if_neg (by omega)]
    exact h5 j ha hb
theorem lend_below {W W' : World} {g K n : Nat} {l : List Int} (h : LendRow W g K n l) (hb : Below W.heap.size W W') : LendRow W' g K n l := by
  obtain ⟨cu, hh, r⟩ := h
  exact ⟨cu, below_row hh hb, r⟩
end Go.Proofs.Yteenkeccpfgffaa
