/- Chapter 9: the walk of SSALimits, all of it. -/
import Derived.Test.YtgbeliajhccndaaUE
import Derived.Test.YtgbeliajhccndaaUF
import Derived.Test.YtgbeliajhccndaaUH
set_option linter.unusedVariables false
set_option linter.unusedSimpArgs false
namespace Go.Proofs.Ytgbeliajhccndaa
open Go.RowKit Go.Proofs.YtgbeliajhccndaaW.PrintWords Go.Proofs.YtgbeliajhccndaaW.PrintLast Go.Proofs.YtgbeliajhccndaaW.PrintMore PP

set_option maxRecDepth 100000 in
set_option maxHeartbeats 8000000 in
theorem limits_out (kind many : Int) (w : World) (h : kind < 0 ∨ 3 < kind ∨ (0 ≤ kind ∧ kind < 3 ∧ many < 0) ∨ (0 ≤ kind ∧ kind < 3 ∧ 0 ≤ many ∧ 300000 < many)) : Calls Try.prog 8 #[.int .i64 kind, .int .i64 many] w fun e w' => e = .returned (.bool true) ∧ Below w.heap.size w w' := by
  have HLV := Lib.hid alive_any
  rcases h with h | h | ⟨h, h2, h3⟩ | ⟨h, h2, h3, h4⟩
  · go_enter Try.func8, Try.ntmps8
    go_wp2_with (first | (go_at_call 9; with_reducible refine Calls.mono (HLV.out _) ?_; rintro e w1 ⟨rfl, hb1⟩) | (go_at_call 9; refine stop_intro ?_))
    go_ret
    exact ⟨rfl, hb1⟩
  · have h0 : ¬ kind < 0 := by omega
    go_enter Try.func8, Try.ntmps8
    go_wp2_with (first | (go_at_call 9; with_reducible refine Calls.mono (HLV.out _) ?_; rintro e w1 ⟨rfl, hb1⟩) | (go_at_call 9; refine stop_intro ?_))
    go_ret
    exact ⟨rfl, hb1⟩
  · have h0 : ¬ kind < 0 := by omega
    have h1 : ¬ 3 < kind := by omega
    go_enter Try.func8, Try.ntmps8
    go_wp2_with (first | (go_at_call 9; with_reducible refine Calls.mono (HLV.out _) ?_; rintro e w1 ⟨rfl, hb1⟩) | (go_at_call 9; refine stop_intro ?_))
    go_ret
    exact ⟨rfl, hb1⟩
  · have h0 : ¬ kind < 0 := by omega
    have h1 : ¬ 3 < kind := by omega
    have h5 : ¬ many < 0 := by omega
    go_enter Try.func8, Try.ntmps8
    go_wp2_with (first | (go_at_call 9; with_reducible refine Calls.mono (HLV.out _) ?_; rintro e w1 ⟨rfl, hb1⟩) | (go_at_call 9; refine stop_intro ?_))
    go_ret
    exact ⟨rfl, hb1⟩
theorem SSALimits_any (kind many : Int) (w : World) : Calls Try.prog 8 #[.int .i64 kind, .int .i64 many] w fun e w' => e = .returned (.bool true) ∧ Below w.heap.size w w' := by
  by_cases h3 : kind = 3
  · subst h3; exact limits_k3 many w
  by_cases hk : 0 ≤ kind ∧ kind < 3
  · by_cases hm : 0 ≤ many ∧ many ≤ 300000
    · obtain ⟨n, rfl⟩ : ∃ n : Nat, many = (n : Int) := ⟨many.toNat, by omega⟩
      have h : kind = 0 ∨ kind = 1 ∨ kind = 2 := by omega
      rcases h with rfl | rfl | rfl
      · exact limits_k0 n w (by omega)
      · exact limits_k1 n w (by omega)
      · exact limits_k2 n w (by omega)
    · exact limits_out kind many w (by omega)
  · exact limits_out kind many w (by omega)
end Go.Proofs.Ytgbeliajhccndaa
