/- Chapter 9: the walk of SSALimits, its kinds 1 and 2. -/
import Derived.Test.YtgbeliajhccndaaUG
import Derived.Deep.RegionLaw
set_option linter.unusedVariables false
set_option linter.unusedSimpArgs false
namespace Go.Proofs.Ytgbeliajhccndaa
open Go.RowKit Go.Proofs.YtgbeliajhccndaaW.PrintWords Go.Proofs.YtgbeliajhccndaaW.PrintLast Go.Proofs.YtgbeliajhccndaaW.PrintMore PP

set_option maxRecDepth 100000 in
set_option maxHeartbeats 8000000 in
theorem limits_k1 (n : Nat) (w : World) (hn : n ≤ 300000) : Calls Try.prog 8 #[.int .i64 1, .int .i64 (n : Int)] w fun e w' => e = .returned (.bool true) ∧ Below w.heap.size w w' := by
  have HLV := Lib.hid alive_any
  go_enter Try.func8, Try.ntmps8
  go_upto_region 17 with (first | (go_at_call 9; with_reducible refine Calls.mono (HLV.out _) ?_; rintro e w1 ⟨rfl, hb1⟩; have HB1 := Lib.hid hb1; clear hb1) | (go_at_call 9; refine stop_intro ?_))
  have hL0 := lim_init w1
  obtain ⟨wq, hwq⟩ : ∃ wq, wq = ((((w1.alloc (.cells #[.slice none 0 0, .slice none 0 0, .int .i64 3, .int .i64 (-1), .slice none 0 0, .slice none 0 0] 46)).alloc (.cells #[.slice none 0 0, .slice none 0 0, .int .i64 3, .int .i64 (-1), .slice none 0 0, .slice none 0 0] 46)).alloc (.cells #[.string ⟨#[109, 97, 105, 110]⟩, .slice none 0 0, .int .i64 0, .slice none 0 0, .slice (some ⟨w1.heap.size, 0, none⟩) 1 1, .string ⟨#[102]⟩, .slice none 0 0, .int .i64 0, .slice none 0 0, .slice (some ⟨w1.heap.size + 1, 0, none⟩) 1 1] 38)).alloc (.cells #[.slice (some ⟨w1.heap.size + 1 + 1, 0, none⟩) 2 2, .int .i64 0] 24)) := ⟨_, rfl⟩
  rw [← hwq] at hL0 ⊢
  clear hwq
  have HL0 := Lib.hid hL0
  clear hL0
  generalize w1.heap.size + 1 + 1 = gF at *
  generalize w1.heap.size + 1 = g1 at *
  obtain ⟨g0, hg0⟩ : ∃ g0, g0 = w1.heap.size := ⟨_, rfl⟩
  have HL0 : Hid (LmW w1 wq gF g0 g1 fN (.slice none 0 0) 0 (.slice none 0 0) (.slice none 0 0) (-1) [] [] []) := Lib.hid (by rw [hg0]; exact HL0.out)
  clear hg0
  obtain ⟨N, hN⟩ : ∃ N : Nat, N = if n ≤ 1000 then n else 1000 := ⟨_, rfl⟩
  have hN1 : N ≤ 1000 ∧ N ≤ n := by rw [hN]; split <;> omega
  have HN : Hid (N = n ∨ N = 1000) := Lib.hid (by rw [hN]; split <;> simp)
  obtain ⟨hN1, hN2⟩ := hN1
  clear hN
  go_loopg [10] N (fun k v9 wr => ∃ (i : Nat) (vv vp : Value), i ≤ N ∧ v9 = .int .i64 i ∧ Hid (i + k = N) ∧ Hid (LmW w1 wr gF g0 g1 fN vp 0 vv (.slice none 0 0) (-1) (vals1 i) (rng i) []))
  case atStart => exact ⟨0, _, _, by omega, rfl, Lib.hid (by omega), HL0⟩
  case round =>
    clear HL0
    obtain ⟨i, vv, vp, hi, rfl, HI, HL⟩ := hrel
    by_cases hlt : i < N
    · have hi1 : (i : Int) < (n : Int) := by omega
      have hi2 : (i : Int) < 1000 := by omega
      have c8 : wr.cell? ⟨gF, 8, none⟩ = some vv := (blk_cell HL.out.fb 8).trans rfl
      have hrv := HL.out.rv
      rw [vals1_len] at hrv
      have HRV := Lib.hid hrv
      clear hrv
      have hm3 : (i : Int).tmod 3 = (i : Int) % 3 := Int.tmod_eq_emod_of_nonneg (by omega)
      go_wp2_with (at_builtin; refine stop_intro ?_)
      unfold Stop
      refine print_append_cells (w0 := w1) (W := wr) w1.heap.size rfl (.tmp 99) (.tmp 105) 35 42 (.agg #[.int .i64 0, .int .i64 0, .int .i64 0, .slice none 0 0]) 4 48 rfl Try.underlying35 info42 rfl (by decide) (by decide) vv i ((vals1 i).flatMap encV) [.int .i64 33, .int .i64 (1 + (i : Int) % 3), .int .i64 (i : Int), .slice none 0 0] rfl rfl rfl (by simp [Value.oneCell']) HRV.out HL.out.below HL.out.below.size (by omega) ?_
      intro v1 w4 hV4 hB4 hg4 hat4
      obtain ⟨A9, c9, hv9⟩ := own_slice hV4
      subst hv9
      have hf4 := HL.out.fgrow HRV.out (by decide) hg4
      have c84 : w4.cell? ⟨gF, 8, none⟩ = some vv := (blk_cell hf4 8).trans rfl
      have f84 : w4.frozen? ⟨gF, 8, none⟩ = false := blk_frozen hf4 8
      have hL5 := HL.out.appV (x := (33, 1 + (i : Int) % 3, (i : Int))) (by rw [vals1_len]; exact hV4) hg4
      have hvs : vals1 i ++ [(33, 1 + (i : Int) % 3, (i : Int))] = vals1 (i + 1) := by
        unfold vals1
        rw [List.range_succ, List.map_append, List.map_singleton, show ((i % 3 : Nat) : Int) = (i : Int) % 3 from by omega]
      rw [hvs] at hL5
      have HL5 := Lib.hid hL5
      clear hL5 hvs hV4 hB4 hg4 hat4 hf4 c8
      go_upto_region 20 with (fail)
      obtain ⟨w5, hw5⟩ : ∃ w5, w5 = w4.setCell ⟨gF, 8, none⟩ (.slice A9 (i + 1) c9) := ⟨_, rfl⟩
      rw [← hw5] at HL5 ⊢
      clear hw5 c84 f84
      have hrp := HL5.out.rp
      rw [rng_len] at hrp
      obtain ⟨Ap, cp, hvp⟩ := own_slice hrp
      subst hvp
      have HRP := Lib.hid hrp
      clear hrp
      have c6 : w5.cell? ⟨gF, 6, none⟩ = some (.slice Ap i cp) := (blk_cell HL5.out.fb 6).trans rfl
      go_wp2_with (at_builtin; refine stop_intro ?_)
      unfold Stop
      refine print_append_num (w0 := w1) (W := w5) w1.heap.size rfl (.tmp 113) (.tmp 115) 34 3 .i64 8 rfl Try.underlying34 info3 (by decide) (.slice Ap i cp) (rng i) (i : Int) rfl rfl (by rw [rng_len]; exact HRP.out) HL5.out.below HL5.out.below.size (by rw [rng_len]; omega) ?_
      intro v2 w6 hV6 hB6 hg6 hat6
      obtain ⟨A2, c2, hv2⟩ := own_slice hV6
      subst hv2
      have hf6 := HL5.out.fgrow HL5.out.rp (by decide) hg6
      have c66 : w6.cell? ⟨gF, 6, none⟩ = some (.slice Ap i cp) := (blk_cell hf6 6).trans rfl
      have f66 : w6.frozen? ⟨gF, 6, none⟩ = false := blk_frozen hf6 6
      have hL7 := HL5.out.appP (x := (i : Int)) hV6 hg6
      have hrg : rng i ++ [(i : Int)] = rng (i + 1) := by unfold rng; rw [List.range_succ, List.map_append]; rfl
      have hrl : (rng i ++ [(i : Int)]).length = i + 1 := by rw [hrg, rng_len]
      rw [hrl, hrg] at hL7
      rw [hrl]
      have HL7 := Lib.hid hL7
      clear hL7 hrg hrl hV6 hB6 hg6 hat6 hf6 c6
      go_wp2
      go_roundg (gk - 1)
      case measure => have := HI.out; omega
      case rel => exact ⟨i + 1, _, _, by omega, by go_num, Lib.hid (by have := HI.out; omega), HL7⟩
    · have hiN : i = N := by omega
      subst hiN
      have hEx : checkE [mainL, limF fN (rng i) 0 (vals1 i) [] (-1)] 0 = if n ≤ 8 then 0 else 90 := by
        rw [lim1_all]
        have := HN.out
        by_cases h8 : n ≤ 8
        · rw [if_pos h8, if_pos (by omega)]
        · rw [if_neg h8, if_neg (by omega)]
      have HEX := Lib.hid hEx
      clear hEx
      have hend : ¬ ((i : Int) < (n : Int)) ∨ (i : Int) < (n : Int) ∧ ¬ ((i : Int) < 1000) := by have := HN.out; omega
      rcases hend with hend | ⟨hend, hend2⟩
      · by_cases hgood : n ≤ 8
        · have hEc : checkE [mainL, limF fN (rng i) 0 (vals1 i) [] (-1)] 0 = 0 := by rw [HEX.out, if_pos hgood]
          have s0 : wr.cell? ⟨gF + 1, 0, none⟩ = some (.slice (some ⟨gF, 0, none⟩) 2 2) := (blk_cell HL.out.sb 0).trans rfl
          have s1 : wr.cell? ⟨gF + 1, 1, none⟩ = some (.int .i64 0) := (blk_cell HL.out.sb 1).trans rfl
          have HCK := Lib.hid (HL.out.check (by decide) hEc)
          go_wp2_with (first | (go_at_call 12; with_reducible refine Calls.mono HCK.out ?_; rintro e wz ⟨rfl, hb⟩; have HBZ := Lib.hid hb; clear hb) | (go_at_call 12; refine stop_intro ?_))
          go_ret
          exact ⟨rfl, below_then HB1.out HB1.out.size (below_then HL.out.below HL.out.below.size HBZ.out)⟩
        · have hEc : checkE [mainL, limF fN (rng i) 0 (vals1 i) [] (-1)] 0 = 90 := by rw [HEX.out, if_neg hgood]
          have s0 : wr.cell? ⟨gF + 1, 0, none⟩ = some (.slice (some ⟨gF, 0, none⟩) 2 2) := (blk_cell HL.out.sb 0).trans rfl
          have s1 : wr.cell? ⟨gF + 1, 1, none⟩ = some (.int .i64 0) := (blk_cell HL.out.sb 1).trans rfl
          have HCK := Lib.hid (HL.out.check (by decide) hEc)
          go_wp2_with (first | (go_at_call 12; with_reducible refine Calls.mono HCK.out ?_; rintro e wz ⟨rfl, hb⟩; have HBZ := Lib.hid hb; clear hb) | (go_at_call 12; refine stop_intro ?_))
          go_ret
          exact ⟨rfl, below_then HB1.out HB1.out.size (below_then HL.out.below HL.out.below.size HBZ.out)⟩
      · by_cases hgood : n ≤ 8
        · exfalso; omega
        · have hEc : checkE [mainL, limF fN (rng i) 0 (vals1 i) [] (-1)] 0 = 90 := by rw [HEX.out, if_neg hgood]
          have s0 : wr.cell? ⟨gF + 1, 0, none⟩ = some (.slice (some ⟨gF, 0, none⟩) 2 2) := (blk_cell HL.out.sb 0).trans rfl
          have s1 : wr.cell? ⟨gF + 1, 1, none⟩ = some (.int .i64 0) := (blk_cell HL.out.sb 1).trans rfl
          have HCK := Lib.hid (HL.out.check (by decide) hEc)
          go_wp2_with (first | (go_at_call 12; with_reducible refine Calls.mono HCK.out ?_; rintro e wz ⟨rfl, hb⟩; have HBZ := Lib.hid hb; clear hb) | (go_at_call 12; refine stop_intro ?_))
          go_ret
          exact ⟨rfl, below_then HB1.out HB1.out.size (below_then HL.out.below HL.out.below.size HBZ.out)⟩
end Go.Proofs.Ytgbeliajhccndaa
