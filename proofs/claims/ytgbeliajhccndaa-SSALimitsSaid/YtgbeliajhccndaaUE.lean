/- Chapter 9: the walk of SSALimits, its four kinds. -/
import Derived.Test.YtgbeliajhccndaaUG
import Derived.Deep.RegionLaw
set_option linter.unusedVariables false
set_option linter.unusedSimpArgs false
namespace Go.Proofs.Ytgbeliajhccndaa
open Go.RowKit Go.Proofs.YtgbeliajhccndaaW.PrintWords Go.Proofs.YtgbeliajhccndaaW.PrintLast Go.Proofs.YtgbeliajhccndaaW.PrintMore PP

set_option maxRecDepth 100000 in
set_option maxHeartbeats 8000000 in
theorem limits_k0 (n : Nat) (w : World) (hn : n ≤ 300000) : Calls Try.prog 8 #[.int .i64 0, .int .i64 (n : Int)] w fun e w' => e = .returned (.bool true) ∧ Below w.heap.size w w' := by
  have HLV := Lib.hid alive_any
  go_enter Try.func8, Try.ntmps8
  go_upto_region 10 with (first | (go_at_call 9; with_reducible refine Calls.mono (HLV.out _) ?_; rintro e w1 ⟨rfl, hb1⟩; have HB1 := Lib.hid hb1; clear hb1) | (go_at_call 9; refine stop_intro ?_))
  have hL0 := lim_init w1
  obtain ⟨wq, hwq⟩ : ∃ wq, wq = ((((w1.alloc (.cells #[.slice none 0 0, .slice none 0 0, .int .i64 3, .int .i64 (-1), .slice none 0 0, .slice none 0 0] 46)).alloc (.cells #[.slice none 0 0, .slice none 0 0, .int .i64 3, .int .i64 (-1), .slice none 0 0, .slice none 0 0] 46)).alloc (.cells #[.string ⟨#[109, 97, 105, 110]⟩, .slice none 0 0, .int .i64 0, .slice none 0 0, .slice (some ⟨w1.heap.size, 0, none⟩) 1 1, .string ⟨#[102]⟩, .slice none 0 0, .int .i64 0, .slice none 0 0, .slice (some ⟨w1.heap.size + 1, 0, none⟩) 1 1] 38)).alloc (.cells #[.slice (some ⟨w1.heap.size + 1 + 1, 0, none⟩) 2 2, .int .i64 0] 24)) := ⟨_, rfl⟩
  rw [← hwq] at hL0 ⊢
  clear hwq
  have HL0 := Lib.hid hL0
  clear hL0
  generalize w1.heap.size + 1 + 1 = gF at *
  generalize w1.heap.size + 1 = g1 at *
  obtain ⟨g0, hg0⟩ : ∃ g0, g0 = w1.heap.size := ⟨_, rfl⟩
  have HL0 : Hid (LmW w1 wq gF g0 g1 fN (.slice none 0 0) 0 (.slice none 0 0) (.slice none 0 0) (-1) [] [] []) := Lib.hid (by rw [hg0]; exact HL0.out)
  clear hg0
  go_loopg [9] n (fun k v9 wr => ∃ (i : Nat) (vv vb : Value), i ≤ n ∧ v9 = .int .i64 i ∧ Hid (i + k = n) ∧ Hid (LmW w1 wr gF g0 g1 fN (.slice none 0 0) 0 vv vb (-1) (vals0 i) [] (rng i)))
  case atStart => exact ⟨0, _, _, by omega, rfl, Lib.hid (by omega), HL0⟩
  case round =>
    clear HL0
    obtain ⟨i, vv, vb, hi, rfl, HI, HL⟩ := hrel
    by_cases hlt : i < n
    · have c8 : wr.cell? ⟨gF, 8, none⟩ = some vv := (blk_cell HL.out.fb 8).trans rfl
      have hrv := HL.out.rv
      rw [vals0_len] at hrv
      have HRV := Lib.hid hrv
      clear hrv
      go_wp2_with (at_builtin; refine stop_intro ?_)
      unfold Stop
      refine print_append_cells (w0 := w1) (W := wr) w1.heap.size rfl (.tmp 59) (.tmp 62) 35 42 (.agg #[.int .i64 0, .int .i64 0, .int .i64 0, .slice none 0 0]) 4 48 rfl Try.underlying35 info42 rfl (by decide) (by decide) vv i ((vals0 i).flatMap encV) [.int .i64 1, .int .i64 1, .int .i64 (i : Int), .slice none 0 0] rfl rfl rfl (by simp [Value.oneCell']) HRV.out HL.out.below HL.out.below.size (by omega) ?_
      intro v1 w4 hV4 hB4 hg4 hat4
      obtain ⟨A9, c9, hv9⟩ := own_slice hV4
      subst hv9
      have hf4 := HL.out.fgrow HRV.out (by decide) hg4
      have c84 : w4.cell? ⟨gF, 8, none⟩ = some vv := (blk_cell hf4 8).trans rfl
      have f84 : w4.frozen? ⟨gF, 8, none⟩ = false := blk_frozen hf4 8
      have hL5 := HL.out.appV (x := (1, 1, (i : Int))) (by rw [vals0_len]; exact hV4) hg4
      have hvs : vals0 i ++ [(1, 1, (i : Int))] = vals0 (i + 1) := by unfold vals0; rw [List.range_succ, List.map_append]; rfl
      rw [hvs] at hL5
      have HL5 := Lib.hid hL5
      clear hL5 hvs hV4 hB4 hg4 hat4 hf4 c8
      go_upto_region 13 with (fail)
      obtain ⟨w5, hw5⟩ : ∃ w5, w5 = w4.setCell ⟨gF, 8, none⟩ (.slice A9 (i + 1) c9) := ⟨_, rfl⟩
      rw [← hw5] at HL5 ⊢
      clear hw5 c84 f84
      have c9_ : w5.cell? ⟨gF, 9, none⟩ = some (.slice (some ⟨g1, 0, none⟩) 1 1) := (blk_cell HL5.out.fb 9).trans rfl
      have hrb' := HL5.out.rb
      rw [rng_len] at hrb'
      obtain ⟨Ab, cb, hvb⟩ := own_slice hrb'
      subst hvb
      clear hrb'
      have b1_ : w5.cell? ⟨g1, 1, none⟩ = some (.slice Ab i cb) := (blk_cell HL5.out.b1 1).trans rfl
      have b1a := cellO b1_ (.cells #[.int .i64 (i : Int)] 3)
      have c9a := cellO c9_ (.cells #[.int .i64 (i : Int)] 3)
      have hrb : (Kd.int .i64).R 3 w5.drew w1.heap.size (fun _ => True) (.slice Ab i cb) (rng i) := Kd.R_drew (Kd.R_of_own (enc := Value.int .i64) HL5.out.rb (fun _ _ => trivial))
      have hsz : w1.heap.size ≤ w5.drew.heap.size := HL5.out.below.size
      have hln : ((rng i).length + 1) * 8 ≤ 140737488355328 := by rw [rng_len]; omega
      have HRB := Lib.hid hrb
      have HSZ := Lib.hid hsz
      have HLN := Lib.hid hln
      have HL6 := Lib.hid (HL5.out.then_ (below_drew (Below.refl _ _)))
      have HRO := Lib.hid HL6.out.rb
      have hrg : rng i ++ [(i : Int)] = rng (i + 1) := by unfold rng; rw [List.range_succ, List.map_append]; rfl
      have HRG := Lib.hid hrg
      clear hrb hsz hln hrg
      go_region_law (first | (refine app_step (Kd.int .i64) w5.drew w1.heap.size (by rfl) (.tmp 76) (.tmp 78) 34 3 (.int .i64 0) 8 (by rfl) Try.underlying34 info3 (by rfl) (by decide) (by decide) (.slice Ab i cb) (rng i) (i : Int) [.int .i64 (i : Int)] (by rfl) (fun _ => True) (by rfl) (by rfl) (by rfl) (fun _ _ => trivial) HRB.out HSZ.out HLN.out ?_; intro v1 w6 hR1 hg1 hat1; obtain ⟨A1, k1, e1⟩ := Kd.R_slice hR1; subst e1; have hb6 := HL6.out.bgrow HRO.out (by decide) hg1; have hf6 := HL6.out.fgrow HRO.out (by decide) hg1; have c96 := (blk_cell hf6 9).trans (Eq.refl _); have cb6 := (blk_cell hb6 1).trans (Eq.refl _); have fb6 := blk_frozen hb6 1; have HR1 := Lib.hid hR1; have HG1 := Lib.hid hg1; clear hR1 hg1 hat1 hb6 hf6))
      all_goals
        have HL7 : Hid (LmW w1 (w6.setCell ⟨g1, 1, none⟩ (.slice A1 ((rng i).length + 1) k1)) gF g0 g1 fN (.slice none 0 0) 0 (.slice A9 (i + 1) c9) (.slice A1 ((rng i).length + 1) k1) (-1) (vals0 (i + 1)) [] (rng (i + 1))) := Lib.hid (by
          have h := HL6.out.appB (x := (i : Int)) (Kd.own_of_R HR1.out) HG1.out
          rw [List.length_append, List.length_singleton, HRG.out] at h
          exact h)
        go_wp2
        go_roundg (gk - 1)
        case measure => have := HI.out; omega
        case rel => exact ⟨i + 1, _, _, by omega, by go_num, Lib.hid (by have := HI.out; omega), HL7⟩
    · have hin : i = n := by omega
      subst hin
      clear hlt hi HI
      by_cases hgood : i ≤ 262143
      · have hEc : checkE [mainL, limF fN [] 0 (vals0 i) (rng i) (-1)] 0 = 0 := by rw [lim0_all, if_pos hgood]
        have s0 : wr.cell? ⟨gF + 1, 0, none⟩ = some (.slice (some ⟨gF, 0, none⟩) 2 2) := (blk_cell HL.out.sb 0).trans rfl
        have s1 : wr.cell? ⟨gF + 1, 1, none⟩ = some (.int .i64 0) := (blk_cell HL.out.sb 1).trans rfl
        have HCK := Lib.hid (HL.out.check (by decide) hEc)
        go_wp2_with (first | (go_at_call 12; with_reducible refine Calls.mono HCK.out ?_; rintro e wz ⟨rfl, hb⟩; have HBZ := Lib.hid hb; clear hb) | (go_at_call 12; refine stop_intro ?_))
        go_ret
        exact ⟨rfl, below_then HB1.out HB1.out.size (below_then HL.out.below HL.out.below.size HBZ.out)⟩
      · have hEc : checkE [mainL, limF fN [] 0 (vals0 i) (rng i) (-1)] 0 = 90 := by rw [lim0_all, if_neg hgood]
        have s0 : wr.cell? ⟨gF + 1, 0, none⟩ = some (.slice (some ⟨gF, 0, none⟩) 2 2) := (blk_cell HL.out.sb 0).trans rfl
        have s1 : wr.cell? ⟨gF + 1, 1, none⟩ = some (.int .i64 0) := (blk_cell HL.out.sb 1).trans rfl
        have HCK := Lib.hid (HL.out.check (by decide) hEc)
        go_wp2_with (first | (go_at_call 12; with_reducible refine Calls.mono HCK.out ?_; rintro e wz ⟨rfl, hb⟩; have HBZ := Lib.hid hb; clear hb) | (go_at_call 12; refine stop_intro ?_))
        go_ret
        exact ⟨rfl, below_then HB1.out HB1.out.size (below_then HL.out.below HL.out.below.size HBZ.out)⟩
set_option maxRecDepth 100000 in
set_option maxHeartbeats 8000000 in
theorem limits_k3 (r : Int) (w : World) : Calls Try.prog 8 #[.int .i64 3, .int .i64 r] w fun e w' => e = .returned (.bool true) ∧ Below w.heap.size w w' := by
  have HLV := Lib.hid alive_any
  go_enter Try.func8, Try.ntmps8
  go_upto_region 31 with (first | (go_at_call 9; with_reducible refine Calls.mono (HLV.out _) ?_; rintro e w1 ⟨rfl, hb1⟩; have HB1 := Lib.hid hb1; clear hb1) | (go_at_call 9; refine stop_intro ?_))
  have hL0 := lim_init w1
  obtain ⟨wq, hwq⟩ : ∃ wq, wq = ((((w1.alloc (.cells #[.slice none 0 0, .slice none 0 0, .int .i64 3, .int .i64 (-1), .slice none 0 0, .slice none 0 0] 46)).alloc (.cells #[.slice none 0 0, .slice none 0 0, .int .i64 3, .int .i64 (-1), .slice none 0 0, .slice none 0 0] 46)).alloc (.cells #[.string ⟨#[109, 97, 105, 110]⟩, .slice none 0 0, .int .i64 0, .slice none 0 0, .slice (some ⟨w1.heap.size, 0, none⟩) 1 1, .string ⟨#[102]⟩, .slice none 0 0, .int .i64 0, .slice none 0 0, .slice (some ⟨w1.heap.size + 1, 0, none⟩) 1 1] 38)).alloc (.cells #[.slice (some ⟨w1.heap.size + 1 + 1, 0, none⟩) 2 2, .int .i64 0] 24)) := ⟨_, rfl⟩
  rw [← hwq] at hL0 ⊢
  clear hwq
  have HL0 := Lib.hid hL0
  clear hL0
  generalize w1.heap.size + 1 + 1 = gF at *
  generalize w1.heap.size + 1 = g1 at *
  obtain ⟨g0, hg0⟩ : ∃ g0, g0 = w1.heap.size := ⟨_, rfl⟩
  have HL0 : Hid (LmW w1 wq gF g0 g1 fN (.slice none 0 0) 0 (.slice none 0 0) (.slice none 0 0) (-1) [] [] []) := Lib.hid (by rw [hg0]; exact HL0.out)
  clear hg0
  have q7 : wq.cell? ⟨gF, 7, none⟩ = some (.int .i64 0) := (blk_cell HL0.out.fb 7).trans rfl
  have f7 : wq.frozen? ⟨gF, 7, none⟩ = false := blk_frozen HL0.out.fb 7
  go_upto_region 32 with (fail)
  obtain ⟨wa, hwa⟩ : ∃ wa, wa = wq.setCell ⟨gF, 7, none⟩ (.int .i64 r) := ⟨_, rfl⟩
  have HL1 : Hid (LmW w1 wa gF g0 g1 fN (.slice none 0 0) r (.slice none 0 0) (.slice none 0 0) (-1) [] [] []) := Lib.hid (by rw [hwa]; exact HL0.out.res r)
  rw [← hwa]
  clear hwa q7 f7 HL0
  by_cases hr : r = 0
  · subst hr
    have hEc : checkE [mainL, limF fN [] 0 [] [] (-1)] 0 = 0 := lim3_zero
    have s0 : wa.cell? ⟨gF + 1, 0, none⟩ = some (.slice (some ⟨gF, 0, none⟩) 2 2) := (blk_cell HL1.out.sb 0).trans rfl
    have s1 : wa.cell? ⟨gF + 1, 1, none⟩ = some (.int .i64 0) := (blk_cell HL1.out.sb 1).trans rfl
    have HCK := Lib.hid (HL1.out.check (by decide) hEc)
    go_wp2_with (first | (go_at_call 12; with_reducible refine Calls.mono HCK.out ?_; rintro e wz ⟨rfl, hb⟩; have HBZ := Lib.hid hb; clear hb) | (go_at_call 12; refine stop_intro ?_))
    go_ret
    exact ⟨rfl, below_then HB1.out HB1.out.size (below_then HL1.out.below HL1.out.below.size HBZ.out)⟩
  · have HR0 := Lib.hid hr
    have q8 : wa.cell? ⟨gF, 8, none⟩ = some (.slice none 0 0) := (blk_cell HL1.out.fb 8).trans rfl
    have f8 : wa.frozen? ⟨gF, 8, none⟩ = false := blk_frozen HL1.out.fb 8
    have hlt := HL1.out.lt.1
    go_upto_region 34 with (fail)
    have hL2 := HL1.out.newV (1, r, 0)
    obtain ⟨wb, hwb⟩ : ∃ wb, wb = (wa.setCell ⟨gF, 8, none⟩ (.slice (some ⟨wa.heap.size, 0, none⟩) 1 1)).alloc (.cells #[.int .i64 1, .int .i64 r, .int .i64 0, .slice none 0 0] 42) := ⟨_, rfl⟩
    obtain ⟨vv, hvv⟩ : ∃ vv : Value, vv = .slice (some ⟨wa.heap.size, 0, none⟩) 1 1 := ⟨_, rfl⟩
    have HL2 : Hid (LmW w1 wb gF g0 g1 fN (.slice none 0 0) r vv (.slice none 0 0) (-1) [(1, r, 0)] [] []) := Lib.hid (by rw [hwb, hvv]; exact hL2)
    rw [← hwb]
    clear hwb hvv hL2 q8 f8 hlt
    have q9 : wb.cell? ⟨gF, 9, none⟩ = some (.slice (some ⟨g1, 0, none⟩) 1 1) := (blk_cell HL2.out.fb 9).trans rfl
    have q1 : wb.cell? ⟨g1, 1, none⟩ = some (.slice none 0 0) := (blk_cell HL2.out.b1 1).trans rfl
    have f1 : wb.frozen? ⟨g1, 1, none⟩ = false := blk_frozen HL2.out.b1 1
    have hlt := HL2.out.lt.2
    go_upto_region 35 with (fail)
    have hL3 := HL2.out.newB 0
    obtain ⟨wc, hwc⟩ : ∃ wc, wc = (wb.setCell ⟨g1, 1, none⟩ (.slice (some ⟨wb.heap.size, 0, none⟩) 1 1)).alloc (.cells #[.int .i64 0] 3) := ⟨_, rfl⟩
    obtain ⟨vb, hvb⟩ : ∃ vb : Value, vb = .slice (some ⟨wb.heap.size, 0, none⟩) 1 1 := ⟨_, rfl⟩
    have HL3 : Hid (LmW w1 wc gF g0 g1 fN (.slice none 0 0) r vv vb (-1) [(1, r, 0)] [] [0]) := Lib.hid (by rw [hwc, hvb]; exact hL3)
    rw [← hwc]
    clear hwc hvb hL3 q9 q1 f1 hlt
    have q9 : wc.cell? ⟨gF, 9, none⟩ = some (.slice (some ⟨g1, 0, none⟩) 1 1) := (blk_cell HL3.out.fb 9).trans rfl
    have q3 : wc.cell? ⟨g1, 3, none⟩ = some (.int .i64 (-1)) := (blk_cell HL3.out.b1 3).trans rfl
    have f3 : wc.frozen? ⟨g1, 3, none⟩ = false := blk_frozen HL3.out.b1 3
    go_upto_region 36 with (fail)
    obtain ⟨wd, hwd⟩ : ∃ wd, wd = wc.setCell ⟨g1, 3, none⟩ (.int .i64 0) := ⟨_, rfl⟩
    have HL4 : Hid (LmW w1 wd gF g0 g1 fN (.slice none 0 0) r vv vb 0 [(1, r, 0)] [] [0]) := Lib.hid (by rw [hwd]; exact HL3.out.term 0)
    rw [← hwd]
    clear hwd q9 q3 f3
    have h3 : r < 0 ∨ (0 ≤ r ∧ r ≤ 3) ∨ 3 < r := by omega
    rcases h3 with h3 | h3 | h3
    · have hEc : checkE [mainL, limF fN [] r [(1, r, 0)] [0] 0] 0 = 90 := by rw [lim3_all r HR0.out, if_neg (by omega)]
      have s0 : wd.cell? ⟨gF + 1, 0, none⟩ = some (.slice (some ⟨gF, 0, none⟩) 2 2) := (blk_cell HL4.out.sb 0).trans rfl
      have s1 : wd.cell? ⟨gF + 1, 1, none⟩ = some (.int .i64 0) := (blk_cell HL4.out.sb 1).trans rfl
      have HCK := Lib.hid (HL4.out.check (by decide) hEc)
      go_wp2_with (first | (go_at_call 12; with_reducible refine Calls.mono HCK.out ?_; rintro e wz ⟨rfl, hb⟩; have HBZ := Lib.hid hb; clear hb) | (go_at_call 12; refine stop_intro ?_))
      go_ret
      exact ⟨rfl, below_then HB1.out HB1.out.size (below_then HL4.out.below HL4.out.below.size HBZ.out)⟩
    · have hEc : checkE [mainL, limF fN [] r [(1, r, 0)] [0] 0] 0 = 0 := by rw [lim3_all r HR0.out, if_pos h3]
      obtain ⟨h3a, h3b⟩ := h3
      have s0 : wd.cell? ⟨gF + 1, 0, none⟩ = some (.slice (some ⟨gF, 0, none⟩) 2 2) := (blk_cell HL4.out.sb 0).trans rfl
      have s1 : wd.cell? ⟨gF + 1, 1, none⟩ = some (.int .i64 0) := (blk_cell HL4.out.sb 1).trans rfl
      have HCK := Lib.hid (HL4.out.check (by decide) hEc)
      go_wp2_with (first | (go_at_call 12; with_reducible refine Calls.mono HCK.out ?_; rintro e wz ⟨rfl, hb⟩; have HBZ := Lib.hid hb; clear hb) | (go_at_call 12; refine stop_intro ?_))
      go_ret
      exact ⟨rfl, below_then HB1.out HB1.out.size (below_then HL4.out.below HL4.out.below.size HBZ.out)⟩
    · have hEc : checkE [mainL, limF fN [] r [(1, r, 0)] [0] 0] 0 = 90 := by rw [lim3_all r HR0.out, if_neg (by omega)]
      have s0 : wd.cell? ⟨gF + 1, 0, none⟩ = some (.slice (some ⟨gF, 0, none⟩) 2 2) := (blk_cell HL4.out.sb 0).trans rfl
      have s1 : wd.cell? ⟨gF + 1, 1, none⟩ = some (.int .i64 0) := (blk_cell HL4.out.sb 1).trans rfl
      have HCK := Lib.hid (HL4.out.check (by decide) hEc)
      go_wp2_with (first | (go_at_call 12; with_reducible refine Calls.mono HCK.out ?_; rintro e wz ⟨rfl, hb⟩; have HBZ := Lib.hid hb; clear hb) | (go_at_call 12; refine stop_intro ?_))
      go_ret
      exact ⟨rfl, below_then HB1.out HB1.out.size (below_then HL4.out.below HL4.out.below.size HBZ.out)⟩
end Go.Proofs.Ytgbeliajhccndaa
