/- Lemmas of this claim (WB). -/
import Derived.Test.YtgbeliajhccndaaQV
import Derived.Deep.RegionHeld3
set_option linter.unusedVariables false
set_option linter.unusedSimpArgs false
namespace Go.Proofs.Ytgbeliajhccndaa
open Go.RowKit Go.Proofs.YtgbeliajhccndaaW.PrintWords Go.Proofs.YtgbeliajhccndaaW.PrintLast Go.Proofs.YtgbeliajhccndaaW.PrintMore PP
def plcF (f : S38) : List S67 := plcL (onceT f).1 (onceT f).2.1
def thereB (K : Nat) (f : S38) (a b : Int) : Prop := quernlaw9_there.f K f.f0 f.f1 f.f2 f.f3 f.f4 (plcF f) a b = some true
structure MadeH (K : Nat) (f : S38) : Prop where
  rg : quernlaw9_ranges.f K f.f0 f.f1 f.f2 f.f3 f.f4 = some true
  par : f.f1.all (inB f.f3.length) = true
  lp : f.f1.length ≤ 1000000000
  lv : f.f3.length ≤ 1000000000
  lb : f.f4.length ≤ 1000000000
  blk : ∀ b ∈ f.f4, b.f0.all (inB f.f3.length) = true ∧ b.f1.all (inB f.f3.length) = true ∧ b.f0.length ≤ 1000000000 ∧ b.f1.length ≤ 1000000000
  al : ∀ v ∈ f.f3, v.f3.length ≤ 1000000000
  met : ∀ i : Nat, i < f.f4.length → quernlaw9_met.f K f.f0 f.f1 f.f2 f.f3 f.f4 (i : Int) (-1) = some true
  one : (onceT f).2.2.all (fun x => x == 1) = true
  phi : ∀ (i : Nat) (b : S46), f.f4[i]? = some b → ∀ v ∈ b.f0, ∀ (j : Nat), j < (argsOf f v).length → (argsOf f v).length = b.f3.length ∧ thereB K f ((argsOf f v).getD j 0) (b.f3.getD j 0)
  body : ∀ (i : Nat) (b : S46), f.f4[i]? = some b → ∀ (k : Nat) (v : Int), b.f1[k]? = some v → ∀ a ∈ argsOf f v, inB f.f3.length a = true ∧ (whereV f a = i → atV f a < k) ∧ (whereV f a ≠ i → thereB K f a i)
  term : ∀ (i : Nat) (b : S46), f.f4[i]? = some b → 0 ≤ b.f2.f1 → thereB K f b.f2.f1 i
def made_T52 : Bool × List (List Nat × List Nat) := (true, [([], []), ([0], [0]), ([], []), ([1, 2], [1, 2]), ([3], [3]), ([4], [4]), ([5, 4], [4, 5]), ([4], [4]), ([6, 7, 4], [4, 6, 7]), ([4, 8], [4, 8]), ([9, 4], [9]), ([10], [10]), ([11, 10], [10, 11]), ([10], [10]), ([12, 13, 10], [10, 12, 13]), ([14, 10, 10], [10, 14]), ([15], [15]), ([15], [15]), ([15], [15]), ([15], [15]), ([18, 19, 15], [15, 18, 19]), ([20, 15], [15, 20]), ([15], [15]), ([16, 17, 21, 22, 15, 15], [15, 16, 17, 21, 22]), ([23, 15], [15, 23]), ([15, 24, 10], [10, 15, 24]), ([10, 25], [10, 25])])
def made_B52 : List Nat := [0, 1, 0, 7, 15, 31, 63, 31, 255, 511, 1023, 2047, 4095, 2047, 16383, 32767, 65535, 65535, 65535, 65535, 851967, 1900543, 65535, 8388607, 16777215, 33554431, 67108863]
theorem made_tab52 : rtab .any (opsOf Try.f17 52) = made_T52 := by kernel_rfl
theorem made_bits52 : waitsOk made_T52.2 made_B52 = true := by kernel_rfl
theorem there_at (K : Nat) (f : S38) (A1 : Option Addr) (c1 : Nat) (A3 : Option Addr) (c3 : Nat) (A4 : Option Addr) (c4 gp cp : Nat) (a p : Int) (W : World) (h1 : (Kd.int .i64).C W A1 f.f1.length f.f1) (l1 : f.f1.length ≤ c1) (h3 : k42.C W A3 f.f3.length f.f3) (l3 : f.f3.length ≤ c3) (h4 : k46.C W A4 f.f4.length f.f4) (l4 : f.f4.length ≤ c4) (hP : k67.C W (some ⟨gp, 0, none⟩) f.f3.length (plcF f) ∧ f.f3.length ≤ cp) (h : thereB K f a p) :
    Calls Try.prog 34 #[.agg #[.string f.f0, .slice A1 f.f1.length c1, .int .i64 f.f2, .slice A3 f.f3.length c3, .slice A4 f.f4.length c4], .slice (some ⟨gp, 0, none⟩) f.f3.length cp, .int .i64 a, .int .i64 p] W fun e w' => e = .returned (.bool true) ∧ Below W.heap.size W w' := by
  have hl : (plcF f).length = f.f3.length := hP.1.1
  have := quernlaw9_there.calls K f.f0 A1 c1 f.f1 f.f2 A3 c3 f.f3 A4 c4 f.f4 (some ⟨gp, 0, none⟩) cp (plcF f) a p true W h1 l1 h3 l3 h4 l4 (by rw [hl]; exact hP.1) (by rw [hl]; exact hP.2) h
  rw [hl] at this
  exact this
theorem S8_D {w : World} {a0 a1 a2 a3 a4 a5 a6 a7 : Addr} {v0 v1 v2 v3 v4 v5 v6 v7 : Value} (z : w.cell? a0 = some v0 ∧ w.cell? a1 = some v1 ∧ w.cell? a2 = some v2 ∧ w.cell? a3 = some v3 ∧ w.cell? a4 = some v4 ∧ w.cell? a5 = some v5 ∧ w.cell? a6 = some v6 ∧ w.cell? a7 = some v7) : w.drew.cell? a0 = some v0 ∧ w.drew.cell? a1 = some v1 ∧ w.drew.cell? a2 = some v2 ∧ w.drew.cell? a3 = some v3 ∧ w.drew.cell? a4 = some v4 ∧ w.drew.cell? a5 = some v5 ∧ w.drew.cell? a6 = some v6 ∧ w.drew.cell? a7 = some v7 := z
theorem S8_B {w W : World} (hb : Below w.heap.size w W) {a0 a1 a2 a3 a4 a5 a6 a7 : Addr} {v0 v1 v2 v3 v4 v5 v6 v7 : Value} (z : w.cell? a0 = some v0 ∧ w.cell? a1 = some v1 ∧ w.cell? a2 = some v2 ∧ w.cell? a3 = some v3 ∧ w.cell? a4 = some v4 ∧ w.cell? a5 = some v5 ∧ w.cell? a6 = some v6 ∧ w.cell? a7 = some v7) : W.cell? a0 = some v0 ∧ W.cell? a1 = some v1 ∧ W.cell? a2 = some v2 ∧ W.cell? a3 = some v3 ∧ W.cell? a4 = some v4 ∧ W.cell? a5 = some v5 ∧ W.cell? a6 = some v6 ∧ W.cell? a7 = some v7 :=
  ⟨cellB hb z.1, cellB hb z.2.1, cellB hb z.2.2.1, cellB hb z.2.2.2.1, cellB hb z.2.2.2.2.1, cellB hb z.2.2.2.2.2.1, cellB hb z.2.2.2.2.2.2.1, cellB hb z.2.2.2.2.2.2.2⟩
set_option maxRecDepth 100000 in
set_option maxHeartbeats 8000000 in
theorem made_any (K : Nat) (f : S38) (A1 : Option Addr) (c1 : Nat) (A3 : Option Addr) (c3 : Nat) (A4 : Option Addr) (c4 : Nat) (w : World) (h1 : (Kd.int .i64).C w A1 f.f1.length f.f1) (l1 : f.f1.length ≤ c1) (h3 : k42.C w A3 f.f3.length f.f3) (l3 : f.f3.length ≤ c3) (h4 : k46.C w A4 f.f4.length f.f4) (l4 : f.f4.length ≤ c4) (H : MadeH K f) :
    Calls Try.prog 17 #[.agg #[.string f.f0, .slice A1 f.f1.length c1, .int .i64 f.f2, .slice A3 f.f3.length c3, .slice A4 f.f4.length c4]] w fun e W => e = .returned (.bool true) ∧ Hid (Below w.heap.size w W) := by
  have HH := Lib.hid H
  have H1 := Lib.hid h1
  have H3 := Lib.hid h3
  have H4 := Lib.hid h4
  have L1 := Lib.hid l1
  have L3 := Lib.hid l3
  have L4 := Lib.hid l4
  clear H h1 h3 h4 l1 l3 l4
  go_enter Try.func17, Try.ntmps17
  go_upto_region 1 with (fail)
  obtain ⟨wa, hwa⟩ : ∃ wa, wa = w.alloc (.cells #[.string f.f0, .slice A1 f.f1.length c1, .int .i64 f.f2, .slice A3 f.f3.length c3, .slice A4 f.f4.length c4] 38) := ⟨_, rfl⟩
  obtain ⟨gF, hgF⟩ : ∃ gF, gF = w.heap.size := ⟨_, rfl⟩
  have hBa : Below w.heap.size w wa := by rw [hwa]; exact below_alloc (Below.refl _ _) _
  have hFa : wa.heap[gF]? = some (.cells #[.string f.f0, .slice A1 f.f1.length c1, .int .i64 f.f2, .slice A3 f.f3.length c3, .slice A4 f.f4.length c4] 38 (0, 0)) := by rw [hwa, hgF]; exact blk_new w _
  rw [← hgF, ← hwa]
  have HBa := Lib.hid hBa
  have HFa := Lib.hid hFa
  have HGF := Lib.hid (show w.heap.size ≤ gF by omega)
  have HRG := Lib.hid (quernlaw9_ranges.calls K f.f0 A1 c1 f.f1 f.f2 A3 c3 f.f3 A4 c4 f.f4 true wa (Kd.C_below H1.out hBa) L1.out (Kd.C_below H3.out hBa) L3.out (Kd.C_below H4.out hBa) L4.out HH.out.rg)
  obtain ⟨y0, y1, y2, y3, y4⟩ := S5_blk hFa
  clear hwa hgF hBa hFa
  go_upto_region 3 with (first | (go_at_call 32; with_reducible refine Calls.mono HRG.out ?_; rintro e w1 ⟨rfl, hb⟩; have HB1 := Lib.hid hb; clear hb) | (go_at_call 32; refine stop_intro ?_))
  have hFb := blkB HB1.out HFa.out
  obtain ⟨fc, hfc⟩ : ∃ fc : Array Value, fc = #[.string f.f0, .slice A1 f.f1.length c1, .int .i64 f.f2, .slice A3 f.f3.length c3, .slice A4 f.f4.length c4] := ⟨_, rfl⟩
  have HFC := Lib.hid hfc
  have HF1 : Hid (w1.heap[gF]? = some (.cells fc 38 (0, 0))) := Lib.hid (by rw [hfc]; exact hFb)
  have HW1 := Lib.hid (below_then HBa.out HBa.out.size HB1.out)
  have y3 := (S5_blk hFb).2.2.2.1
  clear y0 y1 y2 y4 hFb hfc HRG HBa HFa HB1
  go_wp2_with ((with_reducible refine gate_dst (N := 26) rfl ?_); refine stop_intro ?_)
  unfold Stop
  refine Kd.R_make k67 (w0 := w) w.heap.size 67 rfl (N := 26) rfl 65 _ _ rfl (f.f3.length : Int) rfl rfl Try.underlying65 (.agg #[.int .i64 0, .int .i64 0]) 16 info67 rfl (by decide) (by decide) z67 (ok := fun _ => True) (okp := fun _ => True) (k67_mkM _ _ _ z67) (fun _ h => h) trivial (by omega) (by have := HH.out.lv; rw [Int.toNat_natCast]; omega) HW1.out HW1.out.size ?_
  intro v1 w2 hR2 hb2 hg2 hn2
  rw [Int.toNat_natCast] at hR2
  obtain ⟨gp, cp, e2⟩ := made_form hR2 ⟨_, hn2.choose_spec.1⟩
  rw [List.length_replicate] at e2
  subst e2
  have HR2 := Lib.hid hR2
  have HB2 := Lib.hid hb2
  have HF2 := Lib.hid ((hg2.block gF (blk_lt HF1.out) (by simp)).trans HF1.out)
  have y3 : w2.cell? ⟨gF, 3, none⟩ = some (.slice A3 f.f3.length c3) := by
    have h := HF2.out
    rw [HFC.out] at h
    exact (S5_blk h).2.2.2.1
  clear hR2 hb2 hg2 hn2 HF1 HW1
  go_wp2_with ((with_reducible refine gate_dst (N := 30) rfl ?_); refine stop_intro ?_)
  unfold Stop
  refine Kd.R_make (Kd.int .i64) (w0 := w) w.heap.size 3 rfl (N := 30) rfl 34 _ _ rfl (f.f3.length : Int) rfl rfl Try.underlying34 (.int .i64 0) 8 info3 rfl (by decide) (by decide) 0 (ok := fun _ => True) (okp := fun _ => True) rfl (fun _ h => h) trivial (by omega) (by have := HH.out.lv; rw [Int.toNat_natCast]; omega) HB2.out HB2.out.size ?_
  intro v1 w3 hR3 hb3 hg3 hn3
  rw [Int.toNat_natCast] at hR3
  obtain ⟨gt, ct, e3⟩ := made_form hR3 ⟨_, hn3.choose_spec.1⟩
  rw [List.length_replicate] at e3
  subst e3
  have HM0 : Hid (Md w w3 gF gp gt fc f.f3.length cp ct (zeros f.f3.length)) := Lib.hid (by
    refine ⟨hb3, (hg3.block gF (blk_lt HF2.out) (by simp)).trans HF2.out, own_other (made_row HR2.out) hg3 (.inr (by simp [Value.ownBlock])), ?_, by simp [zeros], by simp [zeros], by simp [zeros]⟩
    have := Kd.own_of_R hR3
    rw [List.length_replicate] at this
    exact this)
  clear hR3 hb3 hg3 hn3 HR2 HB2 HF2 y3
  go_wp2_with (fail)
  go_loopg [5] f.f1.length (fun k v5 wr => ∃ (i : Nat) (s : Tri), i ≤ f.f1.length ∧ v5 = .int .i64 i ∧ Hid (i + k = f.f1.length) ∧ Hid (Md w wr gF gp gt fc f.f3.length cp ct s) ∧ Hid (putL (-1) (zeros f.f3.length) f.f1 = putL (-1) s (f.f1.drop i)))
  case atStart => exact ⟨0, _, by omega, rfl, Lib.hid (by omega), HM0, Lib.hid rfl⟩
  case round =>
    clear HM0
    obtain ⟨i, s, hi, rfl, HI, HM, HS⟩ := hrel
    have hfb := HM.out.fb
    rw [HFC.out] at hfb
    have y1 : wr.cell? ⟨gF, 1, none⟩ = some (.slice A1 f.f1.length c1) := (S5_blk hfb).2.1
    by_cases hlt : i < f.f1.length
    · have hlt := hlt
      obtain ⟨ad, eA, hx⟩ := Kd.at_int (Kd.C_below H1.out HM.out.below) (i : Int) (by omega) (by omega)
      obtain ⟨v, hv⟩ : ∃ v, v = f.f1.getD i 0 := ⟨_, rfl⟩
      have hvr : rd f.f1 (i : Int) = v := by rw [hv]; rfl
      rw [hvr, Int.toNat_natCast] at hx
      have hvb : inB f.f3.length v = true := List.all_eq_true.1 HH.out.par v (by rw [hv]; exact mem_getD 0 hlt)
      obtain ⟨hv0, hv1⟩ := inB_iff hvb
      have hst := putL_step hlt HS.out
      rw [← hv] at hst
      have HS1 := Lib.hid hst
      obtain ⟨⟨p0, q0⟩, p1, q1⟩ := HM.out.cellP (v := v.toNat) (by omega)
      subst eA
      have HV := Lib.hid hv
      clear hst hvb hvr hv hfb
      go_upto_region 9 with (fail)
      obtain ⟨w4, hw4⟩ : ∃ w4, w4 = (wr.setCell ⟨gp, v.toNat * 2, none⟩ (.int .i64 (-1))).setCell ⟨gp, v.toNat * 2 + 1, none⟩ (.int .i64 (-1)) := ⟨_, rfl⟩
      have HM4 : Hid (Md w w4 gF gp gt fc f.f3.length cp ct (s.1.set v.toNat (-1), s.2.1.set v.toNat (-1), s.2.2)) := Lib.hid (by rw [hw4]; exact HM.out.putP (by omega) (-1) (-1))
      rw [← hw4]
      clear hw4 p0 q0 p1 q1 hx y1
      have hfb := HM4.out.fb
      rw [HFC.out] at hfb
      have y1 := (S5_blk hfb).2.1
      clear hfb
      obtain ⟨ad2, eA2, hx⟩ := Kd.at_int (Kd.C_below H1.out HM4.out.below) (i : Int) (by omega) (by omega)
      injection eA2 with eA2
      subst eA2
      have hvr : rd f.f1 (i : Int) = v := by rw [HV.out]; rfl
      rw [hvr, Int.toNat_natCast] at hx
      clear hvr
      obtain ⟨c0, d0⟩ := HM4.out.cellT (v := v.toNat) (by omega)
      obtain ⟨tt, htt⟩ : ∃ tt, tt = s.2.2.getD v.toNat 0 := ⟨_, rfl⟩
      have HM5 : Hid (Md w (w4.setCell ⟨gt, v.toNat, none⟩ (.int .i64 (wrap64 (tt + 1)))) gF gp gt fc f.f3.length cp ct (put3 s v (-1) (-1))) := Lib.hid (by rw [htt]; exact HM4.out.putT v.toNat (wrap64 (s.2.2.getD v.toNat 0 + 1)))
      rw [show (s.1.set v.toNat (-1), s.2.1.set v.toNat (-1), s.2.2).2.2.getD v.toNat 0 = tt from htt.symm] at c0
      clear htt
      have hbd : f.f1.length ≤ 1000000000 := HH.out.lp
      go_wp2_with (fail)
      go_roundg (gk - 1)
      case measure => have := HI.out; omega
      case rel => exact ⟨i + 1, put3 s v (-1) (-1), by omega, by go_num, Lib.hid (by have := HI.out; omega), HM5, HS1⟩
    · have hie : i = f.f1.length := by omega
      subst hie
      have hs := HS.out
      rw [List.drop_length] at hs
      have HO : Hid (onceT f = putBs s ((0 : Nat) : Int) (f.f4.drop 0)) := Lib.hid (by
        unfold onceT
        rw [hs]
        rfl)
      clear hlt hi HI HS hs hfb
      generalize wr = wq at *
      go_wp2_with (fail)
      go_loopg [6] f.f4.length (fun k v6 wr => ∃ (i : Nat) (s : Tri), i ≤ f.f4.length ∧ v6 = .int .i64 i ∧ Hid (i + k = f.f4.length) ∧ Hid (Md w wr gF gp gt fc f.f3.length cp ct s) ∧ Hid (onceT f = putBs s (i : Int) (f.f4.drop i)))
      case atStart => exact ⟨0, s, by omega, rfl, Lib.hid (by omega), HM, HO⟩
      case round =>
        clear HM HO
        obtain ⟨i, so, hi, rfl, HIo, HM, HSo⟩ := hrel
        have hfb := HM.out.fb
        rw [HFC.out] at hfb
        have y4 : wr.cell? ⟨gF, 4, none⟩ = some (.slice A4 f.f4.length c4) := (S5_blk hfb).2.2.2.2
        by_cases hlti : i < f.f4.length
        · obtain ⟨b, hb⟩ : ∃ b, b = f.f4.getD i z46 := ⟨_, rfl⟩
          have hbr : rd_T46 f.f4 (i : Int) = b := by rw [hb]; rfl
          have hbi : f.f4[i]? = some b := by rw [hb, List.getD_eq_getElem?_getD, List.getElem?_eq_getElem hlti]; rfl
          have HBI := Lib.hid hbi
          have HBM := Lib.hid (HH.out.blk b (List.mem_of_getElem? hbi))
          have HST := Lib.hid (putBs_step hlti HSo.out)
          rw [← hb] at HST
          obtain ⟨ad4, A50, c50, A51, c51, A54, c54, A55, c55, eA4, x0, x1, x2, x3, x4, x5, _, i50, _, i51, _, i54, _, i55⟩ := at_T46 H4.out (i : Int) (by omega) (by omega)
          rw [hbr] at x0 x1 x2 x3 x4 x5 i50 i51 i54 i55
          simp only [Int.toNat_natCast] at x0 x1 x2 x3 x4 x5
          have HC0 := Lib.hid i50
          have HC1 := Lib.hid i51
          replace x0 := cellB HM.out.below x0
          replace x1 := cellB HM.out.below x1
          replace x2 := cellB HM.out.below x2
          replace x3 := cellB HM.out.below x3
          replace x4 := cellB HM.out.below x4
          replace x5 := cellB HM.out.below x5
          subst eA4
          clear i50 i51 i54 i55 hb hbr hbi hfb
          go_upto_region 14 with (fail)
          obtain ⟨wb, hwb⟩ : ∃ wb, wb = wr.alloc (.cells #[.slice A50 b.f0.length c50, .slice A51 b.f1.length c51, .int .i64 b.f2.f0, .int .i64 b.f2.f1, .slice A54 b.f2.f2.length c54, .slice A55 b.f3.length c55] 46) := ⟨_, rfl⟩
          obtain ⟨gb, hgb⟩ : ∃ gb, gb = wr.heap.size := ⟨_, rfl⟩
          obtain ⟨bc, hbc⟩ : ∃ bc : Array Value, bc = #[.slice A50 b.f0.length c50, .slice A51 b.f1.length c51, .int .i64 b.f2.f0, .int .i64 b.f2.f1, .slice A54 b.f2.f2.length c54, .slice A55 b.f3.length c55] := ⟨_, rfl⟩
          have HBC := Lib.hid hbc
          have HGB0 : Hid (wb.heap[gb]? = some (.cells bc 46 (0, 0))) := Lib.hid (by rw [hwb, hgb, hbc]; exact blk_new wr _)
          have HM1 : Hid (Md w wb gF gp gt fc f.f3.length cp ct so) := Lib.hid (by rw [hwb]; exact HM.out.then_ (below_alloc (Below.refl _ _) _))
          rw [← hgb, ← hwb]
          clear hwb hgb hbc x0 x1 x2 x3 x4 x5 y4 HM
          generalize wr = wq2 at *
          generalize gk = go at *
          go_wp2_with (fail)
          go_loopg [8] b.f0.length (fun k v8 wr => ∃ (j : Nat) (s : Tri), j ≤ b.f0.length ∧ v8 = .int .i64 j ∧ Hid (j + k = b.f0.length) ∧ Hid (Md w wr gF gp gt fc f.f3.length cp ct s) ∧ Hid (putL (i : Int) so b.f0 = putL (i : Int) s (b.f0.drop j)) ∧ Hid (wr.heap[gb]? = some (.cells bc 46 (0, 0))))
          case atStart => exact ⟨0, so, by omega, rfl, Lib.hid (by omega), HM1, Lib.hid rfl, HGB0⟩
          case round =>
            clear HM1 HGB0
            obtain ⟨j, s, hj, rfl, HI, HM, HS, HGB⟩ := hrel
            have hgb := HGB.out
            rw [HBC.out] at hgb
            have y8 := (S6_blk hgb).1
            by_cases hlt : j < b.f0.length
            · have hlt := hlt
              obtain ⟨ad, eA, hx⟩ := Kd.at_int (Kd.C_below HC0.out HM.out.below) (j : Int) (by omega) (by omega)
              obtain ⟨v, hv⟩ : ∃ v, v = b.f0.getD j 0 := ⟨_, rfl⟩
              have hvr : rd b.f0 (j : Int) = v := by rw [hv]; rfl
              rw [hvr, Int.toNat_natCast] at hx
              have hvb : inB f.f3.length v = true := List.all_eq_true.1 HBM.out.1 v (by rw [hv]; exact mem_getD 0 hlt)
              obtain ⟨hv0, hv1⟩ := inB_iff hvb
              have hst := putL_step hlt HS.out
              rw [← hv] at hst
              have HS1 := Lib.hid hst
              obtain ⟨⟨p0, q0⟩, p1, q1⟩ := HM.out.cellP (v := v.toNat) (by omega)
              subst eA
              have HV := Lib.hid hv
              clear hst hvb hvr hv hgb
              go_upto_region 18 with (fail)
              obtain ⟨w4, hw4⟩ : ∃ w4, w4 = (wr.setCell ⟨gp, v.toNat * 2, none⟩ (.int .i64 (i : Int))).setCell ⟨gp, v.toNat * 2 + 1, none⟩ (.int .i64 (-1)) := ⟨_, rfl⟩
              have HM4 : Hid (Md w w4 gF gp gt fc f.f3.length cp ct (s.1.set v.toNat (i : Int), s.2.1.set v.toNat (-1), s.2.2)) := Lib.hid (by rw [hw4]; exact HM.out.putP (by omega) (i : Int) (-1))
              have HGB4 : Hid (w4.heap[gb]? = some (.cells bc 46 (0, 0))) := Lib.hid (by rw [hw4]; exact blk_far (blk_far HGB.out (ty_ne HGB.out HM.out.ty.1.choose_spec (by decide)) _) (ty_ne HGB.out HM.out.ty.1.choose_spec (by decide)) _)
              rw [← hw4]
              clear hw4 p0 q0 p1 q1 hx y8
              have hgb := HGB4.out
              rw [HBC.out] at hgb
              have y8 := (S6_blk hgb).1
              clear hgb
              obtain ⟨ad2, eA2, hx⟩ := Kd.at_int (Kd.C_below HC0.out HM4.out.below) (j : Int) (by omega) (by omega)
              injection eA2 with eA2
              subst eA2
              have hvr : rd b.f0 (j : Int) = v := by rw [HV.out]; rfl
              rw [hvr, Int.toNat_natCast] at hx
              clear hvr
              obtain ⟨c0, d0⟩ := HM4.out.cellT (v := v.toNat) (by omega)
              obtain ⟨tt, htt⟩ : ∃ tt, tt = s.2.2.getD v.toNat 0 := ⟨_, rfl⟩
              have HM5 : Hid (Md w (w4.setCell ⟨gt, v.toNat, none⟩ (.int .i64 (wrap64 (tt + 1)))) gF gp gt fc f.f3.length cp ct (put3 s v (i : Int) (-1))) := Lib.hid (by rw [htt]; exact HM4.out.putT v.toNat (wrap64 (s.2.2.getD v.toNat 0 + 1)))
              rw [show (s.1.set v.toNat (i : Int), s.2.1.set v.toNat (-1), s.2.2).2.2.getD v.toNat 0 = tt from htt.symm] at c0
              have HGB5 : Hid ((w4.setCell ⟨gt, v.toNat, none⟩ (.int .i64 (wrap64 (tt + 1)))).heap[gb]? = some (.cells bc 46 (0, 0))) := Lib.hid (blk_far HGB4.out (ty_ne HGB4.out HM4.out.ty.2.1.choose_spec (by decide)) _)
              clear htt
              have hbd : b.f0.length ≤ 1000000000 := HBM.out.2.2.1
              go_wp2_with (fail)
              go_roundg (gk - 1)
              case measure => have := HI.out; omega
              case rel => exact ⟨j + 1, put3 s v (i : Int) (-1), by omega, by go_num, Lib.hid (by have := HI.out; omega), HM5, HS1, HGB5⟩
            · have hje : j = b.f0.length := by omega
              subst hje
              have hs := HS.out
              rw [List.drop_length] at hs
              have HSA : Hid (putL (i : Int) so b.f0 = s) := Lib.hid hs
              clear hlt hj HI HS hs hgb
              generalize wr = wq3 at *
              go_wp2_with (fail)
              go_loopg [9] b.f1.length (fun k v9 wr => ∃ (j : Nat) (s : Tri), j ≤ b.f1.length ∧ v9 = .int .i64 j ∧ Hid (j + k = b.f1.length) ∧ Hid (Md w wr gF gp gt fc f.f3.length cp ct s) ∧ Hid (putK (i : Int) (putL (i : Int) so b.f0) 0 b.f1 = putK (i : Int) s (j : Int) (b.f1.drop j)) ∧ Hid (wr.heap[gb]? = some (.cells bc 46 (0, 0))))
              case atStart => exact ⟨0, s, by omega, rfl, Lib.hid (by omega), HM, Lib.hid (by rw [HSA.out]; rfl), HGB⟩
              case round =>
                clear HM HGB HSA
                obtain ⟨j, s, hj, rfl, HI, HM, HS, HGB⟩ := hrel
                have hgb := HGB.out
                rw [HBC.out] at hgb
                have y9 := (S6_blk hgb).2.1
                by_cases hlt : j < b.f1.length
                · have hlt := hlt
                  obtain ⟨ad, eA, hx⟩ := Kd.at_int (Kd.C_below HC1.out HM.out.below) (j : Int) (by omega) (by omega)
                  obtain ⟨v, hv⟩ : ∃ v, v = b.f1.getD j 0 := ⟨_, rfl⟩
                  have hvr : rd b.f1 (j : Int) = v := by rw [hv]; rfl
                  rw [hvr, Int.toNat_natCast] at hx
                  have hvb : inB f.f3.length v = true := List.all_eq_true.1 HBM.out.2.1 v (by rw [hv]; exact mem_getD 0 hlt)
                  obtain ⟨hv0, hv1⟩ := inB_iff hvb
                  have hst := putK_step hlt HS.out
                  rw [← hv] at hst
                  have HS1 := Lib.hid hst
                  obtain ⟨⟨p0, q0⟩, p1, q1⟩ := HM.out.cellP (v := v.toNat) (by omega)
                  subst eA
                  have HV := Lib.hid hv
                  clear hst hvb hvr hv hgb
                  go_upto_region 23 with (fail)
                  obtain ⟨w4, hw4⟩ : ∃ w4, w4 = (wr.setCell ⟨gp, v.toNat * 2, none⟩ (.int .i64 (i : Int))).setCell ⟨gp, v.toNat * 2 + 1, none⟩ (.int .i64 (j : Int)) := ⟨_, rfl⟩
                  have HM4 : Hid (Md w w4 gF gp gt fc f.f3.length cp ct (s.1.set v.toNat (i : Int), s.2.1.set v.toNat (j : Int), s.2.2)) := Lib.hid (by rw [hw4]; exact HM.out.putP (by omega) (i : Int) (j : Int))
                  have HGB4 : Hid (w4.heap[gb]? = some (.cells bc 46 (0, 0))) := Lib.hid (by rw [hw4]; exact blk_far (blk_far HGB.out (ty_ne HGB.out HM.out.ty.1.choose_spec (by decide)) _) (ty_ne HGB.out HM.out.ty.1.choose_spec (by decide)) _)
                  rw [← hw4]
                  clear hw4 p0 q0 p1 q1 hx y9
                  have hgb := HGB4.out
                  rw [HBC.out] at hgb
                  have y9 := (S6_blk hgb).2.1
                  clear hgb
                  obtain ⟨ad2, eA2, hx⟩ := Kd.at_int (Kd.C_below HC1.out HM4.out.below) (j : Int) (by omega) (by omega)
                  injection eA2 with eA2
                  subst eA2
                  have hvr : rd b.f1 (j : Int) = v := by rw [HV.out]; rfl
                  rw [hvr, Int.toNat_natCast] at hx
                  clear hvr
                  obtain ⟨c0, d0⟩ := HM4.out.cellT (v := v.toNat) (by omega)
                  obtain ⟨tt, htt⟩ : ∃ tt, tt = s.2.2.getD v.toNat 0 := ⟨_, rfl⟩
                  have HM5 : Hid (Md w (w4.setCell ⟨gt, v.toNat, none⟩ (.int .i64 (wrap64 (tt + 1)))) gF gp gt fc f.f3.length cp ct (put3 s v (i : Int) (j : Int))) := Lib.hid (by rw [htt]; exact HM4.out.putT v.toNat (wrap64 (s.2.2.getD v.toNat 0 + 1)))
                  rw [show (s.1.set v.toNat (i : Int), s.2.1.set v.toNat (j : Int), s.2.2).2.2.getD v.toNat 0 = tt from htt.symm] at c0
                  have HGB5 : Hid ((w4.setCell ⟨gt, v.toNat, none⟩ (.int .i64 (wrap64 (tt + 1)))).heap[gb]? = some (.cells bc 46 (0, 0))) := Lib.hid (blk_far HGB4.out (ty_ne HGB4.out HM4.out.ty.2.1.choose_spec (by decide)) _)
                  clear htt
                  have hbd : b.f1.length ≤ 1000000000 := HBM.out.2.2.2
                  go_wp2_with (fail)
                  go_roundg (gk - 1)
                  case measure => have := HI.out; omega
                  case rel => exact ⟨j + 1, put3 s v (i : Int) (j : Int), by omega, by go_num, Lib.hid (by have := HI.out; omega), HM5, HS1, HGB5⟩
                · have hje : j = b.f1.length := by omega
                  subst hje
                  have hs := HS.out
                  rw [List.drop_length] at hs
                  have hs2 : putK (i : Int) s (b.f1.length : Int) [] = s := rfl
                  rw [hs2] at hs
                  have HST2 : Hid (onceT f = putBs s ((i + 1 : Nat) : Int) (f.f4.drop (i + 1))) := Lib.hid (by rw [← hs]; exact HST.out)
                  clear hlt hj HI HS hs hs2 hgb HST
                  have hfb := HM.out.fb
                  rw [HFC.out] at hfb
                  obtain ⟨y0, y1, y2, y3, y4⟩ := S5_blk hfb
                  have HMT := Lib.hid (quernlaw9_met.calls K f.f0 A1 c1 f.f1 f.f2 A3 c3 f.f3 (some ad4) c4 f.f4 (i : Int) (-1) true wr (Kd.C_below H1.out HM.out.below) L1.out (Kd.C_below H3.out HM.out.below) L3.out (Kd.C_below H4.out HM.out.below) L4.out (HH.out.met i hlti))
                  have hbd : f.f4.length ≤ 1000000000 := HH.out.lb
                  clear hfb
                  go_wp2_with (first | (go_at_call 33; with_reducible refine Calls.mono HMT.out ?_; rintro e w5 ⟨rfl, hb⟩; have HB5 := Lib.hid hb; clear hb) | (go_at_call 33; refine stop_intro ?_))
                  go_roundg (go - 1)
                  case measure => have := HIo.out; omega
                  case rel => exact ⟨i + 1, s, by omega, by go_num, Lib.hid (by have := HIo.out; omega), Lib.hid (HM.out.then_ HB5.out), HST2⟩
        · have hie : i = f.f4.length := by omega
          subst hie
          have hs := HSo.out
          rw [List.drop_length] at hs
          have HOn : Hid (Md w wr gF gp gt fc f.f3.length cp ct (onceT f)) := Lib.hid (by rw [hs]; exact HM.out)
          clear hlti hi HIo HSo hs hfb HM
          generalize wr = wq4 at *
          go_wp2_with (fail)
          go_loopg [10] f.f3.length (fun k v10 wr => ∃ (i : Nat), i ≤ f.f3.length ∧ v10 = .int .i64 i ∧ Hid (i + k = f.f3.length) ∧ Hid (Md w wr gF gp gt fc f.f3.length cp ct (onceT f)))
          case atStart => exact ⟨0, by omega, rfl, Lib.hid (by omega), HOn⟩
          case round =>
            clear HOn
            obtain ⟨i, hi, rfl, HI, HM⟩ := hrel
            by_cases hlt : i < f.f3.length
            · have hT : (onceT f).2.2.getD i 0 = 1 := by
                have := List.all_eq_true.1 HH.out.one _ (mem_getD 0 (show i < (onceT f).2.2.length by rw [HM.out.l3]; exact hlt))
                simpa using this
              have c0 := (HM.out.cellT hlt).1
              rw [hT] at c0
              have hbd : f.f3.length ≤ 1000000000 := HH.out.lv
              clear hT
              go_wp2_with (fail)
              go_roundg (gk - 1)
              case measure => have := HI.out; omega
              case rel => exact ⟨i + 1, by omega, by go_num, Lib.hid (by have := HI.out; omega), HM⟩
            · have hie : i = f.f3.length := by omega
              subst hie
              clear hlt hi HI
              have hfb := HM.out.fb
              rw [HFC.out] at hfb
              generalize wr = wq5 at *
              go_wp2_with (fail)
              go_loopg [11] f.f4.length (fun k v11 wr => ∃ (i : Nat), i ≤ f.f4.length ∧ v11 = .int .i64 i ∧ Hid (i + k = f.f4.length) ∧ Hid (Md w wr gF gp gt fc f.f3.length cp ct (onceT f)))
              case atStart => exact ⟨0, by omega, rfl, Lib.hid (by omega), HM⟩
              case round =>
                clear HM hfb
                obtain ⟨i, hi, rfl, HIo, HM⟩ := hrel
                have hfb := HM.out.fb
                rw [HFC.out] at hfb
                have y4 : wr.cell? ⟨gF, 4, none⟩ = some (.slice A4 f.f4.length c4) := (S5_blk hfb).2.2.2.2
                by_cases hlti : i < f.f4.length
                · obtain ⟨b, hb⟩ : ∃ b, b = f.f4.getD i z46 := ⟨_, rfl⟩
                  have hbr : rd_T46 f.f4 (i : Int) = b := by rw [hb]; rfl
                  have hbi : f.f4[i]? = some b := by rw [hb, List.getD_eq_getElem?_getD, List.getElem?_eq_getElem hlti]; rfl
                  have HBI := Lib.hid hbi
                  have HBM := Lib.hid (HH.out.blk b (List.mem_of_getElem? hbi))
                  obtain ⟨ad4, A50, c50, A51, c51, A54, c54, A55, c55, eA4, x0, x1, x2, x3, x4, x5, _, i50, _, i51, _, i54, _, i55⟩ := at_T46 H4.out (i : Int) (by omega) (by omega)
                  rw [hbr] at x0 x1 x2 x3 x4 x5 i50 i51 i54 i55
                  simp only [Int.toNat_natCast] at x0 x1 x2 x3 x4 x5
                  have HC0 := Lib.hid i50
                  have HC1 := Lib.hid i51
                  have HC5 := Lib.hid i55
                  replace x0 := cellB HM.out.below x0
                  replace x1 := cellB HM.out.below x1
                  replace x2 := cellB HM.out.below x2
                  replace x3 := cellB HM.out.below x3
                  replace x4 := cellB HM.out.below x4
                  replace x5 := cellB HM.out.below x5
                  subst eA4
                  clear i50 i51 i54 i55 hb hbr hbi hfb
                  go_upto_region 35 with (fail)
                  obtain ⟨wb, hwb⟩ : ∃ wb, wb = wr.alloc (.cells #[.slice A50 b.f0.length c50, .slice A51 b.f1.length c51, .int .i64 b.f2.f0, .int .i64 b.f2.f1, .slice A54 b.f2.f2.length c54, .slice A55 b.f3.length c55] 46) := ⟨_, rfl⟩
                  obtain ⟨gb, hgb⟩ : ∃ gb, gb = wr.heap.size := ⟨_, rfl⟩
                  obtain ⟨bc, hbc⟩ : ∃ bc : Array Value, bc = #[.slice A50 b.f0.length c50, .slice A51 b.f1.length c51, .int .i64 b.f2.f0, .int .i64 b.f2.f1, .slice A54 b.f2.f2.length c54, .slice A55 b.f3.length c55] := ⟨_, rfl⟩
                  have HBC := Lib.hid hbc
                  have HGB0 : Hid (wb.heap[gb]? = some (.cells bc 46 (0, 0))) := Lib.hid (by rw [hwb, hgb, hbc]; exact blk_new wr _)
                  have HM1 : Hid (Md w wb gF gp gt fc f.f3.length cp ct (onceT f)) := Lib.hid (by rw [hwb]; exact HM.out.then_ (below_alloc (Below.refl _ _) _))
                  rw [← hgb, ← hwb]
                  clear hwb hgb hbc x0 x1 x2 x3 x4 x5 y4 HM
                  generalize wr = wq6 at *
                  generalize gk = go at *
                  go_wp2_with (fail)
                  go_loopg [13] b.f0.length (fun k v13 wr => ∃ (j : Nat), j ≤ b.f0.length ∧ v13 = .int .i64 j ∧ Hid (j + k = b.f0.length) ∧ Hid (Md w wr gF gp gt fc f.f3.length cp ct (onceT f)) ∧ Hid (wr.heap[gb]? = some (.cells bc 46 (0, 0))))
                  case atStart => exact ⟨0, by omega, rfl, Lib.hid (by omega), HM1, HGB0⟩
                  case round =>
                    clear HM1 HGB0
                    obtain ⟨j, hj, rfl, HJ, HM, HGB⟩ := hrel
                    have hgb := HGB.out
                    rw [HBC.out] at hgb
                    have y8 := (S6_blk hgb).1
                    by_cases hlt : j < b.f0.length
                    · have hlt := hlt
                      obtain ⟨ad, eA, hx⟩ := Kd.at_int (Kd.C_below HC0.out HM.out.below) (j : Int) (by omega) (by omega)
                      obtain ⟨v, hv⟩ : ∃ v, v = b.f0.getD j 0 := ⟨_, rfl⟩
                      have hvr : rd b.f0 (j : Int) = v := by rw [hv]; rfl
                      rw [hvr, Int.toNat_natCast] at hx
                      have hvm : v ∈ b.f0 := by rw [hv]; exact mem_getD 0 hlt
                      have hvi : b.f0[j]? = some v := by rw [hv, List.getD_eq_getElem?_getD, List.getElem?_eq_getElem hlt]; rfl
                      have HVI := Lib.hid hvi
                      have HVM := Lib.hid hvm
                      obtain ⟨hv0, hv1⟩ := inB_iff (List.all_eq_true.1 HBM.out.1 v hvm)
                      obtain ⟨av, has⟩ : ∃ av, av = argsOf f v := ⟨_, rfl⟩
                      obtain ⟨ad3, A5, c5, eA3, _, _, _, z3, _, i5⟩ := at_T42 H3.out v hv0 hv1
                      rw [show (rd_T42 f.f3 v).f3 = av from has.symm] at z3 i5
                      replace z3 := cellB HM.out.below z3
                      have HAL : Hid (av.length ≤ 1000000000) := Lib.hid (by
                        rw [has]
                        unfold argsOf rd_T42
                        exact HH.out.al _ (mem_getD z42 (by omega)))
                      have HAS := Lib.hid has
                      have HCA := Lib.hid i5
                      subst eA
                      subst eA3
                      have hfb := HM.out.fb
                      rw [HFC.out] at hfb
                      have y3 : wr.cell? ⟨gF, 3, none⟩ = some (.slice (some ad3) f.f3.length c3) := (S5_blk hfb).2.2.2.1
                      clear hvr hv hvm hvi has hfb hgb
                      go_upto_region 38 with (fail)
                      go_quiet (fail)
                      generalize wr = wq7 at *
                      generalize gk = gj at *
                      clear y3 z3 hx y8
                      go_wp2_with (fail)
                      go_loopg [15] av.length (fun k v15 wr => ∃ (q : Nat), q ≤ av.length ∧ v15 = .int .i64 q ∧ Hid (q + k = av.length) ∧ Hid (Md w wr gF gp gt fc f.f3.length cp ct (onceT f)) ∧ Hid (wr.heap[gb]? = some (.cells bc 46 (0, 0))))
                      case atStart => exact ⟨0, by omega, rfl, Lib.hid (by omega), Lib.hid (HM.out.then_ (pw_below_drewN (Below.refl _ _) _)), Lib.hid (blk_drewN HGB.out _)⟩
                      case round =>
                        clear HM HGB
                        obtain ⟨q, hq, rfl, HQ, HM, HGB⟩ := hrel
                        by_cases hltq : q < av.length
                        · obtain ⟨hlen, hth⟩ := HH.out.phi i b HBI.out v HVM.out q (by rw [← HAS.out]; exact hltq)
                          rw [← HAS.out] at hlen hth
                          have hgb := HGB.out
                          rw [HBC.out, ← hlen] at hgb
                          have hfb := HM.out.fb
                          rw [HFC.out] at hfb
                          have hC5 := Kd.C_below HC5.out HM.out.below
                          rw [← hlen] at hC5
                          have hC5' : (Kd.int .i64).C wr A55 av.length b.f3 := hC5
                          obtain ⟨ad5, eA5, x5⟩ := Kd.at_int (Kd.C_below HCA.out HM.out.below) (q : Int) (by omega) (by omega)
                          obtain ⟨ad6, eA6, x6⟩ := Kd.at_int hC5' (q : Int) (by omega) (by omega)
                          rw [show rd av (q : Int) = av.getD q 0 from rfl, Int.toNat_natCast] at x5
                          rw [show rd b.f3 (q : Int) = b.f3.getD q 0 from rfl, Int.toNat_natCast] at x6
                          obtain ⟨pa, hpa⟩ : ∃ pa, pa = av.getD q 0 := ⟨_, rfl⟩
                          obtain ⟨pp, hpp⟩ : ∃ pp, pp = b.f3.getD q 0 := ⟨_, rfl⟩
                          rw [← hpa] at x5 hth
                          rw [← hpp] at x6 hth
                          have hbl : Below w.heap.size w wr.drew := pw_below_drewN HM.out.below 1
                          have HTH := Lib.hid (there_at K f A1 c1 (some ad3) c3 (some ad4) c4 gp cp pa pp wr.drew (Kd.C_below H1.out hbl) L1.out (Kd.C_below H3.out hbl) L3.out (Kd.C_below H4.out hbl) L4.out (HM.out.then_ (below_drew (Below.refl _ _))).C hth)
                          subst eA5
                          subst eA6
                          obtain ⟨y0, y1, y2, y3, y4⟩ := S5_blk hfb
                          have y5 := (S6_blk hgb).2.2.2.2.2
                          have y : wr.cell? ⟨gF, 0, none⟩ = some (.string f.f0) ∧ wr.cell? ⟨gF, 1, none⟩ = some (.slice A1 f.f1.length c1) ∧ wr.cell? ⟨gF, 2, none⟩ = some (.int .i64 f.f2) ∧ wr.cell? ⟨gF, 3, none⟩ = some (.slice (some ad3) f.f3.length c3) ∧ wr.cell? ⟨gF, 4, none⟩ = some (.slice (some ad4) f.f4.length c4) ∧ wr.cell? ⟨gb, 5, none⟩ = some (.slice (some ad6) av.length c55) ∧ wr.cell? (ad5.add q) = some (.int .i64 pa) ∧ wr.cell? (ad6.add q) = some (.int .i64 pp) := ⟨y0, y1, y2, y3, y4, y5, x5, x6⟩
                          clear hlen hth hgb hfb hC5 hC5' hpa hpp hbl y0 y1 y2 y3 y4
                          have hbd := HAL.out
                          go_upto_region 42 with (fail)
                          go_region_held3 (fun w' => w'.cell? ⟨gF, 0, none⟩ = some (.string f.f0) ∧ w'.cell? ⟨gF, 1, none⟩ = some (.slice A1 f.f1.length c1) ∧ w'.cell? ⟨gF, 2, none⟩ = some (.int .i64 f.f2) ∧ w'.cell? ⟨gF, 3, none⟩ = some (.slice (some ad3) f.f3.length c3) ∧ w'.cell? ⟨gF, 4, none⟩ = some (.slice (some ad4) f.f4.length c4) ∧ w'.cell? ⟨gb, 5, none⟩ = some (.slice (some ad6) av.length c55) ∧ w'.cell? (ad5.add q) = some (.int .i64 pa) ∧ w'.cell? (ad6.add q) = some (.int .i64 pp)) (first | with_reducible exact y | with_reducible exact z | with_reducible exact S8_D y | fail) ((first | (go_at_call 34; with_reducible refine Calls.mono HTH.out ?_; rintro e w5 ⟨rfl, hb⟩; have HB5 := Lib.hid (undrew hb); have z := S8_B HB5.out y; clear hb) | (go_at_call 34; refine stop_intro ?_)))
                          all_goals
                            go_wp2_with (fail)
                            go_roundg (gk - 1)
                            case measure => have := HQ.out; omega
                            case rel => exact ⟨q + 1, by omega, by go_num, Lib.hid (by have := HQ.out; omega), Lib.hid (HM.out.then_ HB5.out), Lib.hid (blkB HB5.out HGB.out)⟩
                        · have hqe : q = av.length := by omega
                          subst hqe
                          have hbd := HBM.out.2.2.1
                          clear hltq hq
                          go_wp2_with (fail)
                          go_roundg (gj - 1)
                          case measure => have := HJ.out; omega
                          case rel => exact ⟨j + 1, by omega, by go_num, Lib.hid (by have := HJ.out; omega), HM, HGB⟩
                    · have hje : j = b.f0.length := by omega
                      subst hje
                      clear hlt hj HJ hgb
                      generalize wr = wq8 at *
                      go_wp2_with (fail)
                      clear y8
                      go_loopg [16] b.f1.length (fun k v16 wr => ∃ (j : Nat), j ≤ b.f1.length ∧ v16 = .int .i64 j ∧ Hid (j + k = b.f1.length) ∧ Hid (Md w wr gF gp gt fc f.f3.length cp ct (onceT f)) ∧ Hid (wr.heap[gb]? = some (.cells bc 46 (0, 0))))
                      case atStart => exact ⟨0, by omega, rfl, Lib.hid (by omega), HM, HGB⟩
                      case round =>
                        clear HM HGB
                        obtain ⟨j, hj, rfl, HJ, HM, HGB⟩ := hrel
                        have hgb := HGB.out
                        rw [HBC.out] at hgb
                        have y9 := (S6_blk hgb).2.1
                        by_cases hlt : j < b.f1.length
                        · have hlt := hlt
                          obtain ⟨ad, eA, hx⟩ := Kd.at_int (Kd.C_below HC1.out HM.out.below) (j : Int) (by omega) (by omega)
                          obtain ⟨v, hv⟩ : ∃ v, v = b.f1.getD j 0 := ⟨_, rfl⟩
                          have hvr : rd b.f1 (j : Int) = v := by rw [hv]; rfl
                          rw [hvr, Int.toNat_natCast] at hx
                          have hvm : v ∈ b.f1 := by rw [hv]; exact mem_getD 0 hlt
                          have hvi : b.f1[j]? = some v := by rw [hv, List.getD_eq_getElem?_getD, List.getElem?_eq_getElem hlt]; rfl
                          have HVI := Lib.hid hvi
                          have HVM := Lib.hid hvm
                          obtain ⟨hv0, hv1⟩ := inB_iff (List.all_eq_true.1 HBM.out.2.1 v hvm)
                          obtain ⟨av, has⟩ : ∃ av, av = argsOf f v := ⟨_, rfl⟩
                          obtain ⟨ad3, A5, c5, eA3, _, _, _, z3, _, i5⟩ := at_T42 H3.out v hv0 hv1
                          rw [show (rd_T42 f.f3 v).f3 = av from has.symm] at z3 i5
                          replace z3 := cellB HM.out.below z3
                          have HAL : Hid (av.length ≤ 1000000000) := Lib.hid (by
                            rw [has]
                            unfold argsOf rd_T42
                            exact HH.out.al _ (mem_getD z42 (by omega)))
                          have HAS := Lib.hid has
                          have HCA := Lib.hid i5
                          subst eA
                          subst eA3
                          have hfb := HM.out.fb
                          rw [HFC.out] at hfb
                          have y3 : wr.cell? ⟨gF, 3, none⟩ = some (.slice (some ad3) f.f3.length c3) := (S5_blk hfb).2.2.2.1
                          clear hvr hv hvm hvi has hfb hgb
                          go_upto_region 47 with (fail)
                          go_quiet (fail)
                          generalize wr = wq9 at *
                          generalize gk = gj at *
                          clear y3 z3 hx y9
                          go_wp2_with (fail)
                          go_loopg [18] av.length (fun k v18 wr => ∃ (q : Nat), q ≤ av.length ∧ v18 = .int .i64 q ∧ Hid (q + k = av.length) ∧ Hid (Md w wr gF gp gt fc f.f3.length cp ct (onceT f)) ∧ Hid (wr.heap[gb]? = some (.cells bc 46 (0, 0))))
                          case atStart => exact ⟨0, by omega, rfl, Lib.hid (by omega), Lib.hid (HM.out.then_ (pw_below_drewN (Below.refl _ _) _)), Lib.hid (blk_drewN HGB.out _)⟩
                          case round =>
                            clear HM HGB
                            obtain ⟨q, hq, rfl, HQ, HM, HGB⟩ := hrel
                            by_cases hltq : q < av.length
                            · obtain ⟨pa, hpa⟩ : ∃ pa, pa = av.getD q 0 := ⟨_, rfl⟩
                              obtain ⟨hpb, hp1, hp2⟩ := HH.out.body i b HBI.out j v HVI.out pa (by rw [hpa, ← HAS.out]; exact mem_getD 0 hltq)
                              obtain ⟨hpa0, hpa1⟩ := inB_iff hpb
                              have hfb := HM.out.fb
                              rw [HFC.out] at hfb
                              obtain ⟨ad5, eA5, x5⟩ := Kd.at_int (Kd.C_below HCA.out HM.out.below) (q : Int) (by omega) (by omega)
                              rw [show rd av (q : Int) = av.getD q 0 from rfl, Int.toNat_natCast, ← hpa] at x5
                              obtain ⟨⟨p0, _⟩, p1, _⟩ := HM.out.cellP (v := pa.toNat) (by omega)
                              obtain ⟨wv, hwv⟩ : ∃ wv, wv = whereV f pa := ⟨_, rfl⟩
                              obtain ⟨tv, htv⟩ : ∃ tv, tv = atV f pa := ⟨_, rfl⟩
                              rw [show (onceT f).1.getD pa.toNat 0 = wv from hwv.symm] at p0
                              rw [show (onceT f).2.1.getD pa.toNat 0 = tv from htv.symm] at p1
                              rw [← hwv, ← htv] at hp1
                              rw [← hwv] at hp2
                              subst eA5
                              have HP1 := Lib.hid hp1
                              have HP2 := Lib.hid hp2
                              clear hpa hpb hwv htv hp1 hp2
                              have hbd := HAL.out
                              go_upto_region 52 with (fail)
                              obtain ⟨wb2, hwb2⟩ : ∃ wb2, wb2 = wr.alloc (.cells #[.int .i64 wv, .int .i64 tv] 67) := ⟨_, rfl⟩
                              obtain ⟨gq, hgq⟩ : ∃ gq, gq = wr.heap.size := ⟨_, rfl⟩
                              have hBq : Below wr.heap.size wr wb2 := by rw [hwb2]; exact below_alloc (Below.refl _ _) _
                              have hFq : wb2.heap[gq]? = some (.cells #[.int .i64 wv, .int .i64 tv] 67 (0, 0)) := by rw [hwb2, hgq]; exact blk_new wr _
                              rw [← hgq, ← hwb2]
                              have HMq := Lib.hid (HM.out.then_ hBq)
                              have HGBq := Lib.hid (blkB hBq HGB.out)
                              obtain ⟨y6, y7⟩ := S2_blk hFq
                              replace x5 := cellB hBq x5
                              have hfb2 := blkB hBq hfb
                              obtain ⟨y0, y1, y2, y3, y4⟩ := S5_blk hfb2
                              clear hwb2 hgq hBq hFq p0 p1 hfb hfb2 HM HGB
                              by_cases hwi : wv = (i : Int)
                              · have hlk : tv < (j : Int) := HP1.out hwi
                                subst hwi
                                have hd1 : decide ((j : Int) ≤ tv) = false := decide_eq_false (by omega)
                                clear hlk
                                go_quiet (fail)
                                go_wp2_with (fail)
                                go_roundg (gk - 1)
                                case measure => have := HQ.out; omega
                                case rel => exact ⟨q + 1, by omega, by go_num, Lib.hid (by have := HQ.out; omega), Lib.hid (HMq.out.then_ (pw_below_drewN (Below.refl _ _) _)), Lib.hid (blk_drewN HGBq.out _)⟩
                              · have hth := HP2.out hwi
                                have hbl : Below w.heap.size w wb2.drew := pw_below_drewN HMq.out.below 1
                                have HTH := Lib.hid (there_at K f A1 c1 (some ad3) c3 (some ad4) c4 gp cp pa (i : Int) wb2.drew (Kd.C_below H1.out hbl) L1.out (Kd.C_below H3.out hbl) L3.out (Kd.C_below H4.out hbl) L4.out (HMq.out.then_ (below_drew (Below.refl _ _))).C hth)
                                have hd1 : (wv == (i : Int)) = false := by simpa using hwi
                                have hd2 : (wv != (i : Int)) = true := by simpa using hwi
                                have hd3 : decide (wv = (i : Int)) = false := decide_eq_false hwi
                                have y : wb2.cell? ⟨gq, 0, none⟩ = some (.int .i64 wv) ∧ wb2.cell? ⟨gq, 1, none⟩ = some (.int .i64 tv) ∧ wb2.cell? ⟨gF, 0, none⟩ = some (.string f.f0) ∧ wb2.cell? ⟨gF, 1, none⟩ = some (.slice A1 f.f1.length c1) ∧ wb2.cell? ⟨gF, 2, none⟩ = some (.int .i64 f.f2) ∧ wb2.cell? ⟨gF, 3, none⟩ = some (.slice (some ad3) f.f3.length c3) ∧ wb2.cell? ⟨gF, 4, none⟩ = some (.slice (some ad4) f.f4.length c4) ∧ wb2.cell? (ad5.add q) = some (.int .i64 pa) := ⟨y6, y7, y0, y1, y2, y3, y4, x5⟩
                                clear hth hbl hwi y0 y1 y2 y3 y4
                                refine start_ (n := 27) (S := fun w' => w'.cell? ⟨gq, 0, none⟩ = some (.int .i64 wv) ∧ w'.cell? ⟨gq, 1, none⟩ = some (.int .i64 tv) ∧ w'.cell? ⟨gF, 0, none⟩ = some (.string f.f0) ∧ w'.cell? ⟨gF, 1, none⟩ = some (.slice A1 f.f1.length c1) ∧ w'.cell? ⟨gF, 2, none⟩ = some (.int .i64 f.f2) ∧ w'.cell? ⟨gF, 3, none⟩ = some (.slice (some ad3) f.f3.length c3) ∧ w'.cell? ⟨gF, 4, none⟩ = some (.slice (some ad4) f.f4.length c4) ∧ w'.cell? (ad5.add q) = some (.int .i64 pa)) (ds := []) (bl 0 27) (by kernel_rfl) rfl rfl (S8_D y) (fun hHeld => ?_)
                                refine with_tabW made_tab52 made_bits52 (fun HT_ HW_ => ?_)
                                refine pure_ (i := 0) (N := some 222) (v := ?_) (a' := ?_) (bl 1 27) rfl rfl (any_of HT_.out (by kernel_rfl)) (fun _ _ _ h => h) (Or.inl ⟨by rfl, ?_⟩) ?_ ?_
                                rotate_left
                                · intro w'
                                  go_simp
                                  with_reducible rfl
                                rotate_left
                                · simp only [Act.put, List.setIfInBounds_toArray, List.set_cons_zero, List.set_cons_succ, i64_w, i32_w]
                                  rfl
                                refine pure_ (i := 2) (N := some 224) (v := ?_) (a' := ?_) #[true, false, true, false, false, false, false, false, false, false, false, false, false, false, false, false, false, false, false, false, false, false, false, false, false, false, false] rfl rfl (any_of HT_.out (by kernel_rfl)) (fun _ _ _ h => h) (Or.inl ⟨by rfl, ?_⟩) ?_ ?_
                                rotate_left
                                · intro w'
                                  go_simp
                                  with_reducible rfl
                                rotate_left
                                · simp only [Act.put, List.setIfInBounds_toArray, List.set_cons_zero, List.set_cons_succ, i64_w, i32_w]
                                  rfl
                                refine take_ (i := 1) (N := some 223) (v := ?_) (a' := ?_) (bl 3 27) rfl rfl (take_ofW HT_.out HW_.out (by kernel_rfl)) (fun _ _ _ h => h) (Or.inl ⟨by rfl, ?_⟩) hHeld ?_ ?_
                                rotate_left
                                · rintro w' ⟨s0, s1, s2, s3, s4, s5, s6, s7⟩
                                  go_simp
                                  with_reducible rfl
                                rotate_left
                                · simp only [Act.put, List.setIfInBounds_toArray, List.set_cons_zero, List.set_cons_succ, i64_w, i32_w]
                                  rfl
                                refine pure_ (i := 3) (N := some 225) (v := ?_) (a' := ?_) (bl 4 27) rfl rfl (any_of HT_.out (by kernel_rfl)) (fun _ _ _ h => h) (Or.inl ⟨by rfl, ?_⟩) ?_ ?_
                                rotate_left
                                · intro w'
                                  go_simp
                                  with_reducible rfl
                                rotate_left
                                · simp only [Act.put, List.setIfInBounds_toArray, List.set_cons_zero, List.set_cons_succ, i64_w, i32_w]
                                  rfl
                                refine pure_ (i := 4) (N := some 226) (v := ?_) (a' := ?_) (bl 5 27) rfl rfl (any_of HT_.out (by kernel_rfl)) (fun _ _ _ h => h) (Or.inl ⟨by rfl, ?_⟩) ?_ ?_
                                rotate_left
                                · intro w'
                                  go_simp
                                  with_reducible rfl
                                rotate_left
                                · simp only [Act.put, List.setIfInBounds_toArray, List.set_cons_zero, List.set_cons_succ, i64_w, i32_w]
                                  rfl
                                refine pure_ (i := 5) (N := some 227) (v := undef) (a' := ?_) (bl 6 27) rfl rfl (any_of HT_.out (by kernel_rfl)) (fun _ _ _ h => h) (Or.inr ⟨by rfl, rfl⟩) ?_ ?_
                                rotate_left
                                · simp only [Act.put, List.setIfInBounds_toArray, List.set_cons_zero, List.set_cons_succ, i64_w, i32_w]
                                  rfl
                                refine pure_ (i := 6) (N := some 228) (v := undef) (a' := ?_) (bl 7 27) rfl rfl (any_of HT_.out (by kernel_rfl)) (fun _ _ _ h => h) (Or.inr ⟨by rfl, rfl⟩) ?_ ?_
                                rotate_left
                                · simp only [Act.put, List.setIfInBounds_toArray, List.set_cons_zero, List.set_cons_succ, i64_w, i32_w]
                                  rfl
                                refine pure_ (i := 7) (N := some 229) (v := undef) (a' := ?_) (bl 8 27) rfl rfl (any_of HT_.out (by kernel_rfl)) (fun _ _ _ h => h) (Or.inr ⟨by rfl, rfl⟩) ?_ ?_
                                rotate_left
                                · simp only [Act.put, List.setIfInBounds_toArray, List.set_cons_zero, List.set_cons_succ, i64_w, i32_w]
                                  rfl
                                refine pure_ (i := 8) (N := some 230) (v := undef) (a' := ?_) (bl 9 27) rfl rfl (any_of HT_.out (by kernel_rfl)) (fun _ _ _ h => h) (Or.inr ⟨by rfl, rfl⟩) ?_ ?_
                                rotate_left
                                · simp only [Act.put, List.setIfInBounds_toArray, List.set_cons_zero, List.set_cons_succ, i64_w, i32_w]
                                  rfl
                                refine pure_ (i := 9) (N := some 231) (v := ?_) (a' := ?_) (bl 10 27) rfl rfl (any_of HT_.out (by kernel_rfl)) (fun _ _ _ h => h) (Or.inl ⟨by rfl, ?_⟩) ?_ ?_
                                rotate_left
                                · intro w'
                                  go_simp
                                  with_reducible rfl
                                rotate_left
                                · simp only [Act.put, List.setIfInBounds_toArray, List.set_cons_zero, List.set_cons_succ, i64_w, i32_w]
                                  rfl
                                refine pure_ (i := 10) (N := some 232) (v := ?_) (a' := ?_) (bl 11 27) rfl rfl (any_of HT_.out (by kernel_rfl)) (fun _ _ _ h => h) (Or.inl ⟨by rfl, ?_⟩) ?_ ?_
                                rotate_left
                                · intro w'
                                  go_simp
                                  with_reducible rfl
                                rotate_left
                                · simp only [Act.put, List.setIfInBounds_toArray, List.set_cons_zero, List.set_cons_succ, i64_w, i32_w]
                                  rfl
                                refine pure_ (i := 11) (N := some 233) (v := ?_) (a' := ?_) (bl 12 27) rfl rfl (any_of HT_.out (by kernel_rfl)) (fun _ _ _ h => h) (Or.inl ⟨by rfl, ?_⟩) ?_ ?_
                                rotate_left
                                · intro w'
                                  go_simp
                                  with_reducible rfl
                                rotate_left
                                · simp only [Act.put, List.setIfInBounds_toArray, List.set_cons_zero, List.set_cons_succ, i64_w, i32_w]
                                  rfl
                                refine pure_ (i := 13) (N := some 235) (v := ?_) (a' := ?_) #[true, true, true, true, true, true, true, true, true, true, true, true, false, true, false, false, false, false, false, false, false, false, false, false, false, false, false] rfl rfl (any_of HT_.out (by kernel_rfl)) (fun _ _ _ h => h) (Or.inl ⟨by rfl, ?_⟩) ?_ ?_
                                rotate_left
                                · intro w'
                                  go_simp
                                  with_reducible rfl
                                rotate_left
                                · simp only [Act.put, List.setIfInBounds_toArray, List.set_cons_zero, List.set_cons_succ, i64_w, i32_w]
                                  rfl
                                refine take_ (i := 12) (N := some 234) (v := ?_) (a' := ?_) (bl 14 27) rfl rfl (take_ofW HT_.out HW_.out (by kernel_rfl)) (fun _ _ _ h => h) (Or.inl ⟨by rfl, ?_⟩) hHeld ?_ ?_
                                rotate_left
                                · rintro w' ⟨s0, s1, s2, s3, s4, s5, s6, s7⟩
                                  go_simp
                                  with_reducible rfl
                                rotate_left
                                · simp only [Act.put, List.setIfInBounds_toArray, List.set_cons_zero, List.set_cons_succ, i64_w, i32_w]
                                  rfl
                                refine pure_ (i := 14) (N := some 236) (v := ?_) (a' := ?_) (bl 15 27) rfl rfl (any_of HT_.out (by kernel_rfl)) (fun _ _ _ h => h) (Or.inl ⟨by rfl, ?_⟩) ?_ ?_
                                rotate_left
                                · intro w'
                                  go_simp
                                  with_reducible rfl
                                rotate_left
                                · simp only [Act.put, List.setIfInBounds_toArray, List.set_cons_zero, List.set_cons_succ, i64_w, i32_w]
                                  rfl
                                refine pure_ (i := 15) (N := some 237) (v := ?_) (a' := ?_) (bl 16 27) rfl rfl (any_of HT_.out (by kernel_rfl)) (fun _ _ _ h => h) (Or.inl ⟨by rfl, ?_⟩) ?_ ?_
                                rotate_left
                                · intro w'
                                  go_simp
                                  with_reducible rfl
                                rotate_left
                                · simp only [Act.put, List.setIfInBounds_toArray, List.set_cons_zero, List.set_cons_succ, i64_w, i32_w]
                                  rfl
                                refine pure_ (i := 17) (N := some 239) (v := ?_) (a' := ?_) #[true, true, true, true, true, true, true, true, true, true, true, true, true, true, true, true, false, true, false, false, false, false, false, false, false, false, false] rfl rfl (any_of HT_.out (by kernel_rfl)) (fun _ _ _ h => h) (Or.inl ⟨by rfl, ?_⟩) ?_ ?_
                                rotate_left
                                · intro w'
                                  go_simp
                                  with_reducible rfl
                                rotate_left
                                · simp only [Act.put, List.setIfInBounds_toArray, List.set_cons_zero, List.set_cons_succ, i64_w, i32_w]
                                  rfl
                                refine pure_ (i := 18) (N := some 240) (v := ?_) (a' := ?_) #[true, true, true, true, true, true, true, true, true, true, true, true, true, true, true, true, false, true, true, false, false, false, false, false, false, false, false] rfl rfl (any_of HT_.out (by kernel_rfl)) (fun _ _ _ h => h) (Or.inl ⟨by rfl, ?_⟩) ?_ ?_
                                rotate_left
                                · intro w'
                                  go_simp
                                  with_reducible rfl
                                rotate_left
                                · simp only [Act.put, List.setIfInBounds_toArray, List.set_cons_zero, List.set_cons_succ, i64_w, i32_w]
                                  rfl
                                refine pure_ (i := 19) (N := some 241) (v := ?_) (a' := ?_) #[true, true, true, true, true, true, true, true, true, true, true, true, true, true, true, true, false, true, true, true, false, false, false, false, false, false, false] rfl rfl (any_of HT_.out (by kernel_rfl)) (fun _ _ _ h => h) (Or.inl ⟨by rfl, ?_⟩) ?_ ?_
                                rotate_left
                                · intro w'
                                  go_simp
                                  with_reducible rfl
                                rotate_left
                                · simp only [Act.put, List.setIfInBounds_toArray, List.set_cons_zero, List.set_cons_succ, i64_w, i32_w]
                                  rfl
                                refine pure_ (i := 20) (N := some 242) (v := ?_) (a' := ?_) #[true, true, true, true, true, true, true, true, true, true, true, true, true, true, true, true, false, true, true, true, true, false, false, false, false, false, false] rfl rfl (any_of HT_.out (by kernel_rfl)) (fun _ _ _ h => h) (Or.inl ⟨by rfl, ?_⟩) ?_ ?_
                                rotate_left
                                · intro w'
                                  go_simp
                                  with_reducible rfl
                                rotate_left
                                · simp only [Act.put, List.setIfInBounds_toArray, List.set_cons_zero, List.set_cons_succ, i64_w, i32_w]
                                  rfl
                                refine pure_ (i := 22) (N := some 244) (v := ?_) (a' := ?_) #[true, true, true, true, true, true, true, true, true, true, true, true, true, true, true, true, false, true, true, true, true, false, true, false, false, false, false] rfl rfl (any_of HT_.out (by kernel_rfl)) (fun _ _ _ h => h) (Or.inl ⟨by rfl, ?_⟩) ?_ ?_
                                rotate_left
                                · intro w'
                                  go_simp
                                  with_reducible rfl
                                rotate_left
                                · simp only [Act.put, List.setIfInBounds_toArray, List.set_cons_zero, List.set_cons_succ, i64_w, i32_w]
                                  rfl
                                refine take_ (i := 16) (N := some 238) (v := ?_) (a' := ?_) #[true, true, true, true, true, true, true, true, true, true, true, true, true, true, true, true, true, true, true, true, true, false, true, false, false, false, false] rfl rfl (take_ofW HT_.out HW_.out (by kernel_rfl)) (fun _ _ _ h => h) (Or.inl ⟨by rfl, ?_⟩) hHeld ?_ ?_
                                rotate_left
                                · rintro w' ⟨s0, s1, s2, s3, s4, s5, s6, s7⟩
                                  go_simp
                                  with_reducible rfl
                                rotate_left
                                · simp only [Act.put, List.setIfInBounds_toArray, List.set_cons_zero, List.set_cons_succ, i64_w, i32_w]
                                  rfl
                                refine take_ (i := 21) (N := some 243) (v := ?_) (a' := ?_) (bl 23 27) rfl rfl (take_ofW HT_.out HW_.out (by kernel_rfl)) (fun _ _ _ h => h) (Or.inl ⟨by rfl, ?_⟩) hHeld ?_ ?_
                                rotate_left
                                · rintro w' ⟨s0, s1, s2, s3, s4, s5, s6, s7⟩
                                  go_simp
                                  with_reducible rfl
                                rotate_left
                                · simp only [Act.put, List.setIfInBounds_toArray, List.set_cons_zero, List.set_cons_succ, i64_w, i32_w]
                                  rfl
                                refine one_ (i := 23) (N := some 245) (bl 24 27) rfl rfl (one_of HT_.out (by kernel_rfl)) (by decide) (fun K hK => ?_)
                                refine goes_ Try.func34 (by kernel_rfl) rfl #[.agg #[.string f.f0, .slice A1 f.f1.length c1, .int .i64 f.f2, .slice (some ad3) f.f3.length c3, .slice (some ad4) f.f4.length c4], .slice (some ⟨gp, 0, none⟩) f.f3.length cp, .int .i64 pa, .int .i64 (i : Int)] (by rfl) rfl rfl (by (try simp only [List.map_toArray, List.map_cons, List.map_nil]); first | done | rfl | (simp only [List.length_drop, List.length_take]; rfl)) ?_
                                with_reducible refine HTH.out.mono ?_
                                rintro e w5 ⟨rfl, hb⟩
                                refine ⟨_, rfl, ?_⟩
                                have HB5 := Lib.hid (undrew hb)
                                clear hb
                                refine hK.out _ _ (S8_B HB5.out y) (fun hHeld => ?_)
                                clear hK K
                                refine norm_ (a' := ?_) ?_ ?_
                                rotate_left
                                · show Act.put _ (some 245) _ = _
                                  simp only [Act.put, List.setIfInBounds_toArray, List.set_cons_zero, List.set_cons_succ, i64_w, i32_w]
                                  rfl
                                refine pure_ (i := 24) (N := some 246) (v := ?_) (a' := ?_) (bl 25 27) rfl rfl (any_of HT_.out (by kernel_rfl)) (fun _ _ _ h => h) (Or.inl ⟨by rfl, ?_⟩) ?_ ?_
                                rotate_left
                                · intro w'
                                  go_simp
                                  with_reducible rfl
                                rotate_left
                                · simp only [Act.put, List.setIfInBounds_toArray, List.set_cons_zero, List.set_cons_succ, i64_w, i32_w]
                                  rfl
                                refine pure_ (i := 25) (N := some 247) (v := ?_) (a' := ?_) (bl 26 27) rfl rfl (any_of HT_.out (by kernel_rfl)) (fun _ _ _ h => h) (Or.inl ⟨by rfl, ?_⟩) ?_ ?_
                                rotate_left
                                · intro w'
                                  go_simp
                                  with_reducible rfl
                                rotate_left
                                · simp only [Act.put, List.setIfInBounds_toArray, List.set_cons_zero, List.set_cons_succ, i64_w, i32_w]
                                  rfl
                                refine pure_ (i := 26) (N := some 248) (v := ?_) (a' := ?_) (bl 27 27) rfl rfl (any_of HT_.out (by kernel_rfl)) (fun _ _ _ h => h) (Or.inl ⟨by rfl, ?_⟩) ?_ ?_
                                rotate_left
                                · intro w'
                                  go_simp
                                  with_reducible rfl
                                rotate_left
                                · simp only [Act.put, List.setIfInBounds_toArray, List.set_cons_zero, List.set_cons_succ, i64_w, i32_w]
                                  rfl
                                refine done_ (done_of HT_.out (by kernel_rfl)) ?_
                                all_goals
                                  go_wp2_with (fail)
                                  go_roundg (gk - 1)
                                  case measure => have := HQ.out; omega
                                  case rel => exact ⟨q + 1, by omega, by go_num, Lib.hid (by have := HQ.out; omega), Lib.hid (HMq.out.then_ HB5.out), Lib.hid (blkB HB5.out HGBq.out)⟩
                            · have hqe : q = av.length := by omega
                              subst hqe
                              have hbd := HBM.out.2.2.2
                              clear hltq hq
                              go_wp2_with (fail)
                              go_roundg (gj - 1)
                              case measure => have := HJ.out; omega
                              case rel => exact ⟨j + 1, by omega, by go_num, Lib.hid (by have := HJ.out; omega), HM, HGB⟩
                        · have hje : j = b.f1.length := by omega
                          subst hje
                          have hbd : f.f4.length ≤ 1000000000 := HH.out.lb
                          have y10 := (S6_blk hgb).2.2.2.1
                          clear hlt hj HJ
                          by_cases ht : 0 ≤ b.f2.f1
                          · have hth := HH.out.term i b HBI.out ht
                            have hfb := HM.out.fb
                            rw [HFC.out] at hfb
                            obtain ⟨y0, y1, y2, y3, y4⟩ := S5_blk hfb
                            have HTH := Lib.hid (there_at K f A1 c1 A3 c3 (some ad4) c4 gp cp b.f2.f1 (i : Int) wr (Kd.C_below H1.out HM.out.below) L1.out (Kd.C_below H3.out HM.out.below) L3.out (Kd.C_below H4.out HM.out.below) L4.out HM.out.C hth)
                            clear hth hfb hgb
                            go_wp2_with (first | (go_at_call 34; with_reducible refine Calls.mono HTH.out ?_; rintro e w5 ⟨rfl, hb⟩; have HB5 := Lib.hid hb; clear hb) | (go_at_call 34; refine stop_intro ?_))
                            go_roundg (go - 1)
                            case measure => have := HIo.out; omega
                            case rel => exact ⟨i + 1, by omega, by go_num, Lib.hid (by have := HIo.out; omega), Lib.hid (HM.out.then_ HB5.out)⟩
                          · have hd1 : decide (0 ≤ b.f2.f1) = false := decide_eq_false ht
                            clear hgb
                            go_wp2_with (fail)
                            go_roundg (go - 1)
                            case measure => have := HIo.out; omega
                            case rel => exact ⟨i + 1, by omega, by go_num, Lib.hid (by have := HIo.out; omega), HM⟩
                · have hie : i = f.f4.length := by omega
                  subst hie
                  clear hlti hi HIo hfb
                  go_wp2_with (fail)
                  go_ret
                  exact ⟨rfl, Lib.hid HM.out.below⟩
#print axioms made_any
end Go.Proofs.Ytgbeliajhccndaa
