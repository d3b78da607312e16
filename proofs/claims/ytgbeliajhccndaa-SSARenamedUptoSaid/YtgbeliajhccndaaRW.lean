/- Lemmas of this claim (VI). -/
import Derived.Test.YtgbeliajhccndaaRO
import Derived.Test.YtgbeliajhccndaaRV
import Derived.Deep.RegionLaw
import Derived.Deep.RegionHeld3
set_option linter.unusedVariables false
set_option linter.unusedSimpArgs false
namespace Go.Proofs.Ytgbeliajhccndaa
open Go.RowKit Go.Proofs.YtgbeliajhccndaaW.PrintWords Go.Proofs.YtgbeliajhccndaaW.PrintLast Go.Proofs.YtgbeliajhccndaaW.PrintMore PP
theorem S7_D {w : World} {a0 a1 a2 a3 a4 a5 a6 : Addr} {v0 v1 v2 v3 v4 v5 v6 : Value} (z : w.cell? a0 = some v0 ∧ w.cell? a1 = some v1 ∧ w.cell? a2 = some v2 ∧ w.cell? a3 = some v3 ∧ w.cell? a4 = some v4 ∧ w.cell? a5 = some v5 ∧ w.cell? a6 = some v6) : w.drew.cell? a0 = some v0 ∧ w.drew.cell? a1 = some v1 ∧ w.drew.cell? a2 = some v2 ∧ w.drew.cell? a3 = some v3 ∧ w.drew.cell? a4 = some v4 ∧ w.drew.cell? a5 = some v5 ∧ w.drew.cell? a6 = some v6 := z
theorem S7_O {w : World} {a0 a1 a2 a3 a4 a5 a6 : Addr} {v0 v1 v2 v3 v4 v5 v6 : Value} (z : w.cell? a0 = some v0 ∧ w.cell? a1 = some v1 ∧ w.cell? a2 = some v2 ∧ w.cell? a3 = some v3 ∧ w.cell? a4 = some v4 ∧ w.cell? a5 = some v5 ∧ w.cell? a6 = some v6) (o : Obj) : (w.alloc o).cell? a0 = some v0 ∧ (w.alloc o).cell? a1 = some v1 ∧ (w.alloc o).cell? a2 = some v2 ∧ (w.alloc o).cell? a3 = some v3 ∧ (w.alloc o).cell? a4 = some v4 ∧ (w.alloc o).cell? a5 = some v5 ∧ (w.alloc o).cell? a6 = some v6 := ⟨cellO z.1 o, cellO z.2.1 o, cellO z.2.2.1 o, cellO z.2.2.2.1 o, cellO z.2.2.2.2.1 o, cellO z.2.2.2.2.2.1 o, cellO z.2.2.2.2.2.2 o⟩
theorem S7_B {w W : World} (hb : Below w.heap.size w W) {a0 a1 a2 a3 a4 a5 a6 : Addr} {v0 v1 v2 v3 v4 v5 v6 : Value} (z : w.cell? a0 = some v0 ∧ w.cell? a1 = some v1 ∧ w.cell? a2 = some v2 ∧ w.cell? a3 = some v3 ∧ w.cell? a4 = some v4 ∧ w.cell? a5 = some v5 ∧ w.cell? a6 = some v6) : W.cell? a0 = some v0 ∧ W.cell? a1 = some v1 ∧ W.cell? a2 = some v2 ∧ W.cell? a3 = some v3 ∧ W.cell? a4 = some v4 ∧ W.cell? a5 = some v5 ∧ W.cell? a6 = some v6 := ⟨cellB hb z.1, cellB hb z.2.1, cellB hb z.2.2.1, cellB hb z.2.2.2.1, cellB hb z.2.2.2.2.1, cellB hb z.2.2.2.2.2.1, cellB hb z.2.2.2.2.2.2⟩
theorem S3_D {w : World} {a0 a1 a2 : Addr} {v0 v1 v2 : Value} (z : w.cell? a0 = some v0 ∧ w.cell? a1 = some v1 ∧ w.cell? a2 = some v2) : w.drew.cell? a0 = some v0 ∧ w.drew.cell? a1 = some v1 ∧ w.drew.cell? a2 = some v2 := z
theorem S3_O {w : World} {a0 a1 a2 : Addr} {v0 v1 v2 : Value} (z : w.cell? a0 = some v0 ∧ w.cell? a1 = some v1 ∧ w.cell? a2 = some v2) (o : Obj) : (w.alloc o).cell? a0 = some v0 ∧ (w.alloc o).cell? a1 = some v1 ∧ (w.alloc o).cell? a2 = some v2 := ⟨cellO z.1 o, cellO z.2.1 o, cellO z.2.2 o⟩
theorem S3_B {w W : World} (hb : Below w.heap.size w W) {a0 a1 a2 : Addr} {v0 v1 v2 : Value} (z : w.cell? a0 = some v0 ∧ w.cell? a1 = some v1 ∧ w.cell? a2 = some v2) : W.cell? a0 = some v0 ∧ W.cell? a1 = some v1 ∧ W.cell? a2 = some v2 := ⟨cellB hb z.1, cellB hb z.2.1, cellB hb z.2.2⟩
theorem S3_F5 {w : World} {gf : Nat} {v0 v1 v2 : Value} (z : w.cell? ⟨gf, 0, none⟩ = some v0 ∧ w.cell? ⟨gf, 1, none⟩ = some v1 ∧ w.cell? ⟨gf, 2, none⟩ = some v2) {g : Nat} (hne : gf ≠ g) {u0 u1 u2 u3 u4 : Value} : (((((w.setCell ⟨g, 0, none⟩ u0).setCell ⟨g, 1, none⟩ u1).setCell ⟨g, 2, none⟩ u2).setCell ⟨g, 3, none⟩ u3).setCell ⟨g, 4, none⟩ u4).cell? ⟨gf, 0, none⟩ = some v0 ∧ (((((w.setCell ⟨g, 0, none⟩ u0).setCell ⟨g, 1, none⟩ u1).setCell ⟨g, 2, none⟩ u2).setCell ⟨g, 3, none⟩ u3).setCell ⟨g, 4, none⟩ u4).cell? ⟨gf, 1, none⟩ = some v1 ∧ (((((w.setCell ⟨g, 0, none⟩ u0).setCell ⟨g, 1, none⟩ u1).setCell ⟨g, 2, none⟩ u2).setCell ⟨g, 3, none⟩ u3).setCell ⟨g, 4, none⟩ u4).cell? ⟨gf, 2, none⟩ = some v2 :=
  ⟨cellF5 z.1 hne, cellF5 z.2.1 hne, cellF5 z.2.2 hne⟩
theorem S3_F3 {w : World} {gf i0 i1 i2 : Nat} {v0 v1 v2 : Value} (z : w.cell? ⟨gf, i0, none⟩ = some v0 ∧ w.cell? ⟨gf, i1, none⟩ = some v1 ∧ w.cell? ⟨gf, i2, none⟩ = some v2) {g : Nat} (hne : gf ≠ g) {u0 u1 u2 : Value} : (((w.setCell ⟨g, 0, none⟩ u0).setCell ⟨g, 1, none⟩ u1).setCell ⟨g, 2, none⟩ u2).cell? ⟨gf, i0, none⟩ = some v0 ∧ (((w.setCell ⟨g, 0, none⟩ u0).setCell ⟨g, 1, none⟩ u1).setCell ⟨g, 2, none⟩ u2).cell? ⟨gf, i1, none⟩ = some v1 ∧ (((w.setCell ⟨g, 0, none⟩ u0).setCell ⟨g, 1, none⟩ u1).setCell ⟨g, 2, none⟩ u2).cell? ⟨gf, i2, none⟩ = some v2 :=
  ⟨cellF (cellF (cellF z.1 hne _) hne _) hne _, cellF (cellF (cellF z.2.1 hne _) hne _) hne _, cellF (cellF (cellF z.2.2 hne _) hne _) hne _⟩
theorem S3_blk {w : World} {g : Nat} {a b c : Value} {t : Nat} (h : w.heap[g]? = some (.cells #[a, b, c] t (0, 0))) : w.cell? ⟨g, 0, none⟩ = some a ∧ w.cell? ⟨g, 1, none⟩ = some b ∧ w.cell? ⟨g, 2, none⟩ = some c :=
  ⟨(blk_cell h 0).trans rfl, (blk_cell h 1).trans rfl, (blk_cell h 2).trans rfl⟩
theorem S3_fz {w : World} {g : Nat} {a b c : Value} {t : Nat} (h : w.heap[g]? = some (.cells #[a, b, c] t (0, 0))) : w.frozen? ⟨g, 0, none⟩ = false ∧ w.frozen? ⟨g, 1, none⟩ = false ∧ w.frozen? ⟨g, 2, none⟩ = false :=
  ⟨blk_frozen h 0, blk_frozen h 1, blk_frozen h 2⟩
theorem unallocW {w W : World} {cs : Array Value} {t : TypeId} (h : Below (w.alloc (.cells cs t)).heap.size (w.alloc (.cells cs t)) W) : Below w.heap.size w W ∧ W.heap[w.heap.size]? = some (.cells cs t (0, 0)) :=
  ⟨below_then (below_alloc (Below.refl _ _) _) (below_alloc (Below.refl _ _) _).size h, blkB h (blk_new w _)⟩
def renamed_T12 : Bool × List (List Nat × List Nat) := (true, [([], []), ([0], [0]), ([], []), ([], []), ([], []), ([2, 3, 4], [2, 3, 4]), ([], []), ([6], [6]), ([], []), ([8], [8]), ([], []), ([10], [10]), ([], []), ([12], [12]), ([], []), ([], []), ([13, 14, 15, 5], [13, 14, 15]), ([7, 9, 11, 16], [7, 9, 11, 16]), ([1, 5, 0, 1, 2, 3, 4, 5, 6, 7, 8, 9, 10, 11, 12, 13, 14, 15, 16, 17], [1, 5]), ([18, 17, 16, 0, 1, 2, 3, 4, 5, 6, 7, 8, 9, 10, 11, 12, 13, 14, 15, 16, 17], [17, 18])])
def renamed_B12 : List Nat := [0, 1, 0, 0, 0, 28, 0, 64, 0, 256, 0, 1024, 0, 4096, 0, 0, 61500, 131068, 262143, 524287]
theorem renamed_tab12 : rtab .any (opsOf Try.f16 12) = renamed_T12 := by kernel_rfl
theorem renamed_bits12 : waitsOk renamed_T12.2 renamed_B12 = true := by kernel_rfl
def renamed_T18 : Bool × List (List Nat × List Nat) := (true, [([], []), ([0], [0]), ([], []), ([2], [2]), ([], []), ([], []), ([3, 4, 5], [3, 4, 5]), ([], []), ([7], [7]), ([], []), ([], []), ([8, 9, 10, 6], [8, 9, 10]), ([], []), ([12], [12]), ([13, 11], [13]), ([], []), ([6, 11, 14, 15], [6, 11, 14, 15]), ([16], [16]), ([1, 17, 14], [1, 17]), ([0, 1, 2, 3, 4, 5, 6, 7, 8, 9, 10, 11, 12, 13, 14, 15, 16, 17, 18], []), ([19, 18, 18, 0, 1, 2, 3, 4, 5, 6, 7, 8, 9, 10, 11, 12, 13, 14, 15, 16, 17, 18], [18, 19])])
def renamed_B18 : List Nat := [0, 1, 0, 4, 0, 0, 60, 0, 128, 0, 0, 2044, 0, 4096, 16380, 0, 65532, 131068, 262143, 524287, 1048575]
theorem renamed_tab18 : rtab .any (opsOf Try.f16 18) = renamed_T18 := by kernel_rfl
theorem renamed_bits18 : waitsOk renamed_T18.2 renamed_B18 = true := by kernel_rfl
set_option maxRecDepth 100000 in
set_option maxHeartbeats 4000000 in
theorem renamed_any (w : World) (ps : List S38) (A : Option Addr) (c : Nat) (m : Int) (b : Nat) (hC : k38.C w A ps.length ps) (hn : ps.length ≤ 1000000000) (hL : ∀ f ∈ ps, LimF f) (hN : ∀ f ∈ ps, Num f) (hb : b ≤ 1000) :
    Calls Try.prog 16 #[.agg #[.slice A ps.length c, .int .i64 m], .int .i64 (b : Int)] w fun e W => ∃ A' c', e = .returned (.agg #[.slice A' ps.length c', .int .i64 m]) ∧ Hid (k38.R 38 W w.heap.size (fun _ => True) (.slice A' ps.length c') (ps.map (renF b))) ∧ Hid (Below w.heap.size w W) := by
  have HC := Lib.hid hC
  have HL := Lib.hid hL
  have HU := Lib.hid hN
  have HN := Lib.hid hn
  have HBY := Lib.hid hb
  clear hC hL hN hn hb
  go_enter Try.func16, Try.ntmps16
  go_upto_region 2 with (fail)
  obtain ⟨wq, hwq⟩ : ∃ wq, wq = (((w.alloc (.cells #[.slice A ps.length c, .int .i64 m] 24)).alloc (.cells #[.slice none 0 0, .int .i64 0] 24)).alloc (.cells #[.slice none 0 0, .int .i64 m] 24)) := ⟨_, rfl⟩
  obtain ⟨gS, hgS⟩ : ∃ gS, gS = w.heap.size := ⟨_, rfl⟩
  obtain ⟨gR, hgR⟩ : ∃ gR, gR = w.heap.size + 1 := ⟨_, rfl⟩
  obtain ⟨gC, hgC⟩ : ∃ gC, gC = w.heap.size + 1 + 1 := ⟨_, rfl⟩
  have HL0 : Hid (Rn w wq gS gR gC A ps.length c m (.slice none 0 0) ((ps.take 0).map (renF b))) := Lib.hid (by
    subst hwq hgS hgR hgC
    have hb1 := below_alloc (Below.refl w.heap.size w) (.cells #[.slice A ps.length c, .int .i64 m] 24)
    have hb2 := below_alloc hb1 (.cells #[.slice none 0 0, .int .i64 0] 24)
    have h1 := blk_new w (.cells #[.slice A ps.length c, .int .i64 m] 24)
    have h2 := blk_new (w.alloc (.cells #[.slice A ps.length c, .int .i64 m] 24)) (.cells #[.slice none 0 0, .int .i64 0] 24)
    have h3 := blk_new ((w.alloc (.cells #[.slice A ps.length c, .int .i64 m] 24)).alloc (.cells #[.slice none 0 0, .int .i64 0] 24)) (.cells #[.slice none 0 0, .int .i64 m] 24)
    rw [size_alloc', size_alloc'] at h3
    rw [size_alloc'] at h2
    exact ⟨below_alloc hb2 _, blkB (below_alloc (Below.refl _ _) _) (blkB (below_alloc (Below.refl _ _) _) h1), blkB (below_alloc (Below.refl _ _) _) h2, h3, ⟨by omega, by omega⟩, ⟨by omega, by omega, by omega⟩, Kd.R_nil _ _ _ _ _⟩)
  rw [← hgC, ← hgR, ← hgS, ← hwq]
  clear hwq hgS hgR hgC
  go_wp2_with (fail)
  go_loopg [6] ps.length (fun k v6 wr => ∃ (i : Nat) (AF : Option Addr) (cF : Nat), i ≤ ps.length ∧ v6 = .int .i64 i ∧ Hid (i + k = ps.length) ∧ Hid (Rn w wr gS gR gC A ps.length c m (.slice AF i cF) ((ps.take i).map (renF b))))
  case atStart => exact ⟨0, none, 0, by omega, rfl, Lib.hid (by omega), HL0⟩
  case round =>
    clear HL0
    obtain ⟨i, AF, cF, hi, rfl, HI, HLN⟩ := hrel
    have s0 : wr.cell? ⟨gS, 0, none⟩ = some (.slice A ps.length c) := (blk_cell HLN.out.sb 0).trans rfl
    by_cases hlt : i < ps.length
    · obtain ⟨f, hf⟩ : ∃ f, f = ps[i] := ⟨_, rfl⟩
      have hfr : rd_T38 ps (i : Int) = f := by unfold rd_T38; rw [Int.toNat_natCast, List.getD_eq_getElem?_getD, List.getElem?_eq_getElem hlt, hf]; rfl
      have hfm : f ∈ ps := by rw [hf]; exact List.getElem_mem hlt
      have HLF := Lib.hid (HL.out f hfm)
      have HNF := Lib.hid (HU.out f hfm)
      have HTK : Hid ((ps.take (i + 1)).map (renF b) = (ps.take i).map (renF b) ++ [renF b f]) := Lib.hid (by rw [hf, List.take_add_one, List.getElem?_eq_getElem hlt, List.map_append]; rfl)
      obtain ⟨ad, A1, c1, A3, c3, A4, c4, eA, x0, x1, x2, x3, x4, l1, i1, l3, i3, l4, i4⟩ := at_T38 (Kd.C_below HC.out HLN.out.below) (i : Int) (by omega) (by omega)
      rw [hfr] at x0 x1 x2 x3 x4 l1 i1 l3 i3 l4 i4
      simp only [Int.toNat_natCast] at x0 x1 x2 x3 x4
      have I1 := Lib.hid i1
      have I3 := Lib.hid i3
      have I4 := Lib.hid i4
      have J1 := Lib.hid l1
      subst eA
      clear l1 i1 l3 i3 l4 i4 hfr hf hfm
      go_upto_region 7 with (fail)
      obtain ⟨w1, hw1⟩ : ∃ w1, w1 = wr.alloc (.cells #[.string f.f0, .slice A1 f.f1.length c1, .int .i64 f.f2, .slice A3 f.f3.length c3, .slice A4 f.f4.length c4] 38) := ⟨_, rfl⟩
      obtain ⟨gf, hgf⟩ : ∃ gf, gf = wr.heap.size := ⟨_, rfl⟩
      have hB1 : Below wr.heap.size wr w1 := by rw [hw1]; exact below_alloc (Below.refl _ _) _
      have hF1 : w1.heap[gf]? = some (.cells #[.string f.f0, .slice A1 f.f1.length c1, .int .i64 f.f2, .slice A3 f.f3.length c3, .slice A4 f.f4.length c4] 38 (0, 0)) := by rw [hw1, hgf]; exact blk_new wr _
      have hG1 : wr.heap.size ≤ gf := by omega
      rw [← hgf, ← hw1]
      have B1 := Lib.hid hB1
      have F1 := Lib.hid hF1
      have G1 := Lib.hid hG1
      have y0 : w1.cell? ⟨gf, 0, none⟩ = some (.string f.f0) := (blk_cell hF1 0).trans rfl
      have y1 : w1.cell? ⟨gf, 1, none⟩ = some (.slice A1 f.f1.length c1) := (blk_cell hF1 1).trans rfl
      have y2 : w1.cell? ⟨gf, 2, none⟩ = some (.int .i64 f.f2) := (blk_cell hF1 2).trans rfl
      have HC1 := Lib.hid (Kd.C_below I1.out hB1)
      have HNV := Lib.hid (show f.f3.length ≤ 1000000000 from HLF.out.v)
      have HOP : ∀ W : World, (Kd.int .i64).C W A1 f.f1.length f.f1 → Calls Try.prog 30 #[.slice A1 f.f1.length c1, .int .i64 (f.f3.length : Int), .int .i64 (b : Int)] W fun e w' => ∃ A' c', e = .returned (.slice A' f.f1.length c') ∧ Hid ((Kd.int .i64).R 3 w' W.heap.size (fun _ => True) (.slice A' f.f1.length c') (f.f1.map (turnI f.f3.length b))) ∧ Hid (Below W.heap.size W w') := fun W hW =>
        others_any HNV.out HBY.out f.f1 HLF.out.p (fun x hx => (inB_iff (List.all_eq_true.1 HNF.out.par x hx)).2) A1 c1 W hW J1.out
      have HMK := make_at HNV.out
      have HLE1 : Hid (∀ o : Obj, wr.heap.size ≤ (w1.alloc o).drew.heap.size) := Lib.hid (fun o => Nat.le_trans hB1.size (below_alloc (Below.refl w1.heap.size w1) o).size)
      have HLE2 : Hid (∀ o o' : Obj, wr.heap.size ≤ ((w1.alloc o).alloc o').drew.heap.size) := Lib.hid (fun o o' => Nat.le_trans hB1.size (below_alloc (below_alloc (Below.refl w1.heap.size w1) o) o').size)
      have HNE := Lib.hid (Nat.ne_of_lt (blk_lt F1.out))
      have HNE1 : Hid (gf ≠ w1.heap.size + 1) := Lib.hid (by have := blk_lt F1.out; omega)
      have y := And.intro y0 (And.intro y1 y2)
      clear hw1 hgf hB1 hF1 hG1 s0 x0 x1 x2 x3 x4 y0 y1 y2
      have HOPH := Lib.hid HOP
      clear HOP
      go_cut [9] (fun v wx => ∃ (gg gm cm : Nat) (AP : Option Addr) (cP : Nat), v = .pointer (some ⟨gg, 0, none⟩) ∧ Hid (Rg wr wx gf gg #[.string f.f0, .slice A1 f.f1.length c1, .int .i64 f.f2, .slice A3 f.f3.length c3, .slice A4 f.f4.length c4] f.f0 f.f2 (.slice AP f.f1.length cP) (.slice (some ⟨gm, 0, none⟩) f.f3.length cm) (.slice none 0 0) (f.f1.map (turnI f.f3.length b)) (List.replicate f.f3.length z42) []))
      case first =>
        go_region_held3 (fun w' => w'.cell? ⟨gf, 0, none⟩ = some (.string f.f0) ∧ w'.cell? ⟨gf, 1, none⟩ = some (.slice A1 f.f1.length c1) ∧ w'.cell? ⟨gf, 2, none⟩ = some (.int .i64 f.f2)) (first | with_reducible exact y | with_reducible exact z | with_reducible exact S3_D y | with_reducible exact S3_D (S3_O y _) | with_reducible exact S3_D (S3_O (S3_O y _) _) | with_reducible exact S3_O y _ | with_reducible exact S3_O z _ | with_reducible exact S3_O (S3_O z _) _ | with_reducible exact S3_F5 z HNE.out | with_reducible exact S3_F5 z HNE1.out | with_reducible exact S3_F5 (S3_O z _) HNE.out | with_reducible exact S3_F5 (S3_O (S3_O z _) _) HNE2.out | fail) ((first | (go_at_call 30; with_reducible refine Calls.mono (HOPH.out _ ?_) ?_; (repeat (first | exact HC1.out | (with_reducible refine Kd.C_alloc ?_ _) | (with_reducible refine Kd.C_drewN ?_ _) | (with_reducible refine Kd.C_drew ?_))); rintro e w2 ⟨AP, cP, rfl, HR2, HB2⟩; (first | (have hq := unalloc2 HB2.out; have HB3 := Lib.hid hq.1; have HRP := Lib.hid (Kd.R_lower HR2.out (HLE2.out _ _)); (first | (obtain ⟨q0, q1, q2, q3, q4⟩ := S5_blk hq.2.1; obtain ⟨u0, u1, u2, u3, u4⟩ := S5_fz hq.2.1; have HAM1 := Lib.hid hq.2.1; have HAM2 := Lib.hid hq.2.2) | (obtain ⟨q0, q1, q2, q3, q4⟩ := S5_blk hq.2.2; obtain ⟨u0, u1, u2, u3, u4⟩ := S5_fz hq.2.2; have HMA1 := Lib.hid hq.2.1; have HMA2 := Lib.hid hq.2.2)); clear hq) | (have hq := unalloc HB2.out; have HB3 := Lib.hid hq.1; have HRP := Lib.hid (Kd.R_lower HR2.out (HLE1.out _)); (first | (have hq2 := blkB (below_alloc (Below.refl _ _) (.cells (mcC f.f3.length) 42)) hq.2; obtain ⟨q0, q1, q2, q3, q4⟩ := S5_blk hq2; obtain ⟨u0, u1, u2, u3, u4⟩ := S5_fz hq2; clear hq2; have HA1 := Lib.hid hq.2) | have HM1 := Lib.hid hq.2); clear hq) | (have HB3 := Lib.hid (undrew HB2.out); have HRP := Lib.hid (Kd.R_lower HR2.out B1.out.size); have HZ1 := HB3)); have BX := Lib.hid (below_then B1.out B1.out.size HB3.out); have FX := Lib.hid (blkB HB3.out F1.out); have z := S3_B HB3.out y; have HNE2 := Lib.hid (Nat.ne_of_lt (blk_lt (blkB HB3.out F1.out)))) | (go_at_call 30; refine stop_intro ?_)))
        all_goals
          go_wp2_with (fail)
          go_meet
        all_goals first
          | (have hk := HM1.out; exact ⟨_, _, _, _, _, rfl, Lib.hid (Rg.initA BX.out FX.out G1.out HRP.out hk B1.out.size HNV.out)⟩)
          | (have hk := HMA1.out; exact ⟨_, _, _, _, _, rfl, Lib.hid (Rg.initB BX.out FX.out G1.out HRP.out hk B1.out.size HNV.out HMA2.out (Nat.le_trans B1.out.size (Nat.le_succ _)) HNE1.out)⟩)
          | (have hk := HAM1.out; exact ⟨_, _, _, _, _, rfl, Lib.hid (Rg.initB BX.out FX.out G1.out HRP.out HAM2.out (Nat.le_trans B1.out.size (Nat.le_succ _)) HNV.out hk B1.out.size HNE.out)⟩)
          | (have hk := HA1.out; exact ⟨_, _, _, _, _, rfl, Lib.hid (Rg.initB (below_alloc BX.out _) (blkB (below_alloc (Below.refl _ _) _) FX.out) G1.out (Kd.R_below HRP.out (below_alloc (Below.refl _ _) _)) (blk_new _ _) BX.out.size HNV.out (blkB (below_alloc (Below.refl _ _) _) hk) B1.out.size HNE.out)⟩)
          | (have hk := HZ1.out; with_reducible exact ⟨_, _, _, _, _, rfl, Lib.hid (Rg.initC BX.out FX.out G1.out HRP.out HNV.out)⟩)
          | (have hk := HZ1.out; exact ⟨_, _, _, _, _, rfl, Lib.hid (Rg.initD BX.out FX.out G1.out HRP.out HNV.out)⟩)
      case rest =>
        clear y HNE HNE1 HC1 F1 HMK HLE1 HLE2 HOPH
        obtain ⟨gg, gm, cm, AP, cP, rfl, HG⟩ := hcut
        obtain ⟨vP, hvP⟩ : ∃ vP : Value, vP = .slice AP f.f1.length cP := ⟨_, rfl⟩
        have HVP := Lib.hid hvP
        rw [← hvP] at HG
        clear hvP
        obtain ⟨lp, hlp⟩ : ∃ lp, lp = f.f1.map (turnI f.f3.length b) := ⟨_, rfl⟩
        have HLP := Lib.hid hlp
        rw [← hlp] at HG
        clear hlp
        generalize wr = wi at *
        generalize gk = go at *
        obtain ⟨fc, hfc⟩ : ∃ fc : Array Value, fc = #[.string f.f0, .slice A1 f.f1.length c1, .int .i64 f.f2, .slice A3 f.f3.length c3, .slice A4 f.f4.length c4] := ⟨_, rfl⟩
        have HFC := Lib.hid hfc
        rw [← hfc] at HG
        clear hfc
        go_wp2_with (fail)
        go_loopg [10] f.f3.length (fun k v10 wv => ∃ (j : Nat) (xv : List S42), j ≤ f.f3.length ∧ v10 = .int .i64 j ∧ Hid (j + k = f.f3.length) ∧ Hid (xv.length = f.f3.length) ∧ Hid ((renF b f).f3 = renVs f.f3.length b j xv (f.f3.drop j)) ∧ Hid (Rg wi wv gf gg fc f.f0 f.f2 vP (.slice (some ⟨gm, 0, none⟩) f.f3.length cm) (.slice none 0 0) lp xv []))
        case atStart => exact ⟨0, _, by omega, rfl, Lib.hid (by omega), Lib.hid (by simp), Lib.hid rfl, HG⟩
        case round =>
          clear HG
          obtain ⟨j, xv, hj, rfl, HJ, HXL, HXV, HG⟩ := hrel
          have hfb := HG.out.fb
          rw [HFC.out] at hfb
          have f3 : wr.cell? ⟨gf, 3, none⟩ = some (.slice A3 f.f3.length c3) := (blk_cell hfb 3).trans rfl
          by_cases hjl : j < f.f3.length
          · obtain ⟨x, hx⟩ : ∃ x, x = f.f3[j] := ⟨_, rfl⟩
            have hxr : rd_T42 f.f3 (j : Int) = x := by unfold rd_T42; rw [Int.toNat_natCast, List.getD_eq_getElem?_getD, List.getElem?_eq_getElem hjl, hx]; rfl
            have hxm : x ∈ f.f3 := by rw [hx]; exact List.getElem_mem hjl
            have hjI : inB f.f3.length (j : Int) = true := inB_nat hjl
            obtain ⟨t, ht⟩ : ∃ t : Nat, (t : Int) = turnI f.f3.length b (j : Int) := ⟨_, Int.toNat_of_nonneg (inB_iff (turn_in (by_ := b) hjI)).1⟩
            have htl : t < f.f3.length := by have := (inB_iff (turn_in (by_ := b) hjI)).2; omega
            have HTU : Hid (∀ W : World, Calls Try.prog 31 #[.int .i64 (j : Int), .int .i64 (f.f3.length : Int), .int .i64 (b : Int)] W fun e w' => e = .returned (.int .i64 (t : Int)) ∧ Hid (Below W.heap.size W w')) := Lib.hid (fun W => by rw [ht]; exact turned_at HNV.out HBY.out (by omega) W)
            have HXN : Hid ((renF b f).f3 = renVs f.f3.length b (j + 1) (xv.set t (renV f.f3.length b x)) (f.f3.drop (j + 1))) := Lib.hid (by
              have h := renVs_step hjl HXV.out
              rw [← ht, Int.toNat_natCast, show f.f3.getD j z42 = x from by rw [List.getD_eq_getElem?_getD, List.getElem?_eq_getElem hjl, hx]; rfl] at h
              exact h)
            obtain ⟨ad3, A5, c5, eA3, x0, x1, x2, x3, l5, i5⟩ := at_T42 (Kd.C_below I3.out HG.out.below) (j : Int) (by omega) (by omega)
            rw [hxr] at x0 x1 x2 x3 l5 i5
            simp only [Int.toNat_natCast] at x0 x1 x2 x3
            have I5 := Lib.hid i5
            have HOX : Hid (∀ W : World, (Kd.int .i64).C W A5 x.f3.length x.f3 → Calls Try.prog 30 #[.slice A5 x.f3.length c5, .int .i64 (f.f3.length : Int), .int .i64 (b : Int)] W fun e w' => ∃ A' c', e = .returned (.slice A' x.f3.length c') ∧ Hid ((Kd.int .i64).R 3 w' W.heap.size (fun _ => True) (.slice A' x.f3.length c') (x.f3.map (turnI f.f3.length b))) ∧ Hid (Below W.heap.size W w')) := Lib.hid (fun W hW =>
              others_any HNV.out HBY.out x.f3 (HLF.out.a x hxm) (fun y hy => (inB_iff (List.all_eq_true.1 (HNF.out.al x hxm) y hy)).2) A5 c5 W hW l5)
            subst eA3
            clear l5 i5 hxr hx hfb hxm hjI ht
            go_upto_region 12 with (fail)
            obtain ⟨wa, hwa⟩ : ∃ wa, wa = wr.alloc (.cells #[.int .i64 x.f0, .int .i64 x.f1, .int .i64 x.f2, .slice A5 x.f3.length c5] 42) := ⟨_, rfl⟩
            obtain ⟨gv, hgv⟩ : ∃ gv, gv = wr.heap.size := ⟨_, rfl⟩
            have hBa : Below wr.heap.size wr wa := by rw [hwa]; exact below_alloc (Below.refl _ _) _
            have hFa : wa.heap[gv]? = some (.cells #[.int .i64 x.f0, .int .i64 x.f1, .int .i64 x.f2, .slice A5 x.f3.length c5] 42 (0, 0)) := by rw [hwa, hgv]; exact blk_new wr _
            rw [← hgv, ← hwa]
            have HGa := Lib.hid (HG.out.then_ hBa)
            have HFa := Lib.hid hFa
            have y := S4_blk hFa
            have q : wa.cell? ⟨gg, 3, none⟩ = some (.slice (some ⟨gm, 0, none⟩) f.f3.length cm) := (blk_cell HGa.out.gb 3).trans rfl
            have HCa := Lib.hid (Kd.C_below I5.out hBa)
            have HBZ := Lib.hid HGa.out.below.size
            clear hwa hgv hBa hFa f3 x0 x1 x2 x3
            refine start_ (n := 20) (S := fun w' => w'.cell? ⟨gv, 0, none⟩ = some (.int .i64 x.f0) ∧ w'.cell? ⟨gv, 1, none⟩ = some (.int .i64 x.f1) ∧ w'.cell? ⟨gv, 2, none⟩ = some (.int .i64 x.f2) ∧ w'.cell? ⟨gv, 3, none⟩ = some (.slice A5 x.f3.length c5) ∧ w'.cell? ⟨gg, 3, none⟩ = some (.slice (some ⟨gm, 0, none⟩) f.f3.length cm)) (ds := [19]) (bl 0 20) (by kernel_rfl) rfl rfl (⟨cellD y.1, cellD y.2.1, cellD y.2.2.1, cellD y.2.2.2, cellD q⟩) (fun hHeld => ?_)
            refine with_tabW renamed_tab12 renamed_bits12 (fun HT_ HW_ => ?_)
            refine pure_ (i := 0) (N := some 55) (v := ?_) (a' := ?_) (bl 1 20) rfl rfl (any_of HT_.out (by kernel_rfl)) (fun _ _ _ h => h) (Or.inl ⟨by rfl, ?_⟩) ?_ ?_
            rotate_left
            · intro w'
              go_simp
              with_reducible rfl
            rotate_left
            · simp only [Act.put, List.setIfInBounds_toArray, List.set_cons_zero, List.set_cons_succ, i64_w, i32_w]
              rfl
            refine pure_ (i := 2) (N := some 57) (v := ?_) (a' := ?_) #[true, false, true, false, false, false, false, false, false, false, false, false, false, false, false, false, false, false, false, false] rfl rfl (any_of HT_.out (by kernel_rfl)) (fun _ _ _ h => h) (Or.inl ⟨by rfl, ?_⟩) ?_ ?_
            rotate_left
            · intro w'
              go_simp
              with_reducible rfl
            rotate_left
            · simp only [Act.put, List.setIfInBounds_toArray, List.set_cons_zero, List.set_cons_succ, i64_w, i32_w]
              rfl
            refine pure_ (i := 3) (N := some 58) (v := ?_) (a' := ?_) #[true, false, true, true, false, false, false, false, false, false, false, false, false, false, false, false, false, false, false, false] rfl rfl (any_of HT_.out (by kernel_rfl)) (fun _ _ _ h => h) (Or.inl ⟨by rfl, ?_⟩) ?_ ?_
            rotate_left
            · intro w'
              go_simp
              with_reducible rfl
            rotate_left
            · simp only [Act.put, List.setIfInBounds_toArray, List.set_cons_zero, List.set_cons_succ, i64_w, i32_w]
              rfl
            refine pure_ (i := 4) (N := some 59) (v := ?_) (a' := ?_) #[true, false, true, true, true, false, false, false, false, false, false, false, false, false, false, false, false, false, false, false] rfl rfl (any_of HT_.out (by kernel_rfl)) (fun _ _ _ h => h) (Or.inl ⟨by rfl, ?_⟩) ?_ ?_
            rotate_left
            · intro w'
              go_simp
              with_reducible rfl
            rotate_left
            · simp only [Act.put, List.setIfInBounds_toArray, List.set_cons_zero, List.set_cons_succ, i64_w, i32_w]
              rfl
            refine pure_ (i := 6) (N := some 61) (v := ?_) (a' := ?_) #[true, false, true, true, true, false, true, false, false, false, false, false, false, false, false, false, false, false, false, false] rfl rfl (any_of HT_.out (by kernel_rfl)) (fun _ _ _ h => h) (Or.inl ⟨by rfl, ?_⟩) ?_ ?_
            rotate_left
            · intro w'
              go_simp
              with_reducible rfl
            rotate_left
            · simp only [Act.put, List.setIfInBounds_toArray, List.set_cons_zero, List.set_cons_succ, i64_w, i32_w]
              rfl
            refine pure_ (i := 8) (N := some 63) (v := ?_) (a' := ?_) #[true, false, true, true, true, false, true, false, true, false, false, false, false, false, false, false, false, false, false, false] rfl rfl (any_of HT_.out (by kernel_rfl)) (fun _ _ _ h => h) (Or.inl ⟨by rfl, ?_⟩) ?_ ?_
            rotate_left
            · intro w'
              go_simp
              with_reducible rfl
            rotate_left
            · simp only [Act.put, List.setIfInBounds_toArray, List.set_cons_zero, List.set_cons_succ, i64_w, i32_w]
              rfl
            refine pure_ (i := 10) (N := some 65) (v := ?_) (a' := ?_) #[true, false, true, true, true, false, true, false, true, false, true, false, false, false, false, false, false, false, false, false] rfl rfl (any_of HT_.out (by kernel_rfl)) (fun _ _ _ h => h) (Or.inl ⟨by rfl, ?_⟩) ?_ ?_
            rotate_left
            · intro w'
              go_simp
              with_reducible rfl
            rotate_left
            · simp only [Act.put, List.setIfInBounds_toArray, List.set_cons_zero, List.set_cons_succ, i64_w, i32_w]
              rfl
            refine pure_ (i := 12) (N := some 67) (v := ?_) (a' := ?_) #[true, false, true, true, true, false, true, false, true, false, true, false, true, false, false, false, false, false, false, false] rfl rfl (any_of HT_.out (by kernel_rfl)) (fun _ _ _ h => h) (Or.inl ⟨by rfl, ?_⟩) ?_ ?_
            rotate_left
            · intro w'
              go_simp
              with_reducible rfl
            rotate_left
            · simp only [Act.put, List.setIfInBounds_toArray, List.set_cons_zero, List.set_cons_succ, i64_w, i32_w]
              rfl
            refine pure_ (i := 14) (N := some 69) (v := ?_) (a' := ?_) #[true, false, true, true, true, false, true, false, true, false, true, false, true, false, true, false, false, false, false, false] rfl rfl (any_of HT_.out (by kernel_rfl)) (fun _ _ _ h => h) (Or.inl ⟨by rfl, ?_⟩) ?_ ?_
            rotate_left
            · intro w'
              go_simp
              with_reducible rfl
            rotate_left
            · simp only [Act.put, List.setIfInBounds_toArray, List.set_cons_zero, List.set_cons_succ, i64_w, i32_w]
              rfl
            refine pure_ (i := 15) (N := some 70) (v := ?_) (a' := ?_) #[true, false, true, true, true, false, true, false, true, false, true, false, true, false, true, true, false, false, false, false] rfl rfl (any_of HT_.out (by kernel_rfl)) (fun _ _ _ h => h) (Or.inl ⟨by rfl, ?_⟩) ?_ ?_
            rotate_left
            · intro w'
              go_simp
              with_reducible rfl
            rotate_left
            · simp only [Act.put, List.setIfInBounds_toArray, List.set_cons_zero, List.set_cons_succ, i64_w, i32_w]
              rfl
            refine take_ (i := 1) (N := some 56) (v := ?_) (a' := ?_) #[true, true, true, true, true, false, true, false, true, false, true, false, true, false, true, true, false, false, false, false] rfl rfl (take_ofW HT_.out HW_.out (by kernel_rfl)) (fun _ _ _ h => h) (Or.inl ⟨by rfl, ?_⟩) hHeld ?_ ?_
            rotate_left
            · rintro w' ⟨s0, s1, s2, s3, s4⟩
              go_simp
              with_reducible rfl
            rotate_left
            · simp only [Act.put, List.setIfInBounds_toArray, List.set_cons_zero, List.set_cons_succ, i64_w, i32_w]
              rfl
            refine take_ (i := 7) (N := some 62) (v := ?_) (a' := ?_) #[true, true, true, true, true, false, true, true, true, false, true, false, true, false, true, true, false, false, false, false] rfl rfl (take_ofW HT_.out HW_.out (by kernel_rfl)) (fun _ _ _ h => h) (Or.inl ⟨by rfl, ?_⟩) hHeld ?_ ?_
            rotate_left
            · rintro w' ⟨s0, s1, s2, s3, s4⟩
              go_simp
              with_reducible rfl
            rotate_left
            · simp only [Act.put, List.setIfInBounds_toArray, List.set_cons_zero, List.set_cons_succ, i64_w, i32_w]
              rfl
            refine take_ (i := 9) (N := some 64) (v := ?_) (a' := ?_) #[true, true, true, true, true, false, true, true, true, true, true, false, true, false, true, true, false, false, false, false] rfl rfl (take_ofW HT_.out HW_.out (by kernel_rfl)) (fun _ _ _ h => h) (Or.inl ⟨by rfl, ?_⟩) hHeld ?_ ?_
            rotate_left
            · rintro w' ⟨s0, s1, s2, s3, s4⟩
              go_simp
              with_reducible rfl
            rotate_left
            · simp only [Act.put, List.setIfInBounds_toArray, List.set_cons_zero, List.set_cons_succ, i64_w, i32_w]
              rfl
            refine take_ (i := 11) (N := some 66) (v := ?_) (a' := ?_) #[true, true, true, true, true, false, true, true, true, true, true, true, true, false, true, true, false, false, false, false] rfl rfl (take_ofW HT_.out HW_.out (by kernel_rfl)) (fun _ _ _ h => h) (Or.inl ⟨by rfl, ?_⟩) hHeld ?_ ?_
            rotate_left
            · rintro w' ⟨s0, s1, s2, s3, s4⟩
              go_simp
              with_reducible rfl
            rotate_left
            · simp only [Act.put, List.setIfInBounds_toArray, List.set_cons_zero, List.set_cons_succ, i64_w, i32_w]
              rfl
            refine take_ (i := 13) (N := some 68) (v := ?_) (a' := ?_) #[true, true, true, true, true, false, true, true, true, true, true, true, true, true, true, true, false, false, false, false] rfl rfl (take_ofW HT_.out HW_.out (by kernel_rfl)) (fun _ _ _ h => h) (Or.inl ⟨by rfl, ?_⟩) hHeld ?_ ?_
            rotate_left
            · rintro w' ⟨s0, s1, s2, s3, s4⟩
              go_simp
              with_reducible rfl
            rotate_left
            · simp only [Act.put, List.setIfInBounds_toArray, List.set_cons_zero, List.set_cons_succ, i64_w, i32_w]
              rfl
            refine one_ (i := 5) (N := some 60) (bl 16 20) rfl rfl (one_of HT_.out (by kernel_rfl)) (by decide) (fun K hK => ?_)
            refine goes_ Try.func31 (by kernel_rfl) rfl #[.int .i64 (j : Int), .int .i64 (f.f3.length : Int), .int .i64 (b : Int)] (by rfl) rfl rfl (by (try simp only [List.map_toArray, List.map_cons, List.map_nil]); first | done | rfl | (simp only [List.length_drop, List.length_take]; rfl)) ?_
            with_reducible refine Calls.mono (HTU.out _) ?_
            rintro e w2 ⟨rfl, HB2⟩
            refine ⟨_, rfl, ?_⟩
            have HB3 := Lib.hid (undrew HB2.out)
            have z := S4_blk (blkB HB3.out HFa.out)
            have q2 := cellB HB3.out q
            have HN2 := Lib.hid (Kd.C_below HCa.out HB3.out)
            refine hK.out _ _ (⟨z.1, z.2.1, z.2.2.1, z.2.2.2, q2⟩) (fun hHeld => ?_)
            clear hK K
            refine norm_ (a' := ?_) ?_ ?_
            rotate_left
            · show Act.put _ (some 60) _ = _
              simp only [Act.put, List.setIfInBounds_toArray, List.set_cons_zero, List.set_cons_succ, i64_w, i32_w]
              rfl
            refine one_ (i := 16) (N := some 71) (bl 17 20) rfl rfl (one_of HT_.out (by kernel_rfl)) (by decide) (fun K hK => ?_)
            refine goes_ Try.func30 (by kernel_rfl) rfl #[.slice A5 x.f3.length c5, .int .i64 (f.f3.length : Int), .int .i64 (b : Int)] (by rfl) rfl rfl (by (try simp only [List.map_toArray, List.map_cons, List.map_nil]); first | done | rfl | (simp only [List.length_drop, List.length_take]; rfl)) ?_
            with_reducible refine Calls.mono (HOX.out _ ?_) ?_
            · exact HN2.out
            rintro e w3 ⟨AX, cX, rfl, HR3, HB4⟩
            refine ⟨_, rfl, ?_⟩
            have HB5 := Lib.hid (below_then HB3.out HB3.out.size HB4.out)
            have z2 := S4_blk (blkB HB5.out HFa.out)
            have q4 := cellB HB5.out q
            have HG3 := Lib.hid (HGa.out.then_ HB5.out)
            have HRX := Lib.hid (Kd.R_lower HR3.out (Nat.le_trans HBZ.out HB3.out.size))
            obtain ⟨k0, k1, k2, k3, ⟨e0, e1, e2, e3⟩, p0, p1, p2, p3⟩ := HG3.out.cells rfl htl
            refine hK.out _ _ (⟨z2.1, z2.2.1, z2.2.2.1, z2.2.2.2, q4⟩) (fun hHeld => ?_)
            clear hK K
            refine norm_ (a' := ?_) ?_ ?_
            rotate_left
            · show Act.put _ (some 71) _ = _
              simp only [Act.put, List.setIfInBounds_toArray, List.set_cons_zero, List.set_cons_succ, i64_w, i32_w]
              rfl
            refine pure_ (i := 17) (N := some 72) (v := ?_) (a' := ?_) (bl 18 20) rfl rfl (any_of HT_.out (by kernel_rfl)) (fun _ _ _ h => h) (Or.inl ⟨by rfl, ?_⟩) ?_ ?_
            rotate_left
            · intro w'
              go_simp
              with_reducible rfl
            rotate_left
            · simp only [Act.put, List.setIfInBounds_toArray, List.set_cons_zero, List.set_cons_succ, i64_w, i32_w]
              rfl
            refine pure_ (i := 18) (N := some 73) (v := ?_) (a' := ?_) (bl 19 20) rfl rfl (any_of HT_.out (by kernel_rfl)) (fun _ _ _ h => h) (Or.inl ⟨by rfl, ?_⟩) ?_ ?_
            rotate_left
            · intro w'
              go_simp
              with_reducible rfl
            rotate_left
            · simp only [Act.put, List.setIfInBounds_toArray, List.set_cons_zero, List.set_cons_succ, i64_w, i32_w]
              rfl
            refine last_ (i := 19) (N := none) (bl 20 20) rfl rfl (one_of HT_.out (by kernel_rfl)) (by decide) (fun K hK => ?_)
            refine skip_ (w1 := ?_) (by rfl) rfl ?_ ?_
            rotate_left
            · go_simp
              rfl
            refine hK.out _ _ ?_
            clear hK K
            refine done_ (done_of HT_.out (by kernel_rfl)) ?_
            have HG5 := Lib.hid (HG3.out.setV rfl htl (x := renV f.f3.length b x) HRX.out)
            have HXL2 : Hid ((xv.set t (renV f.f3.length b x)).length = f.f3.length) := Lib.hid (by rw [List.length_set]; exact HXL.out)
            have hjb : f.f3.length ≤ 1000000000 := HNV.out
            go_wp2_with (fail)
            go_roundg (gk - 1)
            case measure => have := HJ.out; omega
            case rel => exact ⟨j + 1, _, by omega, by go_num, Lib.hid (by have := HJ.out; omega), HXL2, HXN, HG5⟩
          · have hje : j = f.f3.length := by omega
            subst hje
            clear hjl hj HJ f3 hfb
            have HXE : Hid ((renF b f).f3 = xv) := Lib.hid (by
              have h := HXV.out
              rw [List.drop_length] at h
              exact h)
            generalize wr = wj at *
            generalize gk = gj at *
            obtain ⟨vV, hvV⟩ : ∃ vV : Value, vV = .slice (some ⟨gm, 0, none⟩) f.f3.length cm := ⟨_, rfl⟩
            have HVV := Lib.hid hvV
            rw [← hvV] at HG
            clear hvV HXV
            go_wp2_with (fail)
            go_loopg [12] f.f4.length (fun k v12 wv => ∃ (j : Nat) (AB : Option Addr) (cB : Nat), j ≤ f.f4.length ∧ v12 = .int .i64 j ∧ Hid (j + k = f.f4.length) ∧ Hid (Rg wi wv gf gg fc f.f0 f.f2 vP vV (.slice AB j cB) lp xv ((f.f4.take j).map (renB f.f3.length b))))
            case atStart => exact ⟨0, none, 0, by omega, rfl, Lib.hid (by omega), HG⟩
            case round =>
              clear HG
              obtain ⟨j, AB, cB, hj, rfl, HJ, HG⟩ := hrel
              have hfb := HG.out.fb
              rw [HFC.out] at hfb
              have f4 : wr.cell? ⟨gf, 4, none⟩ = some (.slice A4 f.f4.length c4) := (blk_cell hfb 4).trans rfl
              by_cases hjl : j < f.f4.length
              · obtain ⟨x, hx⟩ : ∃ x, x = f.f4[j] := ⟨_, rfl⟩
                have hxr : rd_T46 f.f4 (j : Int) = x := by unfold rd_T46; rw [Int.toNat_natCast, List.getD_eq_getElem?_getD, List.getElem?_eq_getElem hjl, hx]; rfl
                have hxm : x ∈ f.f4 := by rw [hx]; exact List.getElem_mem hjl
                have hxl := HLF.out.q x hxm
                obtain ⟨n0, n1, n2⟩ := HNF.out.bl x hxm
                have HX2 := Lib.hid hxl.2.2.1
                have HX3 := Lib.hid hxl.2.2.2
                obtain ⟨tv, htv⟩ : ∃ tv, tv = turnI f.f3.length b x.f2.f1 := ⟨_, rfl⟩
                have HTU : Hid (∀ W : World, Calls Try.prog 31 #[.int .i64 x.f2.f1, .int .i64 (f.f3.length : Int), .int .i64 (b : Int)] W fun e w' => e = .returned (.int .i64 tv) ∧ Hid (Below W.heap.size W w')) := Lib.hid (fun W => by rw [htv]; exact turned_at HNV.out HBY.out n2 W)
                have HXT : Hid ((f.f4.take (j + 1)).map (renB f.f3.length b) = (f.f4.take j).map (renB f.f3.length b) ++ [(⟨x.f0.map (turnI f.f3.length b), x.f1.map (turnI f.f3.length b), ⟨x.f2.f0, tv, x.f2.f2⟩, x.f3⟩ : S46)]) := Lib.hid (by rw [htv, hx, List.take_add_one, List.getElem?_eq_getElem hjl, List.map_append]; rfl)
                have HLEN : Hid (((f.f4.take j).map (renB f.f3.length b) ++ [(⟨x.f0.map (turnI f.f3.length b), x.f1.map (turnI f.f3.length b), ⟨x.f2.f0, tv, x.f2.f2⟩, x.f3⟩ : S46)]).length = j + 1) := Lib.hid (by simp; omega)
                have HBD : Hid ((((f.f4.take j).map (renB f.f3.length b)).length + 1) * 112 ≤ 140737488355328) := Lib.hid (by have := HLF.out.b; simp; omega)
                obtain ⟨ad4, A50, c50, A51, c51, A54, c54, A55, c55, eA4, x0, x1, x2, x3, x4, x5, l50, i50, l51, i51, l54, i54, l55, i55⟩ := at_T46 (Kd.C_below I4.out HG.out.below) (j : Int) (by omega) (by omega)
                rw [hxr] at x0 x1 x2 x3 x4 x5 l50 i50 l51 i51 i54 i55
                simp only [Int.toNat_natCast] at x0 x1 x2 x3 x4 x5
                have I50 := Lib.hid i50
                have I51 := Lib.hid i51
                have I54 := Lib.hid i54
                have I55 := Lib.hid i55
                have HO0 : Hid (∀ W : World, (Kd.int .i64).C W A50 x.f0.length x.f0 → Calls Try.prog 30 #[.slice A50 x.f0.length c50, .int .i64 (f.f3.length : Int), .int .i64 (b : Int)] W fun e w' => ∃ A' c', e = .returned (.slice A' x.f0.length c') ∧ Hid ((Kd.int .i64).R 3 w' W.heap.size (fun _ => True) (.slice A' x.f0.length c') (x.f0.map (turnI f.f3.length b))) ∧ Hid (Below W.heap.size W w')) := Lib.hid (fun W hW =>
                  others_any HNV.out HBY.out x.f0 hxl.1 (fun y hy => (inB_iff (List.all_eq_true.1 n0 y hy)).2) A50 c50 W hW l50)
                have HO1 : Hid (∀ W : World, (Kd.int .i64).C W A51 x.f1.length x.f1 → Calls Try.prog 30 #[.slice A51 x.f1.length c51, .int .i64 (f.f3.length : Int), .int .i64 (b : Int)] W fun e w' => ∃ A' c', e = .returned (.slice A' x.f1.length c') ∧ Hid ((Kd.int .i64).R 3 w' W.heap.size (fun _ => True) (.slice A' x.f1.length c') (x.f1.map (turnI f.f3.length b))) ∧ Hid (Below W.heap.size W w')) := Lib.hid (fun W hW =>
                  others_any HNV.out HBY.out x.f1 hxl.2.1 (fun y hy => (inB_iff (List.all_eq_true.1 n1 y hy)).2) A51 c51 W hW l51)
                subst eA4
                clear l50 l51 l54 l55 i50 i51 i54 i55 hxr hx hfb hxm hxl n0 n1 n2 htv
                go_upto_region 17 with (fail)
                obtain ⟨wa, hwa⟩ : ∃ wa, wa = wr.alloc (.cells #[.slice A50 x.f0.length c50, .slice A51 x.f1.length c51, .int .i64 x.f2.f0, .int .i64 x.f2.f1, .slice A54 x.f2.f2.length c54, .slice A55 x.f3.length c55] 46) := ⟨_, rfl⟩
                obtain ⟨gv, hgv⟩ : ∃ gv, gv = wr.heap.size := ⟨_, rfl⟩
                have hBa : Below wr.heap.size wr wa := by rw [hwa]; exact below_alloc (Below.refl _ _) _
                have hFa : wa.heap[gv]? = some (.cells #[.slice A50 x.f0.length c50, .slice A51 x.f1.length c51, .int .i64 x.f2.f0, .int .i64 x.f2.f1, .slice A54 x.f2.f2.length c54, .slice A55 x.f3.length c55] 46 (0, 0)) := by rw [hwa, hgv]; exact blk_new wr _
                rw [← hgv, ← hwa]
                have HGa := Lib.hid (HG.out.then_ hBa)
                have HFa := Lib.hid hFa
                have HC0 := Lib.hid (Kd.C_below I50.out hBa)
                have HC1 := Lib.hid (Kd.C_below I51.out hBa)
                have HC2 := Lib.hid (Kd.C_below I54.out hBa)
                have HC3 := Lib.hid (Kd.C_below I55.out hBa)
                have HBZ := Lib.hid HGa.out.below.size
                have y : wa.cell? ⟨gv, 2, none⟩ = some (.int .i64 x.f2.f0) ∧ wa.cell? ⟨gv, 3, none⟩ = some (.int .i64 x.f2.f1) ∧ wa.cell? ⟨gv, 4, none⟩ = some (.slice A54 x.f2.f2.length c54) := ⟨(blk_cell hFa 2).trans rfl, (blk_cell hFa 3).trans rfl, (blk_cell hFa 4).trans rfl⟩
                have HV1 := Lib.hid (Nat.ne_of_lt (blk_lt HFa.out))
                have HGV : Hid (wr.heap.size ≤ gv) := Lib.hid (by omega)
                clear hwa hgv hBa hFa f4 x0 x1 x2 x3 x4 x5
                go_cut [14] (fun v wx => ∃ (gt cT : Nat) (AT : Option Addr), v = .pointer (some ⟨gt, 0, none⟩) ∧ Hid (Below wa.heap.size wa wx) ∧ Hid (wx.heap[gt]? = some (.cells #[.int .i64 x.f2.f0, .int .i64 tv, .slice AT x.f2.f2.length cT] 44 (0, 0))) ∧ Hid ((Kd.int .i64).R 3 wx wi.heap.size (fun _ => True) (.slice AT x.f2.f2.length cT) x.f2.f2))
                case first =>
                  go_region_held3 (fun w' => w'.cell? ⟨gv, 2, none⟩ = some (.int .i64 x.f2.f0) ∧ w'.cell? ⟨gv, 3, none⟩ = some (.int .i64 x.f2.f1) ∧ w'.cell? ⟨gv, 4, none⟩ = some (.slice A54 x.f2.f2.length c54)) (first | with_reducible exact y | with_reducible exact z2 | with_reducible exact z | with_reducible exact S3_D y | with_reducible exact S3_D (S3_O y _) | with_reducible exact S3_O z2 _ | with_reducible exact S3_O z _ | with_reducible exact S3_F3 z2 HV1.out | with_reducible exact S3_F3 z2 HV2.out | fail) ((first | (go_at_call 31; with_reducible refine Calls.mono (HTU.out _) ?_; rintro e w2 ⟨rfl, HB2⟩; (first | (have hq := unalloc HB2.out; have HB3 := Lib.hid hq.1; have HT1 := Lib.hid hq.2; clear hq) | have HB3 := Lib.hid (undrew HB2.out)); have z := S3_B HB3.out y; have HN2 := Lib.hid (Kd.C_below HC2.out HB3.out); have HV2 := Lib.hid (Nat.ne_of_lt (blk_lt (blkB HB3.out HFa.out)))) | (refine rows_at _ (by rfl) (.const (.slice none 0 0)) (.tmp 97) (by rfl) x.f2.f2 A54 c54 (by rfl) (by rfl) (by (repeat (first | exact HN2.out | (with_reducible refine Kd.C_alloc ?_ _)))) HX2.out ?_; intro AT cT w3 HR3 HB4; (first | (have hq := unallocW HB4.out; have HB5 := Lib.hid (below_then HB3.out HB3.out.size hq.1); obtain ⟨q0, q1, q2⟩ := S3_blk hq.2; obtain ⟨u0, u1, u2⟩ := S3_fz hq.2; have HTB := Lib.hid hq.2; have HRT := Lib.hid (Kd.R_lower HR3.out (Nat.le_trans HBZ.out (Nat.le_trans HB3.out.size (below_alloc (Below.refl w2.heap.size w2) _).size))); clear hq) | (have HB5 := Lib.hid (below_then HB3.out HB3.out.size HB4.out); have HRT := Lib.hid (Kd.R_lower HR3.out (Nat.le_trans HBZ.out HB3.out.size)); (first | (obtain ⟨q0, q1, q2⟩ := S3_blk (blkB HB4.out HT1.out); obtain ⟨u0, u1, u2⟩ := S3_fz (blkB HB4.out HT1.out); have HTA := Lib.hid (blkB HB4.out HT1.out)) | have HTZ := HRT))); have z2 := S3_B HB5.out y) | (go_at_call 31; refine stop_intro ?_)))
                  all_goals
                    go_wp2_with (fail)
                    go_meet
                  all_goals first
                    | (have hk := HTA.out; exact ⟨_, _, _, rfl, Lib.hid (below_set (below_set (below_set HB5.out (Nat.le_refl _)) (Nat.le_refl _)) (Nat.le_refl _)), Lib.hid ((blk_set ((blk_set ((blk_set hk 0 _).trans rfl) 1 _).trans rfl) 2 _).trans rfl), Lib.hid (Kd.R_set (Kd.R_set (Kd.R_set HRT.out hk (by decide) _ _) ((blk_set hk 0 _).trans rfl) (by decide) _ _) ((blk_set ((blk_set hk 0 _).trans rfl) 1 _).trans rfl) (by decide) _ _)⟩)
                    | (have hk := HTB.out; exact ⟨_, _, _, rfl, Lib.hid (below_set (below_set (below_set HB5.out HB3.out.size) HB3.out.size) HB3.out.size), Lib.hid ((blk_set ((blk_set ((blk_set hk 0 _).trans rfl) 1 _).trans rfl) 2 _).trans rfl), Lib.hid (Kd.R_set (Kd.R_set (Kd.R_set HRT.out hk (by decide) _ _) ((blk_set hk 0 _).trans rfl) (by decide) _ _) ((blk_set ((blk_set hk 0 _).trans rfl) 1 _).trans rfl) (by decide) _ _)⟩)
                    | (have hk := HTZ.out; exact ⟨_, _, _, rfl, Lib.hid (below_alloc HB5.out _), Lib.hid (blk_new _ _), Lib.hid (Kd.R_below HRT.out (below_alloc (Below.refl _ _) _))⟩)
                case rest =>
                  obtain ⟨gt, cT, AT, rfl, HBX, HTB, HRT⟩ := hcut
                  have hGc := HGa.out.then_ HBX.out
                  have hFc := blkB HBX.out HFa.out
                  have hzc : wi.heap.size ≤ wc.heap.size := hGc.below.size
                  have hrb : k46.R 46 wr wi.heap.size (fun _ => True) (.slice AB j cB) ((f.f4.take j).map (renB f.f3.length b)) := HG.out.rb
                  have HNV1 : Hid (some gv ≠ (Value.slice AB j cB).ownBlock) := Lib.hid (fun e => by have := Kd.R_lt hrb gv e.symm; have := HGV.out; omega)
                  have y : wc.cell? ⟨gv, 0, none⟩ = some (.slice A50 x.f0.length c50) ∧ wc.cell? ⟨gv, 1, none⟩ = some (.slice A51 x.f1.length c51) ∧ wc.cell? ⟨gv, 5, none⟩ = some (.slice A55 x.f3.length c55) ∧ wc.cell? ⟨gg, 4, none⟩ = some (.slice AB j cB) ∧ wc.cell? ⟨gt, 0, none⟩ = some (.int .i64 x.f2.f0) ∧ wc.cell? ⟨gt, 1, none⟩ = some (.int .i64 tv) ∧ wc.cell? ⟨gt, 2, none⟩ = some (.slice AT x.f2.f2.length cT) :=
                    ⟨(blk_cell hFc 0).trans rfl, (blk_cell hFc 1).trans rfl, (blk_cell hFc 5).trans rfl, (blk_cell hGc.gb 4).trans rfl, (blk_cell HTB.out 0).trans rfl, (blk_cell HTB.out 1).trans rfl, (blk_cell HTB.out 2).trans rfl⟩
                  have HGc := Lib.hid hGc
                  have HFc := Lib.hid hFc
                  have HZC := Lib.hid hzc
                  have HD0 := Lib.hid (Kd.C_below HC0.out HBX.out)
                  have HD1 := Lib.hid (Kd.C_below HC1.out HBX.out)
                  have HD3 := Lib.hid (Kd.C_below HC3.out HBX.out)
                  have h3846 : (38 : Nat) ≠ 46 := by decide
                  have h4446 : (44 : Nat) ≠ 46 := by decide
                  have HE1 := Lib.hid h3846
                  have HE2 := Lib.hid h4446
                  clear hGc hFc hzc hrb h3846 h4446 HBX HFa HGa HC0 HC1 HC2 HC3 HV1
                  go_wp2_with (fail)
                  refine start_ (n := 21) (S := fun w' => w'.cell? ⟨gv, 0, none⟩ = some (.slice A50 x.f0.length c50) ∧ w'.cell? ⟨gv, 1, none⟩ = some (.slice A51 x.f1.length c51) ∧ w'.cell? ⟨gv, 5, none⟩ = some (.slice A55 x.f3.length c55) ∧ w'.cell? ⟨gg, 4, none⟩ = some (.slice AB j cB) ∧ w'.cell? ⟨gt, 0, none⟩ = some (.int .i64 x.f2.f0) ∧ w'.cell? ⟨gt, 1, none⟩ = some (.int .i64 tv) ∧ w'.cell? ⟨gt, 2, none⟩ = some (.slice AT x.f2.f2.length cT)) (ds := [20]) (bl 0 21) (by kernel_rfl) rfl rfl (S7_D y) (fun hHeld => ?_)
                  refine with_tabW renamed_tab18 renamed_bits18 (fun HT_ HW_ => ?_)
                  refine pure_ (i := 0) (N := some 100) (v := ?_) (a' := ?_) (bl 1 21) rfl rfl (any_of HT_.out (by kernel_rfl)) (fun _ _ _ h => h) (Or.inl ⟨by rfl, ?_⟩) ?_ ?_
                  rotate_left
                  · intro w'
                    go_simp
                    with_reducible rfl
                  rotate_left
                  · simp only [Act.put, List.setIfInBounds_toArray, List.set_cons_zero, List.set_cons_succ, i64_w, i32_w]
                    rfl
                  refine pure_ (i := 2) (N := some 102) (v := ?_) (a' := ?_) #[true, false, true, false, false, false, false, false, false, false, false, false, false, false, false, false, false, false, false, false, false] rfl rfl (any_of HT_.out (by kernel_rfl)) (fun _ _ _ h => h) (Or.inl ⟨by rfl, ?_⟩) ?_ ?_
                  rotate_left
                  · intro w'
                    go_simp
                    with_reducible rfl
                  rotate_left
                  · simp only [Act.put, List.setIfInBounds_toArray, List.set_cons_zero, List.set_cons_succ, i64_w, i32_w]
                    rfl
                  refine pure_ (i := 4) (N := some 104) (v := ?_) (a' := ?_) #[true, false, true, false, true, false, false, false, false, false, false, false, false, false, false, false, false, false, false, false, false] rfl rfl (any_of HT_.out (by kernel_rfl)) (fun _ _ _ h => h) (Or.inl ⟨by rfl, ?_⟩) ?_ ?_
                  rotate_left
                  · intro w'
                    go_simp
                    with_reducible rfl
                  rotate_left
                  · simp only [Act.put, List.setIfInBounds_toArray, List.set_cons_zero, List.set_cons_succ, i64_w, i32_w]
                    rfl
                  refine pure_ (i := 5) (N := some 105) (v := ?_) (a' := ?_) #[true, false, true, false, true, true, false, false, false, false, false, false, false, false, false, false, false, false, false, false, false] rfl rfl (any_of HT_.out (by kernel_rfl)) (fun _ _ _ h => h) (Or.inl ⟨by rfl, ?_⟩) ?_ ?_
                  rotate_left
                  · intro w'
                    go_simp
                    with_reducible rfl
                  rotate_left
                  · simp only [Act.put, List.setIfInBounds_toArray, List.set_cons_zero, List.set_cons_succ, i64_w, i32_w]
                    rfl
                  refine pure_ (i := 7) (N := some 107) (v := ?_) (a' := ?_) #[true, false, true, false, true, true, false, true, false, false, false, false, false, false, false, false, false, false, false, false, false] rfl rfl (any_of HT_.out (by kernel_rfl)) (fun _ _ _ h => h) (Or.inl ⟨by rfl, ?_⟩) ?_ ?_
                  rotate_left
                  · intro w'
                    go_simp
                    with_reducible rfl
                  rotate_left
                  · simp only [Act.put, List.setIfInBounds_toArray, List.set_cons_zero, List.set_cons_succ, i64_w, i32_w]
                    rfl
                  refine pure_ (i := 9) (N := some 109) (v := ?_) (a' := ?_) #[true, false, true, false, true, true, false, true, false, true, false, false, false, false, false, false, false, false, false, false, false] rfl rfl (any_of HT_.out (by kernel_rfl)) (fun _ _ _ h => h) (Or.inl ⟨by rfl, ?_⟩) ?_ ?_
                  rotate_left
                  · intro w'
                    go_simp
                    with_reducible rfl
                  rotate_left
                  · simp only [Act.put, List.setIfInBounds_toArray, List.set_cons_zero, List.set_cons_succ, i64_w, i32_w]
                    rfl
                  refine pure_ (i := 10) (N := some 110) (v := ?_) (a' := ?_) #[true, false, true, false, true, true, false, true, false, true, true, false, false, false, false, false, false, false, false, false, false] rfl rfl (any_of HT_.out (by kernel_rfl)) (fun _ _ _ h => h) (Or.inl ⟨by rfl, ?_⟩) ?_ ?_
                  rotate_left
                  · intro w'
                    go_simp
                    with_reducible rfl
                  rotate_left
                  · simp only [Act.put, List.setIfInBounds_toArray, List.set_cons_zero, List.set_cons_succ, i64_w, i32_w]
                    rfl
                  refine pure_ (i := 12) (N := some 112) (v := ?_) (a' := ?_) #[true, false, true, false, true, true, false, true, false, true, true, false, true, false, false, false, false, false, false, false, false] rfl rfl (any_of HT_.out (by kernel_rfl)) (fun _ _ _ h => h) (Or.inl ⟨by rfl, ?_⟩) ?_ ?_
                  rotate_left
                  · intro w'
                    go_simp
                    with_reducible rfl
                  rotate_left
                  · simp only [Act.put, List.setIfInBounds_toArray, List.set_cons_zero, List.set_cons_succ, i64_w, i32_w]
                    rfl
                  refine take_ (i := 1) (N := some 101) (v := ?_) (a' := ?_) #[true, true, true, false, true, true, false, true, false, true, true, false, true, false, false, false, false, false, false, false, false] rfl rfl (take_ofW HT_.out HW_.out (by kernel_rfl)) (fun _ _ _ h => h) (Or.inl ⟨by rfl, ?_⟩) hHeld ?_ ?_
                  rotate_left
                  · rintro w' ⟨s0, s1, s2, s3, s4, s5, s6⟩
                    go_simp
                    with_reducible rfl
                  rotate_left
                  · simp only [Act.put, List.setIfInBounds_toArray, List.set_cons_zero, List.set_cons_succ, i64_w, i32_w]
                    rfl
                  refine take_ (i := 3) (N := some 103) (v := ?_) (a' := ?_) #[true, true, true, true, true, true, false, true, false, true, true, false, true, false, false, false, false, false, false, false, false] rfl rfl (take_ofW HT_.out HW_.out (by kernel_rfl)) (fun _ _ _ h => h) (Or.inl ⟨by rfl, ?_⟩) hHeld ?_ ?_
                  rotate_left
                  · rintro w' ⟨s0, s1, s2, s3, s4, s5, s6⟩
                    go_simp
                    with_reducible rfl
                  rotate_left
                  · simp only [Act.put, List.setIfInBounds_toArray, List.set_cons_zero, List.set_cons_succ, i64_w, i32_w]
                    rfl
                  refine take_ (i := 8) (N := some 108) (v := ?_) (a' := ?_) #[true, true, true, true, true, true, false, true, true, true, true, false, true, false, false, false, false, false, false, false, false] rfl rfl (take_ofW HT_.out HW_.out (by kernel_rfl)) (fun _ _ _ h => h) (Or.inl ⟨by rfl, ?_⟩) hHeld ?_ ?_
                  rotate_left
                  · rintro w' ⟨s0, s1, s2, s3, s4, s5, s6⟩
                    go_simp
                    with_reducible rfl
                  rotate_left
                  · simp only [Act.put, List.setIfInBounds_toArray, List.set_cons_zero, List.set_cons_succ, i64_w, i32_w]
                    rfl
                  refine take_ (i := 13) (N := some 113) (v := ?_) (a' := ?_) #[true, true, true, true, true, true, false, true, true, true, true, false, true, true, false, false, false, false, false, false, false] rfl rfl (take_ofW HT_.out HW_.out (by kernel_rfl)) (fun _ _ _ h => h) (Or.inl ⟨by rfl, ?_⟩) hHeld ?_ ?_
                  rotate_left
                  · rintro w' ⟨s0, s1, s2, s3, s4, s5, s6⟩
                    go_simp
                    with_reducible rfl
                  rotate_left
                  · simp only [Act.put, List.setIfInBounds_toArray, List.set_cons_zero, List.set_cons_succ, i64_w, i32_w]
                    rfl
                  refine take_ (i := 15) (N := some 115) (v := ?_) (a' := ?_) #[true, true, true, true, true, true, false, true, true, true, true, false, true, true, false, true, false, false, false, false, false] rfl rfl (take_ofW HT_.out HW_.out (by kernel_rfl)) (fun _ _ _ h => h) (Or.inl ⟨by rfl, ?_⟩) hHeld ?_ ?_
                  rotate_left
                  · rintro w' ⟨s0, s1, s2, s3, s4, s5, s6⟩
                    go_simp
                    with_reducible rfl
                  rotate_left
                  · simp only [Act.put, List.setIfInBounds_toArray, List.set_cons_zero, List.set_cons_succ, i64_w, i32_w]
                    rfl
                  refine one_ (i := 6) (N := some 106) #[true, true, true, true, true, true, true, true, true, true, true, false, true, true, false, true, false, false, false, false, false] rfl rfl (one_of HT_.out (by kernel_rfl)) (by decide) (fun K hK => ?_)
                  refine goes_ Try.func30 (by kernel_rfl) rfl #[.slice A50 x.f0.length c50, .int .i64 (f.f3.length : Int), .int .i64 (b : Int)] (by rfl) rfl rfl (by (try simp only [List.map_toArray, List.map_cons, List.map_nil]); first | done | rfl | (simp only [List.length_drop, List.length_take]; rfl)) ?_
                  with_reducible refine Calls.mono (HO0.out _ ?_) ?_
                  · (repeat (first | exact HD0.out | (with_reducible refine Kd.C_drewN ?_ _) | (with_reducible refine Kd.C_drew ?_)))
                  rintro e w2 ⟨A0, c0, rfl, HR0, HQ1⟩
                  refine ⟨_, rfl, ?_⟩
                  have HB1 := Lib.hid (undrew HQ1.out)
                  have z := S7_B HB1.out y
                  refine hK.out _ _ (z) (fun hHeld => ?_)
                  clear hK K
                  refine norm_ (a' := ?_) ?_ ?_
                  rotate_left
                  · show Act.put _ (some 106) _ = _
                    simp only [Act.put, List.setIfInBounds_toArray, List.set_cons_zero, List.set_cons_succ, i64_w, i32_w]
                    rfl
                  refine one_ (i := 11) (N := some 111) #[true, true, true, true, true, true, true, true, true, true, true, true, true, true, false, true, false, false, false, false, false] rfl rfl (one_of HT_.out (by kernel_rfl)) (by decide) (fun K hK => ?_)
                  refine goes_ Try.func30 (by kernel_rfl) rfl #[.slice A51 x.f1.length c51, .int .i64 (f.f3.length : Int), .int .i64 (b : Int)] (by rfl) rfl rfl (by (try simp only [List.map_toArray, List.map_cons, List.map_nil]); first | done | rfl | (simp only [List.length_drop, List.length_take]; rfl)) ?_
                  with_reducible refine Calls.mono (HO1.out _ ?_) ?_
                  · exact Kd.C_below HD1.out HB1.out
                  rintro e w3 ⟨A1_, c1_, rfl, HR1, HQ2⟩
                  refine ⟨_, rfl, ?_⟩
                  have HB2 := Lib.hid (below_then HB1.out HB1.out.size HQ2.out)
                  have z2 := S7_B HB2.out y
                  refine hK.out _ _ (z2) (fun hHeld => ?_)
                  clear hK K
                  refine norm_ (a' := ?_) ?_ ?_
                  rotate_left
                  · show Act.put _ (some 111) _ = _
                    simp only [Act.put, List.setIfInBounds_toArray, List.set_cons_zero, List.set_cons_succ, i64_w, i32_w]
                    rfl
                  refine one_ (i := 14) (N := some 114) (bl 16 21) rfl rfl (one_of HT_.out (by kernel_rfl)) (by decide) (fun K hK => ?_)
                  refine rows_at _ (by rfl) (.const (.slice none 0 0)) (.tmp 113) (by rfl) x.f3 A55 c55 (by rfl) (by rfl) (Kd.C_below HD3.out HB2.out) HX3.out ?_
                  intro A2_ c2_ w4 HR2 HQ3
                  have HB4 := Lib.hid (below_then HB2.out HB2.out.size HQ3.out)
                  have z3 := S7_B HB4.out y
                  have HG4 := Lib.hid (HGc.out.then_ HB4.out)
                  have HF4 := Lib.hid (blkB HB4.out HFc.out)
                  have HT4 := Lib.hid (blkB HB4.out HTB.out)
                  have hzz := HZC.out
                  have HM4 : Hid (k46.M w4 wi.heap.size (fun _ => True) (⟨x.f0.map (turnI f.f3.length b), x.f1.map (turnI f.f3.length b), ⟨x.f2.f0, tv, x.f2.f2⟩, x.f3⟩ : S46) [.slice A0 x.f0.length c0, .slice A1_ x.f1.length c1_, .int .i64 x.f2.f0, .int .i64 tv, .slice AT x.f2.f2.length cT, .slice A2_ x.f3.length c2_]) := Lib.hid (k46_mkM w4 _ _ (⟨x.f0.map (turnI f.f3.length b), x.f1.map (turnI f.f3.length b), ⟨x.f2.f0, tv, x.f2.f2⟩, x.f3⟩ : S46) (Kd.R_lower (Kd.R_below (Kd.R_below HR0.out HQ2.out) HQ3.out) hzz) (Kd.R_lower (Kd.R_below HR1.out HQ3.out) (Nat.le_trans hzz HB1.out.size)) (Kd.R_below HRT.out HB4.out) (Kd.R_lower HR2.out (Nat.le_trans hzz HB2.out.size)))
                  refine hK.out _ _ (z3) (fun hHeld => ?_)
                  clear hK K
                  refine norm_ (a' := ?_) ?_ ?_
                  rotate_left
                  · show Act.put _ (some 114) _ = _
                    simp only [Act.put, List.setIfInBounds_toArray, List.set_cons_zero, List.set_cons_succ, i64_w, i32_w]
                    rfl
                  refine pure_ (i := 16) (N := some 116) (v := ?_) (a' := ?_) (bl 17 21) rfl rfl (any_of HT_.out (by kernel_rfl)) (fun _ _ _ h => h) (Or.inl ⟨by rfl, ?_⟩) ?_ ?_
                  rotate_left
                  · intro w'
                    go_simp
                    with_reducible rfl
                  rotate_left
                  · simp only [Act.put, List.setIfInBounds_toArray, List.set_cons_zero, List.set_cons_succ, i64_w, i32_w]
                    rfl
                  refine one_ (i := 17) (N := some 117) (bl 18 21) rfl rfl (one_of HT_.out (by kernel_rfl)) (by decide) (fun K hK => ?_)
                  refine value_ (w1 := ?_) (v := ?_) (by rfl) rfl ?_ ?_
                  rotate_left 2
                  · go_simp
                    constructor
                    · rfl
                    · rfl
                  refine hK.out _ _ (S7_O z3 _) (fun hHeld => ?_)
                  clear hK K
                  refine norm_ (a' := ?_) ?_ ?_
                  rotate_left
                  · show Act.put _ (some 117) _ = _
                    simp only [Act.put, List.setIfInBounds_toArray, List.set_cons_zero, List.set_cons_succ, i64_w, i32_w]
                    rfl
                  refine one_ (i := 18) (N := some 118) (bl 19 21) rfl rfl (one_of HT_.out (by kernel_rfl)) (by decide) (fun K hK => ?_)
                  refine app_at k46 w4 wi.heap.size (by rfl) (.tmp 101) (.tmp 117) 36 46 (.agg #[.slice none 0 0, .slice none 0 0, .int .i64 0, .int .i64 0, .slice none 0 0, .slice none 0 0]) 112 (by rfl) Try.underlying36 info46 (by rfl) (by decide) (by decide) (.slice AB j cB) ((f.f4.take j).map (renB f.f3.length b)) (⟨x.f0.map (turnI f.f3.length b), x.f1.map (turnI f.f3.length b), ⟨x.f2.f0, tv, x.f2.f2⟩, x.f3⟩ : S46) [.slice A0 x.f0.length c0, .slice A1_ x.f1.length c1_, .int .i64 x.f2.f0, .int .i64 tv, .slice AT x.f2.f2.length cT, .slice A2_ x.f3.length c2_] (by rfl) (by rfl) (by rfl) HM4.out (by decide) HG4.out.rb HG4.out.below.size HBD.out ?_
                  intro v1 w6 hR6 hg6
                  have e6 := Kd.R_slice hR6
                  rw [HLEN.out] at e6
                  obtain ⟨A7, c7, e7⟩ := e6
                  subst e7
                  have hq4 := grown_ty hg6 (Kd.R_typed HG4.out.rb) HG4.out.gb HE1.out
                  have c44 := (S5_blk hq4).2.2.2.2
                  have f44 := blk_frozen hq4 4
                  have hv4 := (hg6.block gv (blk_lt HF4.out) HNV1.out).trans HF4.out
                  have ht4 := grown_ty hg6 (Kd.R_typed HG4.out.rb) HT4.out HE2.out
                  have z5 : w6.cell? ⟨gv, 0, none⟩ = some (.slice A50 x.f0.length c50) ∧ w6.cell? ⟨gv, 1, none⟩ = some (.slice A51 x.f1.length c51) ∧ w6.cell? ⟨gv, 5, none⟩ = some (.slice A55 x.f3.length c55) ∧ w6.cell? ⟨gg, 4, none⟩ = some (.slice AB j cB) ∧ w6.cell? ⟨gt, 0, none⟩ = some (.int .i64 x.f2.f0) ∧ w6.cell? ⟨gt, 1, none⟩ = some (.int .i64 tv) ∧ w6.cell? ⟨gt, 2, none⟩ = some (.slice AT x.f2.f2.length cT) := ⟨(blk_cell hv4 0).trans rfl, (blk_cell hv4 1).trans rfl, (blk_cell hv4 5).trans rfl, c44, (blk_cell ht4 0).trans rfl, (blk_cell ht4 1).trans rfl, (blk_cell ht4 2).trans rfl⟩
                  have HR6 := Lib.hid hR6
                  have HG6 := Lib.hid hg6
                  clear hR6 hg6 hq4 hv4 ht4
                  refine hK.out _ _ (z5) (fun hHeld => ?_)
                  clear hK K
                  refine norm_ (a' := ?_) ?_ ?_
                  rotate_left
                  · show Act.put _ (some 118) _ = _
                    simp only [Act.put, List.setIfInBounds_toArray, List.set_cons_zero, List.set_cons_succ, i64_w, i32_w]
                    rfl
                  refine pure_ (i := 19) (N := some 119) (v := ?_) (a' := ?_) (bl 20 21) rfl rfl (any_of HT_.out (by kernel_rfl)) (fun _ _ _ h => h) (Or.inl ⟨by rfl, ?_⟩) ?_ ?_
                  rotate_left
                  · intro w'
                    go_simp
                    with_reducible rfl
                  rotate_left
                  · simp only [Act.put, List.setIfInBounds_toArray, List.set_cons_zero, List.set_cons_succ, i64_w, i32_w]
                    rfl
                  refine last_ (i := 20) (N := none) (bl 21 21) rfl rfl (one_of HT_.out (by kernel_rfl)) (by decide) (fun K hK => ?_)
                  refine skip_ (w1 := ?_) (by rfl) rfl ?_ ?_
                  rotate_left
                  · go_simp
                    rfl
                  refine hK.out _ _ ?_
                  clear hK K
                  refine done_ (done_of HT_.out (by kernel_rfl)) ?_
                  have HG7 : Hid (Rg wi (w6.setCell ⟨gg, 4, none⟩ (.slice A7 (j + 1) c7)) gf gg fc f.f0 f.f2 vP vV (.slice A7 (j + 1) c7) lp xv ((f.f4.take (j + 1)).map (renB f.f3.length b))) := Lib.hid (by
                    rw [HXT.out]
                    exact HG4.out.newB HG6.out HR6.out)
                  have hjb : f.f4.length ≤ 1000000000 := HLF.out.b
                  go_wp2_with (fail)
                  go_roundg (gk - 1)
                  case measure => have := HJ.out; omega
                  case rel => exact ⟨j + 1, A7, c7, by omega, by go_num, Lib.hid (by have := HJ.out; omega), HG7⟩
              · have hje : j = f.f4.length := by omega
                subst hje
                clear hjl hj HJ hfb
                rw [HVP.out, HVV.out, List.take_length] at HG
                have HLd := Lib.hid (HLN.out.then_ HG.out.below)
                have HLEN : Hid (((ps.take i).map (renF b) ++ [renF b f]).length = i + 1) := Lib.hid (by simp; omega)
                have HBD : Hid ((((ps.take i).map (renF b)).length + 1) * 96 ≤ 140737488355328) := Lib.hid (by have := HN.out; simp; omega)
                have HZW := Lib.hid HLN.out.below.size
                have HM : Hid (k38.M wr w.heap.size (fun _ => True) (renF b f) [.string f.f0, .slice AP f.f1.length cP, .int .i64 f.f2, .slice (some ⟨gm, 0, none⟩) f.f3.length cm, .slice AB f.f4.length cB]) := Lib.hid (k38_mkM wr _ _ (renF b f) (v1 := .slice AP f.f1.length cP) (by have h := Kd.R_lower HG.out.rp HZW.out; rw [HLP.out] at h; exact h) (v3 := .slice (some ⟨gm, 0, none⟩) f.f3.length cm) (by have h := Kd.R_lower HG.out.rv HZW.out; rw [← HXE.out] at h; exact h) (v4 := .slice AB f.f4.length cB) (Kd.R_lower HG.out.rb HZW.out))
                obtain ⟨y0, y1, y2, y3, y4⟩ := S5_blk HG.out.gb
                have c0 : wr.cell? ⟨gC, 0, none⟩ = some (.slice AF i cF) := (blk_cell HLd.out.cb 0).trans rfl
                have h2438 : (24 : Nat) ≠ 38 := by decide
                have HE := Lib.hid h2438
                clear h2438
                go_wp2_with (at_builtin; refine stop_intro ?_)
                unfold Stop
                refine Kd.R_append k38 (w0 := w) w.heap.size rfl (.tmp 121) (.tmp 123) 22 38 (.agg #[(.string ⟨#[]⟩), (.slice none 0 0), (.int .i64 0), (.slice none 0 0), (.slice none 0 0)]) 96 rfl Try.underlying22 info38 rfl (by decide) (by decide) (.slice AF i cF) ((ps.take i).map (renF b)) (renF b f) [.string f.f0, .slice AP f.f1.length cP, .int .i64 f.f2, .slice (some ⟨gm, 0, none⟩) f.f3.length cm, .slice AB f.f4.length cB] (fun _ => True) (fun k => True ∧ some k ≠ (Value.slice AF i cF).ownBlock) rfl rfl (M_apart HM.out (Kd.R_typed HLd.out.rf) (by decide)) (fun _ h => h) (fun _ _ => trivial) HLd.out.rf HLd.out.below HLd.out.below.size HBD.out ?_
                intro v1 w4 hR4 hb4 hg4 hn4
                have e6 := Kd.R_slice hR4
                rw [HLEN.out] at e6
                obtain ⟨A9, c9, e7⟩ := e6
                subst e7
                have hc4 := grown_ty hg4 (Kd.R_typed HLd.out.rf) HLd.out.cb HE.out
                have c43 := (S2_blk hc4).1
                have f43 := blk_frozen hc4 0
                have HL9 : Hid (Rn w (w4.setCell ⟨gC, 0, none⟩ (.slice A9 (i + 1) c9)) gS gR gC (some ad) ps.length c m (.slice A9 (i + 1) c9) ((ps.take (i + 1)).map (renF b))) := Lib.hid (by
                  rw [HTK.out]
                  exact HLd.out.app hR4 hg4)
                clear hR4 hb4 hg4 hn4 hc4
                have hjb : ps.length ≤ 1000000000 := HN.out
                go_wp2_with (fail)
                go_roundg (go - 1)
                case measure => have := HI.out; omega
                case rel => exact ⟨i + 1, A9, c9, by omega, by go_num, Lib.hid (by have := HI.out; omega), HL9⟩
    · have hie : i = ps.length := by omega
      subst hie
      clear hlt hi HI
      rw [List.take_length] at HLN
      obtain ⟨c0, cc1⟩ := S2_blk HLN.out.cb
      obtain ⟨r0, r1⟩ := S2_blk HLN.out.rb
      obtain ⟨f0, f1⟩ := S2_fz HLN.out.rb
      have HRS := Lib.hid HLN.out.res
      have HRB := Lib.hid ((blk_set ((blk_set HLN.out.rb 0 (.slice AF ps.length cF)).trans rfl) 1 (.int .i64 m)).trans rfl)
      go_wp2_with (fail)
      refine bodyPost_ret (results_cell_row rfl _ _ gR 24 #[.slice AF ps.length cF, .int .i64 m] (0, 0) _ rfl HRB.out Try.underlying24 rfl (by kernel_rfl)) rfl ?_
      exact ⟨_, _, rfl, Lib.hid HRS.out.2, Lib.hid HRS.out.1⟩
end Go.Proofs.Ytgbeliajhccndaa
