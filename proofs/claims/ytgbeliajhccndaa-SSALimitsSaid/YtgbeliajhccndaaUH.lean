/- Chapter 9: the walk of SSALimits, its kinds 1 and 2. -/
import Derived.Test.YtgbeliajhccndaaUG
import Derived.Deep.RegionLaw
set_option linter.unusedVariables false
set_option linter.unusedSimpArgs false
namespace Go.Proofs.Ytgbeliajhccndaa
open Go.RowKit Go.Proofs.YtgbeliajhccndaaW.PrintWords Go.Proofs.YtgbeliajhccndaaW.PrintLast Go.Proofs.YtgbeliajhccndaaW.PrintMore PP

theorem info5 : (Try.prog.info? 5).map (fun i => (i.zero, i.size, i.bytes)) = some (some (.int .u8 0), 1, 1) := by kernel_rfl
theorem str_name {n : Nat} {xs : List Int} (hl : xs.length = n) (hx : ∀ j, j < n → xs.getD j 0 = ((xyB j).toNat : Int)) : strOfNums xs = nameL n := by
  have : xs = (List.range n).map (fun j => ((xyB j).toNat : Int)) := by
    apply List.ext_getElem
    · simp [hl]
    · intro i h1 h2
      have := hx i (by omega)
      rw [List.getD_eq_getElem?_getD, List.getElem?_eq_getElem h1] at this
      simpa using this
  rw [this]
  unfold strOfNums nameL
  simp
set_option maxRecDepth 100000 in
set_option maxHeartbeats 8000000 in
theorem limits_k2 (n : Nat) (w : World) (hn : n ≤ 300000) : Calls Try.prog 8 #[.int .i64 2, .int .i64 (n : Int)] w fun e w' => e = .returned (.bool true) ∧ Below w.heap.size w w' := by
  have HLV := Lib.hid alive_any
  have hmk := fun W => print_make (P := Try.prog) 52 5 .u8 1 Try.underlying52 info5 (by decide) n (by omega) W
  go_enter Try.func8, Try.ntmps8
  go_upto_region 23 with (first | (go_at_call 9; with_reducible refine Calls.mono (HLV.out _) ?_; rintro e w1 ⟨rfl, hb1⟩; have HB1 := Lib.hid hb1; clear hb1) | (go_at_call 9; refine stop_intro ?_))
  have hL0 := lim_init w1
  obtain ⟨wq, hwq⟩ : ∃ wq, wq = ((((w1.alloc (.cells #[.slice none 0 0, .slice none 0 0, .int .i64 3, .int .i64 (-1), .slice none 0 0, .slice none 0 0] 46)).alloc (.cells #[.slice none 0 0, .slice none 0 0, .int .i64 3, .int .i64 (-1), .slice none 0 0, .slice none 0 0] 46)).alloc (.cells #[.string ⟨#[109, 97, 105, 110]⟩, .slice none 0 0, .int .i64 0, .slice none 0 0, .slice (some ⟨w1.heap.size, 0, none⟩) 1 1, .string ⟨#[102]⟩, .slice none 0 0, .int .i64 0, .slice none 0 0, .slice (some ⟨w1.heap.size + 1, 0, none⟩) 1 1] 38)).alloc (.cells #[.slice (some ⟨w1.heap.size + 1 + 1, 0, none⟩) 2 2, .int .i64 0] 24)) := ⟨_, rfl⟩
  rw [← hwq] at hL0 ⊢
  clear hwq
  have HL0 := Lib.hid hL0
  clear hL0
  generalize w1.heap.size + 1 + 1 = gF at *
  generalize w1.heap.size + 1 = g1 at *
  obtain ⟨g0, hg0⟩ : ∃ g0, g0 = w1.heap.size := ⟨_, rfl⟩
  have HL0 : Hid (LmW w1 wq gF g0 g1 fN (.slice none 0 0) 0 (.slice none 0 0) (.slice none 0 0) (-1) [] [] []) := Lib.hid (by rw [hg0]; exact HL0.out)
  clear hg0
  go_upto_region 25 with (fail)
  have HO : Hid ((wq.alloc (.cells (madeCells #[.int .u8 0] n) 5)).ownsRow wq.heap.size 5 1 (.slice (some ⟨wq.heap.size, 0, none⟩) n n) n (nums .u8 (List.replicate n 0))) := Lib.hid (own_made wq wq.heap.size 5 .u8 n (Nat.le_refl _) (by omega))
  have HLa := Lib.hid (HL0.out.then_ (below_alloc (Below.refl _ _) (.cells (madeCells #[.int .u8 0] n) 5)))
  have HBQ := Lib.hid HL0.out.below.size
  clear hmk HL0
  generalize wq.heap.size = gb at *
  go_loopg [12] n (fun k v9 wr => ∃ (i : Nat) (xs : List Int), i ≤ n ∧ v9 = .int .i64 i ∧ Hid (i + k = n) ∧ Hid (xs.length = n ∧ ∀ j, j < i → xs.getD j 0 = ((xyB j).toNat : Int)) ∧ Hid (wr.ownsRow gb 5 1 (.slice (some ⟨gb, 0, none⟩) n n) n (nums .u8 xs)) ∧ Hid (LmW w1 wr gF g0 g1 fN (.slice none 0 0) 0 (.slice none 0 0) (.slice none 0 0) (-1) [] [] []))
  case atStart => exact ⟨0, _, by omega, rfl, Lib.hid (by omega), Lib.hid ⟨by simp, fun j hj => by omega⟩, HO, HLa⟩
  case round =>
    clear HO HLa
    obtain ⟨i, xs, hi, rfl, HI, HX, HO, HL⟩ := hrel
    by_cases hlt : i < n
    · obtain ⟨q1, f1⟩ := own_at HO.out (i : Int) (by omega) (by omega)
      rw [Int.toNat_natCast] at q1 f1
      have hm5 : (i : Int).tmod 5 = (i : Int) % 5 := Int.tmod_eq_emod_of_nonneg (by omega)
      have h5 : (i % 5 = 0 ∧ (i : Int) % 5 = 0) ∨ (i % 5 = 1 ∧ (i : Int) % 5 = 1) ∨ (i % 5 = 2 ∧ (i : Int) % 5 = 2) ∨ (i % 5 = 3 ∧ (i : Int) % 5 = 3) ∨ (i % 5 = 4 ∧ (i : Int) % 5 = 4) := by omega
      obtain ⟨x, hx⟩ : ∃ x : Int, x = ((xyB i).toNat : Int) := ⟨_, rfl⟩
      have HXX := Lib.hid hx
      have hst := own_store HO.out (i : Int) x
      rw [Int.toNat_natCast] at hst
      have HO2 := Lib.hid hst.1
      have HL2 := Lib.hid (HL.out.grown HO.out (by decide) HBQ.out hst.2)
      have HX2 : Hid ((xs.set i x).length = n ∧ ∀ j, j < i + 1 → (xs.set i x).getD j 0 = ((xyB j).toNat : Int)) := Lib.hid (by
        refine ⟨by rw [List.length_set]; exact HX.out.1, fun j hj => ?_⟩
        have hxl := HX.out.1
        rw [List.getD_eq_getElem?_getD, List.getElem?_set]
        by_cases e : i = j
        · subst e; rw [if_pos rfl, if_pos (by omega), HXX.out]; rfl
        · rw [if_neg e, ← List.getD_eq_getElem?_getD]; exact HX.out.2 j (by omega))
      clear hst
      rcases h5 with ⟨h5, h6⟩ | ⟨h5, h6⟩ | ⟨h5, h6⟩ | ⟨h5, h6⟩ | ⟨h5, h6⟩
      · obtain rfl : x = 120 := by rw [hx]; unfold xyB; simp [h5]
        clear hx
        go_wp2
        go_roundg (gk - 1)
        case measure => have := HI.out; omega
        case rel => exact ⟨i + 1, _, by omega, by go_num, Lib.hid (by have := HI.out; omega), HX2, HO2, HL2⟩
      · obtain rfl : x = 89 := by rw [hx]; unfold xyB; simp [h5]
        clear hx
        go_wp2
        go_roundg (gk - 1)
        case measure => have := HI.out; omega
        case rel => exact ⟨i + 1, _, by omega, by go_num, Lib.hid (by have := HI.out; omega), HX2, HO2, HL2⟩
      · obtain rfl : x = 95 := by rw [hx]; unfold xyB; simp [h5]
        clear hx
        go_wp2
        go_roundg (gk - 1)
        case measure => have := HI.out; omega
        case rel => exact ⟨i + 1, _, by omega, by go_num, Lib.hid (by have := HI.out; omega), HX2, HO2, HL2⟩
      · obtain rfl : x = 122 := by rw [hx]; unfold xyB; simp [h5]
        clear hx
        go_wp2
        go_roundg (gk - 1)
        case measure => have := HI.out; omega
        case rel => exact ⟨i + 1, _, by omega, by go_num, Lib.hid (by have := HI.out; omega), HX2, HO2, HL2⟩
      · obtain rfl : x = 57 := by rw [hx]; unfold xyB; simp [h5]
        clear hx
        go_wp2
        go_roundg (gk - 1)
        case measure => have := HI.out; omega
        case rel => exact ⟨i + 1, _, by omega, by go_num, Lib.hid (by have := HI.out; omega), HX2, HO2, HL2⟩
    · have hin : i = n := by omega
      subst hin
      have hcv := own_string (P := Try.prog) Try.underlying52 Try.underlying5 Try.underlying9 HO.out
      rw [str_name HX.out.1 HX.out.2] at hcv
      have q5 : wr.cell? ⟨gF, 5, none⟩ = some (.string fN) := (blk_cell HL.out.fb 5).trans rfl
      have f5 : wr.frozen? ⟨gF, 5, none⟩ = false := blk_frozen HL.out.fb 5
      have hz : (nameL i).size ≤ 3000000000000 := by
        have : (nameL i).size = i := by unfold nameL; simp [ByteArray.size]
        omega
      have HZ := Lib.hid hz
      obtain ⟨S, hS⟩ : ∃ S, nameL i = S := ⟨_, rfl⟩
      have hE := lim2_all i
      rw [hS] at hcv hE HZ
      have HE := Lib.hid hE
      clear hz hS hE
      go_upto_region 29 with (fail)
      obtain ⟨wa, hwa⟩ : ∃ wa, wa = wr.setCell ⟨gF, 5, none⟩ (.string S) := ⟨_, rfl⟩
      have HLn : Hid (LmW w1 wa gF g0 g1 S (.slice none 0 0) 0 (.slice none 0 0) (.slice none 0 0) (-1) [] [] []) := Lib.hid (by rw [hwa]; exact HL.out.name S)
      rw [← hwa]
      clear hwa hcv q5 f5
      have h3 : i < 1 ∨ (1 ≤ i ∧ i ≤ 64) ∨ 64 < i := by omega
      rcases h3 with h3 | ⟨h3, h4⟩ | h3
      · have hEc : checkE [mainL, limF S [] 0 [] [] (-1)] 0 = 90 := by rw [HE.out, if_neg (by omega)]
        have s0 : wa.cell? ⟨gF + 1, 0, none⟩ = some (.slice (some ⟨gF, 0, none⟩) 2 2) := (blk_cell HLn.out.sb 0).trans rfl
        have s1 : wa.cell? ⟨gF + 1, 1, none⟩ = some (.int .i64 0) := (blk_cell HLn.out.sb 1).trans rfl
        have HCK := Lib.hid (HLn.out.check HZ.out hEc)
        go_wp2_with (first | (go_at_call 12; with_reducible refine Calls.mono HCK.out ?_; rintro e wz ⟨rfl, hb⟩; have HBZ := Lib.hid hb; clear hb) | (go_at_call 12; refine stop_intro ?_))
        go_ret
        exact ⟨rfl, below_then HB1.out HB1.out.size (below_then HLn.out.below HLn.out.below.size HBZ.out)⟩
      · have hEc : checkE [mainL, limF S [] 0 [] [] (-1)] 0 = 0 := by rw [HE.out, if_pos ⟨h3, h4⟩]
        have s0 : wa.cell? ⟨gF + 1, 0, none⟩ = some (.slice (some ⟨gF, 0, none⟩) 2 2) := (blk_cell HLn.out.sb 0).trans rfl
        have s1 : wa.cell? ⟨gF + 1, 1, none⟩ = some (.int .i64 0) := (blk_cell HLn.out.sb 1).trans rfl
        have HCK := Lib.hid (HLn.out.check HZ.out hEc)
        go_wp2_with (first | (go_at_call 12; with_reducible refine Calls.mono HCK.out ?_; rintro e wz ⟨rfl, hb⟩; have HBZ := Lib.hid hb; clear hb) | (go_at_call 12; refine stop_intro ?_))
        go_ret
        exact ⟨rfl, below_then HB1.out HB1.out.size (below_then HLn.out.below HLn.out.below.size HBZ.out)⟩
      · have hEc : checkE [mainL, limF S [] 0 [] [] (-1)] 0 = 90 := by rw [HE.out, if_neg (by omega)]
        have s0 : wa.cell? ⟨gF + 1, 0, none⟩ = some (.slice (some ⟨gF, 0, none⟩) 2 2) := (blk_cell HLn.out.sb 0).trans rfl
        have s1 : wa.cell? ⟨gF + 1, 1, none⟩ = some (.int .i64 0) := (blk_cell HLn.out.sb 1).trans rfl
        have HCK := Lib.hid (HLn.out.check HZ.out hEc)
        go_wp2_with (first | (go_at_call 12; with_reducible refine Calls.mono HCK.out ?_; rintro e wz ⟨rfl, hb⟩; have HBZ := Lib.hid hb; clear hb) | (go_at_call 12; refine stop_intro ?_))
        go_ret
        exact ⟨rfl, below_then HB1.out HB1.out.size (below_then HLn.out.below HLn.out.below.size HBZ.out)⟩
end Go.Proofs.Ytgbeliajhccndaa
