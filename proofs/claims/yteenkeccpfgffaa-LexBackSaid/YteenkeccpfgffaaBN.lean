/- LexBack: the walk of token (quernlaw2) (chapter 2). -/
import Derived.Test.YteenkeccpfgffaaBM
set_option linter.unusedVariables false
set_option linter.unusedSimpArgs false
namespace Go.Proofs.Yteenkeccpfgffaa
open Go.RowKit Go.Proofs.YteenkeccpfgffaaW.PrintWords Go.Proofs.YteenkeccpfgffaaW.PrintLast Go.Proofs.YteenkeccpfgffaaW.PrintMore

theorem i64_and63 (n : Int) : bits .and .i64 n 63 = n % 64 := i64_mask n 63 6 (by omega) (by decide)
theorem bytesOf_strOf {xs : List Int} (h : ∀ c ∈ xs, 0 ≤ c ∧ c ≤ 255) : bytesOf (strOfNums xs) = xs := by
  unfold bytesOf strOfNums
  rw [List.toList_toArray, List.map_map]
  conv => rhs; rw [← List.map_id xs]
  refine List.map_congr_left fun c hc => ?_
  have := h c hc
  simp only [Function.comp, id_eq, UInt8.toNat_ofNat']
  omega
def SomeTok (e : Ending) : Prop := ∃ (x : Tok) (s : ByteArray), GoodTok x (bytesOf s) ∧ e = .returned (.tuple #[.agg #[.int .i64 x.kind, .int .i64 x.at_, .int .i64 x.value, .string x.name], .string s])
theorem piece_results {fn : Func} {tmps : Array Value} {W : World} {g : Nat} {s : ByteArray} {cs : Array Value} (hr : fn.results = #[.cell 2 33, .tmp 3]) (hp : tmps.getD 2 undef = .pointer (some ⟨g, 0, none⟩)) (he : tmps.getD 3 undef = .string s)
    (hg : W.heap[g]? = some (.cells cs 33 (0, 0))) (hc : cs.size = 4) : (results fn tmps).run Try.prog W = .ok (.tuple #[.agg cs, .string s]) W := by
  have h := results_ct (P := Try.prog) hr tmps W g 33 cs (0, 0) _ hp hg Try.underlying33 rfl (by rw [hc]; kernel_rfl)
  rw [he] at h
  exact h
theorem new_row0 {w w' : World} {o o2 : Obj} (hb : Below ((w.alloc o).alloc o2).heap.size ((w.alloc o).alloc o2) w') : w'.heap[w.heap.size]? = some o ∧ w'.heap[w.heap.size + 1]? = some o2 := by
  constructor
  · rw [hb.block w.heap.size (by simp; omega)]
    exact heap_alloc2_old w o o2
  · rw [hb.block (w.heap.size + 1) (by simp)]
    exact heap_alloc2_new w o o2
theorem below_four {w w1 : World} {g : Nat} {a b c d : Value} (h : Below w.heap.size w w1) (hg : w.heap.size ≤ g) : Below w.heap.size w ((((w1.setCell ⟨g, 0, none⟩ a).setCell ⟨g, 1, none⟩ b).setCell ⟨g, 2, none⟩ c).setCell ⟨g, 3, none⟩ d) :=
  (((h.setCell (p := ⟨g, 0, none⟩) hg _).setCell (p := ⟨g, 1, none⟩) hg _).setCell (p := ⟨g, 2, none⟩) hg _).setCell (p := ⟨g, 3, none⟩) hg _
set_option maxHeartbeats 16000000 in
theorem token_piece (kd n gp : Int) (w : World) (h0 : -9223372036854775808 ≤ n) (h1 : n ≤ 9223372036854775807) :
    Calls Try.prog 17 #[.agg #[.int .i64 kd, .int .i64 n, .int .i64 gp]] w fun e w' => SomeTok e ∧ Below w.heap.size w w' := by
  obtain ⟨k, hk⟩ : ∃ k : Int, kd % 64 = k := ⟨_, rfl⟩
  have hk0 : 0 ≤ k := by omega
  have hk1 : k < 64 := by omega
  have hand : bits .and .i64 kd 63 = k := by rw [i64_and63, hk]
  clear hk
  obtain ⟨m, hm, hcase⟩ : ∃ m : Nat, m ≤ 9223372036854775807 ∧ ((n < 0 ∧ IntKind.i64.wrap (-(n + 1)) = (m : Int)) ∨ (0 ≤ n ∧ n = m)) := by
    rcases Int.lt_or_le n 0 with h | h
    · exact ⟨(-(n + 1)).toNat, by omega, .inl ⟨h, by rw [IntWalk.i64_in _ (by omega)]; omega⟩⟩
    · exact ⟨n.toNat, by omega, .inr ⟨h, by omega⟩⟩
  have hcond : (10 ≤ k ∧ k < 28) ∨ (40 ≤ k ∧ k < 64) ∨ (28 ≤ k ∧ k < 33) ∨ (¬ (10 ≤ k ∧ k < 28) ∧ ¬ (40 ≤ k ∧ k < 64) ∧ ¬ (28 ≤ k ∧ k < 33)) := by omega
  have hb0 : Below w.heap.size w ((w.alloc (.cells #[.int .i64 kd, .int .i64 n, .int .i64 gp] 39)).alloc (.cells #[.int .i64 0, .int .i64 0, .int .i64 0, .string ⟨#[]⟩] 33)) := ((Below.refl _ _).alloc (Nat.le_refl _) _).alloc (by simp) _
  rcases hcond with h | h | h | h
  · have hg := good_sp k (.inl h)
    rcases hcase with ⟨hneg, hw⟩ | ⟨hneg, rfl⟩
    all_goals
      go_enter Try.func17, Try.ntmps17
      go_wp2_with (go_at_call 28; refine (spelled_any k (.inl h) _).mono ?_; rintro e w' ⟨rfl, hb1⟩; obtain ⟨hc1, hf1⟩ := bcell hb1; have HB1 := Lib.hid hb1; clear hb1)
      obtain ⟨r1, r2⟩ := new_row0 HB1.out
      refine bodyPost_ret (v := .tuple #[.agg #[.int .i64 k, .int .i64 0, .int .i64 0, .string ⟨#[]⟩], .string (spB k)]) (by exact piece_results Try.results17 rfl rfl (four_row r2) rfl) rfl ⟨⟨_, _, hg, rfl⟩, below_four (below_then hb0 hb0.size HB1.out) (Nat.le_succ _)⟩
  · have hg := good_sp k (.inr ⟨h.1, by omega⟩)
    rcases hcase with ⟨hneg, hw⟩ | ⟨hneg, rfl⟩
    all_goals
      go_enter Try.func17, Try.ntmps17
      go_wp2_with (go_at_call 28; refine (spelled_any k (.inr ⟨h.1, by omega⟩) _).mono ?_; rintro e w' ⟨rfl, hb1⟩; obtain ⟨hc1, hf1⟩ := bcell hb1; have HB1 := Lib.hid hb1; clear hb1)
      obtain ⟨r1, r2⟩ := new_row0 HB1.out
      refine bodyPost_ret (v := .tuple #[.agg #[.int .i64 k, .int .i64 0, .int .i64 0, .string ⟨#[]⟩], .string (spB k)]) (by exact piece_results Try.results17 rfl rfl (four_row r2) rfl) rfl ⟨⟨_, _, hg, rfl⟩, below_four (below_then hb0 hb0.size HB1.out) (Nat.le_succ _)⟩
  · have hg := good_sp (k + 36) (.inr ⟨by omega, by omega⟩)
    rcases hcase with ⟨hneg, hw⟩ | ⟨hneg, rfl⟩
    all_goals
      go_enter Try.func17, Try.ntmps17
      go_wp2_with (go_at_call 28; refine (spelled_any (k + 36) (.inr ⟨by omega, by omega⟩) _).mono ?_; rintro e w' ⟨rfl, hb1⟩; obtain ⟨hc1, hf1⟩ := bcell hb1; have HB1 := Lib.hid hb1; clear hb1)
      obtain ⟨r1, r2⟩ := new_row0 HB1.out
      refine bodyPost_ret (v := .tuple #[.agg #[.int .i64 (k + 36), .int .i64 0, .int .i64 0, .string ⟨#[]⟩], .string (spB (k + 36))]) (by exact piece_results Try.results17 rfl rfl (four_row r2) rfl) rfl ⟨⟨_, _, hg, rfl⟩, below_four (below_then hb0 hb0.size HB1.out) (Nat.le_succ _)⟩
  · obtain ⟨h2, h3, h4⟩ := h
    have hx0 := bytesOf_strOf (xs := decL m) (fun c hc => by have := decL_digits m m (Nat.le_refl _) c hc; omega)
    have hx1 := bytesOf_strOf (xs := 118 :: decL m) (fun c hc => by
      rcases List.mem_cons.1 hc with rfl | hc
      · omega
      · have := decL_digits m m (Nat.le_refl _) c hc; omega)
    have hx2 := bytesOf_strOf (xs := 95 :: 65 :: 118 :: decL m) (fun c hc => by
      rcases List.mem_cons.1 hc with rfl | hc
      · omega
      · rcases List.mem_cons.1 hc with rfl | hc
        · omega
        · rcases List.mem_cons.1 hc with rfl | hc
          · omega
          · have := decL_digits m m (Nat.le_refl _) c hc; omega)
    have g0 : GoodTok ⟨2, 0, (m : Int), ⟨#[]⟩⟩ (bytesOf (strOfNums (decL m))) := by rw [hx0]; exact good_num m hm
    have g1 : GoodTok ⟨1, 0, 0, strOfNums (118 :: decL m)⟩ (bytesOf (strOfNums (118 :: decL m))) := by rw [hx1]; exact good_v m hm
    have g2 : GoodTok ⟨1, 0, 0, strOfNums (95 :: 65 :: 118 :: decL m)⟩ (bytesOf (strOfNums (95 :: 65 :: 118 :: decL m))) := by rw [hx2]; exact good_u m hm
    have hs1 : (⟨#[118]⟩ : ByteArray) ++ strOfNums (decL m) = strOfNums (118 :: decL m) := (strOfNums_append [118] (decL m)).symm
    have hs2 : (⟨#[95, 65]⟩ : ByteArray) ++ strOfNums (118 :: decL m) = strOfNums (95 :: 65 :: 118 :: decL m) := (strOfNums_append [95, 65] (118 :: decL m)).symm
    have hz0 := size_nums' (decL m)
    have hz1 := size_nums' (118 :: decL m)
    have hdl := decL_le m hm
    rw [List.length_cons] at hz1
    clear hx0 hx1 hx2
    have H0 := Lib.hid g0
    have H1 := Lib.hid g1
    have H2 := Lib.hid g2
    clear g0 g1 g2
    have hkc : k < 10 ∨ (33 ≤ k ∧ k < 40) := by omega
    by_cases hev : k % 2 = 0
    · have hev2 : (k % 2 == 0) = true := by simp [hev]
      clear hev
      rcases hkc with hk2 | hk2
      all_goals
        rcases hcase with ⟨hneg, hw⟩ | ⟨hneg, rfl⟩
        all_goals
          go_enter Try.func17, Try.ntmps17
          go_wp2_with (go_at_call 21; refine (decimal_any m _ hm).mono ?_; rintro e w' ⟨rfl, hb1⟩; obtain ⟨hc1, hf1⟩ := bcell hb1; have HB1 := Lib.hid hb1; clear hb1)
          obtain ⟨r1, r2⟩ := new_row0 HB1.out
          refine bodyPost_ret (v := .tuple #[.agg #[.int .i64 2, .int .i64 0, .int .i64 m, .string ⟨#[]⟩], .string (strOfNums (decL m))]) (by exact piece_results Try.results17 rfl rfl (four_row r2) rfl) rfl ⟨⟨_, _, H0.out, rfl⟩, below_four (below_then hb0 hb0.size HB1.out) (Nat.le_succ _)⟩
    · have hev2 : (k % 2 == 0) = false := by simpa using hev
      clear hev
      by_cases h3m : (m : Int) % 3 = 0
      · have h3b : ((m : Int) % 3 == 0) = true := by simp [h3m]
        clear h3m
        rcases hkc with hk2 | hk2
        all_goals
          rcases hcase with ⟨hneg, hw⟩ | ⟨hneg, rfl⟩
          all_goals
            go_enter Try.func17, Try.ntmps17
            go_wp2_with (go_at_call 21; refine (decimal_any m _ hm).mono ?_; rintro e w' ⟨rfl, hb1⟩; obtain ⟨hc1, hf1⟩ := bcell hb1; have HB1 := Lib.hid hb1; clear hb1)
            obtain ⟨r1, r2⟩ := new_row0 HB1.out
            refine bodyPost_ret (v := .tuple #[.agg #[.int .i64 1, .int .i64 0, .int .i64 0, .string (strOfNums (95 :: 65 :: 118 :: decL m))], .string (strOfNums (95 :: 65 :: 118 :: decL m))]) (by exact piece_results Try.results17 rfl rfl (four_row r2) rfl) rfl ⟨⟨_, _, H2.out, rfl⟩, below_four (below_then hb0 hb0.size HB1.out) (Nat.le_succ _)⟩
      · have h3b : ((m : Int) % 3 == 0) = false := by simpa using h3m
        clear h3m
        rcases hkc with hk2 | hk2
        all_goals
          rcases hcase with ⟨hneg, hw⟩ | ⟨hneg, rfl⟩
          all_goals
            go_enter Try.func17, Try.ntmps17
            go_wp2_with (go_at_call 21; refine (decimal_any m _ hm).mono ?_; rintro e w' ⟨rfl, hb1⟩; obtain ⟨hc1, hf1⟩ := bcell hb1; have HB1 := Lib.hid hb1; clear hb1)
            obtain ⟨r1, r2⟩ := new_row0 HB1.out
            refine bodyPost_ret (v := .tuple #[.agg #[.int .i64 1, .int .i64 0, .int .i64 0, .string (strOfNums (118 :: decL m))], .string (strOfNums (118 :: decL m))]) (by exact piece_results Try.results17 rfl rfl (four_row r2) rfl) rfl ⟨⟨_, _, H1.out, rfl⟩, below_four (below_then hb0 hb0.size HB1.out) (Nat.le_succ _)⟩
end Go.Proofs.Yteenkeccpfgffaa
