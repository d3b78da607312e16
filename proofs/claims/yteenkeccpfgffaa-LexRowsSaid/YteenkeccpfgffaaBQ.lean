/- LexRows: the walk (chapter 2). -/
import Derived.Test.YteenkeccpfgffaaBP
set_option linter.unusedVariables false
set_option linter.unusedSimpArgs false
namespace Go.Proofs.Yteenkeccpfgffaa
open Go.RowKit Go.Proofs.YteenkeccpfgffaaW.PrintWords Go.Proofs.YteenkeccpfgffaaW.PrintLast Go.Proofs.YteenkeccpfgffaaW.PrintMore

theorem i64_and127 (n : Int) : bits .and .i64 n 127 = n % 128 := i64_mask n 127 7 (by omega) (by decide)
theorem i64_and3 (n : Int) : bits .and .i64 n 3 = n % 4 := i64_mask n 3 2 (by omega) (by decide)
theorem bytesOf_strs {xs : List Int} (h : ∀ c ∈ xs, 0 ≤ c ∧ c ≤ 255) : bytesOf (strOfNums xs) = xs := by
  unfold bytesOf strOfNums
  rw [List.toList_toArray, List.map_map]
  conv => rhs; rw [← List.map_id xs]
  refine List.map_congr_left fun c hc => ?_
  have := h c hc
  simp only [Function.comp, id_eq, UInt8.toNat_ofNat']
  omega
def bigL : List Int := [57, 50, 50, 51, 51, 55, 50, 48, 51, 54, 56, 53, 52, 55, 55, 53, 56, 48, 56]
theorem bigL_range : byteRange bigL := gap_range (by decide)
theorem zero_cat (j d : Nat) : (⟨#[48]⟩ : ByteArray) ++ strOfNums (rowL j 48 ++ decL d) = strOfNums (rowL (j + 1) 48 ++ decL d) := by
  rw [show (⟨#[48]⟩ : ByteArray) = strOfNums [48] from rfl, ← strOfNums_append]
  rfl
theorem tab_cat (xs : List Int) : (⟨#[9]⟩ : ByteArray) ++ strOfNums xs = strOfNums ([9] ++ xs) := by
  rw [show (⟨#[9]⟩ : ByteArray) = strOfNums [9] from rfl, ← strOfNums_append]
set_option maxRecDepth 100000 in
set_option maxHeartbeats 16000000 in
theorem lexRows_any (n0 le dg zs : Int) (w : World) (hl0 : 0 ≤ le) (hl1 : le ≤ 255) (hd0 : -9223372036854775808 ≤ dg) (hd1 : dg ≤ 9223372036854775807) :
    Calls Try.prog 10 #[.int .i64 n0, .int .u8 le, .int .i64 dg, .int .i64 zs] w fun e w' => e = .returned (.bool true) ∧ Below w.heap.size w w' := by
  obtain ⟨n, hn0, hn1, hand⟩ : ∃ n : Nat, 0 < n ∧ n ≤ 128 ∧ bits .and .i64 n0 127 = ((n - 1 : Nat) : Int) := ⟨(1 + n0 % 128).toNat, by omega, by omega, by rw [i64_and127]; omega⟩
  obtain ⟨m, rfl⟩ : ∃ m, n = m + 1 := ⟨n - 1, by omega⟩
  rw [Nat.add_sub_cancel] at hand
  obtain ⟨c, hc0, hc1, hc⟩ : ∃ c : Nat, 97 ≤ 97 + c ∧ 97 + c ≤ 122 ∧ le % 26 = (c : Int) := ⟨(le % 26).toNat, by omega, by omega, by omega⟩
  have hlex := row_lex (n := m + 1) (c := 97 + (c : Int)) (by omega) (by omega) (by omega)
  have HLEX := Lib.hid hlex
  clear hlex
  have kc := fun (w : World) (C : Array Value) (n c : Nat) => Lib.run_convert_bytes_const (P := Try.prog) w 22 5 C n c Try.underlying22 Try.underlying5
  go_enter Try.func10, Try.ntmps10
  go_wp2
  clear hand
  go_loopw [9, 10] (fun v i wr => ∃ j : Nat, j ≤ m + 1 ∧ i = .int .i64 j ∧ Hid (wr.ownsRow w.heap.size 5 1 v (rowL j (97 + (c : Int))).length (nums .u8 (rowL j (97 + (c : Int))))) ∧ Hid (Below w.heap.size w wr)) (fun _ i _ => (m + 1) - (intOf i).toNat)
  case atStart => exact ⟨0, by omega, rfl, Lib.hid (own_nil _ _ _ _), Lib.hid (Below.refl _ _)⟩
  case round =>
    obtain ⟨j, hj, rfl, HV, HRB⟩ := hrel
    by_cases hlt : (j : Int) < 1 + (m : Int)
    · go_wp2_with (at_builtin; refine stop_intro ?_)
      unfold Stop
      refine print_append_num (w0 := w) w.heap.size rfl (.tmp 31) (.tmp 35) 22 5 .u8 1 rfl Try.underlying22 info5k (by decide) _ (rowL j (97 + (c : Int))) (97 + (c : Int)) rfl rfl HV.out HRB.out HRB.out.size (by rw [rowL_length]; omega) ?_
      intro v3 w3 hO3 hB3 hg3 hat3
      rw [rowL_snoc] at hO3
      have HO3 := Lib.hid hO3
      have HB3 := Lib.hid hB3
      clear hO3 hB3 hg3 hat3
      go_wp2
      go_roundw
      case rel => exact ⟨j + 1, by omega, by go_num, HO3, HB3⟩
      case measure => simp [intOf]; omega
    · obtain rfl : j = m + 1 := by omega
      obtain ⟨A, cA, rfl⟩ := own_slice HV.out
      have hr := own_reads' HV.out
      have hcA := own_le HV.out
      have hll : (rowL (m + 1) (97 + (c : Int))).length = m + 1 := rowL_length _ _
      rw [hll] at hcA ⊢
      have HR := Lib.hid hr
      have HLL := Lib.hid hll
      clear hr hll
      generalize hrow : rowL (m + 1) (97 + (c : Int)) = L at *
      go_wp2_with (at_builtin; refine stop_intro ?_)
      unfold Stop
      obtain ⟨ad, hA, hcell⟩ := HR.out.2.2 (by rw [HLL.out]; omega)
      obtain rfl := hA
      have hnews : ∀ j u, (nums .u8 L)[j]? = some u → (wr.alloc (.cells #[.int .u8 59, .int .u8 32] 5 (2, 3))).cell? (ad.add j) = some u := by
        intro j u hu
        have hj : j < L.length := by
          rcases Nat.lt_or_ge j L.length with h | h
          · exact h
          · simp [nums, List.getElem?_eq_none h] at hu
        have := hcell j hj
        simp [nums, List.getElem?_eq_getElem hj] at hu
        subst hu
        rw [pw_cell_below ((Below.refl _ _).alloc (Nat.le_refl _) _) this]
        simp [List.getD_eq_getElem?_getD, List.getElem?_eq_getElem hj]
      have hnl : (nums .u8 L).length = (m + 1) * 1 := by rw [nums_length, HLL.out, Nat.mul_one]
      have HNW := Lib.hid hnews
      have HNL := Lib.hid hnl
      clear hnews hnl hcell
      obtain ⟨i0, hi, hz0, hz1, hz2⟩ := info_parts info5k
      refine wpList_append_grows _ rfl (.tmp 39) (.tmp 40) 22 rfl 5 i0 (.int .u8 0) 1 1 Try.underlying22 hi hz0 hz1 hz2 rfl (by decide) (some ⟨wr.heap.size, 0, none⟩) 2 2 [.int .u8 59, .int .u8 32] rfl (fun h => by cases h) rfl ?olds ad (m + 1) cA (nums .u8 L) rfl HNL.out HNW.out ?one (by omega) (by simp only [maxLen]; omega) (by omega) ?_
      case olds =>
        intro b hb j u hu
        injection hb with hb
        subst hb
        have hrow := heap_alloc_new wr (.cells #[.int .u8 59, .int .u8 32] 5 (2, 3))
        rw [add_plain, cell_of_row _ _ _ _ _ _ hrow]
        simpa using hu
      case one =>
        intro u hu
        simp only [nums, List.mem_map] at hu
        obtain ⟨q, _, rfl⟩ := hu
        rfl
      intro v4 w4 hO4 hg4
      clear hi hz0 hz1 hz2
      have hO4b : w4.ownsRow w.heap.size 5 1 v4 ([59, 32] ++ L).length (nums .u8 ([59, 32] ++ L)) := by
        have e : ([59, 32] ++ L).length = 2 + (m + 1) := by rw [List.length_append, HLL.out]; rfl
        rw [e, nums_append]
        exact own_weaken hO4 (by have := HRB.out.size; rw [size_alloc']; omega)
      have HB4 := Lib.hid ((HRB.out.alloc HRB.out.size (.cells #[.int .u8 59, .int .u8 32] 5 (2, 3))).grown hg4 (by rw [size_alloc']; have := HRB.out.size; omega) (fun k hk => by cases hk))
      have HV4 := Lib.hid (own_other (own_alloc HV.out (.cells #[.int .u8 59, .int .u8 32] 5 (2, 3))) hg4 (.inr (by simp [Value.ownBlock])))
      obtain ⟨A4, c4, rfl⟩ := own_slice hO4b
      have h4c := own_le hO4b
      have hl4 : ([59, 32] ++ L).length = m + 3 := by rw [List.length_append, HLL.out]; simp; omega
      have HR4 := Lib.hid (own_reads' hO4b)
      rw [hl4] at h4c HR4 ⊢
      clear hO4 hg4 hO4b hl4 HNW HNL
      obtain ⟨out, place, err, hlx⟩ := lex_ex ([59, 32] ++ L)
      have hcases : (m + 1 ≤ 64 ∧ out = [⟨47, 0, 0, ⟨#[]⟩⟩, nameTok 2 (strOfNums L)] ∧ place = 0 ∧ err = 0) ∨ (64 < m + 1 ∧ out = [⟨47, 0, 0, ⟨#[]⟩⟩] ∧ place = 2 ∧ err = 21) := by
        by_cases h : m + 1 ≤ 64
        · have := HLEX.out.1 h
          rw [hlx] at this
          obtain ⟨a1, a2, a3⟩ := tri this
          exact .inl ⟨h, a1, a2, a3⟩
        · have := HLEX.out.2 (by omega)
          rw [hlx] at this
          obtain ⟨a1, a2, a3⟩ := tri this
          exact .inr ⟨by omega, a1, a2, a3⟩
      have ho1 : 1 ≤ out.length := by
        rcases hcases with ⟨_, rfl, _⟩ | ⟨_, rfl, _⟩ <;> simp
      have hrange : byteRange ([59, 32] ++ L) := by rw [← hrow]; exact ((byteRange_one (c := 59) (by omega)).append (byteRange_one (c := 32) (by omega))).append (rowL_range (by omega) (by omega))
      have HX := Lib.hid hlx
      have HBR := Lib.hid hrange
      have HCS := Lib.hid hcases
      have HROW := Lib.hid hrow
      clear hlx hrange hcases hrow
      go_wp2_with fail
      refine (tokens_any A4 (m + 3) c4 ([59, 32] ++ L) _ _ _ _ h4c (by exact HR4.out) HBR.out (by omega) HX.out).mono ?_
      rintro e w5 ⟨v5, rfl, hO5, hb5⟩
      obtain ⟨A5, c5, rfl, hC5⟩ := R_same hO5
      have HB5 := Lib.hid (below_then HB4.out HB4.out.size hb5)
      have HV5 := Lib.hid (pw_own_below HV4.out hb5)
      have HC5 := Lib.hid hC5
      clear hO5 hb5 hC5
      go_upto_if 53 with (go_at_call 11; refine (alive_any _).mono ?_; rintro e w6 ⟨rfl, hb6⟩; have HB6 := Lib.hid (below_then HB5.out HB5.out.size hb6); have HV6 := Lib.hid (pw_own_below HV5.out hb6); have HC6 := Lib.hid (Kd.C_below HC5.out hb6); clear hb6)
      go_cut [14] (fun c wx => c = .bool true ∧ Below w.heap.size w wx)
      case first =>
        rcases HCS.out with ⟨h64, rfl, rfl, rfl⟩ | ⟨h64, rfl, rfl, rfl⟩
        · have hcv : ∀ k, (convert 22 9 (.slice (some ad) (m + 1) cA)).run Try.prog (w6.drewN k) = .ok (.string (strOfNums L)) (w6.drewN k) := fun k =>
            string_of_reads Try.underlying22 Try.underlying5 Try.underlying9 (by
              have := own_reads' HV6.out
              rw [HLL.out] at this
              exact reads_heap this rfl)
          have hsz := size_nums' L
          rw [HLL.out] at hsz
          have hs1 : (strOfNums L).toList ≠ [] := by
            intro h
            rw [ByteArray.toList_eq] at h
            have := data_length (strOfNums L)
            rw [h] at this
            simp at this
            omega
          obtain ⟨ad1, hA1, q0, q1, q2, q3⟩ := tok_cells HC6.out 1 (by simp)
          obtain rfl := hA1
          simp only [List.getD_cons_succ, List.getD_cons_zero, Addr.add, Nat.one_mul, if_neg (show ¬ (4 : Nat) = 0 by decide)] at q0 q1 q2 q3
          simp only [List.length_cons, List.length_nil, Nat.zero_add, Nat.reduceAdd]
          have h12 : (1 : Int) < 2 := by omega
          rcases nameTok_or (strOfNums L) with hk | ⟨k, hk10, hk⟩
          · rw [hk] at q0 q1 q2 q3
            clear hk
            generalize strOfNums L = s at *
            go_wp2_with fail
            go_quiet ((go_at_call 18; exact Calls.quiet_of_same ((num_any _ _).mono fun e w' h => ⟨h.1, h.2.symm⟩)))
            go_wp2
            go_meet
            exact ⟨rfl, pw_below_drewN HB6.out _⟩
          · rw [hk] at q0 q1 q2 q3
            clear hk
            have hs2 := hs1
            generalize strOfNums L = s at *
            have hs3 : (([] : List UInt8) == s.toList) = false := by cases h : s.toList with
              | nil => exact absurd h hs1
              | cons a b => rfl
            have hs4 : s.toList.isEmpty = false := by cases h : s.toList with
              | nil => exact absurd h hs1
              | cons a b => rfl
            clear hs1 hs2
            have hk2 : decide ((2 : Int) < k) = true := decide_eq_true (by omega)
            go_wp2_with fail
            go_quiet ((go_at_call 18; exact Calls.quiet_of_same ((num_any _ _).mono fun e w' h => ⟨h.1, h.2.symm⟩)))
            go_wp2
            go_meet
            exact ⟨rfl, pw_below_drewN HB6.out _⟩
        · go_wp2_with (go_at_call 18; refine (num_any _ _).mono ?_; rintro e w' ⟨rfl, rfl⟩)
          go_meet
          exact ⟨rfl, HB6.out⟩
      case rest =>
        obtain ⟨rfl, hbc⟩ := hcut
        have HBC := Lib.hid hbc
        clear hbc
        clear HX HBR HCS HROW HV6 HC6 HB6 HV5 HC5 HB5 HV4 HR4 HB4 HR HLL HLEX HV HRB ho1
        obtain ⟨d, hd, hcase⟩ : ∃ d : Nat, d ≤ 9223372036854775807 ∧ ((dg < 0 ∧ IntKind.i64.wrap (-(dg + 1)) = (d : Int)) ∨ (0 ≤ dg ∧ dg = d)) := by
          rcases Int.lt_or_le dg 0 with h | h
          · exact ⟨(-(dg + 1)).toNat, by omega, .inl ⟨h, by rw [IntWalk.i64_in _ (by omega)]; omega⟩⟩
          · exact ⟨dg.toNat, by omega, .inr ⟨h, by omega⟩⟩
        obtain ⟨z, hz4, hand3⟩ : ∃ z : Nat, z < 4 ∧ bits .and .i64 zs 3 = (z : Int) := ⟨(zs % 4).toNat, by omega, by rw [i64_and3]; omega⟩
        have hdl := decL_le d hd
        rcases hcase with ⟨hneg, hw⟩ | ⟨hneg, rfl⟩
        all_goals
          go_wp2_with (go_at_call 21; refine (decimal_any d _ hd).mono ?_; rintro e w7 ⟨rfl, hb7⟩; have HB7 := Lib.hid (below_then HBC.out HBC.out.size hb7); clear hb7)
          clear hand3
          go_loop [15, 16] (fun s i => ∃ j : Nat, j ≤ z ∧ i = .int .i64 j ∧ s = .string (strOfNums (rowL j 48 ++ decL d))) (fun _ i => z - (intOf i).toNat)
          case atStart => exact ⟨0, by omega, rfl, rfl⟩
          case round =>
            obtain ⟨j, hj, rfl, rfl⟩ := hrel
            have hsz := size_nums' (rowL j 48 ++ decL d)
            have hll : (rowL j 48 ++ decL d).length ≤ 23 := by rw [List.length_append, rowL_length]; omega
            have HZC := Lib.hid (zero_cat j d)
            have HTC := Lib.hid (tab_cat (rowL j 48 ++ decL d))
            have HZX := Lib.hid (fun h => zero_lex j d h)
            have HDX : Hid (j = 0 → lexAll ([9] ++ (rowL j 48 ++ decL d)) = ([⟨2, 1, (d : Int), ⟨#[]⟩⟩], 0, 0)) := Lib.hid (fun h => by subst h; exact dig_lex d hd)
            have HRX : Hid (∀ c ∈ ([9] ++ (rowL j 48 ++ decL d)), 0 ≤ c ∧ c ≤ 255) := Lib.hid (by
              intro c hc
              rcases List.mem_append.1 hc with h | h
              · simp at h; omega
              · rcases List.mem_append.1 h with h | h
                · rw [List.eq_of_mem_replicate h]; omega
                · have := decL_digits d d (Nat.le_refl _) c h; omega)
            generalize rowL j 48 ++ decL d = X at *
            by_cases hlt : j < z
            · go_wp2
              go_round
              case rel => exact ⟨j + 1, by omega, by go_num, by rw [← HZC.out]⟩
              case measure => simp [intOf]; omega
            · obtain rfl : j = z := by omega
              obtain ⟨S, hS⟩ : ∃ S, (⟨#[9]⟩ : ByteArray) ++ strOfNums X = S := ⟨_, rfl⟩
              have hSb : bytesOf S = [9] ++ X := by rw [← hS, HTC.out]; exact bytesOf_strs HRX.out
              have hSs : S.size = ([9] ++ X).length := by rw [← bytesOf_length, hSb]
              have hSl : S.size ≤ 24 := by rw [hSs, List.length_append, List.length_singleton]; omega
              have pb := print_bytes (P := Try.prog) 9 22 5 Try.underlying9 Try.underlying22 Try.underlying5 S w7
              have HBS := Lib.hid hSb
              have HBR := Lib.hid (gap_range HRX.out)
              have hge := grownCap_ge w7 S.size 0 5
              have HRD := Lib.hid (bytes_reads w7 5 S (by omega))
              have HBW := Lib.hid (bytes_below HB7.out HB7.out.size 5 S)
              rw [hSb] at HRD
              clear hSs hSb
              generalize grownCap w7 S.size 0 5 = gc at *
              by_cases hz0 : j = 0
              · subst hz0
                have HLX := Lib.hid (HDX.out rfl)
                go_wp2_with fail
                refine (tokens_any _ S.size gc ([9] ++ X) _ _ _ _ hge (by exact HRD.out) HBR.out (by omega) HLX.out).mono ?_
                rintro e w8 ⟨v8, rfl, hO8, hb8⟩
                obtain ⟨A8, c8, rfl, hC8⟩ := R_same hO8
                have HB8 := Lib.hid (below_then HBW.out HBW.out.size hb8)
                have HC8 := Lib.hid hC8
                clear hb8 hO8 hC8
                simp only [List.length_singleton]
                go_wp2_with fail
                have HB9 := Lib.hid (HB8.out.alloc HB8.out.size (.cells (bigL.map (Value.int .u8)).toArray 5 (19, 20)))
                have HC9 := Lib.hid (Kd.C_alloc HC8.out (.cells (bigL.map (Value.int .u8)).toArray 5 (19, 20)))
                refine (tokens_any _ 19 19 bigL _ _ _ _ (by omega) (by exact lit_reads w8 bigL 5 (19, 20) (by decide)) bigL_range (by omega) big_lex).mono ?_
                rintro e w9 ⟨v9, rfl, hO9, hb9⟩
                obtain ⟨A9, c9, rfl, hC9⟩ := R_same hO9
                obtain ⟨ad8, hA8, q0, q1, q2, q3⟩ := tok_cells (Kd.C_below HC9.out hb9) 0 (by simp)
                obtain rfl := hA8
                have HB10 := Lib.hid (below_then HB9.out HB9.out.size hb9)
                have hA0 : ad8.add (0 * 4) = ad8 := by simp [Addr.add]
                rw [hA0] at q0 q1 q2 q3
                clear hb9 hO9 hC9 hA0
                simp only [List.getD_cons_zero] at q0 q1 q2 q3
                simp only [List.length_nil]
                go_wp2_with (go_at_call 18; refine (num_any _ _).mono ?_; rintro e w' ⟨rfl, rfl⟩)
                go_ret
                exact ⟨rfl, HB10.out⟩
              · have HLX := Lib.hid (HZX.out (by omega))
                have hzp : (0 : Int) < (j : Int) := by omega
                go_wp2_with (first | (go_at_call 13; refine (tokens_any _ S.size gc ([9] ++ X) _ _ _ _ hge (by exact HRD.out) HBR.out (by omega) HLX.out).mono ?_; rintro e w8 ⟨v8, rfl, hO8, hb8⟩; have HB8 := Lib.hid (below_then HBW.out HBW.out.size hb8); obtain ⟨A8, c8, rfl, hC8⟩ := R_same hO8; clear hb8 hO8 hC8; simp only [List.length_nil]) | (go_at_call 18; refine (num_any _ _).mono ?_; rintro e w' ⟨rfl, rfl⟩))
                go_ret
                exact ⟨rfl, HB8.out⟩
end Go.Proofs.Yteenkeccpfgffaa
