/- LexBlanks: the walk (chapter 2). -/
import Derived.Test.YteenkeccpfgffaaBH
set_option linter.unusedVariables false
set_option linter.unusedSimpArgs false
namespace Go.Proofs.Yteenkeccpfgffaa
open Go.RowKit Go.Proofs.YteenkeccpfgffaaW.PrintWords Go.Proofs.YteenkeccpfgffaaW.PrintLast Go.Proofs.YteenkeccpfgffaaW.PrintMore

theorem bytesOf_nums {xs : List Int} (h : ∀ c ∈ xs, 0 ≤ c ∧ c ≤ 255) : bytesOf (strOfNums xs) = xs := by
  unfold bytesOf strOfNums
  rw [List.toList_toArray, List.map_map]
  conv => rhs; rw [← List.map_id xs]
  refine List.map_congr_left fun c hc => ?_
  have := h c hc
  simp only [Function.comp, id_eq, UInt8.toNat_ofNat']
  omega
theorem size_nums (xs : List Int) : (strOfNums xs).size = xs.length := by
  unfold strOfNums ByteArray.size
  simp
theorem low_cut (A : Option Addr) (n c a : Nat) (l : List Int) (hl : l.length = n) (hm : a ≤ n) (hc : n ≤ c) :
    ∃ A' : Option Addr, (∀ W : World, (Instr.slice 22 (.slice A n c) (some (.int .i64 (a : Int))) none none).run Try.prog W = .ok (.slice A' (n - a) (c - a)) W) ∧
      (∀ W : World, ReadsInt W .u8 A n l → ReadsInt W .u8 A' (n - a) (l.drop a)) := by
  obtain ⟨i5, hi5, hs5⟩ := info5s
  subst hl
  obtain ⟨A', h1, h2, _⟩ := print_cut_int (P := Try.prog) (k := .u8) 22 5 Try.underlying22 hi5 hs5 A c l (a : Int) (by omega) (by omega) hc
  rw [Int.toNat_natCast, List.length_drop] at h1 h2
  exact ⟨A', h1, h2⟩
theorem byteRange_of {xs : List Int} (h : ∀ c ∈ xs, 0 ≤ c ∧ c ≤ 255) : byteRange xs := by
  intro i
  unfold rd
  rw [List.getD_eq_getElem?_getD]
  rcases Nat.lt_or_ge i.toNat xs.length with h2 | h2
  · rw [List.getElem?_eq_getElem h2]
    exact h _ (List.getElem_mem h2)
  · rw [List.getElem?_eq_none h2]
    decide
theorem at_nat {l : List Int} {out : List Tok} {place err : Int} (hb : byteRange l) (h : lexAll l = (out, place, err)) (j : Nat) (hj : j < out.length) : ∃ p : Nat, (out.getD j Tok.nil).at_ = (p : Int) ∧ p < l.length := by
  rw [lexAll_lex] at h
  obtain ⟨p, h1, h2, _⟩ := lex_put (gap_blank 0 (by omega)).1 (gap_blank 0 (by omega)).2.1 (gap_blank 0 (by omega)).2.2.1 _ 0 l (Nat.le_refl _) hb j (by rw [h]; exact hj)
  refine ⟨p, ?_, h2⟩
  rw [List.getD_eq_getElem?_getD, List.getElem?_eq_getElem hj]
  simp only [h, Nat.zero_add] at h1
  exact h1
/-- What is put ahead of token i moves it and those behind it. -/
def movedTok (out : List Tok) (i : Nat) (d : Nat) (j : Nat) : Tok := if i ≤ j then (out.getD j Tok.nil).shift (d : Int) else out.getD j Tok.nil
theorem put_all {l : List Int} {out : List Tok} {place err : Int} (hb : byteRange l) (h : lexAll l = (out, place, err)) (m : Nat) (hm : m < 8) (i p : Nat) (hi : i < out.length) (hp : (out.getD i Tok.nil).at_ = (p : Int)) :
    ∃ M : List Tok, M.length = out.length ∧ (∀ j, j < out.length → M.getD j Tok.nil = movedTok out i (gapI m).length j) ∧
      lexAll (l.take p ++ gapI m ++ l.drop p) = (M, if err = 0 then 0 else place + ((gapI m).length : Nat), err) := by
  have hx := h
  rw [lexAll_lex] at hx
  obtain ⟨p', h1, h2, h3⟩ := lex_put (gap_blank m hm).1 (gap_blank m hm).2.1 (gap_blank m hm).2.2.1 _ 0 l (Nat.le_refl _) hb i (by rw [hx]; exact hi)
  have hpp : p' = p := by
    simp only [hx, Nat.zero_add] at h1
    rw [List.getD_eq_getElem?_getD, List.getElem?_eq_getElem hi] at hp
    have : ((p' : Nat) : Int) = (p : Int) := h1.symm.trans hp
    omega
  subst hpp
  simp only [hx] at h3
  refine ⟨_, ?_, ?_, by rw [lexAll_lex, List.append_assoc]; exact h3⟩
  · rw [List.length_append, List.length_map, List.length_take, List.length_drop]
    omega
  · intro j hj
    unfold movedTok
    rw [List.getD_eq_getElem?_getD, List.getD_eq_getElem?_getD, List.getElem?_append]
    have hlt : (out.take i).length = i := by rw [List.length_take]; omega
    by_cases hij : i ≤ j
    · rw [if_neg (by rw [hlt]; omega), if_pos hij, hlt, List.getElem?_map, List.getElem?_drop, show i + (j - i) = j by omega, List.getElem?_eq_getElem hj]
      rfl
    · rw [if_pos (by rw [hlt]; omega), if_neg hij, List.getElem?_take_of_lt (by omega)]
attribute [local go_sem high] eqA33
set_option maxRecDepth 100000 in
set_option maxHeartbeats 16000000 in
theorem lexBlanks_any (A : Option Addr) (n c : Nat) (l : List Int) (which what : Int) (w : World) (hnc : n ≤ c) (hr : ReadsInt w .u8 A n l) (hb : byteRange l) (hw0 : -9223372036854775808 ≤ which) (hw1 : which ≤ 9223372036854775807) :
    Calls Try.prog 9 #[.slice A n c, .int .i64 which, .int .i64 what] w fun e w' => e = .returned (.bool true) ∧ Below w.heap.size w w' := by
  by_cases hbig : n ≤ 1048576
  · obtain ⟨out, place, err, hlex⟩ := lex_ex l
    have HLL := Lib.hid hr.1
    have HR := Lib.hid hr
    have HB := Lib.hid hb
    have HLEX := Lib.hid hlex
    clear hr hb hlex
    go_enter Try.func9, Try.ntmps9
    go_wp2_with (go_at_call 11; refine (alive_any _).mono ?_; rintro e w1 ⟨rfl, hb1⟩; have HB1 := Lib.hid hb1; clear hb1)
    refine (tokens_any A n c l _ _ _ _ hnc (by exact HR.out.below HB1.out) HB.out (by omega) HLEX.out).mono ?_
    rintro e w3 ⟨v3, rfl, hO3, hb3⟩
    have HB3 := Lib.hid (below_then HB1.out HB1.out.size hb3)
    obtain ⟨A3, c3, rfl, hC3⟩ := R_same hO3
    have h3c := R_cap hO3
    have hN := hC3.2.1
    have HC3 := Lib.hid hC3
    clear hb3 hO3 hC3
    by_cases hz : out.length = 0
    · have hz2 : (((out.length : Nat) : Int) == 0) = true := by simp [hz]
      go_wp2_with fail
      go_ret
      exact ⟨rfl, HB3.out⟩
    · have hz2 : (((out.length : Nat) : Int) == 0) = false := by simpa using hz
      have hz3 : ((out.length : Nat) : Int) ≠ 0 := by omega
      have hpos : (0 : Int) < ((out.length : Nat) : Int) := by omega
      have hr1 := Int.tmod_lt_of_pos which hpos
      have hr2 : -((out.length : Nat) : Int) < which.tmod ((out.length : Nat) : Int) := by
        have := Int.lt_tmod_of_pos which hpos
        omega
      obtain ⟨i, hiN, hi⟩ : ∃ i : Nat, i < out.length ∧ ((which.tmod ((out.length : Nat) : Int) < 0 ∧ IntKind.i64.wrap (which.tmod ((out.length : Nat) : Int) + ((out.length : Nat) : Int)) = (i : Int)) ∨ ((0 : Int) ≤ (i : Int) ∧ which.tmod ((out.length : Nat) : Int) = (i : Int))) := by
        rcases Int.lt_or_le (which.tmod ((out.length : Nat) : Int)) 0 with hneg | hneg
        · refine ⟨(which.tmod ((out.length : Nat) : Int) + ((out.length : Nat) : Int)).toNat, by omega, .inl ⟨hneg, ?_⟩⟩
          rw [IntWalk.i64_in _ (by omega)]
          omega
        · exact ⟨(which.tmod ((out.length : Nat) : Int)).toNat, by omega, .inr ⟨by omega, by omega⟩⟩
      clear hr1 hr2
      obtain ⟨p, hp, hpn⟩ := at_nat HB.out HLEX.out i hiN
      rw [HLL.out] at hpn
      have hpi0 : (0 : Int) ≤ (p : Int) := by omega
      have hpi1 : (p : Int) ≤ (n : Int) := by omega
      have hpi2 : (n : Int) ≤ (c : Int) := by omega
      have htk := take_run A n c p (by omega) hnc
      obtain ⟨A', hlo, hlr⟩ := low_cut A n c p l HLL.out (by omega) hnc
      have HLR := Lib.hid hlr
      clear hlr
      rcases hi with ⟨hneg, hiw⟩ | ⟨hneg, hi⟩
      all_goals
        go_wp2_with (go_at_call 16; refine (gap_any what _).mono ?_; rintro e w4 ⟨⟨m, hm, rfl⟩, hb4⟩; have HB4 := Lib.hid (below_then HB3.out HB3.out.size hb4); have HC4 := Lib.hid (Kd.C_below HC3.out hb4); clear hb4; obtain ⟨ad, hA, q0, q1, q2, q3⟩ := tok_cells HC4.out i hiN; rw [hp] at q1; obtain rfl := hA)
        obtain ⟨M, hMl, hMd, hMlex⟩ := put_all HB.out HLEX.out m hm i p hiN hp
        have hgl := (gap_blank m hm).2.2.2.1
        have hgr := (gap_blank m hm).2.2.2.2
        have hgo : bytesOf (gapB m) = gapI m := bytesOf_nums hgr
        have hgs : (gapB m).size = (gapI m).length := size_nums _
        have htl : (l.take p).length = p := by rw [List.length_take, HLL.out]; omega
        have hdl : (l.drop p).length = n - p := by rw [List.length_drop, HLL.out]
        have len1 : (([] : List Int).length + p) * 1 ≤ 140737488355328 := by simp; omega
        have len2 : p + (gapB m).size ≤ 140737488355328 := by rw [hgs]; omega
        have len3 : (l.take p ++ gapI m).length = p + (gapI m).length := by rw [List.length_append, htl]
        have len4 : (p + (gapI m).length + (n - p)) * 1 ≤ 140737488355328 := by omega
        have HX1 := Lib.hid (reads_take (HR.out.below HB4.out) p (by omega))
        have HX2 := Lib.hid (HLR.out _ (HR.out.below HB4.out))
        have HMD := Lib.hid hMd
        have HML := Lib.hid hMl
        have HMLEX := Lib.hid hMlex
        have HTL := Lib.hid htl
        have HDL := Lib.hid hdl
        have HGO := Lib.hid hgo
        have HGS := Lib.hid hgs
        have HL3 := Lib.hid len3
        have HGR := Lib.hid hgr
        have HGL := Lib.hid hgl
        clear hMd hMl hMlex htl hdl hgo hgs len3 hgr hgl
        generalize hgb : gapB m = gb at *
        go_region_held3 (fun _ => True) (trivial) ((first | (refine step_row (w0 := w4) w4.heap.size (by rfl) (.const (.slice none 0 0)) (.tmp 54) 22 5 .u8 1 (by rfl) Try.underlying22 info5k (by decide) _ [] (l.take p) A p c (by rfl) (by rfl) (own_nil _ _ _ _) (by exact reads_heap HX1.out rfl) (by exact pw_below_drewN (Below.refl _ _) _) (Nat.le_refl _) len1 ?_; intro v5 w5 hO5 hB5; rw [List.nil_append, HTL.out] at hO5; have HO5 := Lib.hid hO5; have HB5 := Lib.hid hB5; clear hO5 hB5) | (refine step_str (w0 := w4) w4.heap.size (by rfl) (.tmp 55) (.tmp 56) 22 9 5 (by rfl) Try.underlying22 Try.underlying9 info5k _ (l.take p) gb (by rfl) (by rfl) (by rw [HTL.out]; exact HO5.out) (by exact HB5.out) (by exact HB5.out.size) (by rw [HTL.out]; exact len2) ?_; intro v6 w6 hO6 hB6; rw [HGO.out, HL3.out] at hO6; have HO6 := Lib.hid hO6; have HB6 := Lib.hid hB6; clear hO6 hB6) | (refine step_row (w0 := w4) w4.heap.size (by rfl) (.tmp 57) (.tmp 60) 22 5 .u8 1 (by rfl) Try.underlying22 info5k (by decide) _ (l.take p ++ gapI m) (l.drop p) A' (n - p) (c - p) (by rfl) (by rfl) (by rw [HL3.out]; exact HO6.out) (by exact HX2.out.below HB6.out) (by exact HB6.out) (by exact HB6.out.size) (by rw [HL3.out]; exact len4) ?_; intro v7 w7 hO7 hB7; have HO7 := Lib.hid hO7; have HB7 := Lib.hid hB7; clear hO7 hB7)))
        obtain ⟨A7, c7, rfl, hx7⟩ := own_reads HO7.out
        have h7c := own_le HO7.out
        have hl7 : (l.take p ++ gapI m ++ l.drop p).length = n + (gapI m).length := by rw [List.length_append, HL3.out, HDL.out]; omega
        have HX7 := Lib.hid hx7
        have HB7w := Lib.hid (below_then HB4.out HB4.out.size HB7.out)
        have HBR := Lib.hid (((HB.out.take p).append (byteRange_of HGR.out)).append (HB.out.drop p))
        clear hx7
        rw [hl7] at h7c HX7 ⊢
        have hgs := HGS.out
        have hgl := HGL.out
        clear hl7 HL3 HO7 HO6 HO5 HX1 HX2 HGO HGS HGL hlo htk len1 len2 len4
        generalize (gapI m).length = G at *
        go_wp2_with fail
        refine (tokens_any A7 (n + G) c7 _ _ _ _ _ h7c (by exact HX7.out) HBR.out (by omega) HMLEX.out).mono ?_
        rintro e w8 ⟨v8, rfl, hO8, hb8⟩
        obtain ⟨A8, c8, rfl, hC8⟩ := R_same hO8
        have HB8 := Lib.hid (below_then HB7w.out HB7w.out.size hb8)
        have HC8 := Lib.hid hC8
        have HC48 := Lib.hid (Kd.C_below (Kd.C_below HC4.out HB7.out) hb8)
        rw [HML.out] at HC8 ⊢
        clear hO8 hb8 hC8
        have hpl : (err = 0 ∧ (if err = 0 then 0 else place + (G : Int)) = 0) ∨ (err ≠ 0 ∧ ∃ q : Nat, place = (q : Int) ∧ q < n ∧ (if err = 0 then 0 else place + (G : Int)) = (q : Int) + (G : Int)) := by
          by_cases he : err = 0
          · exact .inl ⟨he, if_pos he⟩
          · have hx := HLEX.out
            rw [lexAll_lex] at hx
            obtain ⟨q, h1, h2, _, _⟩ := lex_take _ 0 l (Nat.le_refl _) HB.out (by rw [hx]; exact he)
            simp only [hx, Nat.zero_add] at h1
            rw [HLL.out] at h2
            exact .inr ⟨he, q, h1, h2, by rw [if_neg he, h1]⟩
        generalize (if err = 0 then 0 else place + (G : Int)) = pl2 at *
        rcases hpl with ⟨rfl, rfl⟩ | ⟨he, q, rfl, hq, rfl⟩
        rotate_left
        have he2 : (err == 0) = false := by simpa using he
        go_wp2_with (go_at_call 18; refine (num_any _ _).mono ?_; rintro e w' ⟨rfl, rfl⟩)
        rotate_left
        go_wp2_with (go_at_call 18; refine (num_any _ _).mono ?_; rintro e w' ⟨rfl, rfl⟩)
      all_goals
        go_loopw [18] (fun i2 wr => ∃ j : Nat, j ≤ out.length ∧ i2 = .int .i64 j ∧ Hid (Below w8.heap.size w8 wr)) (fun i2 _ => out.length - (intOf i2).toNat)
        case atStart => exact ⟨0, by omega, rfl, Lib.hid (Below.refl _ _)⟩
        case round =>
          obtain ⟨j, hj, rfl, HRB⟩ := hrel
          by_cases hlt : j < out.length
          · obtain ⟨ad1, e1, p0, p1, p2, p3⟩ := tok_cells (Kd.C_below HC48.out HRB.out) j hlt
            obtain ⟨ad2, e2, r0, r1, r2, r3⟩ := tok_cells (Kd.C_below HC8.out HRB.out) j hlt
            obtain rfl := Option.some.inj e1
            obtain rfl := e2
            rw [HMD.out j hlt] at r0 r1 r2 r3
            obtain ⟨pj, hpj, hpjn⟩ := at_nat HB.out HLEX.out j hlt
            rw [HLL.out] at hpjn
            have hji : decide ((i : Int) ≤ (j : Int)) = decide (i ≤ j) := by simp
            by_cases hij : i ≤ j
            · have hmv : movedTok out i G j = (out.getD j Tok.nil).shift (G : Int) := if_pos hij
              have hij2 : (i : Int) ≤ (j : Int) := by omega
              rw [hmv] at r0 r1 r2 r3
              simp only [Tok.shift] at r0 r1 r2 r3
              rw [hpj] at p1 r1
              clear hji hmv
              generalize out.getD j Tok.nil = x at *
              have R0 := (World.grownBy_alloc wr (.cells #[.int .i64 x.kind, .int .i64 ((pj : Int) + (G : Int)), .int .i64 x.value, .string x.name] 33) none).cell r0 (by simp)
              have R1 := (World.grownBy_alloc wr (.cells #[.int .i64 x.kind, .int .i64 ((pj : Int) + (G : Int)), .int .i64 x.value, .string x.name] 33) none).cell r1 (by simp)
              have R2 := (World.grownBy_alloc wr (.cells #[.int .i64 x.kind, .int .i64 ((pj : Int) + (G : Int)), .int .i64 x.value, .string x.name] 33) none).cell r2 (by simp)
              have R3 := (World.grownBy_alloc wr (.cells #[.int .i64 x.kind, .int .i64 ((pj : Int) + (G : Int)), .int .i64 x.value, .string x.name] 33) none).cell r3 (by simp)
              clear r0 r1 r2 r3 q0 q1 q2 q3
              go_wp2
              go_quiet (fail)
              go_wp2
              go_roundw
              case rel => exact ⟨j + 1, by omega, by go_num, Lib.hid (pw_below_drewN (HRB.out.alloc HRB.out.size _) _)⟩
              case measure => simp [intOf]; omega
            · have hmv : movedTok out i G j = out.getD j Tok.nil := if_neg hij
              have hij2 : ¬ (i : Int) ≤ (j : Int) := by omega
              rw [hmv] at r0 r1 r2 r3
              rw [hpj] at p1 r1
              clear hji hmv
              generalize out.getD j Tok.nil = x at *
              have R0 := (World.grownBy_alloc wr (.cells #[.int .i64 x.kind, .int .i64 ((pj : Int)), .int .i64 x.value, .string x.name] 33) none).cell r0 (by simp)
              have R1 := (World.grownBy_alloc wr (.cells #[.int .i64 x.kind, .int .i64 ((pj : Int)), .int .i64 x.value, .string x.name] 33) none).cell r1 (by simp)
              have R2 := (World.grownBy_alloc wr (.cells #[.int .i64 x.kind, .int .i64 ((pj : Int)), .int .i64 x.value, .string x.name] 33) none).cell r2 (by simp)
              have R3 := (World.grownBy_alloc wr (.cells #[.int .i64 x.kind, .int .i64 ((pj : Int)), .int .i64 x.value, .string x.name] 33) none).cell r3 (by simp)
              clear r0 r1 r2 r3 q0 q1 q2 q3
              go_wp2
              go_quiet (fail)
              go_wp2
              go_roundw
              case rel => exact ⟨j + 1, by omega, by go_num, Lib.hid (pw_below_drewN (HRB.out.alloc HRB.out.size _) _)⟩
              case measure => simp [intOf]; omega
          · obtain rfl : j = out.length := by omega
            go_wp2
            go_ret
            exact ⟨rfl, below_then HB8.out HB8.out.size HRB.out⟩
  · go_enter Try.func9, Try.ntmps9
    go_wp2
    go_ret
    exact ⟨rfl, Below.refl _ _⟩
end Go.Proofs.Yteenkeccpfgffaa
