/- LexBack: the walk (chapter 2). -/
import Derived.Test.YteenkeccpfgffaaBN
set_option linter.unusedVariables false
set_option linter.unusedSimpArgs false
namespace Go.Proofs.Yteenkeccpfgffaa
open Go.RowKit Go.Proofs.YteenkeccpfgffaaW.PrintWords Go.Proofs.YteenkeccpfgffaaW.PrintLast Go.Proofs.YteenkeccpfgffaaW.PrintMore

structure Pc where
  kd : Int
  num : Int
  gap : Int
def Pc.nil : Pc := ⟨0, 0, 0⟩
def kPc : Kd Pc := Kd.iso (Kd.pair (Kd.int .i64) (Kd.pair (Kd.int .i64) (Kd.int .i64))) (fun x : Pc => (x.kd, x.num, x.gap))
theorem kPc_open {w : World} {x : Pc} {cs : List Value} (h : kPc.K w x cs) : cs = [.int .i64 x.kd, .int .i64 x.num, .int .i64 x.gap] := by
  obtain ⟨_, _, rfl, rfl, ⟨_, _, rfl, rfl, rfl⟩⟩ := h
  exact rfl
theorem pc_cells {w : World} {A : Option Addr} {n : Nat} {xs : List Pc} (h : kPc.C w A n xs) (k : Nat) (hk : k < n) : ∃ ad, A = some ad ∧ w.cell? (ad.add (k * 3)) = some (.int .i64 (xs.getD k Pc.nil).kd) ∧ w.cell? ⟨(ad.add (k * 3)).block, (ad.add (k * 3)).off + 1, none⟩ = some (.int .i64 (xs.getD k Pc.nil).num) ∧ w.cell? ⟨(ad.add (k * 3)).block, (ad.add (k * 3)).off + 2, none⟩ = some (.int .i64 (xs.getD k Pc.nil).gap) := by
  obtain ⟨ad, c, e, _, hK, hc0⟩ := Kd.C_get h Pc.nil (k : Int) (by omega) (by omega)
  rw [Int.toNat_natCast] at hK hc0
  have hc : ∀ j u, c[j]? = some u → w.cell? (ad.add (k * 3 + j)) = some u := hc0
  obtain rfl := kPc_open hK
  exact ⟨ad, e, hc 0 _ rfl, by rw [← add_field _ _ 1 (by omega)]; exact hc 1 _ rfl, by rw [← add_field _ _ 2 (by omega)]; exact hc 2 _ rfl⟩
theorem i64_and1 (n : Int) : bits .and .i64 n 1 = n % 2 := i64_mask n 1 1 (by omega) (by decide)
theorem tok_over_text {w w1 : World} {base b : Nat} {ok : Nat → Prop} {v u : Value} {X : List Tok} {T : List Int} (hU : kTok.R 33 w base ok u X) (hV : w.ownsRow b 5 1 v T.length (nums .u8 T)) (hg : w.grownBy w1 v.ownBlock) : kTok.R 33 w1 base ok u X :=
  Kd.R_over (d' := Kd.int .u8) (e' := 5) (ok' := fun _ => True) hU (Kd.R_of_own hV (fun _ _ => trivial)) (by intro q hq; simp [kTok, Kd.iso, Kd.pair, Kd.int, Kd.string, Kd.scalar] at hq; omega) hg
theorem text_over_tok {w w1 : World} {base b : Nat} {ok : Nat → Prop} {v u : Value} {X : List Tok} {T : List Int} (hV : w.ownsRow b 5 1 v T.length (nums .u8 T)) (hU : kTok.R 33 w base ok u X) (hg : w.grownBy w1 u.ownBlock) : w1.ownsRow b 5 1 v T.length (nums .u8 T) := by
  obtain ⟨inner, ho⟩ := Kd.R_own hU
  exact own_other hV hg (own_type_ne hV ho (by decide))
def endB : ByteArray := ⟨#[32, 47, 47, 32, 116, 104, 101, 32, 101, 110, 100, 44, 32, 119, 105, 116, 104, 111, 117, 116, 32, 97, 32, 108, 105, 110, 101, 39, 115]⟩
theorem endB_size : endB.size = 29 := rfl
theorem endB_bytes : bytesOf endB = endI := by decide
attribute [local go_sem high] eqA33
set_option maxRecDepth 100000 in
set_option maxHeartbeats 16000000 in
theorem lexBack_any (A : Option Addr) (n c : Nat) (ps : List Pc) (en : Int) (w : World) (hnc : n ≤ c) (hC : kPc.C w A n ps) (hps : ∀ p ∈ ps, -9223372036854775808 ≤ p.num ∧ p.num ≤ 9223372036854775807) :
    Calls Try.prog 6 #[.slice A n c, .int .i64 en] w fun e w' => e = .returned (.bool true) ∧ Below w.heap.size w w' := by
  by_cases hbig : n ≤ 10000
  · have HLP := Lib.hid hC.1
    have HC := Lib.hid hC
    have HPS := Lib.hid hps
    have hN := hC.2.1
    clear hC hps
    go_enter Try.func6, Try.ntmps6
    go_wp2_with (go_at_call 11; refine (alive_any _).mono ?_; rintro e w1 ⟨rfl, hb1⟩; have HB1 := Lib.hid hb1; clear hb1)
    go_loopw [6, 7, 8] (fun v u i wr => ∃ (j : Nat) (T : List Int) (X : List Tok), j ≤ n ∧ i = .int .i64 j ∧ T.length ≤ 40 * j ∧ X.length ≤ j ∧ Hid (wr.ownsRow w.heap.size 5 1 v T.length (nums .u8 T)) ∧ Hid (kTok.R 33 wr w.heap.size (fun _ => True) u X) ∧ Hid (Written T X) ∧ Hid (Below w.heap.size w wr)) (fun _ _ i _ => n - (intOf i).toNat)
    case atStart => exact ⟨0, [], [], by omega, rfl, by simp, by simp, Lib.hid (own_nil _ _ _ _), Lib.hid (Kd.R_nil _ _ _ _ _), Lib.hid written_nil, HB1⟩
    case round =>
      obtain ⟨j, T, X, hj, rfl, hT, hX, HV, HU, HW, HRB⟩ := hrel
      by_cases hlt : j < n
      · obtain ⟨ad, rfl, p0, p1, p2⟩ := pc_cells (Kd.C_below HC.out HRB.out) j hlt
        go_wp2_with fail
        refine (gap_any _ _).mono ?_
        rintro e w2 ⟨⟨m, hm, rfl⟩, hb2⟩
        obtain ⟨g1, g2, g3, g4, g5⟩ := gap_blank m hm
        have hgs : (gapB m).size = (gapI m).length := size_nums' _
        have hgo : bytesOf (gapB m) = gapI m := bytesOf_strOf g5
        have HV2 := Lib.hid (pw_own_below HV.out hb2)
        have HU2 := Lib.hid (Kd.R_below HU.out hb2)
        have HRB2 := Lib.hid (below_then HRB.out HRB.out.size hb2)
        have HG := Lib.hid (And.intro g1 (And.intro g2 (And.intro g3 g5)))
        have HGO := Lib.hid hgo
        have HGS := Lib.hid hgs
        clear hb2 p0 p1 p2 g1 g2 g3 g5 hgs hgo
        go_wp2_with (at_builtin; refine stop_intro ?_)
        unfold Stop
        refine print_append_str (w0 := w) w.heap.size rfl (.tmp 24) (.tmp 30) 22 9 5 rfl Try.underlying22 Try.underlying9 info5k _ T (gapB m) rfl rfl HV2.out HRB2.out HRB2.out.size (by rw [HGS.out]; omega) ?_
        intro v3 w3 hO3 hB3 hg3
        rw [HGO.out] at hO3
        have HU3 := Lib.hid (tok_over_text HU2.out HV2.out hg3)
        have HO3 := Lib.hid hO3
        have HB3 := Lib.hid hB3
        clear hO3 hB3 hg3
        obtain ⟨A3, c3, rfl⟩ := own_slice HO3.out
        have hl3 : (T ++ gapI m).length = T.length + (gapI m).length := List.length_append
        obtain ⟨ad2, e2, p0, p1, p2⟩ := pc_cells (Kd.C_below HC.out HB3.out) j hlt
        injection e2 with e2
        subst e2
        have hpn := HPS.out (ps.getD j Pc.nil) (by rw [List.getD_eq_getElem?_getD, List.getElem?_eq_getElem (by rw [HLP.out]; exact hlt)]; exact List.getElem_mem _)
        generalize ps.getD j Pc.nil = p at *
        have hl3b : (T ++ gapI m).length ≤ 40 * j + 14 := by omega
        have HL3 := Lib.hid hl3
        clear hl3
        generalize hT3 : T ++ gapI m = T3 at *
        have HT3 := Lib.hid hT3
        clear hT3
        go_wp2_with fail
        refine (token_piece p.kd p.num p.gap _ hpn.1 hpn.2).mono ?_
        rintro e w4 ⟨⟨x, s, hgood, rfl⟩, hb4⟩
        have hus : (bytesOf s).length ≤ 22 := hgood.2.2.2.2
        rw [bytesOf_length] at hus
        have HGOOD := Lib.hid hgood
        have HU4 := Lib.hid (Kd.R_below HU3.out hb4)
        have HO4 := Lib.hid (pw_own_below HO3.out hb4)
        have HB4 := Lib.hid (below_then HB3.out HB3.out.size hb4)
        clear hgood hb4 p0 p1 p2
        go_wp2_with (at_builtin; refine stop_intro ?_)
        unfold Stop
        have hat : x.at_ = 0 := (tok_len HGOOD.out.1 HGOOD.out.2.1 HGOOD.out.2.2.2.1).2.2.2
        refine print_append_str (w0 := w) w.heap.size rfl (.tmp 43) (.tmp 44) 22 9 5 rfl Try.underlying22 Try.underlying9 info5k (.slice A3 T3.length c3) T3 s rfl rfl (own_alloc HO4.out _) (HB4.out.alloc HB4.out.size _) (by rw [size_alloc']; have := HB4.out.size; omega) (by omega) ?_
        intro v5 w5 hO5 hB5 hg5
        have hr4 := heap_alloc_new w4 (.cells #[.int .i64 x.kind, .int .i64 (T3.length : Int), .int .i64 x.value, .string x.name] 33)
        have hr5 := blk_grown hr4 hg5 (own_ne (own_alloc HO4.out _) hr4 (show (5 : TypeId) ≠ 33 by decide))
        have t0 := row_cell hr5
        have HU5 := Lib.hid (tok_over_text (own_row_alloc HU4.out _) (own_alloc HO4.out _) hg5)
        have HO5 := Lib.hid hO5
        have HB5 := Lib.hid hB5
        have hlt5 : w4.heap.size < w5.heap.size := by have := hg5.size; rw [size_alloc'] at this; omega
        clear hO5 hB5 hg5 hr5 hr4
        obtain ⟨A5, c5, rfl⟩ := own_slice HO5.out
        have hl5 : (T3 ++ bytesOf s).length = T3.length + s.size := by rw [List.length_append, bytesOf_length]
        have hl5b : (T3 ++ bytesOf s).length ≤ 40 * (j + 1) := by omega
        clear hl5
        have HW5 : Hid (Written (T3 ++ bytesOf s) (X ++ [x.shift (T3.length : Nat)])) := Lib.hid (by
          have := written_step HW.out HG.out.1 HG.out.2.1 HG.out.2.2.1 HG.out.2.2.2 HGOOD.out
          rw [HT3.out] at this
          rw [← HL3.out] at this
          exact this)
        have hsh : x.shift (T3.length : Nat) = ⟨x.kind, (T3.length : Int), x.value, x.name⟩ := by unfold Tok.shift; rw [hat, Int.zero_add]
        rw [hsh] at HW5
        clear hsh hat
        generalize hT5 : T3 ++ bytesOf s = T5 at *
        clear hT5
        go_wp2_with (at_builtin; refine stop_intro ?_)
        unfold Stop
        refine Kd.R_append kTok (w0 := w) w.heap.size rfl (.tmp 46) (.tmp 48) 28 33 (.agg #[.int .i64 0, .int .i64 0, .int .i64 0, .string ⟨#[]⟩]) 40 rfl Try.underlying28 info33 rfl (by decide) (by decide) _ X ⟨x.kind, (T3.length : Int), x.value, x.name⟩ [.int .i64 x.kind, .int .i64 (T3.length : Int), .int .i64 x.value, .string x.name] (fun _ => True) (fun _ => False) rfl rfl (kTok_mkM _ _ _ _) (fun _ h => h.elim) (fun _ _ => trivial) HU5.out HB5.out HB5.out.size (by omega) ?_
        intro v6 w6 hU6 hB6 hg6 hat6
        have HU6 := Lib.hid hU6
        have HB6 := Lib.hid hB6
        have HO6 := Lib.hid (text_over_tok HO5.out HU5.out hg6)
        clear hU6 hB6 hg6 hat6
        clear t0
        go_wp2
        go_roundw
        case rel => exact ⟨j + 1, T5, _, by omega, by go_num, by omega, by rw [List.length_append, List.length_singleton]; omega, HO6, HU6, HW5, HB6⟩
        case measure => simp [intOf]; omega
      · obtain rfl : j = n := by omega
        have hcase : en % 2 = 1 ∨ en % 2 = 0 := by omega
        rcases hcase with hen | hen
        · have hand : (bits .and .i64 en 1 == 1) = true := by rw [i64_and1, hen]; rfl
          clear hen
          go_wp2_with (at_builtin; refine stop_intro ?_)
          unfold Stop
          refine print_append_str (w0 := w) w.heap.size rfl (.tmp 53) (.const (.string endB)) 22 9 5 rfl Try.underlying22 Try.underlying9 info5k _ T endB rfl rfl HV.out HRB.out HRB.out.size (by rw [endB_size]; omega) ?_
          intro v6 w6 hO6 hB6 hg6
          rw [endB_bytes] at hO6
          have HU6 := Lib.hid (tok_over_text HU.out HV.out hg6)
          have HO6 := Lib.hid hO6
          have HB6 := Lib.hid hB6
          clear hO6 hB6 hg6
          obtain ⟨AT, cT, rfl⟩ := own_slice HO6.out
          have hcT := own_le HO6.out
          have hlx := written_end HW.out endI_head endI_skip
          have HLX := Lib.hid hlx
          have HBR := Lib.hid (HW.out.1.append (gap_range endI_range))
          have hl6 : (T ++ endI).length ≤ 40 * j + 29 := by rw [List.length_append]; have : endI.length = 29 := rfl; omega
          clear hlx
          generalize T ++ endI = T6 at *
          go_wp2_with fail
          refine (tokens_any AT T6.length cT T6 _ _ _ _ hcT (by exact own_reads' HO6.out) HBR.out (by omega) HLX.out).mono ?_
          rintro e w7 ⟨v7, rfl, hO7, hb7⟩
          obtain ⟨A7, c7, rfl, hC7⟩ := R_same hO7
          obtain ⟨AX, cX, rfl, hCX⟩ := R_same (Kd.R_below HU6.out hb7)
          have HB7 := Lib.hid (below_then HB6.out HB6.out.size hb7)
          have HC7 := Lib.hid hC7
          have HCX := Lib.hid hCX
          clear hb7 hO7 hC7 hCX
          go_wp2_with (first | (go_at_call 18; refine (num_any _ _).mono ?_; rintro e w' ⟨rfl, rfl⟩) | (go_at_call 14; refine (same_yes _ _ _ _ _ _ _ (by exact HC7.out) (by exact HCX.out)).mono ?_; rintro e w8 ⟨rfl, q, rfl⟩))
          go_ret
          exact ⟨rfl, pw_below_drewN HB7.out _⟩
        · have hand : (bits .and .i64 en 1 == 1) = false := by rw [i64_and1, hen]; rfl
          clear hen
          obtain ⟨AT, cT, rfl⟩ := own_slice HV.out
          have hcT := own_le HV.out
          have hlx := written_end HW.out (.inl rfl) (show skipL false [] = (([] : List Int).length, true) from rfl)
          rw [List.append_nil] at hlx
          have HLX := Lib.hid hlx
          clear hlx
          go_wp2_with fail
          refine (tokens_any AT T.length cT T _ _ _ _ hcT (by exact own_reads' HV.out) HW.out.1 (by omega) HLX.out).mono ?_
          rintro e w7 ⟨v7, rfl, hO7, hb7⟩
          obtain ⟨A7, c7, rfl, hC7⟩ := R_same hO7
          obtain ⟨AX, cX, rfl, hCX⟩ := R_same (Kd.R_below HU.out hb7)
          have HB7 := Lib.hid (below_then HRB.out HRB.out.size hb7)
          have HC7 := Lib.hid hC7
          have HCX := Lib.hid hCX
          clear hb7 hO7 hC7 hCX
          go_wp2_with (first | (go_at_call 18; refine (num_any _ _).mono ?_; rintro e w' ⟨rfl, rfl⟩) | (go_at_call 14; refine (same_yes _ _ _ _ _ _ _ (by exact HC7.out) (by exact HCX.out)).mono ?_; rintro e w8 ⟨rfl, q, rfl⟩))
          go_ret
          exact ⟨rfl, pw_below_drewN HB7.out _⟩
  · go_enter Try.func6, Try.ntmps6
    go_wp2
    go_ret
    exact ⟨rfl, Below.refl _ _⟩
end Go.Proofs.Yteenkeccpfgffaa
