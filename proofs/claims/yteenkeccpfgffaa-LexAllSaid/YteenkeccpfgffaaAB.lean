/- told (quernlaw2): the program's tokens are the reference's, twice over one memory (chapter 2). -/
import Derived.Test.YteenkeccpfgffaaAA
set_option linter.unusedVariables false
set_option linter.unusedSimpArgs false
namespace Go.Proofs.Yteenkeccpfgffaa
open Go.RowKit Go.Proofs.YteenkeccpfgffaaW.PrintWords Go.Proofs.YteenkeccpfgffaaW.PrintLast Go.Proofs.YteenkeccpfgffaaW.PrintMore

theorem own_le {w : World} {base n : Nat} {A : Option Addr} {c : Nat} {xs : List Value} (h : w.ownsRow base 5 1 (.slice A n c) n xs) : n ≤ c := by
  rcases h.2 with ⟨hv, h0⟩ | ⟨g', cap', cur, hv, hb, hh, hnc, _⟩
  · injection hv with _ h1 h2
    omega
  · injection hv with _ _ h2
    omega
theorem lend_grown {W W' : World} {g K n : Nat} {l : List Int} (h : LendRow W g K n l) (hb : W.grownBy W' none) : LendRow W' g K n l := by
  obtain ⟨cu, hh, r⟩ := h
  exact ⟨cu, (hb.block g (Array.getElem?_eq_some_iff.1 hh).1 (by simp)).trans hh, r⟩
theorem lex_ex (l : List Int) : ∃ out place err, lexAll l = (out, place, err) := ⟨_, _, _, rfl⟩
set_option maxRecDepth 100000 in
set_option maxHeartbeats 8000000 in
theorem told_any (A : Option Addr) (n c : Nat) (l : List Int) (w : World) (hnc : n ≤ c) (hr : ReadsInt w .u8 A n l) (hb : byteRange l) (hn : n ≤ 3000000000000) :
    Calls Try.prog 12 #[.slice A n c] w fun e w' => e = .returned (.bool true) ∧ Below w.heap.size w w' := by
  have hll := hr.1
  obtain ⟨out, place, err, hlex⟩ := lex_ex l
  have HR := Lib.hid hr
  have HB := Lib.hid hb
  have HLEX := Lib.hid hlex
  have HLL := Lib.hid hll
  clear hr hb hlex hll
  go_enter Try.func12, Try.ntmps12
  go_wp2_with fail
  refine (lend_any A n c l _ hnc (by exact HR.out) hn).mono ?_
  rintro e w1 ⟨⟨g, K, rfl, hL1, hg⟩, hb1⟩
  have hK : n + 40 ≤ K := by obtain ⟨cu, _, _, h, _⟩ := hL1; exact h
  have hK2 : K ≤ 9223372036854775807 := by obtain ⟨cu, _, _, _, h, _⟩ := hL1; exact h
  have hgl : g < w1.heap.size := by obtain ⟨cu, h, _⟩ := hL1; exact (Array.getElem?_eq_some_iff.1 h).1
  have HL1 := Lib.hid hL1
  have HB1 := Lib.hid hb1
  have HTK := Lib.hid (take_run (some ⟨g, 0, none⟩) K K n (by omega) (Nat.le_refl _))
  clear hL1 hb1
  have htk := HTK.out
  go_wp2_with fail
  refine (tokens_any _ n K l _ _ _ _ (by omega) (by exact lend_reads HL1.out HLL.out) HB.out hn HLEX.out).mono ?_
  rintro e w2 ⟨v2, rfl, hO2, hb2⟩
  have HL2 := Lib.hid (lend_below HL1.out hb2)
  have HB2 := Lib.hid (below_then HB1.out HB1.out.size hb2)
  have HO2 := Lib.hid (Kd.R_mono (Kd.R_bound hO2) (ok' := fun k => w1.heap.size ≤ k) (fun k hk => hk.2.1))
  have hs2 := hb2.size
  clear hO2 hb2
  go_wp2_with fail
  refine (reftokens_any A n c l _ _ _ _ hnc (by exact HR.out.below HB2.out) HB.out hn HLEX.out).mono ?_
  rintro e w3 ⟨v3, rfl, hO3, hb3⟩
  have HL3 := Lib.hid (lend_below HL2.out hb3)
  have HB3 := Lib.hid (below_then HB2.out HB2.out.size hb3)
  have HO23 := Lib.hid (Kd.R_below HO2.out hb3)
  have HO3 := Lib.hid (Kd.R_mono (Kd.R_bound hO3) (ok' := fun k => w1.heap.size ≤ k) (fun k hk => by have := hk.2.1; omega))
  have hs3 := hb3.size
  clear hO3 hb3
  obtain ⟨A2, c2, rfl, hC2⟩ := R_same HO23.out
  obtain ⟨A3, c3, rfl, hC3⟩ := R_same HO3.out
  have HC2 := Lib.hid hC2
  have HC3 := Lib.hid hC3
  clear hC2 hC3
  go_wp2_with (first | (go_at_call 18; refine (num_any _ _).mono ?_; rintro e w' ⟨rfl, rfl⟩) | (go_at_call 14; refine (same_yes A2 A3 out.length c2 c3 out _ (by exact HC2.out) (by exact HC3.out)).mono ?_; rintro e w' ⟨rfl, k4, rfl⟩) | (go_at_call 24; refine (kept_yes A n c g K l _ (by exact lend_drew HL3.out _) (by exact reads_heap (HR.out.below HB3.out) rfl) hn).mono ?_; rintro e w' ⟨rfl, k5, rfl⟩))
  clear htk
  go_loopw [11] (fun i wr => ∃ (k : Nat) (l1 : List Int), k ≤ n ∧ i = .int .i64 k ∧ l1.length = n ∧ Hid (byteRange l1) ∧ Hid (LendRow wr g K n l1) ∧ Hid (Below w.heap.size w wr) ∧ Hid (kTok.R 33 wr w1.heap.size (fun k => w1.heap.size ≤ k) (.slice A2 out.length c2) out) ∧ Hid (kTok.R 33 wr w2.heap.size (fun k => w1.heap.size ≤ k) (.slice A3 out.length c3) out)) (fun i _ => n - (intOf i).toNat)
  case atStart =>
    refine ⟨0, l, by omega, rfl, HLL.out, HB, Lib.hid HL3.out, Lib.hid (pw_below_drewN HB3.out _), Lib.hid (Kd.R_below HO23.out (by exact Drawn0.below ⟨_, rfl⟩)), Lib.hid (Kd.R_below HO3.out (by exact Drawn0.below ⟨_, rfl⟩))⟩
  case round =>
    obtain ⟨k, l1, hk, rfl, hl1, HBR, HL4, HB4, HO4, HO5⟩ := hrel
    by_cases hlt : k < n
    · obtain ⟨cu, hh, h1, h2, h3, h4, h5⟩ := HL4.out
      have hcell := h4 k hlt
      rw [← cell_of_row _ g k cu 5 (0, 0) hh] at hcell
      have hf0 := blk_frozen hh k
      have hbk := HBR.out k
      clear hh h1 h2 h3 h4 h5
      generalize rd l1 k = bv at *
      go_wp2_with (go_at_call 25; refine (turned_any bv (k : Int) _ hbk.1 hbk.2 (by omega)).mono ?_; rintro e w' ⟨⟨r, hr0, hr1, rfl⟩, rfl⟩)
      go_roundw
      case rel => exact ⟨k + 1, l1.set k r, by omega, by go_num, by simpa using hl1, Lib.hid (byteRange_set HBR.out (by omega) hr0 hr1), Lib.hid (lend_set HL4.out hl1 hlt r), Lib.hid (HB4.out.setCell hg _), Lib.hid (Kd.R_far (p := ⟨g, k, none⟩) HO4.out (fun j hj => by show j ≠ g; omega) _), Lib.hid (Kd.R_far (p := ⟨g, k, none⟩) HO5.out (fun j hj => by show j ≠ g; omega) _)⟩
      case measure => simp [intOf]; omega
    · obtain rfl : k = n := by omega
      obtain ⟨out1, place1, err1, hlex1⟩ := lex_ex l1
      have HLEX1 := Lib.hid hlex1
      have HL1L := Lib.hid hl1
      clear hlex1 hl1
      have htk := HTK.out
      go_wp2_with (at_builtin; refine stop_intro ?_)
      unfold Stop
      refine print_append_row (w0 := w) w.heap.size rfl (.const (.slice none 0 0)) (.tmp 70) 22 5 .u8 1 rfl Try.underlying22 info5k (by decide) _ [] l1 (some ⟨g, 0, none⟩) k K rfl rfl (own_nil _ _ _ _) (lend_reads HL4.out HL1L.out) HB4.out HB4.out.size ?len ?_
      case len => simp; omega
      intro v6 w6 hO hB hg6 hat
      rw [List.nil_append, HL1L.out] at hO
      have hg6' : wr.grownBy w6 none := hg6
      obtain ⟨A6, c6, rfl, hx6⟩ := own_reads hO
      have h6c := own_le hO
      have HX6 := Lib.hid hx6
      have HL6 := Lib.hid (lend_grown HL4.out hg6')
      have HB6 := Lib.hid hB
      have HO64 := Lib.hid (Kd.R_grown HO4.out hg6' (by simp))
      have HO65 := Lib.hid (Kd.R_grown HO5.out hg6' (by simp))
      have hs6 := hg6'.size
      clear hO hB hg6 hg6' hat hx6
      go_wp2_with fail
      refine (tokens_any _ k K l1 _ _ _ _ (by omega) (by exact lend_reads HL6.out HL1L.out) HBR.out hn HLEX1.out).mono ?_
      rintro e w7 ⟨v7, rfl, hO7, hb7⟩
      have HB7 := Lib.hid (below_then HB6.out HB6.out.size hb7)
      have HO7 := Lib.hid hO7
      have HO74 := Lib.hid (Kd.R_below HO64.out hb7)
      have HO75 := Lib.hid (Kd.R_below HO65.out hb7)
      have HX7 := Lib.hid (HX6.out.below hb7)
      clear hO7 hb7
      go_wp2_with fail
      refine (reftokens_any A6 k c6 l1 _ _ _ _ h6c (by exact HX7.out) HBR.out hn HLEX1.out).mono ?_
      rintro e w8 ⟨v8, rfl, hO8, hb8⟩
      have HB8 := Lib.hid (below_then HB7.out HB7.out.size hb8)
      have HO87 := Lib.hid (Kd.R_below HO7.out hb8)
      obtain ⟨A7, c7, rfl, hC7⟩ := R_same HO87.out
      obtain ⟨A8, c8, rfl, hC8⟩ := R_same hO8
      obtain ⟨A2', c2', he2, hC2⟩ := R_same (Kd.R_below HO74.out hb8)
      obtain ⟨A3', c3', he3, hC3⟩ := R_same (Kd.R_below HO75.out hb8)
      injection he2 with he2 _ he2c
      injection he3 with he3 _ he3c
      subst he2
      subst he3
      subst he2c
      subst he3c
      have HC7 := Lib.hid hC7
      have HC8 := Lib.hid hC8
      have HC2' := Lib.hid hC2
      have HC3' := Lib.hid hC3
      clear hO8 hb8 hC7 hC8 hC2 hC3
      go_wp2_with (go_at_call 18; refine (num_any _ _).mono ?_; rintro e w' ⟨rfl, rfl⟩)
      refine (same_yes A7 A8 out1.length c7 c8 out1 _ (by exact HC7.out) (by exact HC8.out)).mono ?_
      rintro e w' ⟨rfl, k4, rfl⟩
      go_wp2_with fail
      refine (same_yes A2 A3 out.length c2 c3 out _ (by exact HC2'.out) (by exact HC3'.out)).mono ?_
      rintro e w' ⟨rfl, k5, rfl⟩
      go_wp2_with fail
      go_ret
      exact ⟨rfl, pw_below_drewN HB8.out _⟩
end Go.Proofs.Yteenkeccpfgffaa
