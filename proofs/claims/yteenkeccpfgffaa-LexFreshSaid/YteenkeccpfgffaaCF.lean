/- LexFresh: the walk (chapter 2). -/
import Derived.Test.YteenkeccpfgffaaCE
set_option linter.unusedVariables false
set_option linter.unusedSimpArgs false
namespace Go.Proofs.Yteenkeccpfgffaa
open Go.RowKit Go.Proofs.YteenkeccpfgffaaW.PrintWords Go.Proofs.YteenkeccpfgffaaW.PrintLast Go.Proofs.YteenkeccpfgffaaW.PrintMore

theorem same_or {wr : World} {xa ya za : Option Addr} {n : Nat} {out : List Tok} (h1 : kTok.C wr xa n out) (h2 : kTok.C wr ya n out) (h3 : kTok.C wr za n out) (xc yc zc : Nat) (A2 : Option Addr) (c2 q : Nat) (h : (A2 = ya ∧ c2 = yc) ∨ (A2 = za ∧ c2 = zc)) :
    Calls Try.prog 14 #[.slice xa n xc, .slice A2 n c2] (wr.drewN q) fun e w' => e = .returned (.bool true) ∧ ∃ k, w' = (wr.drewN q).drewN k := by
  rcases h with ⟨rfl, rfl⟩ | ⟨rfl, rfl⟩
  · exact same_yes _ _ _ _ _ out _ (Kd.C_drewN h1 q) (Kd.C_drewN h2 q)
  · exact same_yes _ _ _ _ _ out _ (Kd.C_drewN h1 q) (Kd.C_drewN h3 q)
set_option maxRecDepth 100000 in
set_option maxHeartbeats 6000000 in
theorem lexFresh_any (A : Option Addr) (n c : Nat) (ts : List (List Int)) (w : World) (hnc : n ≤ c) (hC : kTx.C w A n ts) (hts : ∀ l ∈ ts, byteRange l ∧ l.length ≤ 140737488351232) :
    Calls Try.prog 5 #[.slice A n c] w fun e w' => e = .returned (.bool true) ∧ Below w.heap.size w w' := by
  have hn := hC.2.1
  have HC := Lib.hid hC
  have HTS : Hid (∀ k, k < n → byteRange (ts.getD k []) ∧ (ts.getD k []).length ≤ 140737488351232) := Lib.hid (fun k hk => hts _ (by
    rw [List.getD_eq_getElem?_getD, List.getElem?_eq_getElem (by rw [hC.1]; exact hk)]
    exact List.getElem_mem _))
  have hu33 := Try.underlying33
  clear hC hts
  go_enter Try.func5, Try.ntmps5
  go_wp2
  go_loop [3, 4] (fun s i => ∃ (j m : Nat), j ≤ n ∧ i = .int .i64 j ∧ s = .int .i64 m ∧ 100 * j ≤ m ∧ m ≤ 140737488351232 + 65637 ∧ Hid (∀ k, k < j → (ts.getD k []).length ≤ m)) (fun _ i => n - (intOf i).toNat)
  case atStart => exact ⟨0, 0, by omega, rfl, rfl, by omega, by omega, Lib.hid (fun k hk => absurd hk (by omega))⟩
  case round =>
    obtain ⟨j, m, hj, rfl, rfl, hjm, hm, HM⟩ := hrel
    by_cases hgo : j < n ∧ m ≤ 65536
    · obtain ⟨hlt, hms⟩ := hgo
      have hmi : (m : Int) ≤ 65536 := by omega
      obtain ⟨ad, B, cB, hA, p0, hcB, hRB⟩ := tx_at HC.out j hlt
      obtain rfl := hA
      have hle := (HTS.out j hlt).2
      have HM2 : Hid (∀ k, k < j + 1 → (ts.getD k []).length ≤ m + (ts.getD j []).length + 100) := Lib.hid (fun k hk => by
        by_cases hkj : k = j
        · subst hkj; omega
        · have := HM.out k (by omega); omega)
      clear hRB hcB
      generalize ts.getD j [] = t at *
      go_wp2
      go_round
      case rel => exact ⟨j + 1, m + t.length + 100, by omega, by go_num, by go_num, by omega, by omega, HM2⟩
      case measure => simp [intOf]; omega
    · have hcases : (j < n ∧ 65536 < m) ∨ j = n := by omega
      rcases hcases with ⟨hlt, hbig⟩ | rfl
      · have hbi : (65536 : Int) < (m : Int) := by omega
        clear hgo
        go_wp2
        go_ret
        exact ⟨rfl, Below.refl _ _⟩
      · by_cases hbig : 65536 < m
        · have hbi : (65536 : Int) < (m : Int) := by omega
          clear hgo
          go_wp2
          go_ret
          exact ⟨rfl, Below.refl _ _⟩
        · have hbi : ¬ (65536 : Int) < (m : Int) := by omega
          have HM3 : Hid (∀ k, k < j → (ts.getD k []).length ≤ 65536) := Lib.hid (fun k hk => by have := HM.out k hk; omega)
          clear hgo
          have hj655 : j ≤ 655 := by omega
          go_wp2_with (go_at_call 11; refine (alive_any _).mono ?_; rintro e w1 ⟨rfl, hb1⟩; have HB1 := Lib.hid hb1; clear hb1)
          go_loopw [6, 7, 8] (fun vl vw i wr => ∃ (k : Nat) (ul uw : Value) (hs ws : List Hd), k ≤ j ∧ i = .int .i64 k ∧ vl = ul ∧ vw = uw ∧ hs.length = 2 * k ∧ Hid (FP w wr ts hs ws ul uw)) (fun _ _ i _ => j - (intOf i).toNat)
          case atStart => exact ⟨0, _, _, [], [], by omega, rfl, rfl, rfl, rfl, Lib.hid (FP.start.below HB1.out)⟩
          case round =>
            obtain ⟨k, ul, uw, hs, ws, hk, rfl, h1, h2, hlen, HF⟩ := hrel
            replace h1 := h1.symm
            replace h2 := h2.symm
            subst h1
            subst h2
            clear HB1
            by_cases hlt : k < j
            · have hki : (k : Int) < (j : Int) := by omega
              go_wp2_with fail
              go_loopw [6, 7, 9] (fun vl vw q wr => ∃ (p : Nat) (ul uw : Value) (hs ws : List Hd), p ≤ 3 ∧ q = .int .i64 p ∧ vl = ul ∧ vw = uw ∧ hs.length = 2 * k + min p 2 ∧ Hid (FP w wr ts hs ws ul uw)) (fun _ _ q _ => 3 - (intOf q).toNat)
              case atStart => exact ⟨0, _, _, hs, ws, by omega, rfl, rfl, rfl, by omega, HF⟩
              case round =>
                clear HF hlen
                obtain ⟨p, ul, uw, hs, ws, hp, rfl, h1, h2, hlen, HF⟩ := hrel
                replace h1 := h1.symm
                replace h2 := h2.symm
                subst h1
                subst h2
                by_cases hlt3 : p < 3
                · obtain ⟨ad, B, cB, hA, p0, hcB, hRB⟩ := tx_at (Kd.C_below HC.out HF.out.bel) k hlt
                  obtain rfl := hA
                  have hl := HM3.out k hlt
                  have HRT := Lib.hid hRB
                  have HBT := Lib.hid (HTS.out k hlt).1
                  obtain ⟨place, err, hlex⟩ : ∃ place err, lexAll (ts.getD k []) = (toks ts k, place, err) := ⟨_, _, rfl⟩
                  have hol := lexAll_len hlex
                  have HLEX := Lib.hid hlex
                  clear hRB hlex
                  generalize ts.getD k [] = t at *
                  have hp3 : (p : Int) < 3 := by omega
                  go_wp2_with fail
                  refine (tokens_any B t.length cB t wr (toks ts k) place err hcB HRT.out HBT.out (by omega) HLEX.out).mono ?_
                  rintro e w2 ⟨v, rfl, hRv, hB2⟩
                  obtain ⟨Av, cv, ev⟩ := Kd.R_slice hRv
                  subst ev
                  have HF2 := Lib.hid (HF.out.below hB2)
                  have HNEW := Lib.hid (show ∀ k, (Value.slice Av (toks ts k).length cv).ownBlock = some k → True from fun _ _ => trivial)
                  have HOLD := Lib.hid (show ∀ p, p < hs.length → ∀ q, (encH (hs.getD p zH)).ownBlock = some q ∨ (encH (ws.getD p zH)).ownBlock = some q → q < wr.heap.size from fun p hp q hq => hq.elim (fun h => lt_of_row (HF.out.ent p hp).1 h) (fun h => lt_of_row (HF.out.ent p hp).2.1 h))
                  have HV := Lib.hid (show ∀ q, (Value.slice Av (toks ts k).length cv).ownBlock = some q → wr.heap.size ≤ q from fun q hq => (row_block hRv hq).1)
                  have HRV := Lib.hid (Kd.R_lower hRv HF.out.bel.size)
                  clear HNEW hRv hB2 p0
                  generalize hz : (toks ts k) = out at *
                  by_cases h2 : p = 2
                  · subst h2
                    go_wp2_with fail
                    clear hz
                    have HFE := Lib.hid HF2.out
                    clear HF2 HF
                    generalize wr.heap.size = S0 at *
                    go_loopw [13] (fun q wr => ∃ i : Nat, i ≤ out.length ∧ q = .int .i64 i ∧ Hid (FP w wr ts hs ws ul uw) ∧ Hid (∃ xs : List Tok, xs.length = out.length ∧ kTok.R 33 wr w.heap.size Tt (.slice Av out.length cv) xs)) (fun q _ => out.length - (intOf q).toNat)
                    case atStart => exact ⟨0, by omega, rfl, HFE, Lib.hid ⟨out, rfl, HRV.out⟩⟩
                    case round =>
                      obtain ⟨i, hi, rfl, HA, HQ⟩ := hrel
                      clear HFE HRV
                      obtain ⟨xs, hxl, hR⟩ := HQ.out
                      have HR := Lib.hid hR
                      clear HQ hR
                      by_cases hlti : i < out.length
                      · obtain ⟨g, cg, eg, _⟩ := Kd.R_form HR.out (by omega)
                        injection eg with eg1 eg2 eg3
                        clear eg2
                        subst eg1
                        subst eg3
                        have hii : (i : Int) < (out.length : Int) := by omega
                        obtain ⟨⟨y, ⟨p0, p1, p2, p3⟩, z0, z1, z2, z3⟩, hR1, hg1⟩ := tok_put HR.out i hlti ⟨-7, 0, 0, ⟨#[]⟩⟩
                        have hown : (Value.slice (some ⟨g, 0, none⟩) out.length cv).ownBlock = some g := by simp [Value.ownBlock]
                        have HFB := Lib.hid (HA.out.beside hg1 (fun k hk => by
                          injection hk with hk
                          subst hk
                          refine ⟨(row_block HR.out hown).1, (row_block HR.out hown).2, fun p hp => ⟨fun e => ?_, fun e => ?_⟩⟩
                          · have := HOLD.out p hp _ (.inl e); have := HV.out _ hown; omega
                          · have := HOLD.out p hp _ (.inr e); have := HV.out _ hown; omega))
                        have HR1 := Lib.hid hR1
                        clear hR1 hg1 hown
                        go_wp2_with fail
                        go_roundw
                        case rel => exact ⟨i + 1, by omega, by go_num, HFB, Lib.hid ⟨_, by rw [List.length_set]; exact hxl, HR1.out⟩⟩
                        case measure => simp [intOf]; omega
                      · obtain rfl : i = out.length := by omega
                        go_wp2_with fail
                        go_roundw
                        case rel => exact ⟨3, _, _, hs, ws, by omega, rfl, rfl, rfl, by omega, HA⟩
                        case measure => simp [intOf]
                  · have e2 : ((p : Int) == 2) = false := by simp; omega
                    go_upto_region 25 with fail
                    have HZ := Lib.hid hz
                    clear hz
                    have HSS := Lib.hid HF2.out.bel.size
                    go_upto_region 26 with (first | (at_builtin; refine far_append kH (W := w2) w.heap.size rfl (.tmp 69) (.tmp 71) 27 28 (.slice none 0 0) 24 rfl Try.underlying27 info28 rfl (by decide) (by decide) ul hs ⟨Av, out.length, cv⟩ [.slice Av out.length cv] Tt rfl rfl rfl (fun _ _ => trivial) HF2.out.hd HSS.out (by omega) ?_; intro v1 w3 hR1 hg1 hat1; have HQ := Lib.hid (HF2.out.push (m := k) (by rw [HZ.out]; exact HRV.out) (by rw [HZ.out]; omega) (fun p hp q hq hq2 => by have := HOLD.out p hp q (.inl hq); have := HV.out q hq2; omega) hR1 hg1 (hat1.imp id (fun h => h.1))); clear hR1 hg1 hat1))
                    have hqn := HQ.out.new.1
                    rw [HZ.out] at hqn
                    have HCQ := Lib.hid (Kd.R_reads' hqn).2.2
                    clear hqn
                    have HS3 := Lib.hid HQ.out.bel.size
                    have hwl := HQ.out.len
                    go_wp2_with (first | (at_builtin; refine Kd.R_append_rows kTok (Rr := kTok.K w3) (w0 := w) (W := w3) w.heap.size rfl (.const (.slice none 0 0)) (.tmp 74) 28 33 (.agg #[.int .i64 0, .int .i64 0, .int .i64 0, .string ⟨#[]⟩]) 40 rfl Try.underlying28 info33 size33 (by decide) (by decide) (.slice none 0 0) [] out Av out.length cv Tt (fun _ => False) rfl rfl (Kd.R_nil _ _ _ _ _) HCQ.out (fun x cs hk => kTok_KM _ w3 x cs hk) (fun _ h => h.elim) (fun _ _ => trivial) HQ.out.bel HS3.out (by simp; omega) ?_; intro v5 w5 hR5 hB5 hg5 hat5; rw [List.nil_append] at hR5; obtain ⟨A5, c5, e5⟩ := Kd.R_slice hR5; subst e5; have HQ5 := Lib.hid (HQ.out.below ((Below.refl _ _).grown hg5 (Nat.le_refl _) (fun k hk => by simp [Value.ownBlock] at hk))); have HR5 := Lib.hid hR5; have HS5 := Lib.hid HQ5.out.bel.size; clear hR5 hB5 hg5 hat5) | (at_builtin; refine far_append kH (W := w5) w.heap.size rfl (.tmp 73) (.tmp 76) 27 28 (.slice none 0 0) 24 rfl Try.underlying27 info28 rfl (by decide) (by decide) uw ws ⟨A5, out.length, c5⟩ [.slice A5 out.length c5] Tt rfl rfl rfl (fun _ _ => trivial) HQ5.out.hw HS5.out (by omega) ?_; intro v6 w6 hR6 hg6 hat6; have HF6 := Lib.hid (HQ5.out.push (by omega) (by rw [HZ.out]; exact HR5.out) hR6 hg6 (hat6.imp id (fun h => h.1))); clear hR6 hg6 hat6))
                    go_roundw
                    case rel => exact ⟨p + 1, _, _, hs ++ [⟨Av, out.length, cv⟩], ws ++ [⟨A5, out.length, c5⟩], by omega, by go_num, rfl, rfl, by rw [List.length_append, List.length_singleton]; omega, HF6⟩
                    case measure => simp [intOf]; omega
                · obtain rfl : p = 3 := by omega
                  go_wp2_with fail
                  go_roundw
                  case rel => exact ⟨k + 1, _, _, hs, ws, by omega, by go_num, rfl, rfl, by omega, HF⟩
                  case measure => simp [intOf]; omega
            · obtain rfl : k = j := by omega
              go_wp2_with fail
              obtain ⟨Al, cl, el⟩ := Kd.R_slice HF.out.hd
              subst el
              obtain ⟨Aw, cw, ew⟩ := Kd.R_slice HF.out.hw
              subst ew
              have HWL := Lib.hid HF.out.len
              have hlb : hs.length ≤ 100000 := by omega
              clear hlen
              have HF3 := HF
              obtain ⟨W3, hW3⟩ : ∃ W3, W3 = wr := ⟨_, rfl⟩
              rw [← hW3] at HF3
              have HW3 := Lib.hid (show ∃ q, wr = W3.drewN q from ⟨0, by rw [hW3]; rfl⟩)
              clear hW3 HF
              go_loopw [14] (fun i wr => ∃ p : Nat, p ≤ hs.length ∧ i = .int .i64 p ∧ Hid (∃ q, wr = W3.drewN q)) (fun i _ => hs.length - (intOf i).toNat)
              case atStart => exact ⟨0, by omega, rfl, HW3⟩
              case round =>
                obtain ⟨p, hp, rfl, HQ⟩ := hrel
                clear HW3
                by_cases hlt : p < hs.length
                · have hwl := HWL.out
                  obtain ⟨gl, cl', el, _⟩ := Kd.R_form HF3.out.hd (by omega)
                  injection el with el1 el2 el3
                  clear el2
                  subst el1
                  subst el3
                  obtain ⟨gw, cw', ew, _⟩ := Kd.R_form HF3.out.hw (by omega)
                  injection ew with ew1 ew2 ew3
                  clear ew2
                  subst ew1
                  subst ew3
                  have hl0 : wr.cell? ⟨gl, p, none⟩ = some (encH (hs.getD p zH)) := by obtain ⟨q, rfl⟩ := HQ.out; exact (kH_cell HF3.out.hd p hlt).1
                  have hw0 : wr.cell? ⟨gw, p, none⟩ = some (encH (ws.getD p zH)) := by obtain ⟨q, rfl⟩ := HQ.out; exact (kH_cell HF3.out.hw p (by omega)).1
                  obtain ⟨r1, r2, _⟩ := HF3.out.ent p hlt
                  by_cases hodd : p % 2 = 1
                  · obtain ⟨m, rfl⟩ : ∃ m, p = m + 1 := ⟨p - 1, by omega⟩
                    have hl1 : wr.cell? ⟨gl, m, none⟩ = some (encH (hs.getD m zH)) := by obtain ⟨q, rfl⟩ := HQ.out; exact (kH_cell HF3.out.hd m (by omega)).1
                    obtain ⟨r3, _, _⟩ := HF3.out.ent m (by omega)
                    rw [show m / 2 = (m + 1) / 2 by omega] at r3
                    generalize toks ts ((m + 1) / 2) = out at *
                    generalize hs.getD (m + 1) zH = x at *
                    generalize ws.getD (m + 1) zH = y at *
                    generalize hs.getD m zH = z at *
                    obtain ⟨xa, xn, xc⟩ := x
                    obtain ⟨ya, yn, yc⟩ := y
                    obtain ⟨za, zn, zc⟩ := z
                    unfold encH at hl0 hw0 hl1 r1 r2 r3
                    simp only at hl0 hw0 hl1 r1 r2 r3
                    obtain rfl : xn = out.length := (Kd.R_reads' r1).1
                    obtain rfl : yn = out.length := (Kd.R_reads' r2).1
                    obtain rfl : zn = out.length := (Kd.R_reads' r3).1
                    have HC1 : Hid (kTok.C wr xa out.length out) := by obtain ⟨q, rfl⟩ := HQ.out; exact Lib.hid (Kd.C_drewN (Kd.R_reads' r1).2.2 q)
                    have HC2 : Hid (kTok.C wr ya out.length out) := by obtain ⟨q, rfl⟩ := HQ.out; exact Lib.hid (Kd.C_drewN (Kd.R_reads' r2).2.2 q)
                    have HC3 : Hid (kTok.C wr za out.length out) := by obtain ⟨q, rfl⟩ := HQ.out; exact Lib.hid (Kd.C_drewN (Kd.R_reads' r3).2.2 q)
                    clear r1 r2 r3
                    have hpi : ((m + 1 : Nat) : Int) < (hs.length : Int) := by omega
                    have hpw : ((m + 1 : Nat) : Int) < (ws.length : Int) := by omega
                    have hmi : (m : Int) < (hs.length : Int) := by omega
                    have em : (((m : Int) + 1) % 2 == 1) = true := by rw [show ((m : Int) + 1) % 2 = 1 by omega]; rfl
                    clear hodd hwl
                    go_wp2_with fail
                    refine wp_region_quiet_lit (by kernel_rfl) (by kernel_rfl) ?_
                    repeat (go_big_quiet_step ((go_at_call 14; exact Calls.quiet_of (same_or HC1.out HC2.out HC3.out xc yc zc _ _ _ (by first | exact .inl ⟨rfl, rfl⟩ | exact .inr ⟨rfl, rfl⟩)))))
                    refine wpQuiet_nil ?_
                    intro _ hw'
                    obtain ⟨nq, hw2⟩ := hw'
                    subst hw2
                    go_wp2_with fail
                    go_roundw
                    case rel => exact ⟨(m + 1) + 1, by omega, by go_num, Lib.hid (by obtain ⟨q, rfl⟩ := HQ.out; exact ⟨q + nq, World.drewN_drewN ..⟩)⟩
                    case measure => simp [intOf]; omega
                  · generalize toks ts (p / 2) = out at *
                    generalize hs.getD p zH = x at *
                    generalize ws.getD p zH = y at *
                    obtain ⟨xa, xn, xc⟩ := x
                    obtain ⟨ya, yn, yc⟩ := y
                    unfold encH at hl0 hw0 r1 r2
                    simp only at hl0 hw0 r1 r2
                    obtain rfl : xn = out.length := (Kd.R_reads' r1).1
                    obtain rfl : yn = out.length := (Kd.R_reads' r2).1
                    have HC1 : Hid (kTok.C wr xa out.length out) := by obtain ⟨q, rfl⟩ := HQ.out; exact Lib.hid (Kd.C_drewN (Kd.R_reads' r1).2.2 q)
                    have HC2 : Hid (kTok.C wr ya out.length out) := by obtain ⟨q, rfl⟩ := HQ.out; exact Lib.hid (Kd.C_drewN (Kd.R_reads' r2).2.2 q)
                    clear r1 r2
                    have hpi : (p : Int) < (hs.length : Int) := by omega
                    have hpw : (p : Int) < (ws.length : Int) := by omega
                    have em : ((p : Int) % 2 == 1) = false := by rw [show (p : Int) % 2 = 0 by omega]; rfl
                    clear hodd hwl
                    go_wp2_with fail
                    refine wp_region_quiet_lit (by kernel_rfl) (by kernel_rfl) ?_
                    repeat (go_big_quiet_step ((go_at_call 14; exact Calls.quiet_of (same_yes xa ya out.length xc yc out _ (Kd.C_drewN HC1.out _) (Kd.C_drewN HC2.out _)))))
                    refine wpQuiet_nil ?_
                    intro _ hw'
                    obtain ⟨nq, hw2⟩ := hw'
                    subst hw2
                    go_wp2_with fail
                    go_roundw
                    case rel => exact ⟨p + 1, by omega, by go_num, Lib.hid (by obtain ⟨q, rfl⟩ := HQ.out; exact ⟨q + nq, World.drewN_drewN ..⟩)⟩
                    case measure => simp [intOf]; omega
                · obtain rfl : p = hs.length := by omega
                  have HFE : Hid (FP w wr ts hs ws (.slice Al hs.length cl) (.slice Aw ws.length cw)) := by obtain ⟨q, rfl⟩ := HQ.out; exact Lib.hid (HF3.out.below ⟨rfl, rfl, rfl, Nat.le_refl _, fun _ _ => rfl⟩)
                  go_wp2_with fail
                  refine (apart_any w wr (.slice Al hs.length cl) hs HFE.out.toAP HFE.out.ap (by omega)).mono ?_
                  rintro e w2 ⟨rfl, hb2⟩
                  go_wp2_with fail
                  go_ret
                  exact ⟨rfl, hb2⟩
end Go.Proofs.Yteenkeccpfgffaa
