/- apart, walked (chapter 2). -/
import Derived.Test.YteenkeccpfgffaaCC
set_option linter.unusedVariables false
set_option linter.unusedSimpArgs false
namespace Go.Proofs.Yteenkeccpfgffaa
open Go.RowKit Go.Proofs.YteenkeccpfgffaaW.PrintWords Go.Proofs.YteenkeccpfgffaaW.PrintLast Go.Proofs.YteenkeccpfgffaaW.PrintMore

theorem size33 : (Value.agg #[.int .i64 0, .int .i64 0, .int .i64 0, .string ⟨#[]⟩]).cells.size = kTok.sz := by decide
theorem cell_older {w w' : World} {a : Addr} {v : Value} (hb : Below w.heap.size w w') (hc : w.cell? a = some v) : w'.cell? a = some v := by
  have hlt : a.block < w.heap.size := by
    rcases Nat.lt_or_ge a.block w.heap.size with h | h
    · exact h
    · unfold World.cell? at hc
      rw [Array.getElem?_eq_none h] at hc
      cases hc
  exact (hb.cell hlt).trans hc
theorem marks_at {p n q : Nat} (h : q < n) : (marks p n).getD q Tok.nil = mkT p q := by
  rw [List.getD_eq_getElem?_getD, List.getElem?_eq_getElem (by rw [marks_len]; exact h)]
  simp [marks]
theorem far_at1 {p n q : Nat} (h : q < n) : (marks p n ++ List.replicate 60 (fm p)).getD q Tok.nil = mkT p q := by
  rw [List.getD_eq_getElem?_getD, List.getElem?_append_left (by rw [marks_len]; exact h), ← List.getD_eq_getElem?_getD]
  exact marks_at h
theorem far_at2 {p n q : Nat} (h : n ≤ q) (h2 : q < n + 60) : (marks p n ++ List.replicate 60 (fm p)).getD q Tok.nil = fm p := by
  rw [List.getD_eq_getElem?_getD, List.getElem?_append_right (by rw [marks_len]; exact h), List.getElem?_replicate, marks_len, if_pos (by omega)]
  rfl
attribute [local go_sem high] eqA33
set_option maxRecDepth 100000 in
set_option maxHeartbeats 8000000 in
theorem apart_any (w0 w : World) (vl : Value) (hs : List Hd) (hap : AP w0 w hs vl 0) (hd : Apart hs) (hl : hs.length ≤ 100000) :
    Calls Try.prog 15 #[vl] w fun e w' => e = .returned (.bool true) ∧ Below w0.heap.size w0 w' := by
  obtain ⟨Al, cl, evl⟩ := Kd.R_slice hap.hd
  subst evl
  have HAP := Lib.hid hap
  have HD := Lib.hid hd
  have hu33 := Try.underlying33
  clear hap hd
  go_enter Try.func15, Try.ntmps15
  go_wp2_with fail
  go_loopw [3] (fun i wr => ∃ j : Nat, j ≤ hs.length ∧ i = .int .i64 j ∧ Hid (AP w0 wr hs (.slice Al hs.length cl) j)) (fun i _ => hs.length - (intOf i).toNat)
  case atStart => exact ⟨0, by omega, rfl, Lib.hid HAP.out⟩
  case round =>
    obtain ⟨i, hi, rfl, HS⟩ := hrel
    by_cases hlt : i < hs.length
    · obtain ⟨gl, cl', el, _⟩ := Kd.R_form HS.out.hd (by omega)
      injection el with el1 _ el3
      subst el1
      subst el3
      obtain ⟨xs0, hx0, hR0, _⟩ := HS.out.ent i hlt
      have hii : (i : Int) < (hs.length : Int) := by omega
      generalize hx : hs.getD i zH = x at *
      obtain ⟨xa, xn, xc⟩ := x
      unfold encH at hR0
      simp only at hR0
      obtain rfl : xn = xs0.length := (Kd.R_reads' hR0).1
      have HR0 := Lib.hid hR0
      have HX := Lib.hid hx
      clear hR0 hx
      go_wp2_with fail
      go_loopw [4] (fun q wr => ∃ j : Nat, j ≤ xs0.length ∧ q = .int .i64 j ∧ Hid (AP w0 wr hs (.slice (some ⟨gl, 0, none⟩) hs.length cl) i) ∧ Hid (∃ xs : List Tok, xs.length = xs0.length ∧ kTok.R 33 wr w0.heap.size Tt (.slice xa xs0.length xc) xs ∧ ∀ q, q < j → xs.getD q Tok.nil = mkT i q)) (fun q _ => xs0.length - (intOf q).toNat)
      case atStart => exact ⟨0, by omega, rfl, Lib.hid HS.out, Lib.hid ⟨xs0, rfl, HR0.out, fun q hq => absurd hq (Nat.not_lt_zero q)⟩⟩
      case round =>
        obtain ⟨j, hj, rfl, HA, HQ⟩ := hrel
        obtain ⟨xs, hxl, hR, hm⟩ := HQ.out
        have hm0 := (kH_cell HA.out.hd i hlt).1
        rw [HX.out] at hm0
        unfold encH at hm0
        simp only at hm0
        have HM := Lib.hid hm
        have HR := Lib.hid hR
        clear HQ hR hm HS HAP
        by_cases hltj : j < xs0.length
        · have hjj : (j : Int) < (xs0.length : Int) := by omega
          go_upto_region 7 with fail
          obtain ⟨g, cg, eg, _⟩ := Kd.R_form HR.out (by omega)
          injection eg with eg1 eg2 eg3
          clear eg2
          subst eg1
          subst eg3
          obtain ⟨⟨y, ⟨p0, p1, p2, p3⟩, z0, z1, z2, z3⟩, hR1, hg1⟩ := tok_put HR.out j hltj (mkT i j)
          have HR1 := Lib.hid hR1
          have HG1 := Lib.hid hg1
          clear hR1 hg1
          go_wp2_with fail
          go_roundw
          case rel =>
            have hown : (encH (hs.getD i zH)).ownBlock = some g := by rw [HX.out]; simp [encH, Value.ownBlock]
            refine ⟨j + 1, by omega, by go_num, Lib.hid (HA.out.put (w' := tokSet wr g j (mkT i j)) (xs := xs.set j (mkT i j)) HD.out hlt (by rw [hown]; exact HG1.out) (by rw [HX.out]; exact HR1.out) (by rw [List.length_set]; omega)), Lib.hid ⟨xs.set j (mkT i j), by rw [List.length_set]; exact hxl, HR1.out, fun q hq => ?_⟩⟩
            rw [List.getD_eq_getElem?_getD, List.getElem?_set]
            by_cases e : j = q
            · subst e; rw [if_pos rfl, if_pos (by omega)]; rfl
            · rw [if_neg e, ← List.getD_eq_getElem?_getD]
              exact HM.out q (by omega)
          case measure => simp [intOf]; omega
        · obtain rfl : j = xs0.length := by omega
          go_wp2_with fail
          go_roundw
          case rel => exact ⟨i + 1, by omega, by go_num, Lib.hid (HA.out.next hlt (by rw [HX.out]; exact HR.out) (by omega) (by rw [hxl]; exact HM.out))⟩
          case measure => simp [intOf]; omega
    · obtain rfl : i = hs.length := by omega
      go_wp2_with fail
      have HBP := Lib.hid (BP.of HS.out)
      clear HS HAP
      generalize wr.heap.size = S at *
      go_loopw [5, 6] (fun f i wr => ∃ (j : Nat) (vf : Value) (fs : List Hd), j ≤ hs.length ∧ i = .int .i64 j ∧ f = vf ∧ Hid (BP w0 wr S wr.heap.size hs fs (.slice Al hs.length cl) vf j j)) (fun _ i _ => hs.length - (intOf i).toNat)
      case atStart => exact ⟨0, _, [], by omega, rfl, rfl, Lib.hid HBP.out.wide⟩
      case round =>
        obtain ⟨i, vf, fs, hi, rfl, hvf, HS⟩ := hrel
        replace hvf := hvf.symm
        subst hvf
        by_cases hlt2 : i < hs.length
        · obtain ⟨gl, cl', el, _⟩ := Kd.R_form HS.out.hd (by omega)
          injection el with el1 el2 el3
          clear el2
          subst el1
          subst el3
          have hm0 := (kH_cell HS.out.hd i hlt2).1
          have hii : (i : Int) < (hs.length : Int) := by omega
          have HGP := Lib.hid (GP.start HS.out hlt2)
          have HNI := Lib.hid (HS.out.rest i (Nat.le_refl _) hlt2).1
          have HBI := Lib.hid HS.out.rest_
          generalize hx : hs.getD i zH = x at hm0 HNI
          rw [hx] at HGP
          have HX := Lib.hid hx
          obtain ⟨xa, xn, xc⟩ := x
          unfold encH at hm0
          simp only at hm0
          clear hx HS
          generalize hZ : wr.heap.size = Z at *
          go_upto_region 14 with fail
          clear hm0
          have HCUR := Lib.hid (show True from trivial)
          go_loopw [7, 8] (fun g q wr => ∃ (k : Nat) (gh : Hd), k ≤ 60 ∧ q = .int .i64 k ∧ g = encH gh ∧ Hid (BP w0 wr S Z hs fs (.slice (some ⟨gl, 0, none⟩) hs.length cl) vf i (i + 1)) ∧ Hid (GP w0 wr Z hs gh i k)) (fun _ q _ => 60 - (intOf q).toNat)
          case atStart => exact ⟨0, ⟨xa, xn, xc⟩, by omega, rfl, rfl, Lib.hid HBI.out, Lib.hid HGP.out⟩
          case round =>
            obtain ⟨k, gh, hk, rfl, rfl, HB, HG⟩ := hrel
            clear HBI HGP
            obtain ⟨ga, gn, gc⟩ := gh
            unfold encH
            simp only
            have HLEN := Lib.hid (show (marks i (hs.getD i zH).n ++ List.replicate k (fm i)).length ≤ 100060 from by rw [List.length_append, marks_len, List.length_replicate, HX.out]; have := HNI.out; simp only at this ⊢; omega)
            have HSZ := Lib.hid HB.out.bel.size
            by_cases hltk : k < 60
            · go_wp2_with (first | (at_builtin; refine far_append kTok (W := wr) w0.heap.size rfl (.tmp 52) (.tmp 56) 28 33 (.agg #[.int .i64 0, .int .i64 0, .int .i64 0, .string ⟨#[]⟩]) 40 rfl Try.underlying28 info33 size33 (by decide) (by decide) (.slice ga gn gc) (marks i (hs.getD i zH).n ++ List.replicate k (fm i)) (fm i) [.int .i64 (-1000000 - (i : Int)), .int .i64 0, .int .i64 0, .string ⟨#[]⟩] Tt rfl rfl (kTok_mkM _ _ _ (fm i)) (fun _ _ => trivial) HG.out.cur HSZ.out (by have := HLEN.out; omega) ?_; intro v1 w3 hR1 hg1 hat1; obtain ⟨A3, k3, e3⟩ := Kd.R_slice hR1; generalize ((marks i (hs.getD i zH).n ++ List.replicate k (fm i)) ++ [fm i]).length = m at e3; subst e3; have HGS := Lib.hid (HG.out.step HB.out HD.out hlt2 hR1 hg1 hat1); clear hR1 hg1 hat1))
              go_roundw
              case rel => exact ⟨k + 1, ⟨A3, m, k3⟩, by omega, by go_num, rfl, Lib.hid HGS.out.1, Lib.hid HGS.out.2⟩
              case measure => simp [intOf]; omega
            · obtain rfl : k = 60 := by omega
              go_wp2_with (first | (at_builtin; refine far_append kH (W := wr) w0.heap.size rfl (.tmp 58) (.tmp 60) 27 28 (.slice none 0 0) 24 rfl Try.underlying27 info28 rfl (by decide) (by decide) vf fs ⟨ga, gn, gc⟩ [.slice ga gn gc] Tt rfl rfl rfl (fun _ _ => trivial) HB.out.hf HSZ.out (by have := HB.out.fl; omega) ?_; intro v1 w3 hR1 hg1 hat1; have HBP2 := Lib.hid (HB.out.push HG.out (by rw [HX.out]; exact HNI.out) hlt2 hR1 hg1 (hat1.imp id (fun h => h.1))); clear hR1 hg1 hat1))
              go_roundw
              case rel => exact ⟨i + 1, _, _, by omega, by go_num, rfl, Lib.hid HBP2.out⟩
              case measure => simp [intOf]; omega
        · obtain rfl : i = hs.length := by omega
          go_wp2_with fail
          obtain ⟨Af, cf, evf⟩ := Kd.R_slice HS.out.hf
          subst evf
          have hfl := HS.out.fl
          obtain ⟨W3, hW3⟩ : ∃ W3, W3 = wr := ⟨_, rfl⟩
          rw [← hW3] at HS
          have HW3 := Lib.hid (show Below W3.heap.size W3 wr from by rw [hW3]; exact Below.refl _ _)
          clear hW3
          go_loopw [9] (fun i wr => ∃ p : Nat, p ≤ hs.length ∧ i = .int .i64 p ∧ Hid (Below W3.heap.size W3 wr)) (fun i _ => hs.length - (intOf i).toNat)
          case atStart => exact ⟨0, by omega, rfl, Lib.hid HW3.out⟩
          case round =>
            obtain ⟨p, hp, rfl, HB⟩ := hrel
            clear HW3
            by_cases hlt3 : p < hs.length
            · obtain ⟨gl, cl', el, _⟩ := Kd.R_form HS.out.hd (by omega)
              injection el with el1 el2 el3
              clear el2
              subst el1
              subst el3
              obtain ⟨gf, cf', ef, _⟩ := Kd.R_form HS.out.hf (by omega)
              injection ef with ef1 ef2 ef3
              clear ef2
              subst ef1
              subst ef3
              obtain ⟨hnb, dC, dn, g, dcs, da, _, _, _, dF⟩ := HS.out.done p hlt3
              have hl0 := (kH_cell HS.out.hd p hlt3).1
              have hf0 := (kH_cell HS.out.hf p (by omega)).1
              generalize hs.getD p zH = x at *
              generalize fs.getD p zH = y at *
              obtain ⟨xa, n, xc⟩ := x
              obtain ⟨ya, yn, yc⟩ := y
              unfold encH at hl0 hf0
              simp only at hl0 hf0 dC dn dF da hnb
              subst da
              subst dn
              have HDC := Lib.hid dC
              have HDF := Lib.hid dF
              have HL0 := Lib.hid hl0
              have HF0 := Lib.hid hf0
              clear dC dF hl0 hf0
              have hc0 := cell_older HB.out HL0.out
              have hpp : (p : Int) < (hs.length : Int) := by omega
              have hpf : (p : Int) < (fs.length : Int) := by omega
              go_upto_region 23 with fail
              clear hc0
              go_loopw [11] (fun q wr => ∃ j : Nat, j ≤ n + 60 ∧ q = .int .i64 j ∧ Hid (Below W3.heap.size W3 wr)) (fun q _ => n + 60 - (intOf q).toNat)
              case atStart => exact ⟨0, by omega, rfl, Lib.hid HB.out⟩
              case round =>
                obtain ⟨q, hq, rfl, HC⟩ := hrel
                clear HB
                have hc0 := cell_older HC.out HL0.out
                have hc1 := cell_older HC.out HF0.out
                by_cases hltq : q < n + 60
                · have hqq : (q : Int) < ((n + 60 : Nat) : Int) := by omega
                  go_upto_region 26 with fail
                  have hbk := heap_alloc_new wr (.cells #[.int .i64 (-1 - (p : Int)), .int .i64 (q : Int), .int .i64 0, .string ⟨#[]⟩] 33)
                  have hB5 : Below W3.heap.size W3 (wr.alloc (.cells #[.int .i64 (-1 - (p : Int)), .int .i64 (q : Int), .int .i64 0, .string ⟨#[]⟩] 33)) := HC.out.alloc HC.out.size _
                  clear hc0 hc1
                  generalize wr.alloc (.cells #[.int .i64 (-1 - (p : Int)), .int .i64 (q : Int), .int .i64 0, .string ⟨#[]⟩] 33) = W5 at *
                  generalize wr.heap.size = G at *
                  have HB5 := Lib.hid hB5
                  clear hB5 HC
                  have hc0 := cell_older HB5.out HL0.out
                  have hc1 := cell_older HB5.out HF0.out
                  have o0 := (blk_cell hbk 0).trans rfl
                  have o1 := (blk_cell hbk 1).trans rfl
                  have o2 := (blk_cell hbk 2).trans rfl
                  have o3 := (blk_cell hbk 3).trans rfl
                  clear hbk
                  have hfc := tok_cells (Kd.C_below HDF.out HB5.out) q hltq
                  obtain ⟨adf, ef, f0, f1, f2, f3⟩ := hfc
                  cases ef
                  rw [add_plain] at f0 f1 f2 f3
                  by_cases hn : q < n
                  · have e1 : decide ((q : Int) < (n : Int)) = true := decide_eq_true (by omega)
                    have e2 : decide (n ≤ q) = false := decide_eq_false (by omega)
                    have hqn : (q : Int) < (n : Int) := by omega
                    rw [far_at1 hn] at f0 f1 f2 f3
                    obtain ⟨adl, el, l0, l1, l2, l3⟩ := tok_cells (Kd.C_below HDC.out HB5.out) q hn
                    subst el
                    rw [marks_at hn] at l0 l1 l2 l3
                    simp only [mkT] at l0 l1 l2 l3 f0 f1 f2 f3
                    go_wp2_with fail
                    refine wp_region_quiet_lit (by kernel_rfl) (by kernel_rfl) ?_
                    repeat (go_big_quiet_step (fail))
                    refine wpQuiet_nil ?_
                    intro _ hw'
                    obtain ⟨nq, hw2⟩ := hw'
                    subst hw2
                    go_wp2_with fail
                    go_roundw
                    case rel => exact ⟨q + 1, by omega, by go_num, Lib.hid (Below.trans HB5.out ⟨rfl, rfl, rfl, Nat.le_refl _, fun _ _ => rfl⟩)⟩
                    case measure => simp [intOf]; omega
                  · have e1 : decide ((q : Int) < (n : Int)) = false := decide_eq_false (by omega)
                    have e2 : decide (n ≤ q) = true := decide_eq_true (by omega)
                    rw [far_at2 (by omega) hltq] at f0 f1 f2 f3
                    simp only [fm] at f0 f1 f2 f3
                    go_wp2_with fail
                    refine wp_region_quiet_lit (by kernel_rfl) (by kernel_rfl) ?_
                    repeat (go_big_quiet_step (fail))
                    refine wpQuiet_nil ?_
                    intro _ hw'
                    obtain ⟨nq, hw2⟩ := hw'
                    subst hw2
                    go_wp2_with fail
                    go_roundw
                    case rel => exact ⟨q + 1, by omega, by go_num, Lib.hid (Below.trans HB5.out ⟨rfl, rfl, rfl, Nat.le_refl _, fun _ _ => rfl⟩)⟩
                    case measure => simp [intOf]; omega
                · obtain rfl : q = n + 60 := by omega
                  go_wp2_with fail
                  go_roundw
                  case rel => exact ⟨p + 1, by omega, by go_num, Lib.hid HC.out⟩
                  case measure => simp [intOf]; omega
            · obtain rfl : p = hs.length := by omega
              go_wp2_with fail
              go_ret
              exact ⟨rfl, HS.out.bel.trans (HB.out.mono HS.out.bel.size)⟩
end Go.Proofs.Yteenkeccpfgffaa
